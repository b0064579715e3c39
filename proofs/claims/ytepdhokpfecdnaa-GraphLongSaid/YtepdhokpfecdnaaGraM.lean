/-
  The common ancestors that stand above no other one.
-/
import Derived.Test.YtepdhokpfecdnaaGraL
namespace Go.Proofs.Ytepdhokpfecdnaa.GraM
open Go.Proofs.Ytepdhokpfecdnaa.E Go.RowKit Go.Proofs.Ytepdhokpfecdnaa.GraA Go.Proofs.Ytepdhokpfecdnaa.GraB Go.Proofs.Ytepdhokpfecdnaa.GraC Go.Proofs.Ytepdhokpfecdnaa.GraD Go.Proofs.Ytepdhokpfecdnaa.GraE Go.Proofs.Ytepdhokpfecdnaa.GraF Go.Proofs.Ytepdhokpfecdnaa.GraG Go.Proofs.Ytepdhokpfecdnaa.GraH Go.Proofs.Ytepdhokpfecdnaa.GraI Go.Proofs.Ytepdhokpfecdnaa.GraJ Go.Proofs.Ytepdhokpfecdnaa.GraK Go.Proofs.Ytepdhokpfecdnaa.GraL
set_option maxRecDepth 20000
set_option linter.unusedVariables false
set_option linter.unusedSimpArgs false
set_option linter.unusedSectionVars false
set_option maxRecDepth 100000 in
theorem inf28 : Inf Try.prog 28 30 32 32 := ⟨Try.underlying28, _, _, rfl, rfl, rfl, rfl, rfl⟩
set_option maxRecDepth 100000 in
theorem inf92 : Inf Try.prog 92 28 1 24 := ⟨Try.underlying92, _, _, rfl, rfl, rfl, rfl, rfl⟩
theorem collect_ct (bx mb : Nat) (mm : List (Ide × Int)) (w0 : World) (H0 : Heap)
    (hx : Var 72 H0 bx [.map (some mb)]) (hso : Mp H0 vA (Value.int .i64) mb mm) (hmm : mm.length ≤ 5000) :
    Ct Try.prog w0 41 #[.func (.func 42) #[] #[.pointer (some ⟨bx, 0, none⟩)]] H0 (fun r H2 => ∃ s : SV, ∃ k : Nat, ∃ out : List Ide, r = s.v ∧ (Ow k 30 H2 fA 32 s.v out) ∧ (Nx 0 H0.size k) ∧ (out.Nodup ∧ ∀ k, k ∈ out ↔ k ∈ mm.map (·.1)) ∧ Nw H0 H2) := by
  refine Ct.enter (args := [.func (.func 42) #[] #[.pointer (some ⟨bx, 0, none⟩)]]) Try.func41 rfl rfl rfl ?_
  intro Q0 hret
  have hm0 : Nw H0 H0 := Mo.refl _ _
  have nx_hm0_hx := Nx.refl (bx + 1) H0.size
  have hlt_hx := hx.lt
  have nx_hm0_hso := Nx.refl (mb + 1) H0.size
  have hlt_hso := hso.lt
  refine CW.seq (fun K1 hK1 hE1 => ?_)
  refine CW.region ?_
  refine LR.v (Y.assign rfl rfl) (Wd.u rfl) rfl rfl ?_
  refine LR.nil ?_
  refine hK1 _ _ ?_
  refine CW.seq (fun K2 hK2 hE2 => ?_)
  refine CW.region ?_
  refine LR.v (Y.move rfl rfl) (Wd.u rfl) rfl rfl ?_
  -- call slices.AppendSeq[[]selvage/api.Id,selvage/api.Id]
  refine LR.call rfl Try.call51 rfl (Wd.u rfl) rfl rfl (append_ct bx mb mm w0 _ hx hso hmm) (fun v4 H4 r4 => ?_)
  obtain ⟨s4, k4, out4, rfl, ow4, hk4, hout4, hs4⟩ := r4
  have dj1 : Dj (bx + 1) k4 := Dj.app (Dj.z) hx.lt hk4
  have dj2 : Dj (mb + 1) k4 := Dj.app (Dj.z) hso.lt hk4
  have nx3 : Nx 0 H0.size k4 := Nx.tr (Nx.refl 0 _) hk4 hm0.size
  replace hx := hx.nw hs4
  replace hso := hso.nw hs4
  replace hm0 := hm0.tr hs4
  have hz1 := hs4.size
  have hle_ow4 := ow4.le
  refine LR.v (Y.assign rfl rfl) (Wd.u rfl) rfl rfl ?_
  refine LR.nil ?_
  refine hK2 _ _ ?_
  refine CW.ret (hret .ret (.inr rfl) _ _ _ (res1 rfl rfl) ?_)
  exact ⟨s4, k4, out4, rfl, ow4, nx3, hout4, hm0⟩

theorem keys_ct (mb : Nat) (w0 : World) (H0 : Heap)
     :
    Ct Try.prog w0 31 #[.map (some mb)] H0 (fun r H2 => ∃ bx : Nat, r = .func (.func 42) #[] #[.pointer (some ⟨bx, 0, none⟩)] ∧ (Var 72 H2 bx [.map (some mb)]) ∧ (Nx 0 H0.size (bx + 1)) ∧ Nw H0 H2) := by
  refine Ct.enter (args := [.map (some mb)]) Try.func31 rfl rfl rfl ?_
  intro Q0 hret
  have hm0 : Nw H0 H0 := Mo.refl _ _
  refine CW.seq (fun K1 hK1 hE1 => ?_)
  refine CW.region ?_
  refine LR.z (Z.boxv1 rfl rfl (rfl)) (Wd.u rfl) rfl rfl (fun v1 H1 r1 => ?_)
  obtain ⟨rfl, hx, hs1, ob1, hH1⟩ := r1
  have hzs1 : H1.size = H0.size + 1 := by rw [hH1]; simp
  have nx1 : Nx 0 H0.size (H0.size + 1) := Nx.new hm0.size
  replace hm0 := hm0.tr hs1
  have hz1 := hs1.size
  replace hx : Var 72 H1 H0.size ([.map (some mb)]) := hx
  refine LR.v (Y.assign rfl rfl) (Wd.u rfl) rfl rfl ?_
  refine LR.nil ?_
  refine hK1 _ _ ?_
  refine CW.seq (fun K2 hK2 hE2 => ?_)
  refine CW.region ?_
  refine LR.v (Y.makeFunc rfl rfl) (Wd.u rfl) rfl rfl ?_
  refine LR.v (Y.assign rfl rfl) (Wd.u rfl) rfl rfl ?_
  refine LR.nil ?_
  refine hK2 _ _ ?_
  refine CW.ret (hret .ret (.inr rfl) _ _ _ (res1 rfl rfl) ?_)
  exact ⟨H0.size, rfl, hx, .inr (.inr (by omega)), hm0⟩

theorem sorted_ct (bx mb : Nat) (mm : List (Ide × Int)) (w0 : World) (H0 : Heap)
    (hx : Var 72 H0 bx [.map (some mb)]) (hso : Mp H0 vA (Value.int .i64) mb mm) (hmm : mm.length ≤ 5000) :
    Ct Try.prog w0 30 #[.func (.func 42) #[] #[.pointer (some ⟨bx, 0, none⟩)], .func (.func 32) #[] #[]] H0 (fun r H2 => ∃ s : SV, ∃ k : Nat, ∃ out : List Ide, r = s.v ∧ (Ow k 30 H2 fA 32 s.v out) ∧ (Nx 0 H0.size k) ∧ (Ris out ∧ ∀ k, k ∈ out ↔ k ∈ mm.map (·.1)) ∧ Nw H0 H2) := by
  refine Ct.enter (args := [.func (.func 42) #[] #[.pointer (some ⟨bx, 0, none⟩)], .func (.func 32) #[] #[]]) Try.func30 rfl rfl rfl ?_
  intro Q0 hret
  have hm0 : Nw H0 H0 := Mo.refl _ _
  have nx_hm0_hx := Nx.refl (bx + 1) H0.size
  have hlt_hx := hx.lt
  have nx_hm0_hso := Nx.refl (mb + 1) H0.size
  have hlt_hso := hso.lt
  refine CW.seq (fun K1 hK1 hE1 => ?_)
  refine CW.region ?_
  refine LR.v (Y.assign rfl rfl) (Wd.u rfl) rfl rfl ?_
  refine LR.nil ?_
  refine hK1 _ _ ?_
  refine CW.seq (fun K2 hK2 hE2 => ?_)
  refine CW.region ?_
  refine LR.v (Y.move rfl rfl) (Wd.u rfl) rfl rfl ?_
  -- call slices.Collect[selvage/api.Id]
  refine LR.call rfl Try.call41 rfl (Wd.u rfl) rfl rfl (collect_ct bx mb mm w0 _ hx hso hmm) (fun v7 H7 r7 => ?_)
  obtain ⟨s7, k7, out7, rfl, ow, hk7, hout7, hs7⟩ := r7
  have dj1 : Dj (bx + 1) k7 := Dj.app (Dj.z) hx.lt hk7
  have dj2 : Dj (mb + 1) k7 := Dj.app (Dj.z) hso.lt hk7
  have nx3 : Nx 0 H0.size k7 := Nx.tr (Nx.refl 0 _) hk7 hm0.size
  replace hx := hx.nw hs7
  replace hso := hso.nw hs7
  replace hm0 := hm0.tr hs7
  have hz1 := hs7.size
  have hle_ow := ow.le
  have hol := nodup_le hout7.1 (fun k hk => (hout7.2 k).1 hk)
  rw [List.length_map] at hol
  refine LR.v (Y.assign rfl rfl) (Wd.u rfl) rfl rfl ?_
  refine LR.nil ?_
  refine hK2 _ _ ?_
  refine CW.seq (fun K3 hK3 hE3 => ?_)
  refine CW.region ?_
  refine LR.v (Y.move rfl rfl) (Wd.u rfl) rfl rfl ?_
  refine LR.v (Y.move rfl rfl) (Wd.u rfl) rfl rfl ?_
  -- call slices.SortFunc[[]selvage/api.Id,selvage/api.Id]
  refine LR.call rfl Try.call38 rfl (Wd.u rfl) rfl rfl (sortA_ct k7 _ out7 w0 _ ow (by omega)) (fun v10 H10 r10 => ?_)
  have ql4 := hx.lt
  have ql5 := hso.lt
  have ql6 := ow.le
  obtain ⟨l2, k2, rfl, ow, hk10, hp10, hs10⟩ := r10
  have dj7 : Dj (bx + 1) k2 := Dj.app (dj1) ql4 hk10
  have dj8 : Dj (mb + 1) k2 := Dj.app (dj2) ql5 hk10
  have nx9 : Nx 0 H0.size k2 := Nx.tr (nx3) hk10 hm0.size
  replace hx := hx.upL hs10 (DL.cons dj1 DL.nil)
  replace hso := hso.upL hs10 (DL.cons dj2 DL.nil)
  replace hm0 := (Mo.trL (ks := []) (hm0.mdn []) hs10 (MIL.cons (MI.app MI.z (nx3) (Nat.le_refl _)) MIL.nil)).nil
  have hz2 := hs10.size
  have hle_ow := ow.le
  refine LR.nil ?_
  refine hK3 _ _ ?_
  refine CW.seq (fun K4 hK4 hE4 => ?_)
  refine CW.region ?_
  refine LR.v (Y.move rfl rfl) (Wd.u rfl) rfl rfl ?_
  refine LR.v (Y.assign rfl rfl) (Wd.u rfl) rfl rfl ?_
  refine LR.nil ?_
  refine hK4 _ _ ?_
  refine CW.ret (hret .ret (.inr rfl) _ _ _ (res1 rfl rfl) ?_)
  exact ⟨s7, k2, l2, rfl, ow, nx9, ⟨ris_of hout7.1 hp10.1 hp10.2, fun k => by rw [hp10.1.mem_iff, hout7.2]⟩, hm0⟩


/-- above both -/
def Com (pa : Ide → Option (List Ide)) (a b k : Ide) : Prop := UpO pa a k ∧ UpO pa b k
/-- above both, and above no other one that is -/
def Best (pa : Ide → Option (List Ide)) (a b k : Ide) : Prop := Com pa a b k ∧ ∀ j, Com pa a b j → UpO pa j k → j = k
def BsR (pa : Ide → Option (List Ide)) (a b : Ide) (out : List Ide) (e : Nat) : Prop :=
  (e = 0 ∧ (∃ K, AllR pa [a, b] K 0) ∧ Ris out ∧ out.length ≤ 16 ∧ ∀ k, k ∈ out ↔ Best pa a b k) ∨
  (e = 4 ∧ out = [] ∧ (∃ K, AllR pa [a, b] K 0) ∧ ∃ l : List Ide, l.Nodup ∧ 16 < l.length ∧ ∀ k, k ∈ l ↔ Best pa a b k) ∨
  (e ≠ 0 ∧ out = [] ∧ ∃ K, AllR pa [a, b] K e)
theorem upo_first {pa : Ide → Option (List Ide)} {j k : Ide} (h : UpO pa j k) : j = k ∨ ∃ ps p, pa j = some ps ∧ p ∈ ps ∧ UpO pa p k := by
  induction h with
  | refl => exact .inl rfl
  | @step i p ps _ hq hp ih =>
    rcases ih with e | ⟨ps2, p2, h1, h2, h3⟩
    · subst e; exact .inr ⟨ps, p, hq, hp, .refl⟩
    · exact .inr ⟨ps2, p2, h1, h2, h3.step hq hp⟩
theorem upo_rk {pa : Ide → Option (List Ide)} {rk : Ide → Nat} (hac : ∀ k ps, pa k = some ps → ∀ p ∈ ps, rk p < rk k) {j k : Ide} (h : UpO pa j k) : rk k ≤ rk j := by
  induction h with
  | refl => exact Nat.le_refl _
  | step _ hq hp ih => have := hac _ _ hq _ hp; omega
theorem best_iff {pa : Ide → Option (List Ide)} {rk : Ide → Nat} (hac : ∀ k ps, pa k = some ps → ∀ p ∈ ps, rk p < rk k) {a b k : Ide} : Best pa a b k ↔ Com pa a b k ∧ ¬ ∃ j, Com pa a b j ∧ ∃ ps p, pa j = some ps ∧ p ∈ ps ∧ UpO pa p k := by
  constructor
  · rintro ⟨h1, h2⟩
    refine ⟨h1, fun ⟨j, hj, ps, p, hq, hp, hu⟩ => ?_⟩
    have e := h2 j hj (UpO.trans (UpO.step .refl hq hp) hu)
    have h3 := hac j ps hq p hp
    have h4 := upo_rk hac hu
    rw [e] at h3; omega
  · rintro ⟨h1, h2⟩
    refine ⟨h1, fun j hj hu => ?_⟩
    rcases upo_first hu with e | ⟨ps, p, hq, hp, h3⟩
    · exact e
    · exact absurd ⟨j, hj, ps, p, hq, hp, h3⟩ h2

set_option maxHeartbeats 8000000 in
theorem bas_ct (So : Sou) (sb n : Nat) (F : Nat → Prop) (a b : Ide) (rk : Ide → Nat) (w0 : World) (H0 : Heap)
    (hv : Var So.e H0 sb (So.cs n)) (hsr : SRd F H0 So) (bf_hsr : BF F H0.size) (dfs : DF F (sb + 1)) (hok : So.ok) (hn : n ≤ 800000000) (hac : ∀ k ps, So.pa k = some ps → ∀ p ∈ ps, rk p < rk k) :
    Ct Try.prog w0 18 #[So.v sb, vA a, vA b] H0 (fun r H2 => ∃ s : SV, ∃ k : Nat, ∃ out : List Ide, ∃ e : Nat, ∃ q : Nat, r = .tuple #[s.v, eV e] ∧ (Ow k 30 H2 fA 32 s.v out) ∧ (Nx 0 H0.size k) ∧ (Var So.e H2 sb (So.cs q)) ∧ (BsR So.pa a b out e) ∧ (q ≤ n + 5001) ∧ Mo (Ms [(sb + 1)]) H0 H2) := by
  refine Ct.enter (args := [So.v sb, vA a, vA b]) Try.func18 rfl rfl rfl ?_
  intro Q0 hret
  have hm0 : Mo (Ms [(sb + 1)]) H0 H0 := Mo.refl _ _
  have nx_hm0_hv := Nx.refl (sb + 1) H0.size
  have hlt_hv := hv.lt
  refine CW.seq (fun K1 hK1 hE1 => ?_)
  refine CW.region ?_
  refine LR.z (Z.boxv rfl rfl) (Wd.u rfl) rfl rfl (fun v4 H4 r4 => ?_)
  obtain ⟨rfl, va, hs4, ob4, hH4⟩ := r4
  have hzs4 : H4.size = H0.size + 1 := by rw [hH4]; simp
  have dj1 : Dj (sb + 1) (H0.size + 1) := Dj.new hv.lt
  have df2 := (DF.new (bf_hsr.mono hm0.size) : DF _ (H0.size + 1))
  have nx3 : Nx 0 H0.size (H0.size + 1) := Nx.new hm0.size
  replace hv := hv.nw hs4
  replace hsr := hsr.nw hs4
  replace hm0 := hm0.trN hs4
  have hz1 := hs4.size
  replace va : Var 30 H4 H0.size (fA a) := va
  refine LR.z (Z.boxv rfl rfl) (Wd.u rfl) rfl rfl (fun v5 H5 r5 => ?_)
  obtain ⟨rfl, vb, hs5, ob5, hH5⟩ := r5
  have hzs5 : H5.size = H4.size + 1 := by rw [hH5]; simp
  have dj4 : Dj (sb + 1) (H4.size + 1) := Dj.new hv.lt
  have df5 := (DF.new (bf_hsr.mono hm0.size) : DF _ (H4.size + 1))
  have dj6 : Dj (H0.size + 1) (H4.size + 1) := Dj.new va.lt
  have nx7 : Nx 0 H0.size (H4.size + 1) := Nx.new hm0.size
  replace hv := hv.nw hs5
  replace hsr := hsr.nw hs5
  replace va := va.nw hs5
  replace hm0 := hm0.trN hs5
  have hz2 := hs5.size
  replace vb : Var 30 H5 H4.size (fA b) := vb
  refine LR.v (Y.assign rfl rfl) (Wd.u rfl) rfl rfl ?_
  refine LR.v (Y.assign rfl rfl) (Wd.u rfl) rfl rfl ?_
  refine LR.nil ?_
  refine hK1 _ _ ?_
  refine CW.seq (fun K2 hK2 hE2 => ?_)
  refine CW.region ?_
  refine LR.v (Y.move rfl rfl) (Wd.u rfl) rfl rfl ?_
  refine LR.v (Y.loadN va.pt rfl Try.isAgg30 Try.sizeOf30 (fA_len _) rfl) (Wd.u rfl) rfl rfl ?_
  refine LR.v (Y.loadN vb.pt rfl Try.isAgg30 Try.sizeOf30 (fA_len _) rfl) (Wd.u rfl) rfl rfl ?_
  refine LR.z (Z.litw _ ([a, b]) rfl inf28 rfl rfl rfl (by decide) (by decide) fA_len fA_one (rfl)) (Wd.u rfl) rfl rfl (fun v23 H23 r23 => ?_)
  obtain ⟨ow23, hs23, ob23, hH23⟩ := r23
  have hzs23 : H23.size = H5.size + 1 := by rw [hH23]; simp
  have dj8 : Dj (sb + 1) (H5.size + 1) := Dj.new hv.lt
  have df9 := (DF.new (bf_hsr.mono hm0.size) : DF _ (H5.size + 1))
  have dj10 : Dj (H0.size + 1) (H5.size + 1) := Dj.new va.lt
  have dj11 : Dj (H4.size + 1) (H5.size + 1) := Dj.new vb.lt
  have nx12 : Nx 0 H0.size (H5.size + 1) := Nx.new hm0.size
  replace hv := hv.nw hs23
  replace hsr := hsr.nw hs23
  replace va := va.nw hs23
  replace vb := vb.nw hs23
  replace hm0 := hm0.trN hs23
  have hz3 := hs23.size
  obtain ⟨s23, rfl⟩ : ∃ s : SV, v23 = s.v := ⟨toSV v23, ow23.sv.symm⟩
  refine LR.z (Z.litw _ ([(s23, [a, b])]) rfl inf92 rfl rfl rfl (by decide) (by decide) fLs_len fLs_one (rfl)) (Wd.u rfl) rfl rfl (fun v24 H24 r24 => ?_)
  obtain ⟨ow24, hs24, ob24, hH24⟩ := r24
  have hzs24 : H24.size = H23.size + 1 := by rw [hH24]; simp
  have dj13 : Dj (sb + 1) (H23.size + 1) := Dj.new hv.lt
  have df14 := (DF.new (bf_hsr.mono hm0.size) : DF _ (H23.size + 1))
  have dj15 : Dj (H0.size + 1) (H23.size + 1) := Dj.new va.lt
  have dj16 : Dj (H4.size + 1) (H23.size + 1) := Dj.new vb.lt
  have dj17 : Dj (H5.size + 1) (H23.size + 1) := Dj.new ow23.le
  have nx18 : Nx 0 H0.size (H23.size + 1) := Nx.new hm0.size
  replace hv := hv.nw hs24
  replace hsr := hsr.nw hs24
  replace va := va.nw hs24
  replace vb := vb.nw hs24
  replace ow23 := ow23.nw hs24
  replace hm0 := hm0.trN hs24
  have hz4 := hs24.size
  -- call selvage/graph.all
  refine LR.call rfl Try.call27 rfl (Wd.u rfl) rfl rfl (all_ct So sb n _ _ [(s23, [a, b])] w0 _ hv hsr (bf_hsr.mono hm0.size) dfs hok (by omega) (Ow.ne ow24 (dj13)) (by simp) (fun x hx => by rw [List.mem_singleton.1 hx]; exact Ow.ne ow23 (dj8)) (by simp)) (fun v25 H25 r25 => ?_)
  obtain ⟨vc, m, e, q, rfl, hc, hv, hA, hq, hs25⟩ := r25
  replace hsr := hsr.upL hs25 (DFL.cons dfs DFL.nil)
  replace va := va.upL hs25 (DL.cons dj1.symm DL.nil)
  replace vb := vb.upL hs25 (DL.cons dj4.symm DL.nil)
  replace ow23 := ow23.upL hs25 (DL.cons dj8.symm DL.nil)
  replace ow24 := ow24.upL hs25 (DL.cons dj13.symm DL.nil)
  replace hm0 := hm0.trL hs25 (MIL.cons (MI.app (MI.root (by simp)) (nx_hm0_hv) (Nat.le_refl _)) MIL.nil)
  have hz5 := hs25.size
  replace hc := hc.bnd
  have bf_hc := hc.bf
  have df19 : DF (fun b => H24.size ≤ b ∧ b < H25.size) (sb + 1) := DF.above (fun b h => h.1) (by first | exact hle_hv | exact hlt_hv | omega)
  have df20 : DF (fun b => H24.size ≤ b ∧ b < H25.size) (H0.size + 1) := DF.above (fun b h => h.1) (by first | exact hle_va | exact hlt_va | omega)
  have df21 : DF (fun b => H24.size ≤ b ∧ b < H25.size) (H4.size + 1) := DF.above (fun b h => h.1) (by first | exact hle_vb | exact hlt_vb | omega)
  have df22 : DF (fun b => H24.size ≤ b ∧ b < H25.size) (H5.size + 1) := DF.above (fun b h => h.1) (by first | exact hle_ow23 | exact hlt_ow23 | omega)
  have df23 : DF (fun b => H24.size ≤ b ∧ b < H25.size) (H23.size + 1) := DF.above (fun b h => h.1) (by first | exact hle_ow24 | exact hlt_ow24 | omega)
  refine LR.v (Y.move rfl rfl) (Wd.u rfl) rfl rfl ?_
  refine LR.v (Y.extract rfl rfl rfl) (Wd.u rfl) rfl rfl ?_
  refine LR.v (Y.extract rfl rfl rfl) (Wd.u rfl) rfl rfl ?_
  refine LR.v (Y.assign rfl rfl) (Wd.u rfl) rfl rfl ?_
  refine LR.v (Y.assign rfl rfl) (Wd.u rfl) rfl rfl ?_
  refine LR.nil ?_
  refine hK2 _ _ ?_
  refine CW.seq (fun K3 hK3 hE3 => ?_)
  refine CW.seq (fun K4 hK4 hE4 => ?_)
  refine CW.region ?_
  refine LR.v (Y.move rfl rfl) (Wd.u rfl) rfl rfl ?_
  refine LR.v (Y.ene rfl Try.underlying33 rfl) (Wd.u rfl) rfl rfl ?_
  refine LR.nil ?_
  refine hK4 _ _ ?_
  refine CW.condp rfl (fun c29 => ?_) (fun c29 => ?_)
  ·
    refine CW.seq (fun K5 hK5 hE5 => ?_)
    refine CW.region ?_
    refine LR.v (Y.move rfl rfl) (Wd.u rfl) rfl rfl ?_
    refine LR.v (Y.assign rfl rfl) (Wd.u rfl) rfl rfl ?_
    refine LR.v (Y.assign rfl rfl) (Wd.u rfl) rfl rfl ?_
    refine LR.nil ?_
    refine hK5 _ _ ?_
    refine CW.ret (hE3 .ret nofun _ _ (hret .ret (.inr rfl) _ _ _ (res2 rfl rfl rfl) ?_))
    exact ⟨⟨none, 0, 0⟩, 0, [], e, q, rfl, Ow.nil fA_len fA_one, Nx.refl _ _, hv, .inr (.inr ⟨c29, rfl, _, hA⟩), by omega, hm0⟩
  ·
    obtain rfl : e = 0 := by omega
    replace hA : AllR So.pa [a, b] (m.map (·.1)) 0 := hA
    replace hc := hc.get rfl
    have hco := cok_of hok hA
    obtain ⟨_, _, hstK, _, _⟩ := all0 hA
    have hml := hco.le
    refine CW.skip ?_
    refine hK3 _ _ ?_
    refine CW.cut (fun (s_ : (Nat) × (List (Ide × Int)) × (Nat) × (List (Ide × Int))) => match s_ with | (a1, m1, a2, m2) => [(8, vc), (10, .map (some a1)), (11, .map (some a2))])
      (fun (s_ : (Nat) × (List (Ide × Int)) × (Nat) × (List (Ide × Int))) (H : Heap) => match s_ with | (a1, m1, a2, m2) => (Mp H vA (Value.int .i64) a1 m1) ∧ (Mp H vA (Value.int .i64) a2 m2) ∧ (∀ k, k ∈ m1.map (·.1) ↔ ∃ i ∈ [a], Up (cpa So.pa (m.map (·.1))) i k) ∧ (∀ k, k ∈ m2.map (·.1) ↔ ∃ i ∈ [b], Up (cpa So.pa (m.map (·.1))) i k) ∧ (Nx 0 H25.size ((a1 + 1))) ∧ (Nx 0 H25.size ((a2 + 1))) ∧ (Dj ((a1 + 1)) ((a2 + 1))) ∧ Nw H25 H) (fun K6 hK6 hE6 => ?_) ?_
    ·
      have hcm6 : Nw H25 H25 := Mo.refl _ _
      refine CW.region_any (fun Hq => Nw H25 Hq) [] rfl ?_
      have hqs := Nw.refl H25
      refine LH.take 0 (by kernel_rfl) rfl (by kernel_rfl) (by kernel_rfl) (by kernel_rfl) (fun Hq hq => Y.move rfl rfl) (Wd.u rfl) rfl rfl hqs ?_
      refine LH.take 1 (by kernel_rfl) rfl (by kernel_rfl) (by kernel_rfl) (by kernel_rfl) (fun Hq hq => Y.loadN (va.pt.nw hq) rfl Try.isAgg30 Try.sizeOf30 (fA_len _) rfl) (Wd.u rfl) rfl rfl hqs ?_
      refine LH.take 4 (by kernel_rfl) rfl (by kernel_rfl) (by kernel_rfl) (by kernel_rfl) (fun Hq hq => Y.move rfl rfl) (Wd.u rfl) rfl rfl hqs ?_
      refine LH.take 5 (by kernel_rfl) rfl (by kernel_rfl) (by kernel_rfl) (by kernel_rfl) (fun Hq hq => Y.loadN (vb.pt.nw hq) rfl Try.isAgg30 Try.sizeOf30 (fA_len _) rfl) (Wd.u rfl) rfl rfl hqs ?_
      refine LH.two (i := 2) (j := 6) (by kernel_rfl) ?_ ?_
      ·
        refine LO.z rfl (Z.litw _ ([a]) rfl inf28 rfl rfl rfl (by decide) (by decide) fA_len fA_one (rfl)) (Wd.u rfl) rfl rfl (fun v33 H33 r33 => ?_)
        obtain ⟨ow33, hs33, ob33, hH33⟩ := r33
        have hzs33 : H33.size = H25.size + 1 := by rw [hH33]; simp
        have dj24 : Dj (sb + 1) (H25.size + 1) := Dj.new hv.lt
        have df25 := (DF.new (bf_hsr.mono hm0.size) : DF _ (H25.size + 1))
        have dj26 : Dj (H0.size + 1) (H25.size + 1) := Dj.new va.lt
        have dj27 : Dj (H4.size + 1) (H25.size + 1) := Dj.new vb.lt
        have dj28 : Dj (H5.size + 1) (H25.size + 1) := Dj.new ow23.le
        have dj29 : Dj (H23.size + 1) (H25.size + 1) := Dj.new ow24.le
        have df30 := (DF.new (bf_hc.mono (by omega)) : DF _ (H25.size + 1))
        have nx31 : Nx 0 H0.size (H25.size + 1) := Nx.new hm0.size
        have nx32 : Nx 0 H25.size (H25.size + 1) := Nx.new hcm6.size
        replace hv := hv.nw hs33
        replace hsr := hsr.nw hs33
        replace va := va.nw hs33
        replace vb := vb.nw hs33
        replace ow23 := ow23.nw hs33
        replace ow24 := ow24.nw hs33
        replace hc := hc.nw hs33
        replace hm0 := hm0.trN hs33
        replace hcm6 := hcm6.tr hs33
        have hz6 := hs33.size
        have hq33 := hqs.tr hs33
        refine ⟨.inr hq33, LH.narrow (SH2 := fun Hq => Nw H33 Hq) (fun Hq hq => hq33.tr hq) ?_⟩
        have hqn33 := Nw.refl H33
        refine LH.two (i := 3) (j := 6) (by kernel_rfl) ?_ ?_
        ·
          -- call (selvage/graph.commits).above
          refine LO.call rfl rfl Try.call28 rfl (Wd.u rfl) rfl rfl (above_ct _ _ _ _ _ [a] w0 _ hc (bf_hc.mono (by omega)) hco ow33.rd.any (fun k hk => hstK k (by simp at hk; simp [hk])) (by simp)) (fun v34 H34 r34 => ?_)
          obtain ⟨a1, m1, rfl, h1, hk_h1, hU1, hs34⟩ := r34
          have dj33 : Dj (sb + 1) (a1 + 1) := Dj.app (Dj.z) hv.lt hk_h1
          have df34 := DF.app (DF.z) (bf_hsr.mono hm0.size) hk_h1
          have dj35 : Dj (H0.size + 1) (a1 + 1) := Dj.app (Dj.z) va.lt hk_h1
          have dj36 : Dj (H4.size + 1) (a1 + 1) := Dj.app (Dj.z) vb.lt hk_h1
          have dj37 : Dj (H5.size + 1) (a1 + 1) := Dj.app (Dj.z) ow23.le hk_h1
          have dj38 : Dj (H23.size + 1) (a1 + 1) := Dj.app (Dj.z) ow24.le hk_h1
          have df39 := DF.app (DF.z) (bf_hc.mono (by omega)) hk_h1
          have dj40 : Dj (H25.size + 1) (a1 + 1) := Dj.app (Dj.z) ow33.le hk_h1
          have nx41 : Nx 0 H0.size (a1 + 1) := Nx.tr (Nx.refl 0 _) hk_h1 hm0.size
          have nx42 : Nx 0 H25.size (a1 + 1) := Nx.tr (Nx.refl 0 _) hk_h1 hcm6.size
          replace hv := hv.nw hs34
          replace hsr := hsr.nw hs34
          replace va := va.nw hs34
          replace vb := vb.nw hs34
          replace ow23 := ow23.nw hs34
          replace ow24 := ow24.nw hs34
          replace hc := hc.nw hs34
          replace ow33 := ow33.nw hs34
          replace hm0 := hm0.trN hs34
          replace hcm6 := hcm6.tr hs34
          have hz7 := hs34.size
          have hle_h1 := h1.le
          have hq34 := hqn33.tr hs34
          refine ⟨.inr hq34, LH.narrow (SH2 := fun Hq => Nw H34 Hq) (fun Hq hq => hq34.tr hq) ?_⟩
          have hqn34 := Nw.refl H34
          refine LH.one (i := 6) (by kernel_rfl) ?_
          refine LO.z rfl (Z.litw _ ([b]) rfl inf28 rfl rfl rfl (by decide) (by decide) fA_len fA_one (rfl)) (Wd.u rfl) rfl rfl (fun v37 H37 r37 => ?_)
          obtain ⟨ow37, hs37, ob37, hH37⟩ := r37
          have hzs37 : H37.size = H34.size + 1 := by rw [hH37]; simp
          have dj43 : Dj (sb + 1) (H34.size + 1) := Dj.new hv.lt
          have df44 := (DF.new (bf_hsr.mono hm0.size) : DF _ (H34.size + 1))
          have dj45 : Dj (H0.size + 1) (H34.size + 1) := Dj.new va.lt
          have dj46 : Dj (H4.size + 1) (H34.size + 1) := Dj.new vb.lt
          have dj47 : Dj (H5.size + 1) (H34.size + 1) := Dj.new ow23.le
          have dj48 : Dj (H23.size + 1) (H34.size + 1) := Dj.new ow24.le
          have df49 := (DF.new (bf_hc.mono (by omega)) : DF _ (H34.size + 1))
          have dj50 : Dj (H25.size + 1) (H34.size + 1) := Dj.new ow33.le
          have dj51 : Dj (a1 + 1) (H34.size + 1) := Dj.new h1.le
          have nx52 : Nx 0 H0.size (H34.size + 1) := Nx.new hm0.size
          have nx53 : Nx 0 H25.size (H34.size + 1) := Nx.new hcm6.size
          replace hv := hv.nw hs37
          replace hsr := hsr.nw hs37
          replace va := va.nw hs37
          replace vb := vb.nw hs37
          replace ow23 := ow23.nw hs37
          replace ow24 := ow24.nw hs37
          replace hc := hc.nw hs37
          replace ow33 := ow33.nw hs37
          replace h1 := h1.nw hs37
          replace hm0 := hm0.trN hs37
          replace hcm6 := hcm6.tr hs37
          have hz8 := hs37.size
          have hq37 := hqn34.tr hs37
          refine ⟨.inr hq37, LH.narrow (SH2 := fun Hq => Nw H37 Hq) (fun Hq hq => hq37.tr hq) ?_⟩
          have hqn37 := Nw.refl H37
          refine LH.one (i := 7) (by kernel_rfl) ?_
          -- call (selvage/graph.commits).above
          refine LO.call rfl rfl Try.call28 rfl (Wd.u rfl) rfl rfl (above_ct _ _ _ _ _ [b] w0 _ hc (bf_hc.mono (by omega)) hco ow37.rd.any (fun k hk => hstK k (by simp at hk; simp [hk])) (by simp)) (fun v38 H38 r38 => ?_)
          obtain ⟨a2, m2, rfl, h2, hk_h2, hU2, hs38⟩ := r38
          have dj54 : Dj (sb + 1) (a2 + 1) := Dj.app (Dj.z) hv.lt hk_h2
          have df55 := DF.app (DF.z) (bf_hsr.mono hm0.size) hk_h2
          have dj56 : Dj (H0.size + 1) (a2 + 1) := Dj.app (Dj.z) va.lt hk_h2
          have dj57 : Dj (H4.size + 1) (a2 + 1) := Dj.app (Dj.z) vb.lt hk_h2
          have dj58 : Dj (H5.size + 1) (a2 + 1) := Dj.app (Dj.z) ow23.le hk_h2
          have dj59 : Dj (H23.size + 1) (a2 + 1) := Dj.app (Dj.z) ow24.le hk_h2
          have df60 := DF.app (DF.z) (bf_hc.mono (by omega)) hk_h2
          have dj61 : Dj (H25.size + 1) (a2 + 1) := Dj.app (Dj.z) ow33.le hk_h2
          have dj62 : Dj (a1 + 1) (a2 + 1) := Dj.app (Dj.z) h1.le hk_h2
          have dj63 : Dj (H34.size + 1) (a2 + 1) := Dj.app (Dj.z) ow37.le hk_h2
          have nx64 : Nx 0 H0.size (a2 + 1) := Nx.tr (Nx.refl 0 _) hk_h2 hm0.size
          have nx65 : Nx 0 H25.size (a2 + 1) := Nx.tr (Nx.refl 0 _) hk_h2 hcm6.size
          replace hv := hv.nw hs38
          replace hsr := hsr.nw hs38
          replace va := va.nw hs38
          replace vb := vb.nw hs38
          replace ow23 := ow23.nw hs38
          replace ow24 := ow24.nw hs38
          replace hc := hc.nw hs38
          replace ow33 := ow33.nw hs38
          replace h1 := h1.nw hs38
          replace ow37 := ow37.nw hs38
          replace hm0 := hm0.trN hs38
          replace hcm6 := hcm6.tr hs38
          have hz9 := hs38.size
          have hle_h2 := h2.le
          have hq38 := hqn37.tr hs38
          refine ⟨.inr hq38, LH.narrow (SH2 := fun Hq => Nw H38 Hq) (fun Hq hq => hq38.tr hq) ?_⟩
          have hqn38 := Nw.refl H38
          refine LH.take 8 (by kernel_rfl) rfl (by kernel_rfl) (by kernel_rfl) (by kernel_rfl) (fun Hq hq => Y.assign rfl rfl) (Wd.u rfl) rfl rfl hqn38 ?_
          refine LH.take 9 (by kernel_rfl) rfl (by kernel_rfl) (by kernel_rfl) (by kernel_rfl) (fun Hq hq => Y.assign rfl rfl) (Wd.u rfl) rfl rfl hqn38 ?_
          refine LH.done (by kernel_rfl) ?_
          have hqe := hqn38
          refine QN.sub (hK6 (a1, m1, a2, m2) _ ?_) ⟨rfl, rfl, rfl, trivial⟩
          exact ⟨h1, h2, (by omega), (by omega), nx42, nx65, dj62, hcm6⟩
        ·
          refine LO.z rfl (Z.litw _ ([b]) rfl inf28 rfl rfl rfl (by decide) (by decide) fA_len fA_one (rfl)) (Wd.u rfl) rfl rfl (fun v37 H37 r37 => ?_)
          obtain ⟨ow37, hs37, ob37, hH37⟩ := r37
          have hzs37 : H37.size = H33.size + 1 := by rw [hH37]; simp
          have dj66 : Dj (sb + 1) (H33.size + 1) := Dj.new hv.lt
          have df67 := (DF.new (bf_hsr.mono hm0.size) : DF _ (H33.size + 1))
          have dj68 : Dj (H0.size + 1) (H33.size + 1) := Dj.new va.lt
          have dj69 : Dj (H4.size + 1) (H33.size + 1) := Dj.new vb.lt
          have dj70 : Dj (H5.size + 1) (H33.size + 1) := Dj.new ow23.le
          have dj71 : Dj (H23.size + 1) (H33.size + 1) := Dj.new ow24.le
          have df72 := (DF.new (bf_hc.mono (by omega)) : DF _ (H33.size + 1))
          have dj73 : Dj (H25.size + 1) (H33.size + 1) := Dj.new ow33.le
          have nx74 : Nx 0 H0.size (H33.size + 1) := Nx.new hm0.size
          have nx75 : Nx 0 H25.size (H33.size + 1) := Nx.new hcm6.size
          replace hv := hv.nw hs37
          replace hsr := hsr.nw hs37
          replace va := va.nw hs37
          replace vb := vb.nw hs37
          replace ow23 := ow23.nw hs37
          replace ow24 := ow24.nw hs37
          replace hc := hc.nw hs37
          replace ow33 := ow33.nw hs37
          replace hm0 := hm0.trN hs37
          replace hcm6 := hcm6.tr hs37
          have hz10 := hs37.size
          have hq37 := hqn33.tr hs37
          refine ⟨.inr hq37, LH.narrow (SH2 := fun Hq => Nw H37 Hq) (fun Hq hq => hq37.tr hq) ?_⟩
          have hqn37 := Nw.refl H37
          refine LH.one (i := 3) (by kernel_rfl) ?_
          -- call (selvage/graph.commits).above
          refine LO.call rfl rfl Try.call28 rfl (Wd.u rfl) rfl rfl (above_ct _ _ _ _ _ [a] w0 _ hc (bf_hc.mono (by omega)) hco ow33.rd.any (fun k hk => hstK k (by simp at hk; simp [hk])) (by simp)) (fun v34 H34 r34 => ?_)
          obtain ⟨a1, m1, rfl, h1, hk_h1, hU1, hs34⟩ := r34
          have dj76 : Dj (sb + 1) (a1 + 1) := Dj.app (Dj.z) hv.lt hk_h1
          have df77 := DF.app (DF.z) (bf_hsr.mono hm0.size) hk_h1
          have dj78 : Dj (H0.size + 1) (a1 + 1) := Dj.app (Dj.z) va.lt hk_h1
          have dj79 : Dj (H4.size + 1) (a1 + 1) := Dj.app (Dj.z) vb.lt hk_h1
          have dj80 : Dj (H5.size + 1) (a1 + 1) := Dj.app (Dj.z) ow23.le hk_h1
          have dj81 : Dj (H23.size + 1) (a1 + 1) := Dj.app (Dj.z) ow24.le hk_h1
          have df82 := DF.app (DF.z) (bf_hc.mono (by omega)) hk_h1
          have dj83 : Dj (H25.size + 1) (a1 + 1) := Dj.app (Dj.z) ow33.le hk_h1
          have dj84 : Dj (H33.size + 1) (a1 + 1) := Dj.app (Dj.z) ow37.le hk_h1
          have nx85 : Nx 0 H0.size (a1 + 1) := Nx.tr (Nx.refl 0 _) hk_h1 hm0.size
          have nx86 : Nx 0 H25.size (a1 + 1) := Nx.tr (Nx.refl 0 _) hk_h1 hcm6.size
          replace hv := hv.nw hs34
          replace hsr := hsr.nw hs34
          replace va := va.nw hs34
          replace vb := vb.nw hs34
          replace ow23 := ow23.nw hs34
          replace ow24 := ow24.nw hs34
          replace hc := hc.nw hs34
          replace ow33 := ow33.nw hs34
          replace ow37 := ow37.nw hs34
          replace hm0 := hm0.trN hs34
          replace hcm6 := hcm6.tr hs34
          have hz11 := hs34.size
          have hle_h1 := h1.le
          have hq34 := hqn37.tr hs34
          refine ⟨.inr hq34, LH.narrow (SH2 := fun Hq => Nw H34 Hq) (fun Hq hq => hq34.tr hq) ?_⟩
          have hqn34 := Nw.refl H34
          refine LH.one (i := 7) (by kernel_rfl) ?_
          -- call (selvage/graph.commits).above
          refine LO.call rfl rfl Try.call28 rfl (Wd.u rfl) rfl rfl (above_ct _ _ _ _ _ [b] w0 _ hc (bf_hc.mono (by omega)) hco ow37.rd.any (fun k hk => hstK k (by simp at hk; simp [hk])) (by simp)) (fun v38 H38 r38 => ?_)
          obtain ⟨a2, m2, rfl, h2, hk_h2, hU2, hs38⟩ := r38
          have dj87 : Dj (sb + 1) (a2 + 1) := Dj.app (Dj.z) hv.lt hk_h2
          have df88 := DF.app (DF.z) (bf_hsr.mono hm0.size) hk_h2
          have dj89 : Dj (H0.size + 1) (a2 + 1) := Dj.app (Dj.z) va.lt hk_h2
          have dj90 : Dj (H4.size + 1) (a2 + 1) := Dj.app (Dj.z) vb.lt hk_h2
          have dj91 : Dj (H5.size + 1) (a2 + 1) := Dj.app (Dj.z) ow23.le hk_h2
          have dj92 : Dj (H23.size + 1) (a2 + 1) := Dj.app (Dj.z) ow24.le hk_h2
          have df93 := DF.app (DF.z) (bf_hc.mono (by omega)) hk_h2
          have dj94 : Dj (H25.size + 1) (a2 + 1) := Dj.app (Dj.z) ow33.le hk_h2
          have dj95 : Dj (H33.size + 1) (a2 + 1) := Dj.app (Dj.z) ow37.le hk_h2
          have dj96 : Dj (a1 + 1) (a2 + 1) := Dj.app (Dj.z) h1.le hk_h2
          have nx97 : Nx 0 H0.size (a2 + 1) := Nx.tr (Nx.refl 0 _) hk_h2 hm0.size
          have nx98 : Nx 0 H25.size (a2 + 1) := Nx.tr (Nx.refl 0 _) hk_h2 hcm6.size
          replace hv := hv.nw hs38
          replace hsr := hsr.nw hs38
          replace va := va.nw hs38
          replace vb := vb.nw hs38
          replace ow23 := ow23.nw hs38
          replace ow24 := ow24.nw hs38
          replace hc := hc.nw hs38
          replace ow33 := ow33.nw hs38
          replace ow37 := ow37.nw hs38
          replace h1 := h1.nw hs38
          replace hm0 := hm0.trN hs38
          replace hcm6 := hcm6.tr hs38
          have hz12 := hs38.size
          have hle_h2 := h2.le
          have hq38 := hqn34.tr hs38
          refine ⟨.inr hq38, LH.narrow (SH2 := fun Hq => Nw H38 Hq) (fun Hq hq => hq38.tr hq) ?_⟩
          have hqn38 := Nw.refl H38
          refine LH.take 8 (by kernel_rfl) rfl (by kernel_rfl) (by kernel_rfl) (by kernel_rfl) (fun Hq hq => Y.assign rfl rfl) (Wd.u rfl) rfl rfl hqn38 ?_
          refine LH.take 9 (by kernel_rfl) rfl (by kernel_rfl) (by kernel_rfl) (by kernel_rfl) (fun Hq hq => Y.assign rfl rfl) (Wd.u rfl) rfl rfl hqn38 ?_
          refine LH.done (by kernel_rfl) ?_
          have hqe := hqn38
          refine QN.sub (hK6 (a1, m1, a2, m2) _ ?_) ⟨rfl, rfl, rfl, trivial⟩
          exact ⟨h1, h2, (by omega), (by omega), nx86, nx98, dj96, hcm6⟩
      ·
        refine LO.z rfl (Z.litw _ ([b]) rfl inf28 rfl rfl rfl (by decide) (by decide) fA_len fA_one (rfl)) (Wd.u rfl) rfl rfl (fun v37 H37 r37 => ?_)
        obtain ⟨ow37, hs37, ob37, hH37⟩ := r37
        have hzs37 : H37.size = H25.size + 1 := by rw [hH37]; simp
        have dj99 : Dj (sb + 1) (H25.size + 1) := Dj.new hv.lt
        have df100 := (DF.new (bf_hsr.mono hm0.size) : DF _ (H25.size + 1))
        have dj101 : Dj (H0.size + 1) (H25.size + 1) := Dj.new va.lt
        have dj102 : Dj (H4.size + 1) (H25.size + 1) := Dj.new vb.lt
        have dj103 : Dj (H5.size + 1) (H25.size + 1) := Dj.new ow23.le
        have dj104 : Dj (H23.size + 1) (H25.size + 1) := Dj.new ow24.le
        have df105 := (DF.new (bf_hc.mono (by omega)) : DF _ (H25.size + 1))
        have nx106 : Nx 0 H0.size (H25.size + 1) := Nx.new hm0.size
        have nx107 : Nx 0 H25.size (H25.size + 1) := Nx.new hcm6.size
        replace hv := hv.nw hs37
        replace hsr := hsr.nw hs37
        replace va := va.nw hs37
        replace vb := vb.nw hs37
        replace ow23 := ow23.nw hs37
        replace ow24 := ow24.nw hs37
        replace hc := hc.nw hs37
        replace hm0 := hm0.trN hs37
        replace hcm6 := hcm6.tr hs37
        have hz13 := hs37.size
        have hq37 := hqs.tr hs37
        refine ⟨.inr hq37, LH.narrow (SH2 := fun Hq => Nw H37 Hq) (fun Hq hq => hq37.tr hq) ?_⟩
        have hqn37 := Nw.refl H37
        refine LH.one (i := 2) (by kernel_rfl) ?_
        refine LO.z rfl (Z.litw _ ([a]) rfl inf28 rfl rfl rfl (by decide) (by decide) fA_len fA_one (rfl)) (Wd.u rfl) rfl rfl (fun v33 H33 r33 => ?_)
        obtain ⟨ow33, hs33, ob33, hH33⟩ := r33
        have hzs33 : H33.size = H37.size + 1 := by rw [hH33]; simp
        have dj108 : Dj (sb + 1) (H37.size + 1) := Dj.new hv.lt
        have df109 := (DF.new (bf_hsr.mono hm0.size) : DF _ (H37.size + 1))
        have dj110 : Dj (H0.size + 1) (H37.size + 1) := Dj.new va.lt
        have dj111 : Dj (H4.size + 1) (H37.size + 1) := Dj.new vb.lt
        have dj112 : Dj (H5.size + 1) (H37.size + 1) := Dj.new ow23.le
        have dj113 : Dj (H23.size + 1) (H37.size + 1) := Dj.new ow24.le
        have df114 := (DF.new (bf_hc.mono (by omega)) : DF _ (H37.size + 1))
        have dj115 : Dj (H25.size + 1) (H37.size + 1) := Dj.new ow37.le
        have nx116 : Nx 0 H0.size (H37.size + 1) := Nx.new hm0.size
        have nx117 : Nx 0 H25.size (H37.size + 1) := Nx.new hcm6.size
        replace hv := hv.nw hs33
        replace hsr := hsr.nw hs33
        replace va := va.nw hs33
        replace vb := vb.nw hs33
        replace ow23 := ow23.nw hs33
        replace ow24 := ow24.nw hs33
        replace hc := hc.nw hs33
        replace ow37 := ow37.nw hs33
        replace hm0 := hm0.trN hs33
        replace hcm6 := hcm6.tr hs33
        have hz14 := hs33.size
        have hq33 := hqn37.tr hs33
        refine ⟨.inr hq33, LH.narrow (SH2 := fun Hq => Nw H33 Hq) (fun Hq hq => hq33.tr hq) ?_⟩
        have hqn33 := Nw.refl H33
        refine LH.one (i := 3) (by kernel_rfl) ?_
        -- call (selvage/graph.commits).above
        refine LO.call rfl rfl Try.call28 rfl (Wd.u rfl) rfl rfl (above_ct _ _ _ _ _ [a] w0 _ hc (bf_hc.mono (by omega)) hco ow33.rd.any (fun k hk => hstK k (by simp at hk; simp [hk])) (by simp)) (fun v34 H34 r34 => ?_)
        obtain ⟨a1, m1, rfl, h1, hk_h1, hU1, hs34⟩ := r34
        have dj118 : Dj (sb + 1) (a1 + 1) := Dj.app (Dj.z) hv.lt hk_h1
        have df119 := DF.app (DF.z) (bf_hsr.mono hm0.size) hk_h1
        have dj120 : Dj (H0.size + 1) (a1 + 1) := Dj.app (Dj.z) va.lt hk_h1
        have dj121 : Dj (H4.size + 1) (a1 + 1) := Dj.app (Dj.z) vb.lt hk_h1
        have dj122 : Dj (H5.size + 1) (a1 + 1) := Dj.app (Dj.z) ow23.le hk_h1
        have dj123 : Dj (H23.size + 1) (a1 + 1) := Dj.app (Dj.z) ow24.le hk_h1
        have df124 := DF.app (DF.z) (bf_hc.mono (by omega)) hk_h1
        have dj125 : Dj (H25.size + 1) (a1 + 1) := Dj.app (Dj.z) ow37.le hk_h1
        have dj126 : Dj (H37.size + 1) (a1 + 1) := Dj.app (Dj.z) ow33.le hk_h1
        have nx127 : Nx 0 H0.size (a1 + 1) := Nx.tr (Nx.refl 0 _) hk_h1 hm0.size
        have nx128 : Nx 0 H25.size (a1 + 1) := Nx.tr (Nx.refl 0 _) hk_h1 hcm6.size
        replace hv := hv.nw hs34
        replace hsr := hsr.nw hs34
        replace va := va.nw hs34
        replace vb := vb.nw hs34
        replace ow23 := ow23.nw hs34
        replace ow24 := ow24.nw hs34
        replace hc := hc.nw hs34
        replace ow37 := ow37.nw hs34
        replace ow33 := ow33.nw hs34
        replace hm0 := hm0.trN hs34
        replace hcm6 := hcm6.tr hs34
        have hz15 := hs34.size
        have hle_h1 := h1.le
        have hq34 := hqn33.tr hs34
        refine ⟨.inr hq34, LH.narrow (SH2 := fun Hq => Nw H34 Hq) (fun Hq hq => hq34.tr hq) ?_⟩
        have hqn34 := Nw.refl H34
        refine LH.one (i := 7) (by kernel_rfl) ?_
        -- call (selvage/graph.commits).above
        refine LO.call rfl rfl Try.call28 rfl (Wd.u rfl) rfl rfl (above_ct _ _ _ _ _ [b] w0 _ hc (bf_hc.mono (by omega)) hco ow37.rd.any (fun k hk => hstK k (by simp at hk; simp [hk])) (by simp)) (fun v38 H38 r38 => ?_)
        obtain ⟨a2, m2, rfl, h2, hk_h2, hU2, hs38⟩ := r38
        have dj129 : Dj (sb + 1) (a2 + 1) := Dj.app (Dj.z) hv.lt hk_h2
        have df130 := DF.app (DF.z) (bf_hsr.mono hm0.size) hk_h2
        have dj131 : Dj (H0.size + 1) (a2 + 1) := Dj.app (Dj.z) va.lt hk_h2
        have dj132 : Dj (H4.size + 1) (a2 + 1) := Dj.app (Dj.z) vb.lt hk_h2
        have dj133 : Dj (H5.size + 1) (a2 + 1) := Dj.app (Dj.z) ow23.le hk_h2
        have dj134 : Dj (H23.size + 1) (a2 + 1) := Dj.app (Dj.z) ow24.le hk_h2
        have df135 := DF.app (DF.z) (bf_hc.mono (by omega)) hk_h2
        have dj136 : Dj (H25.size + 1) (a2 + 1) := Dj.app (Dj.z) ow37.le hk_h2
        have dj137 : Dj (H37.size + 1) (a2 + 1) := Dj.app (Dj.z) ow33.le hk_h2
        have dj138 : Dj (a1 + 1) (a2 + 1) := Dj.app (Dj.z) h1.le hk_h2
        have nx139 : Nx 0 H0.size (a2 + 1) := Nx.tr (Nx.refl 0 _) hk_h2 hm0.size
        have nx140 : Nx 0 H25.size (a2 + 1) := Nx.tr (Nx.refl 0 _) hk_h2 hcm6.size
        replace hv := hv.nw hs38
        replace hsr := hsr.nw hs38
        replace va := va.nw hs38
        replace vb := vb.nw hs38
        replace ow23 := ow23.nw hs38
        replace ow24 := ow24.nw hs38
        replace hc := hc.nw hs38
        replace ow37 := ow37.nw hs38
        replace ow33 := ow33.nw hs38
        replace h1 := h1.nw hs38
        replace hm0 := hm0.trN hs38
        replace hcm6 := hcm6.tr hs38
        have hz16 := hs38.size
        have hle_h2 := h2.le
        have hq38 := hqn34.tr hs38
        refine ⟨.inr hq38, LH.narrow (SH2 := fun Hq => Nw H38 Hq) (fun Hq hq => hq38.tr hq) ?_⟩
        have hqn38 := Nw.refl H38
        refine LH.take 8 (by kernel_rfl) rfl (by kernel_rfl) (by kernel_rfl) (by kernel_rfl) (fun Hq hq => Y.assign rfl rfl) (Wd.u rfl) rfl rfl hqn38 ?_
        refine LH.take 9 (by kernel_rfl) rfl (by kernel_rfl) (by kernel_rfl) (by kernel_rfl) (fun Hq hq => Y.assign rfl rfl) (Wd.u rfl) rfl rfl hqn38 ?_
        refine LH.done (by kernel_rfl) ?_
        have hqe := hqn38
        refine QN.sub (hK6 (a1, m1, a2, m2) _ ?_) ⟨rfl, rfl, rfl, trivial⟩
        exact ⟨h1, h2, (by omega), (by omega), nx128, nx140, dj138, hcm6⟩
    ·
      rintro ⟨a1, m1, a2, m2⟩ Hcutr4 hIcutr4
      obtain ⟨h1, h2, hU1, hU2, nxl_h1, nxl_h2, dj_h1_h2, hlmcutr4⟩ := hIcutr4
      have dj141 : Dj (sb + 1) ((a1 + 1)) := Dj.app (Dj.z) hv.lt nxl_h1
      have df142 := DF.app (DF.z) (bf_hsr.mono hm0.size) nxl_h1
      have dj143 : Dj (H0.size + 1) ((a1 + 1)) := Dj.app (Dj.z) va.lt nxl_h1
      have dj144 : Dj (H4.size + 1) ((a1 + 1)) := Dj.app (Dj.z) vb.lt nxl_h1
      have dj145 : Dj (H5.size + 1) ((a1 + 1)) := Dj.app (Dj.z) ow23.le nxl_h1
      have dj146 : Dj (H23.size + 1) ((a1 + 1)) := Dj.app (Dj.z) ow24.le nxl_h1
      have df147 := DF.app (DF.z) (bf_hc.mono (by omega)) nxl_h1
      have nx148 : Nx 0 H0.size ((a1 + 1)) := Nx.tr (Nx.refl 0 _) nxl_h1 hm0.size
      have dj149 : Dj (sb + 1) ((a2 + 1)) := Dj.app (Dj.z) hv.lt nxl_h2
      have df150 := DF.app (DF.z) (bf_hsr.mono hm0.size) nxl_h2
      have dj151 : Dj (H0.size + 1) ((a2 + 1)) := Dj.app (Dj.z) va.lt nxl_h2
      have dj152 : Dj (H4.size + 1) ((a2 + 1)) := Dj.app (Dj.z) vb.lt nxl_h2
      have dj153 : Dj (H5.size + 1) ((a2 + 1)) := Dj.app (Dj.z) ow23.le nxl_h2
      have dj154 : Dj (H23.size + 1) ((a2 + 1)) := Dj.app (Dj.z) ow24.le nxl_h2
      have df155 := DF.app (DF.z) (bf_hc.mono (by omega)) nxl_h2
      have nx156 : Nx 0 H0.size ((a2 + 1)) := Nx.tr (Nx.refl 0 _) nxl_h2 hm0.size
      replace hv := hv.nw hlmcutr4
      replace hsr := hsr.nw hlmcutr4
      replace va := va.nw hlmcutr4
      replace vb := vb.nw hlmcutr4
      replace ow23 := ow23.nw hlmcutr4
      replace ow24 := ow24.nw hlmcutr4
      replace hc := hc.nw hlmcutr4
      replace hm0 := hm0.trN hlmcutr4
      have hz17 := hlmcutr4.size
      have hle_h1 := h1.le
      have hle_h2 := h2.le
      have dj157 := dj_h1_h2
      have nx158 := nxl_h1
      have nx159 := nxl_h2
      refine CW.seq (fun K7 hK7 hE7 => ?_)
      refine CW.region ?_
      have hu1 : ∀ k, k ∈ m1.map (·.1) ↔ UpO So.pa a k := fun k => by
        rw [hU1]
        exact ⟨fun ⟨i, hi, hu⟩ => by rw [List.mem_singleton.1 hi] at hu; exact (up_iff hA (hstK a (by simp))).1 hu, fun hu => ⟨a, by simp, (up_iff hA (hstK a (by simp))).2 hu⟩⟩
      have hu2 : ∀ k, k ∈ m2.map (·.1) ↔ UpO So.pa b k := fun k => by
        rw [hU2]
        exact ⟨fun ⟨i, hi, hu⟩ => by rw [List.mem_singleton.1 hi] at hu; exact (up_iff hA (hstK b (by simp))).1 hu, fun hu => ⟨b, by simp, (up_iff hA (hstK b (by simp))).2 hu⟩⟩
      have hm1K : ∀ k ∈ m1.map (·.1), k ∈ m.map (·.1) := fun k hk => up_in hA (hstK a (by simp)) ((hu1 k).1 hk)
      have hm15 := nodup_le h1.mo.nodup hm1K
      rw [List.length_map, List.length_map] at hm15
      refine LR.z (Z.makeMp vA (Value.int .i64) rfl) (Wd.u rfl) rfl rfl (fun v39 H39 r39 => ?_)
      obtain ⟨rfl, hb, hs39, ob39, hH39⟩ := r39
      have hzs39 : H39.size = Hcutr4.size + 1 := by rw [hH39]; simp
      have dj160 : Dj (sb + 1) (Hcutr4.size + 1) := Dj.new hv.lt
      have df161 := (DF.new (bf_hsr.mono hm0.size) : DF _ (Hcutr4.size + 1))
      have dj162 : Dj (H0.size + 1) (Hcutr4.size + 1) := Dj.new va.lt
      have dj163 : Dj (H4.size + 1) (Hcutr4.size + 1) := Dj.new vb.lt
      have dj164 : Dj (H5.size + 1) (Hcutr4.size + 1) := Dj.new ow23.le
      have dj165 : Dj (H23.size + 1) (Hcutr4.size + 1) := Dj.new ow24.le
      have df166 := (DF.new (bf_hc.mono (by omega)) : DF _ (Hcutr4.size + 1))
      have dj167 : Dj ((a1 + 1)) (Hcutr4.size + 1) := Dj.new h1.le
      have dj168 : Dj ((a2 + 1)) (Hcutr4.size + 1) := Dj.new h2.le
      have nx169 : Nx 0 H0.size (Hcutr4.size + 1) := Nx.new hm0.size
      replace hv := hv.nw hs39
      replace hsr := hsr.nw hs39
      replace va := va.nw hs39
      replace vb := vb.nw hs39
      replace ow23 := ow23.nw hs39
      replace ow24 := ow24.nw hs39
      replace hc := hc.nw hs39
      replace h1 := h1.nw hs39
      replace h2 := h2.nw hs39
      replace hm0 := hm0.trN hs39
      have hz18 := hs39.size
      have hlt_hb := hb.lt
      refine LR.v (Y.assign rfl rfl) (Wd.u rfl) rfl rfl ?_
      refine LR.nil ?_
      refine hK7 _ _ ?_
      refine CW.seq (fun K8 hK8 hE8 => ?_)
      refine CW.seq (fun K9 hK9 hE9 => ?_)
      refine CW.region ?_
      refine LR.v (Y.move rfl rfl) (Wd.u rfl) rfl rfl ?_
      obtain ⟨es, ck, h1⟩ := h1.raw
      refine LR.z (Z.rangeA h1 rfl Try.runUnderlying72 rfl) (Wd.u rfl) rfl rfl (fun v41 H41 r41 => ?_)
      obtain ⟨rfl, it, hs41, ob41, hH41⟩ := r41
      have hzs41 : H41.size = H39.size + 1 := by rw [hH41]; simp
      have dj170 : Dj (sb + 1) (H39.size + 1) := Dj.new hv.lt
      have df171 := (DF.new (bf_hsr.mono hm0.size) : DF _ (H39.size + 1))
      have dj172 : Dj (H5.size + 1) (H39.size + 1) := Dj.new ow23.le
      have dj173 : Dj (H23.size + 1) (H39.size + 1) := Dj.new ow24.le
      have df174 := (DF.new (bf_hc.mono (by omega)) : DF _ (H39.size + 1))
      have dj175 : Dj ((a1 + 1)) (H39.size + 1) := Dj.new h1.le
      have dj176 : Dj ((a2 + 1)) (H39.size + 1) := Dj.new h2.le
      have dj177 : Dj (Hcutr4.size + 1) (H39.size + 1) := Dj.new hb.lt
      have nx178 : Nx 0 H0.size (H39.size + 1) := Nx.new hm0.size
      replace hv := hv.nw hs41
      replace hsr := hsr.nw hs41
      replace ow23 := ow23.nw hs41
      replace ow24 := ow24.nw hs41
      replace hc := hc.nw hs41
      replace h1 := h1.nw hs41
      replace h2 := h2.nw hs41
      replace hb := hb.nw hs41
      replace hm0 := hm0.trN hs41
      have hz19 := hs41.size
      have hlt_it := it.lt
      refine LR.nil ?_
      refine hK9 _ _ ?_
      refine CW.block (fun K10 hK10 hX10 hE10 => ?_)
      refine CW.loop (fun (s_ : (List Ide) × (List (Ide × Int))) => match s_ with | (dn, bb) => [(8, vc), (11, .map (some a2)), (12, .map (some Hcutr4.size)), (41, .pointer (some ⟨H39.size, 0, none⟩))])
        (fun (s_ : (List Ide) × (List (Ide × Int))) (H : Heap) => match s_ with | (dn, bb) => (Itr H H39.size a1 vA es ck dn) ∧ (Mp H vA (Value.int .i64) Hcutr4.size bb) ∧ (∀ k, (mget bb k).isSome = true ↔ k ∈ dn ∧ k ∈ m2.map (·.1)) ∧ (dn.Nodup ∧ ∀ k ∈ dn, k ∈ m1.map (·.1)) ∧ Mo (Ms [(H39.size + 1), (Hcutr4.size + 1)]) H41 H)
        (fun (s_ : (List Ide) × (List (Ide × Int))) => match s_ with | (dn, bb) => m1.length - dn.length) ([], []) ⟨rfl, rfl, rfl, rfl, trivial⟩ ?_ ?_
      ·
        exact ⟨it, hb, fun k => by simp [mget], ⟨List.nodup_nil, by simp⟩, Mo.refl _ _⟩
      rintro ⟨dn, bb⟩ HL1 hI1 K11 hN11 hE11
      obtain ⟨it, hb, hD, hdn, hlm1⟩ := hI1
      replace hv := hv.upL hlm1 (DL.cons dj170 (DL.cons dj160 DL.nil))
      replace hsr := hsr.upL hlm1 (DFL.cons df171 (DFL.cons df161 DFL.nil))
      replace ow23 := ow23.upL hlm1 (DL.cons dj172 (DL.cons dj164 DL.nil))
      replace ow24 := ow24.upL hlm1 (DL.cons dj173 (DL.cons dj165 DL.nil))
      replace hc := hc.upL hlm1 (DFL.cons df174 (DFL.cons df166 DFL.nil))
      replace h1 := h1.upL hlm1 (DL.cons dj175 (DL.cons dj167 DL.nil))
      replace h2 := h2.upL hlm1 (DL.cons dj176 (DL.cons dj168 DL.nil))
      replace hm0 := hm0.trL hlm1 (MIL.cons (MI.app MI.z (nx178) (Nat.le_refl _)) (MIL.cons (MI.app MI.z (nx169) (Nat.le_refl _)) MIL.nil))
      have hz20 := hlm1.size
      have nx_hlm1_it := Nx.refl (H39.size + 1) H41.size
      have nx_hlm1_hb := Nx.refl (Hcutr4.size + 1) H41.size
      have hdl := nodup_le hdn.1 hdn.2
      rw [List.length_map] at hdl
      refine CW.seq (fun K12 hK12 hE12 => ?_)
      refine CW.region ?_
      refine LR.z (Z.nextA it h1 keyId.inj rfl rfl) (Wd.u rfl) rfl rfl (fun v42 H42 r42 => ?_)
      obtain ⟨qb, x, y, dn2, rfl, it, hT42, hF42, hs42⟩ := r42
      replace hs42 := hs42.md1
      replace hv := hv.upL hs42 (DL.cons dj170 DL.nil)
      replace hsr := hsr.upL hs42 (DFL.cons df171 DFL.nil)
      replace ow23 := ow23.upL hs42 (DL.cons dj172 DL.nil)
      replace ow24 := ow24.upL hs42 (DL.cons dj173 DL.nil)
      replace hc := hc.upL hs42 (DFL.cons df174 DFL.nil)
      replace h1 := h1.upL hs42 (DL.cons dj175 DL.nil)
      replace h2 := h2.upL hs42 (DL.cons dj176 DL.nil)
      replace hb := hb.upL hs42 (DL.cons dj177 DL.nil)
      replace hm0 := hm0.trL hs42 (MIL.cons (MI.app MI.z (nx178) (Nat.le_refl _)) MIL.nil)
      replace hlm1 := hlm1.trL hs42 (MIL.cons (MI.app (MI.root (by simp)) (nx_hlm1_it) (Nat.le_refl _)) MIL.nil)
      have hz21 := hs42.size
      refine LR.v (Y.ext0 rfl rfl) (Wd.u rfl) rfl rfl ?_
      refine LR.nil ?_
      refine hK12 _ _ ?_
      refine CW.seq (fun K13 hK13 hE13 => ?_)
      refine CW.cond rfl (fun c43 => ?_) (fun c43 => ?_)
      ·
        obtain ⟨hxy, hnd, hdq⟩ := hT42 c43
        rw [hdq] at it
        refine CW.skip ?_
        refine hK13 _ _ ?_
        refine CW.block (fun K14 hK14 hX14 hE14 => ?_)
        refine CW.seq (fun K15 hK15 hE15 => ?_)
        refine CW.region ?_
        refine LR.v (Y.entryA it h1 keyId.inj hxy rfl rfl) (Wd.u rfl) rfl rfl ?_
        refine LR.v (Y.extract rfl rfl rfl) (Wd.u rfl) rfl rfl ?_
        refine LR.z (Z.allocv rfl Try.zeroValue30) (Wd.u rfl) rfl rfl (fun v13 H13 r13 => ?_)
        obtain ⟨rfl, vi, hs13, ob13, hH13⟩ := r13
        have hzs13 : H13.size = H42.size + 1 := by rw [hH13]; simp
        have dj179 : Dj (sb + 1) (H42.size + 1) := Dj.new hv.lt
        have df180 := (DF.new (bf_hsr.mono hm0.size) : DF _ (H42.size + 1))
        have dj181 : Dj (H5.size + 1) (H42.size + 1) := Dj.new ow23.le
        have dj182 : Dj (H23.size + 1) (H42.size + 1) := Dj.new ow24.le
        have df183 := (DF.new (bf_hc.mono (by omega)) : DF _ (H42.size + 1))
        have dj184 : Dj ((a1 + 1)) (H42.size + 1) := Dj.new h1.le
        have dj185 : Dj ((a2 + 1)) (H42.size + 1) := Dj.new h2.le
        have dj186 : Dj (Hcutr4.size + 1) (H42.size + 1) := Dj.new hb.lt
        have dj187 : Dj (H39.size + 1) (H42.size + 1) := Dj.new it.lt
        have nx188 : Nx 0 H0.size (H42.size + 1) := Nx.new hm0.size
        have nx189 : Nx 0 H41.size (H42.size + 1) := Nx.new hlm1.size
        replace hv := hv.nw hs13
        replace hsr := hsr.nw hs13
        replace ow23 := ow23.nw hs13
        replace ow24 := ow24.nw hs13
        replace hc := hc.nw hs13
        replace h1 := h1.nw hs13
        replace h2 := h2.nw hs13
        replace hb := hb.nw hs13
        replace it := it.nw hs13
        replace hm0 := hm0.trN hs13
        replace hlm1 := hlm1.trN hs13
        have hz22 := hs13.size
        replace vi : Var 30 H13 H42.size (fA Zid) := vi
        refine LR.s (S.var vi (_) (fA (x)) rfl rfl rfl rfl (fA_one _) Try.sizeOf30 (fA_len _) (by first | decide | simp [fA_len]) ((splice_all2 (by first | exact (fA_len _).symm | rfl | exact (fA_len _).trans (fA_len _).symm)))) (Wd.u rfl) rfl (fun H8_3 r8_3 => ?_)
        obtain ⟨vi, hs8_3⟩ := r8_3
        replace hs8_3 := hs8_3.md1
        replace hv := hv.upL hs8_3 (DL.cons dj179 DL.nil)
        replace hsr := hsr.upL hs8_3 (DFL.cons df180 DFL.nil)
        replace ow23 := ow23.upL hs8_3 (DL.cons dj181 DL.nil)
        replace ow24 := ow24.upL hs8_3 (DL.cons dj182 DL.nil)
        replace hc := hc.upL hs8_3 (DFL.cons df183 DFL.nil)
        replace h1 := h1.upL hs8_3 (DL.cons dj184 DL.nil)
        replace h2 := h2.upL hs8_3 (DL.cons dj185 DL.nil)
        replace hb := hb.upL hs8_3 (DL.cons dj186 DL.nil)
        replace it := it.upL hs8_3 (DL.cons dj187 DL.nil)
        replace hm0 := hm0.trL hs8_3 (MIL.cons (MI.app MI.z (nx188) (Nat.le_refl _)) MIL.nil)
        replace hlm1 := hlm1.trL hs8_3 (MIL.cons (MI.app MI.z (nx189) (Nat.le_refl _)) MIL.nil)
        have hz23 := hs8_3.size
        refine LR.nil ?_
        refine hK15 _ _ ?_
        refine CW.seq (fun K16 hK16 hE16 => ?_)
        refine CW.region ?_
        refine LR.v (Y.move rfl rfl) (Wd.u rfl) rfl rfl ?_
        refine LR.v (Y.loadN vi.pt rfl Try.isAgg30 Try.sizeOf30 (fA_len _) rfl) (Wd.u rfl) rfl rfl ?_
        refine LR.v (Y.lookupOkA h2.mo keyId rfl Try.runUnderlying72 Try.zeroValue3 rfl rfl) (Wd.u rfl) rfl rfl ?_
        refine LR.v (Y.move rfl rfl) (Wd.u rfl) rfl rfl ?_
        refine LR.v (Y.extract rfl rfl rfl) (Wd.u rfl) rfl rfl ?_
        refine LR.v (Y.extract rfl rfl rfl) (Wd.u rfl) rfl rfl ?_
        refine LR.v (Y.assign rfl rfl) (Wd.u rfl) rfl rfl ?_
        refine LR.v (Y.assign rfl rfl) (Wd.u rfl) rfl rfl ?_
        refine LR.nil ?_
        refine hK16 _ _ ?_
        refine CW.seq (fun K17 hK17 hE17 => ?_)
        refine CW.region ?_
        refine LR.v (Y.move rfl rfl) (Wd.u rfl) rfl rfl ?_
        refine LR.nil ?_
        refine hK17 _ _ ?_
        refine CW.cond rfl (fun c52 => ?_) (fun c52 => ?_)
        ·
          refine CW.region ?_
          refine LR.v (Y.move rfl rfl) (Wd.u rfl) rfl rfl ?_
          refine LR.v (Y.loadN vi.pt rfl Try.isAgg30 Try.sizeOf30 (fA_len _) rfl) (Wd.u rfl) rfl rfl ?_
          refine LR.s (S.putA (_) hb keyId rfl Try.runUnderlying72 rfl rfl rfl) (Wd.u rfl) rfl (fun H11_2 r11_2 => ?_)
          obtain ⟨hb, hs11_2⟩ := r11_2
          replace hs11_2 := hs11_2.md1
          replace hv := hv.upL hs11_2 (DL.cons dj160 DL.nil)
          replace hsr := hsr.upL hs11_2 (DFL.cons df161 DFL.nil)
          replace ow23 := ow23.upL hs11_2 (DL.cons dj164 DL.nil)
          replace ow24 := ow24.upL hs11_2 (DL.cons dj165 DL.nil)
          replace hc := hc.upL hs11_2 (DFL.cons df166 DFL.nil)
          replace h1 := h1.upL hs11_2 (DL.cons dj167 DL.nil)
          replace h2 := h2.upL hs11_2 (DL.cons dj168 DL.nil)
          replace it := it.upL hs11_2 (DL.cons dj177.symm DL.nil)
          replace vi := vi.upL hs11_2 (DL.cons dj186.symm DL.nil)
          replace hm0 := hm0.trL hs11_2 (MIL.cons (MI.app MI.z (nx169) (Nat.le_refl _)) MIL.nil)
          replace hlm1 := hlm1.trL hs11_2 (MIL.cons (MI.app (MI.root (by simp)) (nx_hlm1_hb) (Nat.le_refl _)) MIL.nil)
          have hz24 := hs11_2.size
          refine LR.nil ?_
          refine hK14 _ _ ?_
          have hdn2 : (dn ++ [x]).Nodup ∧ ∀ k ∈ dn ++ [x], k ∈ m1.map (·.1) := by
            refine ⟨?_, fun k hk => ?_⟩
            · rw [List.nodup_append]
              exact ⟨hdn.1, by simp, fun a ha b hb e => by simp only [List.mem_singleton] at hb; subst hb; subst e; exact hnd ha⟩
            · rcases List.mem_append.1 hk with hk | hk
              · exact hdn.2 k hk
              · rw [List.mem_singleton.1 hk]; exact List.mem_map.2 ⟨_, hxy, rfl⟩
          have hdl2 := nodup_le hdn2.1 hdn2.2
          rw [List.length_append, List.length_map, List.length_singleton] at hdl2
          refine QN.sub (hN11 (dn ++ [x], mput bb x 0) _ ?_ ?_) ⟨rfl, rfl, rfl, rfl, trivial⟩
          · exact ⟨it, hb, fun k => by
              rw [mget_put]
              by_cases h1 : k = x
              · subst h1; rw [if_pos rfl]; exact ⟨fun _ => ⟨by simp, isSome_iff_key.1 c52⟩, fun _ => rfl⟩
              · rw [if_neg h1, hD k]; simp [h1], hdn2, hlm1⟩
          · simp <;> omega
        ·
          refine CW.skip ?_
          refine hK14 _ _ ?_
          have hdn2 : (dn ++ [x]).Nodup ∧ ∀ k ∈ dn ++ [x], k ∈ m1.map (·.1) := by
            refine ⟨?_, fun k hk => ?_⟩
            · rw [List.nodup_append]
              exact ⟨hdn.1, by simp, fun a ha b hb e => by simp only [List.mem_singleton] at hb; subst hb; subst e; exact hnd ha⟩
            · rcases List.mem_append.1 hk with hk | hk
              · exact hdn.2 k hk
              · rw [List.mem_singleton.1 hk]; exact List.mem_map.2 ⟨_, hxy, rfl⟩
          have hdl2 := nodup_le hdn2.1 hdn2.2
          rw [List.length_append, List.length_map, List.length_singleton] at hdl2
          refine QN.sub (hN11 (dn ++ [x], bb) _ ?_ ?_) ⟨rfl, rfl, rfl, rfl, trivial⟩
          · exact ⟨it, hb, fun k => by
              rw [hD k]
              by_cases h1 : k = x
              · subst h1
                refine ⟨fun q => absurd q.1 hnd, fun q => ?_⟩
                rw [isSome_iff_key.2 q.2] at c52; cases c52
              · simp [h1], hdn2, hlm1⟩
          · simp <;> omega
      ·
        obtain ⟨hall, hdq⟩ := hF42 c43
        have hdm : ∀ k, k ∈ dn ↔ k ∈ m1.map (·.1) := fun k => ⟨hdn.2 k, fun h => by obtain ⟨p, hp, rfl⟩ := List.mem_map.1 h; exact hall p hp⟩
        have hbb : ∀ k, k ∈ bb.map (·.1) ↔ Com So.pa a b k := fun k => by rw [← isSome_iff_key, hD k, hdm, hu1, hu2]; rfl
        have hbK : ∀ k ∈ bb.map (·.1), k ∈ m.map (·.1) := fun k hk => up_in hA (hstK a (by simp)) ((hbb k).1 hk).1
        have hb5 := nodup_le hb.mo.nodup hbK
        rw [List.length_map, List.length_map] at hb5
        refine CW.exit (hE13 (.exit 0) nofun _ _ (hE11 (.exit 0) nofun _ _ (hX10 _ _ ?_)))
        refine hK8 _ _ ?_
        refine CW.seq (fun K18 hK18 hE18 => ?_)
        refine CW.region ?_
        refine LR.v (Y.assign rfl rfl) (Wd.u rfl) rfl rfl ?_
        refine LR.nil ?_
        refine hK18 _ _ ?_
        refine CW.seq (fun K19 hK19 hE19 => ?_)
        refine CW.seq (fun K20 hK20 hE20 => ?_)
        refine CW.region ?_
        refine LR.v (Y.move rfl rfl) (Wd.u rfl) rfl rfl ?_
        obtain ⟨es2, ck2, hb⟩ := hb.raw
        refine LR.z (Z.rangeA hb rfl Try.runUnderlying72 rfl) (Wd.u rfl) rfl rfl (fun v56 H56 r56 => ?_)
        obtain ⟨rfl, it2, hs56, ob56, hH56⟩ := r56
        have hzs56 : H56.size = H42.size + 1 := by rw [hH56]; simp
        have dj190 : Dj (sb + 1) (H42.size + 1) := Dj.new hv.lt
        have df191 := (DF.new (bf_hsr.mono hm0.size) : DF _ (H42.size + 1))
        have dj192 : Dj (H5.size + 1) (H42.size + 1) := Dj.new ow23.le
        have dj193 : Dj (H23.size + 1) (H42.size + 1) := Dj.new ow24.le
        have df194 := (DF.new (bf_hc.mono (by omega)) : DF _ (H42.size + 1))
        have dj195 : Dj ((a1 + 1)) (H42.size + 1) := Dj.new h1.le
        have dj196 : Dj ((a2 + 1)) (H42.size + 1) := Dj.new h2.le
        have dj197 : Dj (Hcutr4.size + 1) (H42.size + 1) := Dj.new hb.lt
        have dj198 : Dj (H39.size + 1) (H42.size + 1) := Dj.new it.lt
        have nx199 : Nx 0 H0.size (H42.size + 1) := Nx.new hm0.size
        replace hv := hv.nw hs56
        replace hsr := hsr.nw hs56
        replace ow23 := ow23.nw hs56
        replace ow24 := ow24.nw hs56
        replace hc := hc.nw hs56
        replace h1 := h1.nw hs56
        replace h2 := h2.nw hs56
        replace hb := hb.nw hs56
        replace it := it.nw hs56
        replace hm0 := hm0.trN hs56
        have hz25 := hs56.size
        have hlt_it2 := it2.lt
        refine LR.nil ?_
        refine hK20 _ _ ?_
        refine CW.block (fun K21 hK21 hX21 hE21 => ?_)
        refine CW.loop (fun (s_ : (List Ide) × (Value) × (Nat) × (List Ide)) => match s_ with | (dn, vp, kp, pr) => [(8, vc), (12, .map (some Hcutr4.size)), (16, vp), (56, .pointer (some ⟨H42.size, 0, none⟩))])
          (fun (s_ : (List Ide) × (Value) × (Nat) × (List Ide)) (H : Heap) => match s_ with | (dn, vp, kp, pr) => (Itr H H42.size Hcutr4.size vA es2 ck2 dn) ∧ (Ow kp 30 H fA 32 vp pr) ∧ (∀ p, p ∈ pr ↔ ∃ k ∈ dn, p ∈ cpa So.pa (m.map (·.1)) k) ∧ (pr.length ≤ dn.length * 1000) ∧ (dn.Nodup ∧ ∀ k ∈ dn, k ∈ bb.map (·.1)) ∧ (Nx 0 H56.size kp) ∧ (Dj (H42.size + 1) kp) ∧ Mo (Ms [(H42.size + 1)]) H56 H)
          (fun (s_ : (List Ide) × (Value) × (Nat) × (List Ide)) => match s_ with | (dn, vp, kp, pr) => bb.length - dn.length) ([], .slice none 0 0, 0, []) ⟨rfl, rfl, rfl, rfl, trivial⟩ ?_ ?_
        ·
          exact ⟨it2, Ow.nil fA_len fA_one, fun p => by simp, by simp, ⟨List.nodup_nil, by simp⟩, Nx.refl _ _, Dj.z, Mo.refl _ _⟩
        rintro ⟨dn, vp, kp, pr⟩ HL2 hI2 K22 hN22 hE22
        obtain ⟨it2, op, hpr, hprl, hdn, nxl_op, dj_it2_op, hlm2⟩ := hI2
        have dj200 : Dj (sb + 1) kp := Dj.app (Dj.z) hv.lt nxl_op
        have df201 := DF.app (DF.z) (bf_hsr.mono hm0.size) nxl_op
        have dj202 : Dj (H5.size + 1) kp := Dj.app (Dj.z) ow23.le nxl_op
        have dj203 : Dj (H23.size + 1) kp := Dj.app (Dj.z) ow24.le nxl_op
        have df204 := DF.app (DF.z) (bf_hc.mono (by omega)) nxl_op
        have dj205 : Dj ((a1 + 1)) kp := Dj.app (Dj.z) h1.le nxl_op
        have dj206 : Dj ((a2 + 1)) kp := Dj.app (Dj.z) h2.le nxl_op
        have dj207 : Dj (Hcutr4.size + 1) kp := Dj.app (Dj.z) hb.lt nxl_op
        have dj208 : Dj (H39.size + 1) kp := Dj.app (Dj.z) it.lt nxl_op
        have nx209 : Nx 0 H0.size kp := Nx.tr (Nx.refl 0 _) nxl_op hm0.size
        replace hv := hv.upL hlm2 (DL.cons dj190 DL.nil)
        replace hsr := hsr.upL hlm2 (DFL.cons df191 DFL.nil)
        replace ow23 := ow23.upL hlm2 (DL.cons dj192 DL.nil)
        replace ow24 := ow24.upL hlm2 (DL.cons dj193 DL.nil)
        replace hc := hc.upL hlm2 (DFL.cons df194 DFL.nil)
        replace h1 := h1.upL hlm2 (DL.cons dj195 DL.nil)
        replace h2 := h2.upL hlm2 (DL.cons dj196 DL.nil)
        replace hb := hb.upL hlm2 (DL.cons dj197 DL.nil)
        replace it := it.upL hlm2 (DL.cons dj198 DL.nil)
        replace hm0 := hm0.trL hlm2 (MIL.cons (MI.app MI.z (nx199) (Nat.le_refl _)) MIL.nil)
        have hz26 := hlm2.size
        have hle_op := op.le
        have dj210 := dj_it2_op
        have nx_hlm2_it2 := Nx.refl (H42.size + 1) H56.size
        have nx211 := nxl_op
        have hdl := nodup_le hdn.1 hdn.2
        rw [List.length_map] at hdl
        refine CW.seq (fun K23 hK23 hE23 => ?_)
        refine CW.region ?_
        refine LR.z (Z.nextA it2 hb keyId.inj rfl rfl) (Wd.u rfl) rfl rfl (fun v57 H57 r57 => ?_)
        obtain ⟨qb, x, y, dn3, rfl, it2, hT57, hF57, hs57⟩ := r57
        replace hs57 := hs57.md1
        replace hv := hv.upL hs57 (DL.cons dj190 DL.nil)
        replace hsr := hsr.upL hs57 (DFL.cons df191 DFL.nil)
        replace ow23 := ow23.upL hs57 (DL.cons dj192 DL.nil)
        replace ow24 := ow24.upL hs57 (DL.cons dj193 DL.nil)
        replace hc := hc.upL hs57 (DFL.cons df194 DFL.nil)
        replace h1 := h1.upL hs57 (DL.cons dj195 DL.nil)
        replace h2 := h2.upL hs57 (DL.cons dj196 DL.nil)
        replace hb := hb.upL hs57 (DL.cons dj197 DL.nil)
        replace it := it.upL hs57 (DL.cons dj198 DL.nil)
        replace op := op.upL hs57 (DL.cons dj210.symm DL.nil)
        replace hm0 := hm0.trL hs57 (MIL.cons (MI.app MI.z (nx199) (Nat.le_refl _)) MIL.nil)
        replace hlm2 := hlm2.trL hs57 (MIL.cons (MI.app (MI.root (by simp)) (nx_hlm2_it2) (Nat.le_refl _)) MIL.nil)
        have hz27 := hs57.size
        refine LR.v (Y.ext0 rfl rfl) (Wd.u rfl) rfl rfl ?_
        refine LR.nil ?_
        refine hK23 _ _ ?_
        refine CW.seq (fun K24 hK24 hE24 => ?_)
        refine CW.cond rfl (fun c58 => ?_) (fun c58 => ?_)
        ·
          obtain ⟨hxy, hnd, hdq⟩ := hT57 c58
          rw [hdq] at it2
          refine CW.skip ?_
          refine hK24 _ _ ?_
          refine CW.block (fun K25 hK25 hX25 hE25 => ?_)
          refine CW.seq (fun K26 hK26 hE26 => ?_)
          refine CW.region ?_
          refine LR.v (Y.entryA it2 hb keyId.inj hxy rfl rfl) (Wd.u rfl) rfl rfl ?_
          refine LR.v (Y.extract rfl rfl rfl) (Wd.u rfl) rfl rfl ?_
          refine LR.z (Z.allocv rfl Try.zeroValue30) (Wd.u rfl) rfl rfl (fun v17 H17 r17 => ?_)
          obtain ⟨rfl, vj, hs17, ob17, hH17⟩ := r17
          have hzs17 : H17.size = H57.size + 1 := by rw [hH17]; simp
          have dj212 : Dj (sb + 1) (H57.size + 1) := Dj.new hv.lt
          have df213 := (DF.new (bf_hsr.mono hm0.size) : DF _ (H57.size + 1))
          have dj214 : Dj (H5.size + 1) (H57.size + 1) := Dj.new ow23.le
          have dj215 : Dj (H23.size + 1) (H57.size + 1) := Dj.new ow24.le
          have df216 := (DF.new (bf_hc.mono (by omega)) : DF _ (H57.size + 1))
          have dj217 : Dj ((a1 + 1)) (H57.size + 1) := Dj.new h1.le
          have dj218 : Dj ((a2 + 1)) (H57.size + 1) := Dj.new h2.le
          have dj219 : Dj (Hcutr4.size + 1) (H57.size + 1) := Dj.new hb.lt
          have dj220 : Dj (H39.size + 1) (H57.size + 1) := Dj.new it.lt
          have dj221 : Dj (H42.size + 1) (H57.size + 1) := Dj.new it2.lt
          have dj222 : Dj kp (H57.size + 1) := Dj.new op.le
          have nx223 : Nx 0 H0.size (H57.size + 1) := Nx.new hm0.size
          have nx224 : Nx 0 H56.size (H57.size + 1) := Nx.new hlm2.size
          replace hv := hv.nw hs17
          replace hsr := hsr.nw hs17
          replace ow23 := ow23.nw hs17
          replace ow24 := ow24.nw hs17
          replace hc := hc.nw hs17
          replace h1 := h1.nw hs17
          replace h2 := h2.nw hs17
          replace hb := hb.nw hs17
          replace it := it.nw hs17
          replace it2 := it2.nw hs17
          replace op := op.nw hs17
          replace hm0 := hm0.trN hs17
          replace hlm2 := hlm2.trN hs17
          have hz28 := hs17.size
          replace vj : Var 30 H17 H57.size (fA Zid) := vj
          refine LR.s (S.var vj (_) (fA (x)) rfl rfl rfl rfl (fA_one _) Try.sizeOf30 (fA_len _) (by first | decide | simp [fA_len]) ((splice_all2 (by first | exact (fA_len _).symm | rfl | exact (fA_len _).trans (fA_len _).symm)))) (Wd.u rfl) rfl (fun H15_3 r15_3 => ?_)
          obtain ⟨vj, hs15_3⟩ := r15_3
          replace hs15_3 := hs15_3.md1
          replace hv := hv.upL hs15_3 (DL.cons dj212 DL.nil)
          replace hsr := hsr.upL hs15_3 (DFL.cons df213 DFL.nil)
          replace ow23 := ow23.upL hs15_3 (DL.cons dj214 DL.nil)
          replace ow24 := ow24.upL hs15_3 (DL.cons dj215 DL.nil)
          replace hc := hc.upL hs15_3 (DFL.cons df216 DFL.nil)
          replace h1 := h1.upL hs15_3 (DL.cons dj217 DL.nil)
          replace h2 := h2.upL hs15_3 (DL.cons dj218 DL.nil)
          replace hb := hb.upL hs15_3 (DL.cons dj219 DL.nil)
          replace it := it.upL hs15_3 (DL.cons dj220 DL.nil)
          replace it2 := it2.upL hs15_3 (DL.cons dj221 DL.nil)
          replace op := op.upL hs15_3 (DL.cons dj222 DL.nil)
          replace hm0 := hm0.trL hs15_3 (MIL.cons (MI.app MI.z (nx223) (Nat.le_refl _)) MIL.nil)
          replace hlm2 := hlm2.trL hs15_3 (MIL.cons (MI.app MI.z (nx224) (Nat.le_refl _)) MIL.nil)
          have hz29 := hs15_3.size
          refine LR.nil ?_
          refine hK26 _ _ ?_
          refine CW.region ?_
          refine LR.v (Y.move rfl rfl) (Wd.u rfl) rfl rfl ?_
          refine LR.v (Y.move rfl rfl) (Wd.u rfl) rfl rfl ?_
          refine LR.v (Y.loadN vj.pt rfl Try.isAgg30 Try.sizeOf30 (fA_len _) rfl) (Wd.u rfl) rfl rfl ?_
          refine LR.v (Y.lookupA hc.mo keyId rfl Try.runUnderlying69 Try.zeroValue28 rfl rfl) (Wd.u rfl) rfl rfl ?_
          have hpl := hco.pl x
          refine LR.z (Z.apnd op (hc.row x) rfl inf28 rfl rfl (by first | omega | (simp; omega)) (by first | omega | (simp; omega))) (Wd.u rfl) rfl rfl (fun v65 H65 r65 => ?_)
          obtain ⟨k65, op, hk65, hs65⟩ := r65
          replace hk65 : Nx kp H15_3.size k65 := hk65
          replace hs65 := hs65.md
          have dj225 : Dj (sb + 1) k65 := Dj.app (dj200) hv.lt hk65
          have df226 := DF.app (df201) (bf_hsr.mono hm0.size) hk65
          have dj227 : Dj (H5.size + 1) k65 := Dj.app (dj202) ow23.le hk65
          have dj228 : Dj (H23.size + 1) k65 := Dj.app (dj203) ow24.le hk65
          have df229 := DF.app (df204) (bf_hc.mono (by omega)) hk65
          have dj230 : Dj ((a1 + 1)) k65 := Dj.app (dj205) h1.le hk65
          have dj231 : Dj ((a2 + 1)) k65 := Dj.app (dj206) h2.le hk65
          have dj232 : Dj (Hcutr4.size + 1) k65 := Dj.app (dj207) hb.lt hk65
          have dj233 : Dj (H39.size + 1) k65 := Dj.app (dj208) it.lt hk65
          have dj234 : Dj (H42.size + 1) k65 := Dj.app (dj210) it2.lt hk65
          have dj235 : Dj (H57.size + 1) k65 := Dj.app (dj222.symm) vj.lt hk65
          have nx236 : Nx 0 H0.size k65 := Nx.tr (nx209) hk65 hm0.size
          have nx237 : Nx 0 H56.size k65 := Nx.tr (nx211) hk65 hlm2.size
          replace hv := hv.upL hs65 (DL.cons dj200 DL.nil)
          replace hsr := hsr.upL hs65 (DFL.cons df201 DFL.nil)
          replace ow23 := ow23.upL hs65 (DL.cons dj202 DL.nil)
          replace ow24 := ow24.upL hs65 (DL.cons dj203 DL.nil)
          replace hc := hc.upL hs65 (DFL.cons df204 DFL.nil)
          replace h1 := h1.upL hs65 (DL.cons dj205 DL.nil)
          replace h2 := h2.upL hs65 (DL.cons dj206 DL.nil)
          replace hb := hb.upL hs65 (DL.cons dj207 DL.nil)
          replace it := it.upL hs65 (DL.cons dj208 DL.nil)
          replace it2 := it2.upL hs65 (DL.cons dj210 DL.nil)
          replace vj := vj.upL hs65 (DL.cons dj222.symm DL.nil)
          replace hm0 := hm0.trL hs65 (MIL.cons (MI.app MI.z (nx209) (Nat.le_refl _)) MIL.nil)
          replace hlm2 := hlm2.trL hs65 (MIL.cons (MI.app MI.z (nx211) (Nat.le_refl _)) MIL.nil)
          have hz30 := hs65.size
          have hle_op := op.le
          refine LR.v (Y.assign rfl rfl) (Wd.u rfl) rfl rfl ?_
          refine LR.nil ?_
          refine hK25 _ _ ?_
          have hdn2 : (dn ++ [x]).Nodup ∧ ∀ k ∈ dn ++ [x], k ∈ bb.map (·.1) := by
            refine ⟨?_, fun k hk => ?_⟩
            · rw [List.nodup_append]
              exact ⟨hdn.1, by simp, fun a ha b hb e => by simp only [List.mem_singleton] at hb; subst hb; subst e; exact hnd ha⟩
            · rcases List.mem_append.1 hk with hk | hk
              · exact hdn.2 k hk
              · rw [List.mem_singleton.1 hk]; exact List.mem_map.2 ⟨_, hxy, rfl⟩
          have hdl2 := nodup_le hdn2.1 hdn2.2
          rw [List.length_append, List.length_map, List.length_singleton] at hdl2
          refine QN.sub (hN22 (dn ++ [x], v65, k65, pr ++ cpa So.pa (m.map (·.1)) x) _ ?_ ?_) ⟨rfl, rfl, rfl, rfl, trivial⟩
          · exact ⟨it2, op, fun p => by
              rw [List.mem_append, hpr]
              constructor
              · rintro (⟨k, h1, h2⟩ | h)
                · exact ⟨k, List.mem_append_left _ h1, h2⟩
                · exact ⟨x, by simp, h⟩
              · rintro ⟨k, h1, h2⟩
                rcases List.mem_append.1 h1 with h1 | h1
                · exact .inl ⟨k, h1, h2⟩
                · rw [List.mem_singleton.1 h1] at h2; exact .inr h2, by rw [List.length_append, List.length_append, List.length_singleton, Nat.add_mul]; omega, hdn2, nx237, dj234, hlm2⟩
          · simp <;> omega
        ·
          obtain ⟨hall, hdq⟩ := hF57 c58
          have hdb : ∀ k, k ∈ dn ↔ k ∈ bb.map (·.1) := fun k => ⟨hdn.2 k, fun h => by obtain ⟨p, hp, rfl⟩ := List.mem_map.1 h; exact hall p hp⟩
          have hprK : ∀ p ∈ pr, p ∈ m.map (·.1) := fun p hp => by obtain ⟨k, _, h2⟩ := (hpr p).1 hp; exact hco.clo k p h2
          refine CW.exit (hE24 (.exit 2) nofun _ _ (hE22 (.exit 2) nofun _ _ (hX21 _ _ ?_)))
          refine hK19 _ _ ?_
          refine CW.seq (fun K27 hK27 hE27 => ?_)
          refine CW.seq (fun K28 hK28 hE28 => ?_)
          refine CW.region ?_
          refine LR.v (Y.move rfl rfl) (Wd.u rfl) rfl rfl ?_
          refine LR.v (Y.move rfl rfl) (Wd.u rfl) rfl rfl ?_
          have hpl5 : pr.length ≤ 5000 * 1000 := by omega
          -- call (selvage/graph.commits).above
          refine LR.call rfl Try.call28 rfl (Wd.u rfl) rfl rfl (above_ct _ _ _ _ _ pr w0 _ hc (bf_hc.mono (by omega)) hco op.rd.any hprK (by omega)) (fun v68 H68 r68 => ?_)
          obtain ⟨a3, m3, rfl, h3, hk_h3, hU3, hs68⟩ := r68
          have dj238 : Dj (sb + 1) (a3 + 1) := Dj.app (Dj.z) hv.lt hk_h3
          have df239 := DF.app (DF.z) (bf_hsr.mono hm0.size) hk_h3
          have dj240 : Dj (H5.size + 1) (a3 + 1) := Dj.app (Dj.z) ow23.le hk_h3
          have dj241 : Dj (H23.size + 1) (a3 + 1) := Dj.app (Dj.z) ow24.le hk_h3
          have df242 := DF.app (DF.z) (bf_hc.mono (by omega)) hk_h3
          have dj243 : Dj ((a1 + 1)) (a3 + 1) := Dj.app (Dj.z) h1.le hk_h3
          have dj244 : Dj ((a2 + 1)) (a3 + 1) := Dj.app (Dj.z) h2.le hk_h3
          have dj245 : Dj (Hcutr4.size + 1) (a3 + 1) := Dj.app (Dj.z) hb.lt hk_h3
          have dj246 : Dj (H39.size + 1) (a3 + 1) := Dj.app (Dj.z) it.lt hk_h3
          have dj247 : Dj (H42.size + 1) (a3 + 1) := Dj.app (Dj.z) it2.lt hk_h3
          have dj248 : Dj kp (a3 + 1) := Dj.app (Dj.z) op.le hk_h3
          have nx249 : Nx 0 H0.size (a3 + 1) := Nx.tr (Nx.refl 0 _) hk_h3 hm0.size
          replace hv := hv.nw hs68
          replace hsr := hsr.nw hs68
          replace ow23 := ow23.nw hs68
          replace ow24 := ow24.nw hs68
          replace hc := hc.nw hs68
          replace h1 := h1.nw hs68
          replace h2 := h2.nw hs68
          replace hb := hb.nw hs68
          replace it := it.nw hs68
          replace it2 := it2.nw hs68
          replace op := op.nw hs68
          replace hm0 := hm0.trN hs68
          have hz31 := hs68.size
          have hle_h3 := h3.le
          obtain ⟨es3, ck3, h3⟩ := h3.raw
          refine LR.z (Z.rangeA h3 rfl Try.runUnderlying72 rfl) (Wd.u rfl) rfl rfl (fun v69 H69 r69 => ?_)
          obtain ⟨rfl, it3, hs69, ob69, hH69⟩ := r69
          have hzs69 : H69.size = H68.size + 1 := by rw [hH69]; simp
          have dj250 : Dj (sb + 1) (H68.size + 1) := Dj.new hv.lt
          have df251 := (DF.new (bf_hsr.mono hm0.size) : DF _ (H68.size + 1))
          have dj252 : Dj (H5.size + 1) (H68.size + 1) := Dj.new ow23.le
          have dj253 : Dj (H23.size + 1) (H68.size + 1) := Dj.new ow24.le
          have df254 := (DF.new (bf_hc.mono (by omega)) : DF _ (H68.size + 1))
          have dj255 : Dj ((a1 + 1)) (H68.size + 1) := Dj.new h1.le
          have dj256 : Dj ((a2 + 1)) (H68.size + 1) := Dj.new h2.le
          have dj257 : Dj (Hcutr4.size + 1) (H68.size + 1) := Dj.new hb.lt
          have dj258 : Dj (H39.size + 1) (H68.size + 1) := Dj.new it.lt
          have dj259 : Dj (H42.size + 1) (H68.size + 1) := Dj.new it2.lt
          have dj260 : Dj kp (H68.size + 1) := Dj.new op.le
          have dj261 : Dj (a3 + 1) (H68.size + 1) := Dj.new h3.le
          have nx262 : Nx 0 H0.size (H68.size + 1) := Nx.new hm0.size
          replace hv := hv.nw hs69
          replace hsr := hsr.nw hs69
          replace ow23 := ow23.nw hs69
          replace ow24 := ow24.nw hs69
          replace hc := hc.nw hs69
          replace h1 := h1.nw hs69
          replace h2 := h2.nw hs69
          replace hb := hb.nw hs69
          replace it := it.nw hs69
          replace it2 := it2.nw hs69
          replace op := op.nw hs69
          replace h3 := h3.nw hs69
          replace hm0 := hm0.trN hs69
          have hz32 := hs69.size
          have hlt_it3 := it3.lt
          refine LR.nil ?_
          refine hK28 _ _ ?_
          refine CW.block (fun K29 hK29 hX29 hE29 => ?_)
          refine CW.loop (fun (s_ : (List Ide) × (List (Ide × Int))) => match s_ with | (dn, b3) => [(12, .map (some Hcutr4.size)), (69, .pointer (some ⟨H68.size, 0, none⟩))])
            (fun (s_ : (List Ide) × (List (Ide × Int))) (H : Heap) => match s_ with | (dn, b3) => (Itr H H68.size a3 vA es3 ck3 dn) ∧ (Mp H vA (Value.int .i64) Hcutr4.size b3) ∧ (∀ k, (mget b3 k).isSome = true ↔ (mget bb k).isSome = true ∧ k ∉ dn) ∧ (dn.Nodup ∧ ∀ k ∈ dn, k ∈ m3.map (·.1)) ∧ Mo (Ms [(H68.size + 1), (Hcutr4.size + 1)]) H69 H)
            (fun (s_ : (List Ide) × (List (Ide × Int))) => match s_ with | (dn, b3) => m3.length - dn.length) ([], bb) ⟨rfl, rfl, trivial⟩ ?_ ?_
          ·
            exact ⟨it3, hb.mp, fun k => by simp, ⟨List.nodup_nil, by simp⟩, Mo.refl _ _⟩
          rintro ⟨dn, b3⟩ HL3 hI3 K30 hN30 hE30
          obtain ⟨it3, hb, hD3, hdn, hlm3⟩ := hI3
          replace hv := hv.upL hlm3 (DL.cons dj250 (DL.cons dj160 DL.nil))
          replace hsr := hsr.upL hlm3 (DFL.cons df251 (DFL.cons df161 DFL.nil))
          replace ow23 := ow23.upL hlm3 (DL.cons dj252 (DL.cons dj164 DL.nil))
          replace ow24 := ow24.upL hlm3 (DL.cons dj253 (DL.cons dj165 DL.nil))
          replace hc := hc.upL hlm3 (DFL.cons df254 (DFL.cons df166 DFL.nil))
          replace h1 := h1.upL hlm3 (DL.cons dj255 (DL.cons dj167 DL.nil))
          replace h2 := h2.upL hlm3 (DL.cons dj256 (DL.cons dj168 DL.nil))
          replace it := it.upL hlm3 (DL.cons dj258 (DL.cons dj177.symm DL.nil))
          replace it2 := it2.upL hlm3 (DL.cons dj259 (DL.cons dj197.symm DL.nil))
          replace op := op.upL hlm3 (DL.cons dj260 (DL.cons dj207.symm DL.nil))
          replace h3 := h3.upL hlm3 (DL.cons dj261 (DL.cons dj245.symm DL.nil))
          replace hm0 := hm0.trL hlm3 (MIL.cons (MI.app MI.z (nx262) (Nat.le_refl _)) (MIL.cons (MI.app MI.z (nx169) (Nat.le_refl _)) MIL.nil))
          have hz33 := hlm3.size
          have nx_hlm3_it3 := Nx.refl (H68.size + 1) H69.size
          have nx_hlm3_hb := Nx.refl (Hcutr4.size + 1) H69.size
          have hdl := nodup_le hdn.1 hdn.2
          rw [List.length_map] at hdl
          refine CW.seq (fun K31 hK31 hE31 => ?_)
          refine CW.region ?_
          refine LR.z (Z.nextA it3 h3 keyId.inj rfl rfl) (Wd.u rfl) rfl rfl (fun v70 H70 r70 => ?_)
          obtain ⟨qb, x, y, dn4, rfl, it3, hT70, hF70, hs70⟩ := r70
          replace hs70 := hs70.md1
          replace hv := hv.upL hs70 (DL.cons dj250 DL.nil)
          replace hsr := hsr.upL hs70 (DFL.cons df251 DFL.nil)
          replace ow23 := ow23.upL hs70 (DL.cons dj252 DL.nil)
          replace ow24 := ow24.upL hs70 (DL.cons dj253 DL.nil)
          replace hc := hc.upL hs70 (DFL.cons df254 DFL.nil)
          replace h1 := h1.upL hs70 (DL.cons dj255 DL.nil)
          replace h2 := h2.upL hs70 (DL.cons dj256 DL.nil)
          replace hb := hb.upL hs70 (DL.cons dj257 DL.nil)
          replace it := it.upL hs70 (DL.cons dj258 DL.nil)
          replace it2 := it2.upL hs70 (DL.cons dj259 DL.nil)
          replace op := op.upL hs70 (DL.cons dj260 DL.nil)
          replace h3 := h3.upL hs70 (DL.cons dj261 DL.nil)
          replace hm0 := hm0.trL hs70 (MIL.cons (MI.app MI.z (nx262) (Nat.le_refl _)) MIL.nil)
          replace hlm3 := hlm3.trL hs70 (MIL.cons (MI.app (MI.root (by simp)) (nx_hlm3_it3) (Nat.le_refl _)) MIL.nil)
          have hz34 := hs70.size
          refine LR.v (Y.ext0 rfl rfl) (Wd.u rfl) rfl rfl ?_
          refine LR.nil ?_
          refine hK31 _ _ ?_
          refine CW.seq (fun K32 hK32 hE32 => ?_)
          refine CW.cond rfl (fun c71 => ?_) (fun c71 => ?_)
          ·
            obtain ⟨hxy, hnd, hdq⟩ := hT70 c71
            rw [hdq] at it3
            refine CW.skip ?_
            refine hK32 _ _ ?_
            refine CW.block (fun K33 hK33 hX33 hE33 => ?_)
            refine CW.seq (fun K34 hK34 hE34 => ?_)
            refine CW.region ?_
            refine LR.v (Y.entryA it3 h3 keyId.inj hxy rfl rfl) (Wd.u rfl) rfl rfl ?_
            refine LR.v (Y.extract rfl rfl rfl) (Wd.u rfl) rfl rfl ?_
            refine LR.z (Z.allocv rfl Try.zeroValue30) (Wd.u rfl) rfl rfl (fun v18 H18 r18 => ?_)
            obtain ⟨rfl, vk, hs18, ob18, hH18⟩ := r18
            have hzs18 : H18.size = H70.size + 1 := by rw [hH18]; simp
            have dj263 : Dj (sb + 1) (H70.size + 1) := Dj.new hv.lt
            have df264 := (DF.new (bf_hsr.mono hm0.size) : DF _ (H70.size + 1))
            have dj265 : Dj (H5.size + 1) (H70.size + 1) := Dj.new ow23.le
            have dj266 : Dj (H23.size + 1) (H70.size + 1) := Dj.new ow24.le
            have df267 := (DF.new (bf_hc.mono (by omega)) : DF _ (H70.size + 1))
            have dj268 : Dj ((a1 + 1)) (H70.size + 1) := Dj.new h1.le
            have dj269 : Dj ((a2 + 1)) (H70.size + 1) := Dj.new h2.le
            have dj270 : Dj (Hcutr4.size + 1) (H70.size + 1) := Dj.new hb.lt
            have dj271 : Dj (H39.size + 1) (H70.size + 1) := Dj.new it.lt
            have dj272 : Dj (H42.size + 1) (H70.size + 1) := Dj.new it2.lt
            have dj273 : Dj kp (H70.size + 1) := Dj.new op.le
            have dj274 : Dj (a3 + 1) (H70.size + 1) := Dj.new h3.le
            have dj275 : Dj (H68.size + 1) (H70.size + 1) := Dj.new it3.lt
            have nx276 : Nx 0 H0.size (H70.size + 1) := Nx.new hm0.size
            have nx277 : Nx 0 H69.size (H70.size + 1) := Nx.new hlm3.size
            replace hv := hv.nw hs18
            replace hsr := hsr.nw hs18
            replace ow23 := ow23.nw hs18
            replace ow24 := ow24.nw hs18
            replace hc := hc.nw hs18
            replace h1 := h1.nw hs18
            replace h2 := h2.nw hs18
            replace hb := hb.nw hs18
            replace it := it.nw hs18
            replace it2 := it2.nw hs18
            replace op := op.nw hs18
            replace h3 := h3.nw hs18
            replace it3 := it3.nw hs18
            replace hm0 := hm0.trN hs18
            replace hlm3 := hlm3.trN hs18
            have hz35 := hs18.size
            replace vk : Var 30 H18 H70.size (fA Zid) := vk
            refine LR.s (S.var vk (_) (fA (x)) rfl rfl rfl rfl (fA_one _) Try.sizeOf30 (fA_len _) (by first | decide | simp [fA_len]) ((splice_all2 (by first | exact (fA_len _).symm | rfl | exact (fA_len _).trans (fA_len _).symm)))) (Wd.u rfl) rfl (fun H19_3 r19_3 => ?_)
            obtain ⟨vk, hs19_3⟩ := r19_3
            replace hs19_3 := hs19_3.md1
            replace hv := hv.upL hs19_3 (DL.cons dj263 DL.nil)
            replace hsr := hsr.upL hs19_3 (DFL.cons df264 DFL.nil)
            replace ow23 := ow23.upL hs19_3 (DL.cons dj265 DL.nil)
            replace ow24 := ow24.upL hs19_3 (DL.cons dj266 DL.nil)
            replace hc := hc.upL hs19_3 (DFL.cons df267 DFL.nil)
            replace h1 := h1.upL hs19_3 (DL.cons dj268 DL.nil)
            replace h2 := h2.upL hs19_3 (DL.cons dj269 DL.nil)
            replace hb := hb.upL hs19_3 (DL.cons dj270 DL.nil)
            replace it := it.upL hs19_3 (DL.cons dj271 DL.nil)
            replace it2 := it2.upL hs19_3 (DL.cons dj272 DL.nil)
            replace op := op.upL hs19_3 (DL.cons dj273 DL.nil)
            replace h3 := h3.upL hs19_3 (DL.cons dj274 DL.nil)
            replace it3 := it3.upL hs19_3 (DL.cons dj275 DL.nil)
            replace hm0 := hm0.trL hs19_3 (MIL.cons (MI.app MI.z (nx276) (Nat.le_refl _)) MIL.nil)
            replace hlm3 := hlm3.trL hs19_3 (MIL.cons (MI.app MI.z (nx277) (Nat.le_refl _)) MIL.nil)
            have hz36 := hs19_3.size
            refine LR.nil ?_
            refine hK34 _ _ ?_
            refine CW.region ?_
            refine LR.v (Y.move rfl rfl) (Wd.u rfl) rfl rfl ?_
            refine LR.v (Y.loadN vk.pt rfl Try.isAgg30 Try.sizeOf30 (fA_len _) rfl) (Wd.u rfl) rfl rfl ?_
            refine LR.zn (Z.delA hb keyId rfl Try.runUnderlying72 rfl rfl) (Wd.u rfl) rfl (fun v20_2 H20_2 r20_2 => ?_)
            obtain ⟨rfl, hb, hs20_2⟩ := r20_2
            replace hs20_2 := hs20_2.md1
            replace hv := hv.upL hs20_2 (DL.cons dj160 DL.nil)
            replace hsr := hsr.upL hs20_2 (DFL.cons df161 DFL.nil)
            replace ow23 := ow23.upL hs20_2 (DL.cons dj164 DL.nil)
            replace ow24 := ow24.upL hs20_2 (DL.cons dj165 DL.nil)
            replace hc := hc.upL hs20_2 (DFL.cons df166 DFL.nil)
            replace h1 := h1.upL hs20_2 (DL.cons dj167 DL.nil)
            replace h2 := h2.upL hs20_2 (DL.cons dj168 DL.nil)
            replace it := it.upL hs20_2 (DL.cons dj177.symm DL.nil)
            replace it2 := it2.upL hs20_2 (DL.cons dj197.symm DL.nil)
            replace op := op.upL hs20_2 (DL.cons dj207.symm DL.nil)
            replace h3 := h3.upL hs20_2 (DL.cons dj245.symm DL.nil)
            replace it3 := it3.upL hs20_2 (DL.cons dj257.symm DL.nil)
            replace vk := vk.upL hs20_2 (DL.cons dj270.symm DL.nil)
            replace hm0 := hm0.trL hs20_2 (MIL.cons (MI.app MI.z (nx169) (Nat.le_refl _)) MIL.nil)
            replace hlm3 := hlm3.trL hs20_2 (MIL.cons (MI.app (MI.root (by simp)) (nx_hlm3_hb) (Nat.le_refl _)) MIL.nil)
            have hz37 := hs20_2.size
            refine LR.nil ?_
            refine hK33 _ _ ?_
            have hdn2 : (dn ++ [x]).Nodup ∧ ∀ k ∈ dn ++ [x], k ∈ m3.map (·.1) := by
              refine ⟨?_, fun k hk => ?_⟩
              · rw [List.nodup_append]
                exact ⟨hdn.1, by simp, fun a ha b hb e => by simp only [List.mem_singleton] at hb; subst hb; subst e; exact hnd ha⟩
              · rcases List.mem_append.1 hk with hk | hk
                · exact hdn.2 k hk
                · rw [List.mem_singleton.1 hk]; exact List.mem_map.2 ⟨_, hxy, rfl⟩
            have hdl2 := nodup_le hdn2.1 hdn2.2
            rw [List.length_append, List.length_map, List.length_singleton] at hdl2
            refine QN.sub (hN30 (dn ++ [x], mdel b3 x) _ ?_ ?_) ⟨rfl, rfl, trivial⟩
            · exact ⟨it3, hb, fun k => by
                rw [mget_del]
                by_cases h1 : k = x
                · subst h1; simp
                · rw [if_neg h1, hD3 k]; simp [h1], hdn2, hlm3⟩
            · simp <;> omega
          ·
            obtain ⟨hall, hdq⟩ := hF70 c71
            have hd3 : ∀ k, k ∈ dn ↔ k ∈ m3.map (·.1) := fun k => ⟨hdn.2 k, fun h => by obtain ⟨p, hp, rfl⟩ := List.mem_map.1 h; exact hall p hp⟩
            have hbest : ∀ k, k ∈ b3.map (·.1) ↔ Best So.pa a b k := fun k => by
              rw [← isSome_iff_key, hD3 k, isSome_iff_key, hbb, hd3, hU3, best_iff hac]
              have e : (∃ i ∈ pr, Up (cpa So.pa (m.map (·.1))) i k) ↔ ∃ j, Com So.pa a b j ∧ ∃ ps p, So.pa j = some ps ∧ p ∈ ps ∧ UpO So.pa p k := by
                constructor
                · rintro ⟨p, hp, hu⟩
                  obtain ⟨j, hj, hpj⟩ := (hpr p).1 hp
                  have hjb := (hdb j).1 hj
                  exact ⟨j, (hbb j).1 hjb, _, p, cpa_in hA (hbK j hjb), hpj, (up_iff hA (hprK p hp)).1 hu⟩
                · rintro ⟨j, hj, ps, p, hq, hp, hu⟩
                  have hjb := (hbb j).2 hj
                  have h9 := cpa_in hA (hbK j hjb)
                  rw [hq] at h9
                  cases h9
                  have hpp := (hpr p).2 ⟨j, (hdb j).2 hjb, hp⟩
                  exact ⟨p, hpp, (up_iff hA (hprK p hpp)).2 hu⟩
              rw [e]
            have hb35 := nodup_le hb.mo.nodup (fun k hk => hbK k ((hbb k).2 ((hbest k).1 hk).1))
            rw [List.length_map, List.length_map] at hb35
            refine CW.exit (hE32 (.exit 4) nofun _ _ (hE30 (.exit 4) nofun _ _ (hX29 _ _ ?_)))
            refine hK27 _ _ ?_
            refine CW.seq (fun K35 hK35 hE35 => ?_)
            refine CW.seq (fun K36 hK36 hE36 => ?_)
            refine CW.region ?_
            refine LR.v (Y.move rfl rfl) (Wd.u rfl) rfl rfl ?_
            refine LR.v (Y.mlen hb.mo rfl Try.runUnderlying72 rfl) (Wd.u rfl) rfl rfl ?_
            refine LR.v (Y.gtr rfl rfl rfl) (Wd.u rfl) rfl rfl ?_
            refine LR.nil ?_
            refine hK36 _ _ ?_
            refine CW.condp rfl (fun c78 => ?_) (fun c78 => ?_)
            ·
              refine CW.seq (fun K37 hK37 hE37 => ?_)
              refine CW.region ?_
              refine LR.v (Y.mki rfl Try.runUnderlying76 (by intro ms h; cases h) rfl) (Wd.u rfl) rfl rfl ?_
              refine LR.v (Y.assign rfl rfl) (Wd.u rfl) rfl rfl ?_
              refine LR.v (Y.assign rfl rfl) (Wd.u rfl) rfl rfl ?_
              refine LR.nil ?_
              refine hK37 _ _ ?_
              refine CW.ret (hE35 .ret nofun _ _ (hret .ret (.inr rfl) _ _ _ (res2 rfl rfl rfl) ?_))
              exact ⟨⟨none, 0, 0⟩, 0, [], 4, q, rfl, Ow.nil fA_len fA_one, Nx.refl _ _, hv, .inr (.inl ⟨rfl, rfl, ⟨_, hA⟩, _, hb.mo.nodup, by rw [List.length_map]; omega, hbest⟩), by omega, hm0⟩
            ·
              refine CW.skip ?_
              refine hK35 _ _ ?_
              refine CW.seq (fun K38 hK38 hE38 => ?_)
              refine CW.region ?_
              refine LR.v (Y.move rfl rfl) (Wd.u rfl) rfl rfl ?_
              -- call maps.Keys[map[selvage/api.Id]int,selvage/api.Id,int]
              refine LR.call rfl Try.call31 rfl (Wd.u rfl) rfl rfl (keys_ct _ w0 _) (fun v81 H81 r81 => ?_)
              obtain ⟨bx, rfl, hx, hkx, hs81⟩ := r81
              have dj278 : Dj (sb + 1) (bx + 1) := Dj.app (Dj.z) hv.lt hkx
              have df279 := DF.app (DF.z) (bf_hsr.mono hm0.size) hkx
              have dj280 : Dj (H5.size + 1) (bx + 1) := Dj.app (Dj.z) ow23.le hkx
              have dj281 : Dj (H23.size + 1) (bx + 1) := Dj.app (Dj.z) ow24.le hkx
              have df282 := DF.app (DF.z) (bf_hc.mono (by omega)) hkx
              have dj283 : Dj ((a1 + 1)) (bx + 1) := Dj.app (Dj.z) h1.le hkx
              have dj284 : Dj ((a2 + 1)) (bx + 1) := Dj.app (Dj.z) h2.le hkx
              have dj285 : Dj (Hcutr4.size + 1) (bx + 1) := Dj.app (Dj.z) hb.lt hkx
              have dj286 : Dj (H39.size + 1) (bx + 1) := Dj.app (Dj.z) it.lt hkx
              have dj287 : Dj (H42.size + 1) (bx + 1) := Dj.app (Dj.z) it2.lt hkx
              have dj288 : Dj kp (bx + 1) := Dj.app (Dj.z) op.le hkx
              have dj289 : Dj (a3 + 1) (bx + 1) := Dj.app (Dj.z) h3.le hkx
              have dj290 : Dj (H68.size + 1) (bx + 1) := Dj.app (Dj.z) it3.lt hkx
              have nx291 : Nx 0 H0.size (bx + 1) := Nx.tr (Nx.refl 0 _) hkx hm0.size
              replace hv := hv.nw hs81
              replace hsr := hsr.nw hs81
              replace ow23 := ow23.nw hs81
              replace ow24 := ow24.nw hs81
              replace hc := hc.nw hs81
              replace h1 := h1.nw hs81
              replace h2 := h2.nw hs81
              replace hb := hb.nw hs81
              replace it := it.nw hs81
              replace it2 := it2.nw hs81
              replace op := op.nw hs81
              replace h3 := h3.nw hs81
              replace it3 := it3.nw hs81
              replace hm0 := hm0.trN hs81
              have hz38 := hs81.size
              have hle_hx := hx.le
              -- call slices.SortedFunc[selvage/api.Id]
              refine LR.call rfl Try.call30 rfl (Wd.u rfl) rfl rfl (sorted_ct bx _ b3 w0 _ hx hb (by omega)) (fun v82 H82 r82 => ?_)
              obtain ⟨s82, k82, out, rfl, oo, hk82, hout, hs82⟩ := r82
              have dj292 : Dj (sb + 1) k82 := Dj.app (Dj.z) hv.lt hk82
              have df293 := DF.app (DF.z) (bf_hsr.mono hm0.size) hk82
              have dj294 : Dj (H5.size + 1) k82 := Dj.app (Dj.z) ow23.le hk82
              have dj295 : Dj (H23.size + 1) k82 := Dj.app (Dj.z) ow24.le hk82
              have df296 := DF.app (DF.z) (bf_hc.mono (by omega)) hk82
              have dj297 : Dj ((a1 + 1)) k82 := Dj.app (Dj.z) h1.le hk82
              have dj298 : Dj ((a2 + 1)) k82 := Dj.app (Dj.z) h2.le hk82
              have dj299 : Dj (Hcutr4.size + 1) k82 := Dj.app (Dj.z) hb.lt hk82
              have dj300 : Dj (H39.size + 1) k82 := Dj.app (Dj.z) it.lt hk82
              have dj301 : Dj (H42.size + 1) k82 := Dj.app (Dj.z) it2.lt hk82
              have dj302 : Dj kp k82 := Dj.app (Dj.z) op.le hk82
              have dj303 : Dj (a3 + 1) k82 := Dj.app (Dj.z) h3.le hk82
              have dj304 : Dj (H68.size + 1) k82 := Dj.app (Dj.z) it3.lt hk82
              have dj305 : Dj (bx + 1) k82 := Dj.app (Dj.z) hx.le hk82
              have nx306 : Nx 0 H0.size k82 := Nx.tr (Nx.refl 0 _) hk82 hm0.size
              replace hv := hv.nw hs82
              replace hsr := hsr.nw hs82
              replace ow23 := ow23.nw hs82
              replace ow24 := ow24.nw hs82
              replace hc := hc.nw hs82
              replace h1 := h1.nw hs82
              replace h2 := h2.nw hs82
              replace hb := hb.nw hs82
              replace it := it.nw hs82
              replace it2 := it2.nw hs82
              replace op := op.nw hs82
              replace h3 := h3.nw hs82
              replace it3 := it3.nw hs82
              replace hx := hx.nw hs82
              replace hm0 := hm0.trN hs82
              have hz39 := hs82.size
              have hle_oo := oo.le
              refine LR.v (Y.assign rfl rfl) (Wd.u rfl) rfl rfl ?_
              refine LR.v (Y.assign rfl rfl) (Wd.u rfl) rfl rfl ?_
              refine LR.nil ?_
              refine hK38 _ _ ?_
              refine CW.ret (hret .ret (.inr rfl) _ _ _ (res2 rfl rfl rfl) ?_)
              have hol := nodup_le (ris_nodup hout.1) (fun k hk => (hout.2 k).1 hk)
              rw [List.length_map] at hol
              exact ⟨s82, k82, out, 0, q, rfl, oo, nx306, hv, .inl ⟨rfl, ⟨_, hA⟩, hout.1, by omega, fun k => by rw [hout.2, hbest]⟩, by omega, hm0⟩

end Go.Proofs.Ytepdhokpfecdnaa.GraM
