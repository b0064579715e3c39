/-
  Contracts of functions of the program, and plain laws: put together of several texts.
-/
import Derived.Test.YtepdhokpfecdnaaGc
import Derived.Test.YtepdhokpfecdnaaGa
/-
  The common ancestors that stand above no other one.
-/
namespace Go.Proofs.Ytepdhokpfecdnaa.GraM
open Go.Proofs.Ytepdhokpfecdnaa.E Go.RowKit Go.Proofs.Ytepdhokpfecdnaa.GraA Go.Proofs.Ytepdhokpfecdnaa.GraB Go.Proofs.Ytepdhokpfecdnaa.GraC Go.Proofs.Ytepdhokpfecdnaa.GraD Go.Proofs.Ytepdhokpfecdnaa.GraE Go.Proofs.Ytepdhokpfecdnaa.GraF Go.Proofs.Ytepdhokpfecdnaa.GraG Go.Proofs.Ytepdhokpfecdnaa.GraH Go.Proofs.Ytepdhokpfecdnaa.GraI Go.Proofs.Ytepdhokpfecdnaa.GraJ Go.Proofs.Ytepdhokpfecdnaa.GraK Go.Proofs.Ytepdhokpfecdnaa.GraL
set_option maxRecDepth 20000
set_option linter.unusedVariables false
set_option linter.unusedSimpArgs false
set_option linter.unusedSectionVars false
set_option maxRecDepth 100000 in
theorem inf28 : Inf Try.prog 28 30 32 32 := ⟨Try.underlying28, _, _, rfl, rfl, rfl, rfl, rfl⟩
set_option maxRecDepth 100000 in
theorem inf92 : Inf Try.prog 92 28 1 24 := ⟨Try.underlying92, _, _, rfl, rfl, rfl, rfl, rfl⟩
theorem collect_ct (bx mb : Nat) (mm : List (Ide × Int)) (w0 : World) (H0 : Heap)
    (hx : Var 72 H0 bx [.map (some mb)]) (hso : Mp H0 vA (Value.int .i64) mb mm) (hmm : mm.length ≤ 5000) :
    Ct Try.prog w0 41 #[.func (.func 42) #[] #[.pointer (some ⟨bx, 0, none⟩)]] H0 (fun r H2 => ∃ s : SV, ∃ k : Nat, ∃ out : List Ide, r = s.v ∧ (Ow k 30 H2 fA 32 s.v out) ∧ (Nx 0 H0.size k) ∧ (out.Nodup ∧ ∀ k, k ∈ out ↔ k ∈ mm.map (·.1)) ∧ Nw H0 H2) := by
  refine Ct.enter (args := [.func (.func 42) #[] #[.pointer (some ⟨bx, 0, none⟩)]]) Try.func41 rfl rfl rfl ?_
  intro Q0 hret
  have hm0 : Nw H0 H0 := Mo.refl _ _
  have nx_hm0_hx := Nx.refl (bx + 1) H0.size
  have hlt_hx := hx.lt
  have nx_hm0_hso := Nx.refl (mb + 1) H0.size
  have hlt_hso := hso.lt
  refine CW.seq (fun K1 hK1 hE1 => ?_)
  refine CW.region ?_
  refine LR.v (Y.assign rfl rfl) (Wd.u rfl) rfl rfl ?_
  refine LR.nil ?_
  refine hK1 _ _ ?_
  refine CW.seq (fun K2 hK2 hE2 => ?_)
  refine CW.region ?_
  refine LR.v (Y.move rfl rfl) (Wd.u rfl) rfl rfl ?_
  -- call slices.AppendSeq[[]selvage/api.Id,selvage/api.Id]
  refine LR.call rfl Try.call51 rfl (Wd.u rfl) rfl rfl (append_ct bx mb mm w0 _ hx hso hmm) (fun v4 H4 r4 => ?_)
  obtain ⟨s4, k4, out4, rfl, ow4, hk4, hout4, hs4⟩ := r4
  have dj1 : Dj (bx + 1) k4 := Dj.app (Dj.z) hx.lt hk4
  have dj2 : Dj (mb + 1) k4 := Dj.app (Dj.z) hso.lt hk4
  have nx3 : Nx 0 H0.size k4 := Nx.tr (Nx.refl 0 _) hk4 hm0.size
  replace hx := hx.nw hs4
  replace hso := hso.nw hs4
  replace hm0 := hm0.tr hs4
  have hz1 := hs4.size
  have hle_ow4 := ow4.le
  refine LR.v (Y.assign rfl rfl) (Wd.u rfl) rfl rfl ?_
  refine LR.nil ?_
  refine hK2 _ _ ?_
  refine CW.ret (hret .ret (.inr rfl) _ _ _ (res1 rfl rfl) ?_)
  exact ⟨s4, k4, out4, rfl, ow4, nx3, hout4, hm0⟩

theorem keys_ct (mb : Nat) (w0 : World) (H0 : Heap)
     :
    Ct Try.prog w0 31 #[.map (some mb)] H0 (fun r H2 => ∃ bx : Nat, r = .func (.func 42) #[] #[.pointer (some ⟨bx, 0, none⟩)] ∧ (Var 72 H2 bx [.map (some mb)]) ∧ (Nx 0 H0.size (bx + 1)) ∧ Nw H0 H2) := by
  refine Ct.enter (args := [.map (some mb)]) Try.func31 rfl rfl rfl ?_
  intro Q0 hret
  have hm0 : Nw H0 H0 := Mo.refl _ _
  refine CW.seq (fun K1 hK1 hE1 => ?_)
  refine CW.region ?_
  refine LR.z (Z.boxv1 rfl rfl (rfl)) (Wd.u rfl) rfl rfl (fun v1 H1 r1 => ?_)
  obtain ⟨rfl, hx, hs1, ob1, hH1⟩ := r1
  have hzs1 : H1.size = H0.size + 1 := by rw [hH1]; simp
  have nx1 : Nx 0 H0.size (H0.size + 1) := Nx.new hm0.size
  replace hm0 := hm0.tr hs1
  have hz1 := hs1.size
  replace hx : Var 72 H1 H0.size ([.map (some mb)]) := hx
  refine LR.v (Y.assign rfl rfl) (Wd.u rfl) rfl rfl ?_
  refine LR.nil ?_
  refine hK1 _ _ ?_
  refine CW.seq (fun K2 hK2 hE2 => ?_)
  refine CW.region ?_
  refine LR.v (Y.makeFunc rfl rfl) (Wd.u rfl) rfl rfl ?_
  refine LR.v (Y.assign rfl rfl) (Wd.u rfl) rfl rfl ?_
  refine LR.nil ?_
  refine hK2 _ _ ?_
  refine CW.ret (hret .ret (.inr rfl) _ _ _ (res1 rfl rfl) ?_)
  exact ⟨H0.size, rfl, hx, .inr (.inr (by omega)), hm0⟩

theorem sorted_ct (bx mb : Nat) (mm : List (Ide × Int)) (w0 : World) (H0 : Heap)
    (hx : Var 72 H0 bx [.map (some mb)]) (hso : Mp H0 vA (Value.int .i64) mb mm) (hmm : mm.length ≤ 5000) :
    Ct Try.prog w0 30 #[.func (.func 42) #[] #[.pointer (some ⟨bx, 0, none⟩)], .func (.func 32) #[] #[]] H0 (fun r H2 => ∃ s : SV, ∃ k : Nat, ∃ out : List Ide, r = s.v ∧ (Ow k 30 H2 fA 32 s.v out) ∧ (Nx 0 H0.size k) ∧ (Ris out ∧ ∀ k, k ∈ out ↔ k ∈ mm.map (·.1)) ∧ Nw H0 H2) := by
  refine Ct.enter (args := [.func (.func 42) #[] #[.pointer (some ⟨bx, 0, none⟩)], .func (.func 32) #[] #[]]) Try.func30 rfl rfl rfl ?_
  intro Q0 hret
  have hm0 : Nw H0 H0 := Mo.refl _ _
  have nx_hm0_hx := Nx.refl (bx + 1) H0.size
  have hlt_hx := hx.lt
  have nx_hm0_hso := Nx.refl (mb + 1) H0.size
  have hlt_hso := hso.lt
  refine CW.seq (fun K1 hK1 hE1 => ?_)
  refine CW.region ?_
  refine LR.v (Y.assign rfl rfl) (Wd.u rfl) rfl rfl ?_
  refine LR.nil ?_
  refine hK1 _ _ ?_
  refine CW.seq (fun K2 hK2 hE2 => ?_)
  refine CW.region ?_
  refine LR.v (Y.move rfl rfl) (Wd.u rfl) rfl rfl ?_
  -- call slices.Collect[selvage/api.Id]
  refine LR.call rfl Try.call41 rfl (Wd.u rfl) rfl rfl (collect_ct bx mb mm w0 _ hx hso hmm) (fun v7 H7 r7 => ?_)
  obtain ⟨s7, k7, out7, rfl, ow, hk7, hout7, hs7⟩ := r7
  have dj1 : Dj (bx + 1) k7 := Dj.app (Dj.z) hx.lt hk7
  have dj2 : Dj (mb + 1) k7 := Dj.app (Dj.z) hso.lt hk7
  have nx3 : Nx 0 H0.size k7 := Nx.tr (Nx.refl 0 _) hk7 hm0.size
  replace hx := hx.nw hs7
  replace hso := hso.nw hs7
  replace hm0 := hm0.tr hs7
  have hz1 := hs7.size
  have hle_ow := ow.le
  have hol := nodup_le hout7.1 (fun k hk => (hout7.2 k).1 hk)
  rw [List.length_map] at hol
  refine LR.v (Y.assign rfl rfl) (Wd.u rfl) rfl rfl ?_
  refine LR.nil ?_
  refine hK2 _ _ ?_
  refine CW.seq (fun K3 hK3 hE3 => ?_)
  refine CW.region ?_
  refine LR.v (Y.move rfl rfl) (Wd.u rfl) rfl rfl ?_
  refine LR.v (Y.move rfl rfl) (Wd.u rfl) rfl rfl ?_
  -- call slices.SortFunc[[]selvage/api.Id,selvage/api.Id]
  refine LR.call rfl Try.call38 rfl (Wd.u rfl) rfl rfl (sortA_ct k7 _ out7 w0 _ ow (by omega)) (fun v10 H10 r10 => ?_)
  have ql4 := hx.lt
  have ql5 := hso.lt
  have ql6 := ow.le
  obtain ⟨l2, k2, rfl, ow, hk10, hp10, hs10⟩ := r10
  have dj7 : Dj (bx + 1) k2 := Dj.app (dj1) ql4 hk10
  have dj8 : Dj (mb + 1) k2 := Dj.app (dj2) ql5 hk10
  have nx9 : Nx 0 H0.size k2 := Nx.tr (nx3) hk10 hm0.size
  replace hx := hx.upL hs10 (DL.cons dj1 DL.nil)
  replace hso := hso.upL hs10 (DL.cons dj2 DL.nil)
  replace hm0 := (Mo.trL (ks := []) (hm0.mdn []) hs10 (MIL.cons (MI.app MI.z (nx3) (Nat.le_refl _)) MIL.nil)).nil
  have hz2 := hs10.size
  have hle_ow := ow.le
  refine LR.nil ?_
  refine hK3 _ _ ?_
  refine CW.seq (fun K4 hK4 hE4 => ?_)
  refine CW.region ?_
  refine LR.v (Y.move rfl rfl) (Wd.u rfl) rfl rfl ?_
  refine LR.v (Y.assign rfl rfl) (Wd.u rfl) rfl rfl ?_
  refine LR.nil ?_
  refine hK4 _ _ ?_
  refine CW.ret (hret .ret (.inr rfl) _ _ _ (res1 rfl rfl) ?_)
  exact ⟨s7, k2, l2, rfl, ow, nx9, ⟨ris_of hout7.1 hp10.1 hp10.2, fun k => by rw [hp10.1.mem_iff, hout7.2]⟩, hm0⟩


/-- above both -/
def Com (pa : Ide → Option (List Ide)) (a b k : Ide) : Prop := UpO pa a k ∧ UpO pa b k
/-- above both, and above no other one that is -/
def Best (pa : Ide → Option (List Ide)) (a b k : Ide) : Prop := Com pa a b k ∧ ∀ j, Com pa a b j → UpO pa j k → j = k
def BsR (pa : Ide → Option (List Ide)) (a b : Ide) (out : List Ide) (e : Nat) : Prop :=
  (e = 0 ∧ (∃ K, AllR pa [a, b] K 0) ∧ Ris out ∧ out.length ≤ 16 ∧ ∀ k, k ∈ out ↔ Best pa a b k) ∨
  (e = 4 ∧ out = [] ∧ (∃ K, AllR pa [a, b] K 0) ∧ ∃ l : List Ide, l.Nodup ∧ 16 < l.length ∧ ∀ k, k ∈ l ↔ Best pa a b k) ∨
  (e ≠ 0 ∧ out = [] ∧ ∃ K, AllR pa [a, b] K e)
theorem upo_first {pa : Ide → Option (List Ide)} {j k : Ide} (h : UpO pa j k) : j = k ∨ ∃ ps p, pa j = some ps ∧ p ∈ ps ∧ UpO pa p k := by
  induction h with
  | refl => exact .inl rfl
  | @step i p ps _ hq hp ih =>
    rcases ih with e | ⟨ps2, p2, h1, h2, h3⟩
    · subst e; exact .inr ⟨ps, p, hq, hp, .refl⟩
    · exact .inr ⟨ps2, p2, h1, h2, h3.step hq hp⟩
theorem upo_rk {pa : Ide → Option (List Ide)} {rk : Ide → Nat} (hac : ∀ k ps, pa k = some ps → ∀ p ∈ ps, rk p < rk k) {j k : Ide} (h : UpO pa j k) : rk k ≤ rk j := by
  induction h with
  | refl => exact Nat.le_refl _
  | step _ hq hp ih => have := hac _ _ hq _ hp; omega
theorem best_iff {pa : Ide → Option (List Ide)} {rk : Ide → Nat} (hac : ∀ k ps, pa k = some ps → ∀ p ∈ ps, rk p < rk k) {a b k : Ide} : Best pa a b k ↔ Com pa a b k ∧ ¬ ∃ j, Com pa a b j ∧ ∃ ps p, pa j = some ps ∧ p ∈ ps ∧ UpO pa p k := by
  constructor
  · rintro ⟨h1, h2⟩
    refine ⟨h1, fun ⟨j, hj, ps, p, hq, hp, hu⟩ => ?_⟩
    have e := h2 j hj (UpO.trans (UpO.step .refl hq hp) hu)
    have h3 := hac j ps hq p hp
    have h4 := upo_rk hac hu
    rw [e] at h3; omega
  · rintro ⟨h1, h2⟩
    refine ⟨h1, fun j hj hu => ?_⟩
    rcases upo_first hu with e | ⟨ps, p, hq, hp, h3⟩
    · exact e
    · exact absurd ⟨j, hj, ps, p, hq, hp, h3⟩ h2

set_option maxHeartbeats 8000000 in
theorem bas_ct (So : Sou) (sb n : Nat) (F : Nat → Prop) (a b : Ide) (rk : Ide → Nat) (w0 : World) (H0 : Heap)
    (hv : Var So.e H0 sb (So.cs n)) (hsr : SRd F H0 So) (bf_hsr : BF F H0.size) (dfs : DF F (sb + 1)) (hok : So.ok) (hn : n ≤ 800000000) (hac : ∀ k ps, So.pa k = some ps → ∀ p ∈ ps, rk p < rk k) :
    Ct Try.prog w0 18 #[So.v sb, vA a, vA b] H0 (fun r H2 => ∃ s : SV, ∃ k : Nat, ∃ out : List Ide, ∃ e : Nat, ∃ q : Nat, r = .tuple #[s.v, eV e] ∧ (Ow k 30 H2 fA 32 s.v out) ∧ (Nx 0 H0.size k) ∧ (Var So.e H2 sb (So.cs q)) ∧ (BsR So.pa a b out e) ∧ (q ≤ n + 5001) ∧ Mo (Ms [(sb + 1)]) H0 H2) := by
  refine Ct.enter (args := [So.v sb, vA a, vA b]) Try.func18 rfl rfl rfl ?_
  intro Q0 hret
  have hm0 : Mo (Ms [(sb + 1)]) H0 H0 := Mo.refl _ _
  have nx_hm0_hv := Nx.refl (sb + 1) H0.size
  have hlt_hv := hv.lt
  refine CW.seq (fun K1 hK1 hE1 => ?_)
  refine CW.region ?_
  refine LR.z (Z.boxv rfl rfl) (Wd.u rfl) rfl rfl (fun v4 H4 r4 => ?_)
  obtain ⟨rfl, va, hs4, ob4, hH4⟩ := r4
  have hzs4 : H4.size = H0.size + 1 := by rw [hH4]; simp
  have dj1 : Dj (sb + 1) (H0.size + 1) := Dj.new hv.lt
  have df2 := (DF.new (bf_hsr.mono hm0.size) : DF _ (H0.size + 1))
  have nx3 : Nx 0 H0.size (H0.size + 1) := Nx.new hm0.size
  replace hv := hv.nw hs4
  replace hsr := hsr.nw hs4
  replace hm0 := hm0.trN hs4
  have hz1 := hs4.size
  replace va : Var 30 H4 H0.size (fA a) := va
  refine LR.z (Z.boxv rfl rfl) (Wd.u rfl) rfl rfl (fun v5 H5 r5 => ?_)
  obtain ⟨rfl, vb, hs5, ob5, hH5⟩ := r5
  have hzs5 : H5.size = H4.size + 1 := by rw [hH5]; simp
  have dj4 : Dj (sb + 1) (H4.size + 1) := Dj.new hv.lt
  have df5 := (DF.new (bf_hsr.mono hm0.size) : DF _ (H4.size + 1))
  have dj6 : Dj (H0.size + 1) (H4.size + 1) := Dj.new va.lt
  have nx7 : Nx 0 H0.size (H4.size + 1) := Nx.new hm0.size
  replace hv := hv.nw hs5
  replace hsr := hsr.nw hs5
  replace va := va.nw hs5
  replace hm0 := hm0.trN hs5
  have hz2 := hs5.size
  replace vb : Var 30 H5 H4.size (fA b) := vb
  refine LR.v (Y.assign rfl rfl) (Wd.u rfl) rfl rfl ?_
  refine LR.v (Y.assign rfl rfl) (Wd.u rfl) rfl rfl ?_
  refine LR.nil ?_
  refine hK1 _ _ ?_
  refine CW.seq (fun K2 hK2 hE2 => ?_)
  refine CW.region ?_
  refine LR.v (Y.move rfl rfl) (Wd.u rfl) rfl rfl ?_
  refine LR.v (Y.loadN va.pt rfl Try.isAgg30 Try.sizeOf30 (fA_len _) rfl) (Wd.u rfl) rfl rfl ?_
  refine LR.v (Y.loadN vb.pt rfl Try.isAgg30 Try.sizeOf30 (fA_len _) rfl) (Wd.u rfl) rfl rfl ?_
  refine LR.z (Z.litw _ ([a, b]) rfl inf28 rfl rfl rfl (by decide) (by decide) fA_len fA_one (rfl)) (Wd.u rfl) rfl rfl (fun v23 H23 r23 => ?_)
  obtain ⟨ow23, hs23, ob23, hH23⟩ := r23
  have hzs23 : H23.size = H5.size + 1 := by rw [hH23]; simp
  have dj8 : Dj (sb + 1) (H5.size + 1) := Dj.new hv.lt
  have df9 := (DF.new (bf_hsr.mono hm0.size) : DF _ (H5.size + 1))
  have dj10 : Dj (H0.size + 1) (H5.size + 1) := Dj.new va.lt
  have dj11 : Dj (H4.size + 1) (H5.size + 1) := Dj.new vb.lt
  have nx12 : Nx 0 H0.size (H5.size + 1) := Nx.new hm0.size
  replace hv := hv.nw hs23
  replace hsr := hsr.nw hs23
  replace va := va.nw hs23
  replace vb := vb.nw hs23
  replace hm0 := hm0.trN hs23
  have hz3 := hs23.size
  obtain ⟨s23, rfl⟩ : ∃ s : SV, v23 = s.v := ⟨toSV v23, ow23.sv.symm⟩
  refine LR.z (Z.litw _ ([(s23, [a, b])]) rfl inf92 rfl rfl rfl (by decide) (by decide) fLs_len fLs_one (rfl)) (Wd.u rfl) rfl rfl (fun v24 H24 r24 => ?_)
  obtain ⟨ow24, hs24, ob24, hH24⟩ := r24
  have hzs24 : H24.size = H23.size + 1 := by rw [hH24]; simp
  have dj13 : Dj (sb + 1) (H23.size + 1) := Dj.new hv.lt
  have df14 := (DF.new (bf_hsr.mono hm0.size) : DF _ (H23.size + 1))
  have dj15 : Dj (H0.size + 1) (H23.size + 1) := Dj.new va.lt
  have dj16 : Dj (H4.size + 1) (H23.size + 1) := Dj.new vb.lt
  have dj17 : Dj (H5.size + 1) (H23.size + 1) := Dj.new ow23.le
  have nx18 : Nx 0 H0.size (H23.size + 1) := Nx.new hm0.size
  replace hv := hv.nw hs24
  replace hsr := hsr.nw hs24
  replace va := va.nw hs24
  replace vb := vb.nw hs24
  replace ow23 := ow23.nw hs24
  replace hm0 := hm0.trN hs24
  have hz4 := hs24.size
  -- call selvage/graph.all
  refine LR.call rfl Try.call27 rfl (Wd.u rfl) rfl rfl (all_ct So sb n _ _ [(s23, [a, b])] w0 _ hv hsr (bf_hsr.mono hm0.size) dfs hok (by omega) (Ow.ne ow24 (dj13)) (by simp) (fun x hx => by rw [List.mem_singleton.1 hx]; exact Ow.ne ow23 (dj8)) (by simp)) (fun v25 H25 r25 => ?_)
  obtain ⟨vc, m, e, q, rfl, hc, hv, hA, hq, hs25⟩ := r25
  replace hsr := hsr.upL hs25 (DFL.cons dfs DFL.nil)
  replace va := va.upL hs25 (DL.cons dj1.symm DL.nil)
  replace vb := vb.upL hs25 (DL.cons dj4.symm DL.nil)
  replace ow23 := ow23.upL hs25 (DL.cons dj8.symm DL.nil)
  replace ow24 := ow24.upL hs25 (DL.cons dj13.symm DL.nil)
  replace hm0 := hm0.trL hs25 (MIL.cons (MI.app (MI.root (by simp)) (nx_hm0_hv) (Nat.le_refl _)) MIL.nil)
  have hz5 := hs25.size
  replace hc := hc.bnd
  have bf_hc := hc.bf
  have df19 : DF (fun b => H24.size ≤ b ∧ b < H25.size) (sb + 1) := DF.above (fun b h => h.1) (by first | exact hle_hv | exact hlt_hv | omega)
  have df20 : DF (fun b => H24.size ≤ b ∧ b < H25.size) (H0.size + 1) := DF.above (fun b h => h.1) (by first | exact hle_va | exact hlt_va | omega)
  have df21 : DF (fun b => H24.size ≤ b ∧ b < H25.size) (H4.size + 1) := DF.above (fun b h => h.1) (by first | exact hle_vb | exact hlt_vb | omega)
  have df22 : DF (fun b => H24.size ≤ b ∧ b < H25.size) (H5.size + 1) := DF.above (fun b h => h.1) (by first | exact hle_ow23 | exact hlt_ow23 | omega)
  have df23 : DF (fun b => H24.size ≤ b ∧ b < H25.size) (H23.size + 1) := DF.above (fun b h => h.1) (by first | exact hle_ow24 | exact hlt_ow24 | omega)
  refine LR.v (Y.move rfl rfl) (Wd.u rfl) rfl rfl ?_
  refine LR.v (Y.extract rfl rfl rfl) (Wd.u rfl) rfl rfl ?_
  refine LR.v (Y.extract rfl rfl rfl) (Wd.u rfl) rfl rfl ?_
  refine LR.v (Y.assign rfl rfl) (Wd.u rfl) rfl rfl ?_
  refine LR.v (Y.assign rfl rfl) (Wd.u rfl) rfl rfl ?_
  refine LR.nil ?_
  refine hK2 _ _ ?_
  refine CW.seq (fun K3 hK3 hE3 => ?_)
  refine CW.seq (fun K4 hK4 hE4 => ?_)
  refine CW.region ?_
  refine LR.v (Y.move rfl rfl) (Wd.u rfl) rfl rfl ?_
  refine LR.v (Y.ene rfl Try.underlying33 rfl) (Wd.u rfl) rfl rfl ?_
  refine LR.nil ?_
  refine hK4 _ _ ?_
  refine CW.condp rfl (fun c29 => ?_) (fun c29 => ?_)
  ·
    refine CW.seq (fun K5 hK5 hE5 => ?_)
    refine CW.region ?_
    refine LR.v (Y.move rfl rfl) (Wd.u rfl) rfl rfl ?_
    refine LR.v (Y.assign rfl rfl) (Wd.u rfl) rfl rfl ?_
    refine LR.v (Y.assign rfl rfl) (Wd.u rfl) rfl rfl ?_
    refine LR.nil ?_
    refine hK5 _ _ ?_
    refine CW.ret (hE3 .ret nofun _ _ (hret .ret (.inr rfl) _ _ _ (res2 rfl rfl rfl) ?_))
    exact ⟨⟨none, 0, 0⟩, 0, [], e, q, rfl, Ow.nil fA_len fA_one, Nx.refl _ _, hv, .inr (.inr ⟨c29, rfl, _, hA⟩), by omega, hm0⟩
  ·
    obtain rfl : e = 0 := by omega
    replace hA : AllR So.pa [a, b] (m.map (·.1)) 0 := hA
    replace hc := hc.get rfl
    have hco := cok_of hok hA
    obtain ⟨_, _, hstK, _, _⟩ := all0 hA
    have hml := hco.le
    refine CW.skip ?_
    refine hK3 _ _ ?_
    refine CW.cut (fun (s_ : (Nat) × (List (Ide × Int)) × (Nat) × (List (Ide × Int))) => match s_ with | (a1, m1, a2, m2) => [(8, vc), (10, .map (some a1)), (11, .map (some a2))])
      (fun (s_ : (Nat) × (List (Ide × Int)) × (Nat) × (List (Ide × Int))) (H : Heap) => match s_ with | (a1, m1, a2, m2) => (Mp H vA (Value.int .i64) a1 m1) ∧ (Mp H vA (Value.int .i64) a2 m2) ∧ (∀ k, k ∈ m1.map (·.1) ↔ ∃ i ∈ [a], Up (cpa So.pa (m.map (·.1))) i k) ∧ (∀ k, k ∈ m2.map (·.1) ↔ ∃ i ∈ [b], Up (cpa So.pa (m.map (·.1))) i k) ∧ (Nx 0 H25.size ((a1 + 1))) ∧ (Nx 0 H25.size ((a2 + 1))) ∧ (Dj ((a1 + 1)) ((a2 + 1))) ∧ Nw H25 H) (fun K6 hK6 hE6 => ?_) ?_
    ·
      have hcm6 : Nw H25 H25 := Mo.refl _ _
      refine CW.region_any (fun Hq => Nw H25 Hq) [] rfl ?_
      have hqs := Nw.refl H25
      refine LH.take 0 (by kernel_rfl) rfl (by kernel_rfl) (by kernel_rfl) (by kernel_rfl) (fun Hq hq => Y.move rfl rfl) (Wd.u rfl) rfl rfl hqs ?_
      refine LH.take 1 (by kernel_rfl) rfl (by kernel_rfl) (by kernel_rfl) (by kernel_rfl) (fun Hq hq => Y.loadN (va.pt.nw hq) rfl Try.isAgg30 Try.sizeOf30 (fA_len _) rfl) (Wd.u rfl) rfl rfl hqs ?_
      refine LH.take 4 (by kernel_rfl) rfl (by kernel_rfl) (by kernel_rfl) (by kernel_rfl) (fun Hq hq => Y.move rfl rfl) (Wd.u rfl) rfl rfl hqs ?_
      refine LH.take 5 (by kernel_rfl) rfl (by kernel_rfl) (by kernel_rfl) (by kernel_rfl) (fun Hq hq => Y.loadN (vb.pt.nw hq) rfl Try.isAgg30 Try.sizeOf30 (fA_len _) rfl) (Wd.u rfl) rfl rfl hqs ?_
      refine LH.two (i := 2) (j := 6) (by kernel_rfl) ?_ ?_
      ·
        refine LO.z rfl (Z.litw _ ([a]) rfl inf28 rfl rfl rfl (by decide) (by decide) fA_len fA_one (rfl)) (Wd.u rfl) rfl rfl (fun v33 H33 r33 => ?_)
        obtain ⟨ow33, hs33, ob33, hH33⟩ := r33
        have hzs33 : H33.size = H25.size + 1 := by rw [hH33]; simp
        have dj24 : Dj (sb + 1) (H25.size + 1) := Dj.new hv.lt
        have df25 := (DF.new (bf_hsr.mono hm0.size) : DF _ (H25.size + 1))
        have dj26 : Dj (H0.size + 1) (H25.size + 1) := Dj.new va.lt
        have dj27 : Dj (H4.size + 1) (H25.size + 1) := Dj.new vb.lt
        have dj28 : Dj (H5.size + 1) (H25.size + 1) := Dj.new ow23.le
        have dj29 : Dj (H23.size + 1) (H25.size + 1) := Dj.new ow24.le
        have df30 := (DF.new (bf_hc.mono (by omega)) : DF _ (H25.size + 1))
        have nx31 : Nx 0 H0.size (H25.size + 1) := Nx.new hm0.size
        have nx32 : Nx 0 H25.size (H25.size + 1) := Nx.new hcm6.size
        replace hv := hv.nw hs33
        replace hsr := hsr.nw hs33
        replace va := va.nw hs33
        replace vb := vb.nw hs33
        replace ow23 := ow23.nw hs33
        replace ow24 := ow24.nw hs33
        replace hc := hc.nw hs33
        replace hm0 := hm0.trN hs33
        replace hcm6 := hcm6.tr hs33
        have hz6 := hs33.size
        have hq33 := hqs.tr hs33
        refine ⟨.inr hq33, LH.narrow (SH2 := fun Hq => Nw H33 Hq) (fun Hq hq => hq33.tr hq) ?_⟩
        have hqn33 := Nw.refl H33
        refine LH.two (i := 3) (j := 6) (by kernel_rfl) ?_ ?_
        ·
          -- call (selvage/graph.commits).above
          refine LO.call rfl rfl Try.call28 rfl (Wd.u rfl) rfl rfl (above_ct _ _ _ _ _ [a] w0 _ hc (bf_hc.mono (by omega)) hco ow33.rd.any (fun k hk => hstK k (by simp at hk; simp [hk])) (by simp)) (fun v34 H34 r34 => ?_)
          obtain ⟨a1, m1, rfl, h1, hk_h1, hU1, hs34⟩ := r34
          have dj33 : Dj (sb + 1) (a1 + 1) := Dj.app (Dj.z) hv.lt hk_h1
          have df34 := DF.app (DF.z) (bf_hsr.mono hm0.size) hk_h1
          have dj35 : Dj (H0.size + 1) (a1 + 1) := Dj.app (Dj.z) va.lt hk_h1
          have dj36 : Dj (H4.size + 1) (a1 + 1) := Dj.app (Dj.z) vb.lt hk_h1
          have dj37 : Dj (H5.size + 1) (a1 + 1) := Dj.app (Dj.z) ow23.le hk_h1
          have dj38 : Dj (H23.size + 1) (a1 + 1) := Dj.app (Dj.z) ow24.le hk_h1
          have df39 := DF.app (DF.z) (bf_hc.mono (by omega)) hk_h1
          have dj40 : Dj (H25.size + 1) (a1 + 1) := Dj.app (Dj.z) ow33.le hk_h1
          have nx41 : Nx 0 H0.size (a1 + 1) := Nx.tr (Nx.refl 0 _) hk_h1 hm0.size
          have nx42 : Nx 0 H25.size (a1 + 1) := Nx.tr (Nx.refl 0 _) hk_h1 hcm6.size
          replace hv := hv.nw hs34
          replace hsr := hsr.nw hs34
          replace va := va.nw hs34
          replace vb := vb.nw hs34
          replace ow23 := ow23.nw hs34
          replace ow24 := ow24.nw hs34
          replace hc := hc.nw hs34
          replace ow33 := ow33.nw hs34
          replace hm0 := hm0.trN hs34
          replace hcm6 := hcm6.tr hs34
          have hz7 := hs34.size
          have hle_h1 := h1.le
          have hq34 := hqn33.tr hs34
          refine ⟨.inr hq34, LH.narrow (SH2 := fun Hq => Nw H34 Hq) (fun Hq hq => hq34.tr hq) ?_⟩
          have hqn34 := Nw.refl H34
          refine LH.one (i := 6) (by kernel_rfl) ?_
          refine LO.z rfl (Z.litw _ ([b]) rfl inf28 rfl rfl rfl (by decide) (by decide) fA_len fA_one (rfl)) (Wd.u rfl) rfl rfl (fun v37 H37 r37 => ?_)
          obtain ⟨ow37, hs37, ob37, hH37⟩ := r37
          have hzs37 : H37.size = H34.size + 1 := by rw [hH37]; simp
          have dj43 : Dj (sb + 1) (H34.size + 1) := Dj.new hv.lt
          have df44 := (DF.new (bf_hsr.mono hm0.size) : DF _ (H34.size + 1))
          have dj45 : Dj (H0.size + 1) (H34.size + 1) := Dj.new va.lt
          have dj46 : Dj (H4.size + 1) (H34.size + 1) := Dj.new vb.lt
          have dj47 : Dj (H5.size + 1) (H34.size + 1) := Dj.new ow23.le
          have dj48 : Dj (H23.size + 1) (H34.size + 1) := Dj.new ow24.le
          have df49 := (DF.new (bf_hc.mono (by omega)) : DF _ (H34.size + 1))
          have dj50 : Dj (H25.size + 1) (H34.size + 1) := Dj.new ow33.le
          have dj51 : Dj (a1 + 1) (H34.size + 1) := Dj.new h1.le
          have nx52 : Nx 0 H0.size (H34.size + 1) := Nx.new hm0.size
          have nx53 : Nx 0 H25.size (H34.size + 1) := Nx.new hcm6.size
          replace hv := hv.nw hs37
          replace hsr := hsr.nw hs37
          replace va := va.nw hs37
          replace vb := vb.nw hs37
          replace ow23 := ow23.nw hs37
          replace ow24 := ow24.nw hs37
          replace hc := hc.nw hs37
          replace ow33 := ow33.nw hs37
          replace h1 := h1.nw hs37
          replace hm0 := hm0.trN hs37
          replace hcm6 := hcm6.tr hs37
          have hz8 := hs37.size
          have hq37 := hqn34.tr hs37
          refine ⟨.inr hq37, LH.narrow (SH2 := fun Hq => Nw H37 Hq) (fun Hq hq => hq37.tr hq) ?_⟩
          have hqn37 := Nw.refl H37
          refine LH.one (i := 7) (by kernel_rfl) ?_
          -- call (selvage/graph.commits).above
          refine LO.call rfl rfl Try.call28 rfl (Wd.u rfl) rfl rfl (above_ct _ _ _ _ _ [b] w0 _ hc (bf_hc.mono (by omega)) hco ow37.rd.any (fun k hk => hstK k (by simp at hk; simp [hk])) (by simp)) (fun v38 H38 r38 => ?_)
          obtain ⟨a2, m2, rfl, h2, hk_h2, hU2, hs38⟩ := r38
          have dj54 : Dj (sb + 1) (a2 + 1) := Dj.app (Dj.z) hv.lt hk_h2
          have df55 := DF.app (DF.z) (bf_hsr.mono hm0.size) hk_h2
          have dj56 : Dj (H0.size + 1) (a2 + 1) := Dj.app (Dj.z) va.lt hk_h2
          have dj57 : Dj (H4.size + 1) (a2 + 1) := Dj.app (Dj.z) vb.lt hk_h2
          have dj58 : Dj (H5.size + 1) (a2 + 1) := Dj.app (Dj.z) ow23.le hk_h2
          have dj59 : Dj (H23.size + 1) (a2 + 1) := Dj.app (Dj.z) ow24.le hk_h2
          have df60 := DF.app (DF.z) (bf_hc.mono (by omega)) hk_h2
          have dj61 : Dj (H25.size + 1) (a2 + 1) := Dj.app (Dj.z) ow33.le hk_h2
          have dj62 : Dj (a1 + 1) (a2 + 1) := Dj.app (Dj.z) h1.le hk_h2
          have dj63 : Dj (H34.size + 1) (a2 + 1) := Dj.app (Dj.z) ow37.le hk_h2
          have nx64 : Nx 0 H0.size (a2 + 1) := Nx.tr (Nx.refl 0 _) hk_h2 hm0.size
          have nx65 : Nx 0 H25.size (a2 + 1) := Nx.tr (Nx.refl 0 _) hk_h2 hcm6.size
          replace hv := hv.nw hs38
          replace hsr := hsr.nw hs38
          replace va := va.nw hs38
          replace vb := vb.nw hs38
          replace ow23 := ow23.nw hs38
          replace ow24 := ow24.nw hs38
          replace hc := hc.nw hs38
          replace ow33 := ow33.nw hs38
          replace h1 := h1.nw hs38
          replace ow37 := ow37.nw hs38
          replace hm0 := hm0.trN hs38
          replace hcm6 := hcm6.tr hs38
          have hz9 := hs38.size
          have hle_h2 := h2.le
          have hq38 := hqn37.tr hs38
          refine ⟨.inr hq38, LH.narrow (SH2 := fun Hq => Nw H38 Hq) (fun Hq hq => hq38.tr hq) ?_⟩
          have hqn38 := Nw.refl H38
          refine LH.take 8 (by kernel_rfl) rfl (by kernel_rfl) (by kernel_rfl) (by kernel_rfl) (fun Hq hq => Y.assign rfl rfl) (Wd.u rfl) rfl rfl hqn38 ?_
          refine LH.take 9 (by kernel_rfl) rfl (by kernel_rfl) (by kernel_rfl) (by kernel_rfl) (fun Hq hq => Y.assign rfl rfl) (Wd.u rfl) rfl rfl hqn38 ?_
          refine LH.done (by kernel_rfl) ?_
          have hqe := hqn38
          refine QN.sub (hK6 (a1, m1, a2, m2) _ ?_) ⟨rfl, rfl, rfl, trivial⟩
          exact ⟨h1, h2, (by omega), (by omega), nx42, nx65, dj62, hcm6⟩
        ·
          refine LO.z rfl (Z.litw _ ([b]) rfl inf28 rfl rfl rfl (by decide) (by decide) fA_len fA_one (rfl)) (Wd.u rfl) rfl rfl (fun v37 H37 r37 => ?_)
          obtain ⟨ow37, hs37, ob37, hH37⟩ := r37
          have hzs37 : H37.size = H33.size + 1 := by rw [hH37]; simp
          have dj66 : Dj (sb + 1) (H33.size + 1) := Dj.new hv.lt
          have df67 := (DF.new (bf_hsr.mono hm0.size) : DF _ (H33.size + 1))
          have dj68 : Dj (H0.size + 1) (H33.size + 1) := Dj.new va.lt
          have dj69 : Dj (H4.size + 1) (H33.size + 1) := Dj.new vb.lt
          have dj70 : Dj (H5.size + 1) (H33.size + 1) := Dj.new ow23.le
          have dj71 : Dj (H23.size + 1) (H33.size + 1) := Dj.new ow24.le
          have df72 := (DF.new (bf_hc.mono (by omega)) : DF _ (H33.size + 1))
          have dj73 : Dj (H25.size + 1) (H33.size + 1) := Dj.new ow33.le
          have nx74 : Nx 0 H0.size (H33.size + 1) := Nx.new hm0.size
          have nx75 : Nx 0 H25.size (H33.size + 1) := Nx.new hcm6.size
          replace hv := hv.nw hs37
          replace hsr := hsr.nw hs37
          replace va := va.nw hs37
          replace vb := vb.nw hs37
          replace ow23 := ow23.nw hs37
          replace ow24 := ow24.nw hs37
          replace hc := hc.nw hs37
          replace ow33 := ow33.nw hs37
          replace hm0 := hm0.trN hs37
          replace hcm6 := hcm6.tr hs37
          have hz10 := hs37.size
          have hq37 := hqn33.tr hs37
          refine ⟨.inr hq37, LH.narrow (SH2 := fun Hq => Nw H37 Hq) (fun Hq hq => hq37.tr hq) ?_⟩
          have hqn37 := Nw.refl H37
          refine LH.one (i := 3) (by kernel_rfl) ?_
          -- call (selvage/graph.commits).above
          refine LO.call rfl rfl Try.call28 rfl (Wd.u rfl) rfl rfl (above_ct _ _ _ _ _ [a] w0 _ hc (bf_hc.mono (by omega)) hco ow33.rd.any (fun k hk => hstK k (by simp at hk; simp [hk])) (by simp)) (fun v34 H34 r34 => ?_)
          obtain ⟨a1, m1, rfl, h1, hk_h1, hU1, hs34⟩ := r34
          have dj76 : Dj (sb + 1) (a1 + 1) := Dj.app (Dj.z) hv.lt hk_h1
          have df77 := DF.app (DF.z) (bf_hsr.mono hm0.size) hk_h1
          have dj78 : Dj (H0.size + 1) (a1 + 1) := Dj.app (Dj.z) va.lt hk_h1
          have dj79 : Dj (H4.size + 1) (a1 + 1) := Dj.app (Dj.z) vb.lt hk_h1
          have dj80 : Dj (H5.size + 1) (a1 + 1) := Dj.app (Dj.z) ow23.le hk_h1
          have dj81 : Dj (H23.size + 1) (a1 + 1) := Dj.app (Dj.z) ow24.le hk_h1
          have df82 := DF.app (DF.z) (bf_hc.mono (by omega)) hk_h1
          have dj83 : Dj (H25.size + 1) (a1 + 1) := Dj.app (Dj.z) ow33.le hk_h1
          have dj84 : Dj (H33.size + 1) (a1 + 1) := Dj.app (Dj.z) ow37.le hk_h1
          have nx85 : Nx 0 H0.size (a1 + 1) := Nx.tr (Nx.refl 0 _) hk_h1 hm0.size
          have nx86 : Nx 0 H25.size (a1 + 1) := Nx.tr (Nx.refl 0 _) hk_h1 hcm6.size
          replace hv := hv.nw hs34
          replace hsr := hsr.nw hs34
          replace va := va.nw hs34
          replace vb := vb.nw hs34
          replace ow23 := ow23.nw hs34
          replace ow24 := ow24.nw hs34
          replace hc := hc.nw hs34
          replace ow33 := ow33.nw hs34
          replace ow37 := ow37.nw hs34
          replace hm0 := hm0.trN hs34
          replace hcm6 := hcm6.tr hs34
          have hz11 := hs34.size
          have hle_h1 := h1.le
          have hq34 := hqn37.tr hs34
          refine ⟨.inr hq34, LH.narrow (SH2 := fun Hq => Nw H34 Hq) (fun Hq hq => hq34.tr hq) ?_⟩
          have hqn34 := Nw.refl H34
          refine LH.one (i := 7) (by kernel_rfl) ?_
          -- call (selvage/graph.commits).above
          refine LO.call rfl rfl Try.call28 rfl (Wd.u rfl) rfl rfl (above_ct _ _ _ _ _ [b] w0 _ hc (bf_hc.mono (by omega)) hco ow37.rd.any (fun k hk => hstK k (by simp at hk; simp [hk])) (by simp)) (fun v38 H38 r38 => ?_)
          obtain ⟨a2, m2, rfl, h2, hk_h2, hU2, hs38⟩ := r38
          have dj87 : Dj (sb + 1) (a2 + 1) := Dj.app (Dj.z) hv.lt hk_h2
          have df88 := DF.app (DF.z) (bf_hsr.mono hm0.size) hk_h2
          have dj89 : Dj (H0.size + 1) (a2 + 1) := Dj.app (Dj.z) va.lt hk_h2
          have dj90 : Dj (H4.size + 1) (a2 + 1) := Dj.app (Dj.z) vb.lt hk_h2
          have dj91 : Dj (H5.size + 1) (a2 + 1) := Dj.app (Dj.z) ow23.le hk_h2
          have dj92 : Dj (H23.size + 1) (a2 + 1) := Dj.app (Dj.z) ow24.le hk_h2
          have df93 := DF.app (DF.z) (bf_hc.mono (by omega)) hk_h2
          have dj94 : Dj (H25.size + 1) (a2 + 1) := Dj.app (Dj.z) ow33.le hk_h2
          have dj95 : Dj (H33.size + 1) (a2 + 1) := Dj.app (Dj.z) ow37.le hk_h2
          have dj96 : Dj (a1 + 1) (a2 + 1) := Dj.app (Dj.z) h1.le hk_h2
          have nx97 : Nx 0 H0.size (a2 + 1) := Nx.tr (Nx.refl 0 _) hk_h2 hm0.size
          have nx98 : Nx 0 H25.size (a2 + 1) := Nx.tr (Nx.refl 0 _) hk_h2 hcm6.size
          replace hv := hv.nw hs38
          replace hsr := hsr.nw hs38
          replace va := va.nw hs38
          replace vb := vb.nw hs38
          replace ow23 := ow23.nw hs38
          replace ow24 := ow24.nw hs38
          replace hc := hc.nw hs38
          replace ow33 := ow33.nw hs38
          replace ow37 := ow37.nw hs38
          replace h1 := h1.nw hs38
          replace hm0 := hm0.trN hs38
          replace hcm6 := hcm6.tr hs38
          have hz12 := hs38.size
          have hle_h2 := h2.le
          have hq38 := hqn34.tr hs38
          refine ⟨.inr hq38, LH.narrow (SH2 := fun Hq => Nw H38 Hq) (fun Hq hq => hq38.tr hq) ?_⟩
          have hqn38 := Nw.refl H38
          refine LH.take 8 (by kernel_rfl) rfl (by kernel_rfl) (by kernel_rfl) (by kernel_rfl) (fun Hq hq => Y.assign rfl rfl) (Wd.u rfl) rfl rfl hqn38 ?_
          refine LH.take 9 (by kernel_rfl) rfl (by kernel_rfl) (by kernel_rfl) (by kernel_rfl) (fun Hq hq => Y.assign rfl rfl) (Wd.u rfl) rfl rfl hqn38 ?_
          refine LH.done (by kernel_rfl) ?_
          have hqe := hqn38
          refine QN.sub (hK6 (a1, m1, a2, m2) _ ?_) ⟨rfl, rfl, rfl, trivial⟩
          exact ⟨h1, h2, (by omega), (by omega), nx86, nx98, dj96, hcm6⟩
      ·
        refine LO.z rfl (Z.litw _ ([b]) rfl inf28 rfl rfl rfl (by decide) (by decide) fA_len fA_one (rfl)) (Wd.u rfl) rfl rfl (fun v37 H37 r37 => ?_)
        obtain ⟨ow37, hs37, ob37, hH37⟩ := r37
        have hzs37 : H37.size = H25.size + 1 := by rw [hH37]; simp
        have dj99 : Dj (sb + 1) (H25.size + 1) := Dj.new hv.lt
        have df100 := (DF.new (bf_hsr.mono hm0.size) : DF _ (H25.size + 1))
        have dj101 : Dj (H0.size + 1) (H25.size + 1) := Dj.new va.lt
        have dj102 : Dj (H4.size + 1) (H25.size + 1) := Dj.new vb.lt
        have dj103 : Dj (H5.size + 1) (H25.size + 1) := Dj.new ow23.le
        have dj104 : Dj (H23.size + 1) (H25.size + 1) := Dj.new ow24.le
        have df105 := (DF.new (bf_hc.mono (by omega)) : DF _ (H25.size + 1))
        have nx106 : Nx 0 H0.size (H25.size + 1) := Nx.new hm0.size
        have nx107 : Nx 0 H25.size (H25.size + 1) := Nx.new hcm6.size
        replace hv := hv.nw hs37
        replace hsr := hsr.nw hs37
        replace va := va.nw hs37
        replace vb := vb.nw hs37
        replace ow23 := ow23.nw hs37
        replace ow24 := ow24.nw hs37
        replace hc := hc.nw hs37
        replace hm0 := hm0.trN hs37
        replace hcm6 := hcm6.tr hs37
        have hz13 := hs37.size
        have hq37 := hqs.tr hs37
        refine ⟨.inr hq37, LH.narrow (SH2 := fun Hq => Nw H37 Hq) (fun Hq hq => hq37.tr hq) ?_⟩
        have hqn37 := Nw.refl H37
        refine LH.one (i := 2) (by kernel_rfl) ?_
        refine LO.z rfl (Z.litw _ ([a]) rfl inf28 rfl rfl rfl (by decide) (by decide) fA_len fA_one (rfl)) (Wd.u rfl) rfl rfl (fun v33 H33 r33 => ?_)
        obtain ⟨ow33, hs33, ob33, hH33⟩ := r33
        have hzs33 : H33.size = H37.size + 1 := by rw [hH33]; simp
        have dj108 : Dj (sb + 1) (H37.size + 1) := Dj.new hv.lt
        have df109 := (DF.new (bf_hsr.mono hm0.size) : DF _ (H37.size + 1))
        have dj110 : Dj (H0.size + 1) (H37.size + 1) := Dj.new va.lt
        have dj111 : Dj (H4.size + 1) (H37.size + 1) := Dj.new vb.lt
        have dj112 : Dj (H5.size + 1) (H37.size + 1) := Dj.new ow23.le
        have dj113 : Dj (H23.size + 1) (H37.size + 1) := Dj.new ow24.le
        have df114 := (DF.new (bf_hc.mono (by omega)) : DF _ (H37.size + 1))
        have dj115 : Dj (H25.size + 1) (H37.size + 1) := Dj.new ow37.le
        have nx116 : Nx 0 H0.size (H37.size + 1) := Nx.new hm0.size
        have nx117 : Nx 0 H25.size (H37.size + 1) := Nx.new hcm6.size
        replace hv := hv.nw hs33
        replace hsr := hsr.nw hs33
        replace va := va.nw hs33
        replace vb := vb.nw hs33
        replace ow23 := ow23.nw hs33
        replace ow24 := ow24.nw hs33
        replace hc := hc.nw hs33
        replace ow37 := ow37.nw hs33
        replace hm0 := hm0.trN hs33
        replace hcm6 := hcm6.tr hs33
        have hz14 := hs33.size
        have hq33 := hqn37.tr hs33
        refine ⟨.inr hq33, LH.narrow (SH2 := fun Hq => Nw H33 Hq) (fun Hq hq => hq33.tr hq) ?_⟩
        have hqn33 := Nw.refl H33
        refine LH.one (i := 3) (by kernel_rfl) ?_
        -- call (selvage/graph.commits).above
        refine LO.call rfl rfl Try.call28 rfl (Wd.u rfl) rfl rfl (above_ct _ _ _ _ _ [a] w0 _ hc (bf_hc.mono (by omega)) hco ow33.rd.any (fun k hk => hstK k (by simp at hk; simp [hk])) (by simp)) (fun v34 H34 r34 => ?_)
        obtain ⟨a1, m1, rfl, h1, hk_h1, hU1, hs34⟩ := r34
        have dj118 : Dj (sb + 1) (a1 + 1) := Dj.app (Dj.z) hv.lt hk_h1
        have df119 := DF.app (DF.z) (bf_hsr.mono hm0.size) hk_h1
        have dj120 : Dj (H0.size + 1) (a1 + 1) := Dj.app (Dj.z) va.lt hk_h1
        have dj121 : Dj (H4.size + 1) (a1 + 1) := Dj.app (Dj.z) vb.lt hk_h1
        have dj122 : Dj (H5.size + 1) (a1 + 1) := Dj.app (Dj.z) ow23.le hk_h1
        have dj123 : Dj (H23.size + 1) (a1 + 1) := Dj.app (Dj.z) ow24.le hk_h1
        have df124 := DF.app (DF.z) (bf_hc.mono (by omega)) hk_h1
        have dj125 : Dj (H25.size + 1) (a1 + 1) := Dj.app (Dj.z) ow37.le hk_h1
        have dj126 : Dj (H37.size + 1) (a1 + 1) := Dj.app (Dj.z) ow33.le hk_h1
        have nx127 : Nx 0 H0.size (a1 + 1) := Nx.tr (Nx.refl 0 _) hk_h1 hm0.size
        have nx128 : Nx 0 H25.size (a1 + 1) := Nx.tr (Nx.refl 0 _) hk_h1 hcm6.size
        replace hv := hv.nw hs34
        replace hsr := hsr.nw hs34
        replace va := va.nw hs34
        replace vb := vb.nw hs34
        replace ow23 := ow23.nw hs34
        replace ow24 := ow24.nw hs34
        replace hc := hc.nw hs34
        replace ow37 := ow37.nw hs34
        replace ow33 := ow33.nw hs34
        replace hm0 := hm0.trN hs34
        replace hcm6 := hcm6.tr hs34
        have hz15 := hs34.size
        have hle_h1 := h1.le
        have hq34 := hqn33.tr hs34
        refine ⟨.inr hq34, LH.narrow (SH2 := fun Hq => Nw H34 Hq) (fun Hq hq => hq34.tr hq) ?_⟩
        have hqn34 := Nw.refl H34
        refine LH.one (i := 7) (by kernel_rfl) ?_
        -- call (selvage/graph.commits).above
        refine LO.call rfl rfl Try.call28 rfl (Wd.u rfl) rfl rfl (above_ct _ _ _ _ _ [b] w0 _ hc (bf_hc.mono (by omega)) hco ow37.rd.any (fun k hk => hstK k (by simp at hk; simp [hk])) (by simp)) (fun v38 H38 r38 => ?_)
        obtain ⟨a2, m2, rfl, h2, hk_h2, hU2, hs38⟩ := r38
        have dj129 : Dj (sb + 1) (a2 + 1) := Dj.app (Dj.z) hv.lt hk_h2
        have df130 := DF.app (DF.z) (bf_hsr.mono hm0.size) hk_h2
        have dj131 : Dj (H0.size + 1) (a2 + 1) := Dj.app (Dj.z) va.lt hk_h2
        have dj132 : Dj (H4.size + 1) (a2 + 1) := Dj.app (Dj.z) vb.lt hk_h2
        have dj133 : Dj (H5.size + 1) (a2 + 1) := Dj.app (Dj.z) ow23.le hk_h2
        have dj134 : Dj (H23.size + 1) (a2 + 1) := Dj.app (Dj.z) ow24.le hk_h2
        have df135 := DF.app (DF.z) (bf_hc.mono (by omega)) hk_h2
        have dj136 : Dj (H25.size + 1) (a2 + 1) := Dj.app (Dj.z) ow37.le hk_h2
        have dj137 : Dj (H37.size + 1) (a2 + 1) := Dj.app (Dj.z) ow33.le hk_h2
        have dj138 : Dj (a1 + 1) (a2 + 1) := Dj.app (Dj.z) h1.le hk_h2
        have nx139 : Nx 0 H0.size (a2 + 1) := Nx.tr (Nx.refl 0 _) hk_h2 hm0.size
        have nx140 : Nx 0 H25.size (a2 + 1) := Nx.tr (Nx.refl 0 _) hk_h2 hcm6.size
        replace hv := hv.nw hs38
        replace hsr := hsr.nw hs38
        replace va := va.nw hs38
        replace vb := vb.nw hs38
        replace ow23 := ow23.nw hs38
        replace ow24 := ow24.nw hs38
        replace hc := hc.nw hs38
        replace ow37 := ow37.nw hs38
        replace ow33 := ow33.nw hs38
        replace h1 := h1.nw hs38
        replace hm0 := hm0.trN hs38
        replace hcm6 := hcm6.tr hs38
        have hz16 := hs38.size
        have hle_h2 := h2.le
        have hq38 := hqn34.tr hs38
        refine ⟨.inr hq38, LH.narrow (SH2 := fun Hq => Nw H38 Hq) (fun Hq hq => hq38.tr hq) ?_⟩
        have hqn38 := Nw.refl H38
        refine LH.take 8 (by kernel_rfl) rfl (by kernel_rfl) (by kernel_rfl) (by kernel_rfl) (fun Hq hq => Y.assign rfl rfl) (Wd.u rfl) rfl rfl hqn38 ?_
        refine LH.take 9 (by kernel_rfl) rfl (by kernel_rfl) (by kernel_rfl) (by kernel_rfl) (fun Hq hq => Y.assign rfl rfl) (Wd.u rfl) rfl rfl hqn38 ?_
        refine LH.done (by kernel_rfl) ?_
        have hqe := hqn38
        refine QN.sub (hK6 (a1, m1, a2, m2) _ ?_) ⟨rfl, rfl, rfl, trivial⟩
        exact ⟨h1, h2, (by omega), (by omega), nx128, nx140, dj138, hcm6⟩
    ·
      rintro ⟨a1, m1, a2, m2⟩ Hcutr4 hIcutr4
      obtain ⟨h1, h2, hU1, hU2, nxl_h1, nxl_h2, dj_h1_h2, hlmcutr4⟩ := hIcutr4
      have dj141 : Dj (sb + 1) ((a1 + 1)) := Dj.app (Dj.z) hv.lt nxl_h1
      have df142 := DF.app (DF.z) (bf_hsr.mono hm0.size) nxl_h1
      have dj143 : Dj (H0.size + 1) ((a1 + 1)) := Dj.app (Dj.z) va.lt nxl_h1
      have dj144 : Dj (H4.size + 1) ((a1 + 1)) := Dj.app (Dj.z) vb.lt nxl_h1
      have dj145 : Dj (H5.size + 1) ((a1 + 1)) := Dj.app (Dj.z) ow23.le nxl_h1
      have dj146 : Dj (H23.size + 1) ((a1 + 1)) := Dj.app (Dj.z) ow24.le nxl_h1
      have df147 := DF.app (DF.z) (bf_hc.mono (by omega)) nxl_h1
      have nx148 : Nx 0 H0.size ((a1 + 1)) := Nx.tr (Nx.refl 0 _) nxl_h1 hm0.size
      have dj149 : Dj (sb + 1) ((a2 + 1)) := Dj.app (Dj.z) hv.lt nxl_h2
      have df150 := DF.app (DF.z) (bf_hsr.mono hm0.size) nxl_h2
      have dj151 : Dj (H0.size + 1) ((a2 + 1)) := Dj.app (Dj.z) va.lt nxl_h2
      have dj152 : Dj (H4.size + 1) ((a2 + 1)) := Dj.app (Dj.z) vb.lt nxl_h2
      have dj153 : Dj (H5.size + 1) ((a2 + 1)) := Dj.app (Dj.z) ow23.le nxl_h2
      have dj154 : Dj (H23.size + 1) ((a2 + 1)) := Dj.app (Dj.z) ow24.le nxl_h2
      have df155 := DF.app (DF.z) (bf_hc.mono (by omega)) nxl_h2
      have nx156 : Nx 0 H0.size ((a2 + 1)) := Nx.tr (Nx.refl 0 _) nxl_h2 hm0.size
      replace hv := hv.nw hlmcutr4
      replace hsr := hsr.nw hlmcutr4
      replace va := va.nw hlmcutr4
      replace vb := vb.nw hlmcutr4
      replace ow23 := ow23.nw hlmcutr4
      replace ow24 := ow24.nw hlmcutr4
      replace hc := hc.nw hlmcutr4
      replace hm0 := hm0.trN hlmcutr4
      have hz17 := hlmcutr4.size
      have hle_h1 := h1.le
      have hle_h2 := h2.le
      have dj157 := dj_h1_h2
      have nx158 := nxl_h1
      have nx159 := nxl_h2
      refine CW.seq (fun K7 hK7 hE7 => ?_)
      refine CW.region ?_
      have hu1 : ∀ k, k ∈ m1.map (·.1) ↔ UpO So.pa a k := fun k => by
        rw [hU1]
        exact ⟨fun ⟨i, hi, hu⟩ => by rw [List.mem_singleton.1 hi] at hu; exact (up_iff hA (hstK a (by simp))).1 hu, fun hu => ⟨a, by simp, (up_iff hA (hstK a (by simp))).2 hu⟩⟩
      have hu2 : ∀ k, k ∈ m2.map (·.1) ↔ UpO So.pa b k := fun k => by
        rw [hU2]
        exact ⟨fun ⟨i, hi, hu⟩ => by rw [List.mem_singleton.1 hi] at hu; exact (up_iff hA (hstK b (by simp))).1 hu, fun hu => ⟨b, by simp, (up_iff hA (hstK b (by simp))).2 hu⟩⟩
      have hm1K : ∀ k ∈ m1.map (·.1), k ∈ m.map (·.1) := fun k hk => up_in hA (hstK a (by simp)) ((hu1 k).1 hk)
      have hm15 := nodup_le h1.mo.nodup hm1K
      rw [List.length_map, List.length_map] at hm15
      refine LR.z (Z.makeMp vA (Value.int .i64) rfl) (Wd.u rfl) rfl rfl (fun v39 H39 r39 => ?_)
      obtain ⟨rfl, hb, hs39, ob39, hH39⟩ := r39
      have hzs39 : H39.size = Hcutr4.size + 1 := by rw [hH39]; simp
      have dj160 : Dj (sb + 1) (Hcutr4.size + 1) := Dj.new hv.lt
      have df161 := (DF.new (bf_hsr.mono hm0.size) : DF _ (Hcutr4.size + 1))
      have dj162 : Dj (H0.size + 1) (Hcutr4.size + 1) := Dj.new va.lt
      have dj163 : Dj (H4.size + 1) (Hcutr4.size + 1) := Dj.new vb.lt
      have dj164 : Dj (H5.size + 1) (Hcutr4.size + 1) := Dj.new ow23.le
      have dj165 : Dj (H23.size + 1) (Hcutr4.size + 1) := Dj.new ow24.le
      have df166 := (DF.new (bf_hc.mono (by omega)) : DF _ (Hcutr4.size + 1))
      have dj167 : Dj ((a1 + 1)) (Hcutr4.size + 1) := Dj.new h1.le
      have dj168 : Dj ((a2 + 1)) (Hcutr4.size + 1) := Dj.new h2.le
      have nx169 : Nx 0 H0.size (Hcutr4.size + 1) := Nx.new hm0.size
      replace hv := hv.nw hs39
      replace hsr := hsr.nw hs39
      replace va := va.nw hs39
      replace vb := vb.nw hs39
      replace ow23 := ow23.nw hs39
      replace ow24 := ow24.nw hs39
      replace hc := hc.nw hs39
      replace h1 := h1.nw hs39
      replace h2 := h2.nw hs39
      replace hm0 := hm0.trN hs39
      have hz18 := hs39.size
      have hlt_hb := hb.lt
      refine LR.v (Y.assign rfl rfl) (Wd.u rfl) rfl rfl ?_
      refine LR.nil ?_
      refine hK7 _ _ ?_
      refine CW.seq (fun K8 hK8 hE8 => ?_)
      refine CW.seq (fun K9 hK9 hE9 => ?_)
      refine CW.region ?_
      refine LR.v (Y.move rfl rfl) (Wd.u rfl) rfl rfl ?_
      obtain ⟨es, ck, h1⟩ := h1.raw
      refine LR.z (Z.rangeA h1 rfl Try.runUnderlying72 rfl) (Wd.u rfl) rfl rfl (fun v41 H41 r41 => ?_)
      obtain ⟨rfl, it, hs41, ob41, hH41⟩ := r41
      have hzs41 : H41.size = H39.size + 1 := by rw [hH41]; simp
      have dj170 : Dj (sb + 1) (H39.size + 1) := Dj.new hv.lt
      have df171 := (DF.new (bf_hsr.mono hm0.size) : DF _ (H39.size + 1))
      have dj172 : Dj (H5.size + 1) (H39.size + 1) := Dj.new ow23.le
      have dj173 : Dj (H23.size + 1) (H39.size + 1) := Dj.new ow24.le
      have df174 := (DF.new (bf_hc.mono (by omega)) : DF _ (H39.size + 1))
      have dj175 : Dj ((a1 + 1)) (H39.size + 1) := Dj.new h1.le
      have dj176 : Dj ((a2 + 1)) (H39.size + 1) := Dj.new h2.le
      have dj177 : Dj (Hcutr4.size + 1) (H39.size + 1) := Dj.new hb.lt
      have nx178 : Nx 0 H0.size (H39.size + 1) := Nx.new hm0.size
      replace hv := hv.nw hs41
      replace hsr := hsr.nw hs41
      replace ow23 := ow23.nw hs41
      replace ow24 := ow24.nw hs41
      replace hc := hc.nw hs41
      replace h1 := h1.nw hs41
      replace h2 := h2.nw hs41
      replace hb := hb.nw hs41
      replace hm0 := hm0.trN hs41
      have hz19 := hs41.size
      have hlt_it := it.lt
      refine LR.nil ?_
      refine hK9 _ _ ?_
      refine CW.block (fun K10 hK10 hX10 hE10 => ?_)
      refine CW.loop (fun (s_ : (List Ide) × (List (Ide × Int))) => match s_ with | (dn, bb) => [(8, vc), (11, .map (some a2)), (12, .map (some Hcutr4.size)), (41, .pointer (some ⟨H39.size, 0, none⟩))])
        (fun (s_ : (List Ide) × (List (Ide × Int))) (H : Heap) => match s_ with | (dn, bb) => (Itr H H39.size a1 vA es ck dn) ∧ (Mp H vA (Value.int .i64) Hcutr4.size bb) ∧ (∀ k, (mget bb k).isSome = true ↔ k ∈ dn ∧ k ∈ m2.map (·.1)) ∧ (dn.Nodup ∧ ∀ k ∈ dn, k ∈ m1.map (·.1)) ∧ Mo (Ms [(H39.size + 1), (Hcutr4.size + 1)]) H41 H)
        (fun (s_ : (List Ide) × (List (Ide × Int))) => match s_ with | (dn, bb) => m1.length - dn.length) ([], []) ⟨rfl, rfl, rfl, rfl, trivial⟩ ?_ ?_
      ·
        exact ⟨it, hb, fun k => by simp [mget], ⟨List.nodup_nil, by simp⟩, Mo.refl _ _⟩
      rintro ⟨dn, bb⟩ HL1 hI1 K11 hN11 hE11
      obtain ⟨it, hb, hD, hdn, hlm1⟩ := hI1
      replace hv := hv.upL hlm1 (DL.cons dj170 (DL.cons dj160 DL.nil))
      replace hsr := hsr.upL hlm1 (DFL.cons df171 (DFL.cons df161 DFL.nil))
      replace ow23 := ow23.upL hlm1 (DL.cons dj172 (DL.cons dj164 DL.nil))
      replace ow24 := ow24.upL hlm1 (DL.cons dj173 (DL.cons dj165 DL.nil))
      replace hc := hc.upL hlm1 (DFL.cons df174 (DFL.cons df166 DFL.nil))
      replace h1 := h1.upL hlm1 (DL.cons dj175 (DL.cons dj167 DL.nil))
      replace h2 := h2.upL hlm1 (DL.cons dj176 (DL.cons dj168 DL.nil))
      replace hm0 := hm0.trL hlm1 (MIL.cons (MI.app MI.z (nx178) (Nat.le_refl _)) (MIL.cons (MI.app MI.z (nx169) (Nat.le_refl _)) MIL.nil))
      have hz20 := hlm1.size
      have nx_hlm1_it := Nx.refl (H39.size + 1) H41.size
      have nx_hlm1_hb := Nx.refl (Hcutr4.size + 1) H41.size
      have hdl := nodup_le hdn.1 hdn.2
      rw [List.length_map] at hdl
      refine CW.seq (fun K12 hK12 hE12 => ?_)
      refine CW.region ?_
      refine LR.z (Z.nextA it h1 keyId.inj rfl rfl) (Wd.u rfl) rfl rfl (fun v42 H42 r42 => ?_)
      obtain ⟨qb, x, y, dn2, rfl, it, hT42, hF42, hs42⟩ := r42
      replace hs42 := hs42.md1
      replace hv := hv.upL hs42 (DL.cons dj170 DL.nil)
      replace hsr := hsr.upL hs42 (DFL.cons df171 DFL.nil)
      replace ow23 := ow23.upL hs42 (DL.cons dj172 DL.nil)
      replace ow24 := ow24.upL hs42 (DL.cons dj173 DL.nil)
      replace hc := hc.upL hs42 (DFL.cons df174 DFL.nil)
      replace h1 := h1.upL hs42 (DL.cons dj175 DL.nil)
      replace h2 := h2.upL hs42 (DL.cons dj176 DL.nil)
      replace hb := hb.upL hs42 (DL.cons dj177 DL.nil)
      replace hm0 := hm0.trL hs42 (MIL.cons (MI.app MI.z (nx178) (Nat.le_refl _)) MIL.nil)
      replace hlm1 := hlm1.trL hs42 (MIL.cons (MI.app (MI.root (by simp)) (nx_hlm1_it) (Nat.le_refl _)) MIL.nil)
      have hz21 := hs42.size
      refine LR.v (Y.ext0 rfl rfl) (Wd.u rfl) rfl rfl ?_
      refine LR.nil ?_
      refine hK12 _ _ ?_
      refine CW.seq (fun K13 hK13 hE13 => ?_)
      refine CW.cond rfl (fun c43 => ?_) (fun c43 => ?_)
      ·
        obtain ⟨hxy, hnd, hdq⟩ := hT42 c43
        rw [hdq] at it
        refine CW.skip ?_
        refine hK13 _ _ ?_
        refine CW.block (fun K14 hK14 hX14 hE14 => ?_)
        refine CW.seq (fun K15 hK15 hE15 => ?_)
        refine CW.region ?_
        refine LR.v (Y.entryA it h1 keyId.inj hxy rfl rfl) (Wd.u rfl) rfl rfl ?_
        refine LR.v (Y.extract rfl rfl rfl) (Wd.u rfl) rfl rfl ?_
        refine LR.z (Z.allocv rfl Try.zeroValue30) (Wd.u rfl) rfl rfl (fun v13 H13 r13 => ?_)
        obtain ⟨rfl, vi, hs13, ob13, hH13⟩ := r13
        have hzs13 : H13.size = H42.size + 1 := by rw [hH13]; simp
        have dj179 : Dj (sb + 1) (H42.size + 1) := Dj.new hv.lt
        have df180 := (DF.new (bf_hsr.mono hm0.size) : DF _ (H42.size + 1))
        have dj181 : Dj (H5.size + 1) (H42.size + 1) := Dj.new ow23.le
        have dj182 : Dj (H23.size + 1) (H42.size + 1) := Dj.new ow24.le
        have df183 := (DF.new (bf_hc.mono (by omega)) : DF _ (H42.size + 1))
        have dj184 : Dj ((a1 + 1)) (H42.size + 1) := Dj.new h1.le
        have dj185 : Dj ((a2 + 1)) (H42.size + 1) := Dj.new h2.le
        have dj186 : Dj (Hcutr4.size + 1) (H42.size + 1) := Dj.new hb.lt
        have dj187 : Dj (H39.size + 1) (H42.size + 1) := Dj.new it.lt
        have nx188 : Nx 0 H0.size (H42.size + 1) := Nx.new hm0.size
        have nx189 : Nx 0 H41.size (H42.size + 1) := Nx.new hlm1.size
        replace hv := hv.nw hs13
        replace hsr := hsr.nw hs13
        replace ow23 := ow23.nw hs13
        replace ow24 := ow24.nw hs13
        replace hc := hc.nw hs13
        replace h1 := h1.nw hs13
        replace h2 := h2.nw hs13
        replace hb := hb.nw hs13
        replace it := it.nw hs13
        replace hm0 := hm0.trN hs13
        replace hlm1 := hlm1.trN hs13
        have hz22 := hs13.size
        replace vi : Var 30 H13 H42.size (fA Zid) := vi
        refine LR.s (S.var vi (_) (fA (x)) rfl rfl rfl rfl (fA_one _) Try.sizeOf30 (fA_len _) (by first | decide | simp [fA_len]) ((splice_all2 (by first | exact (fA_len _).symm | rfl | exact (fA_len _).trans (fA_len _).symm)))) (Wd.u rfl) rfl (fun H8_3 r8_3 => ?_)
        obtain ⟨vi, hs8_3⟩ := r8_3
        replace hs8_3 := hs8_3.md1
        replace hv := hv.upL hs8_3 (DL.cons dj179 DL.nil)
        replace hsr := hsr.upL hs8_3 (DFL.cons df180 DFL.nil)
        replace ow23 := ow23.upL hs8_3 (DL.cons dj181 DL.nil)
        replace ow24 := ow24.upL hs8_3 (DL.cons dj182 DL.nil)
        replace hc := hc.upL hs8_3 (DFL.cons df183 DFL.nil)
        replace h1 := h1.upL hs8_3 (DL.cons dj184 DL.nil)
        replace h2 := h2.upL hs8_3 (DL.cons dj185 DL.nil)
        replace hb := hb.upL hs8_3 (DL.cons dj186 DL.nil)
        replace it := it.upL hs8_3 (DL.cons dj187 DL.nil)
        replace hm0 := hm0.trL hs8_3 (MIL.cons (MI.app MI.z (nx188) (Nat.le_refl _)) MIL.nil)
        replace hlm1 := hlm1.trL hs8_3 (MIL.cons (MI.app MI.z (nx189) (Nat.le_refl _)) MIL.nil)
        have hz23 := hs8_3.size
        refine LR.nil ?_
        refine hK15 _ _ ?_
        refine CW.seq (fun K16 hK16 hE16 => ?_)
        refine CW.region ?_
        refine LR.v (Y.move rfl rfl) (Wd.u rfl) rfl rfl ?_
        refine LR.v (Y.loadN vi.pt rfl Try.isAgg30 Try.sizeOf30 (fA_len _) rfl) (Wd.u rfl) rfl rfl ?_
        refine LR.v (Y.lookupOkA h2.mo keyId rfl Try.runUnderlying72 Try.zeroValue3 rfl rfl) (Wd.u rfl) rfl rfl ?_
        refine LR.v (Y.move rfl rfl) (Wd.u rfl) rfl rfl ?_
        refine LR.v (Y.extract rfl rfl rfl) (Wd.u rfl) rfl rfl ?_
        refine LR.v (Y.extract rfl rfl rfl) (Wd.u rfl) rfl rfl ?_
        refine LR.v (Y.assign rfl rfl) (Wd.u rfl) rfl rfl ?_
        refine LR.v (Y.assign rfl rfl) (Wd.u rfl) rfl rfl ?_
        refine LR.nil ?_
        refine hK16 _ _ ?_
        refine CW.seq (fun K17 hK17 hE17 => ?_)
        refine CW.region ?_
        refine LR.v (Y.move rfl rfl) (Wd.u rfl) rfl rfl ?_
        refine LR.nil ?_
        refine hK17 _ _ ?_
        refine CW.cond rfl (fun c52 => ?_) (fun c52 => ?_)
        ·
          refine CW.region ?_
          refine LR.v (Y.move rfl rfl) (Wd.u rfl) rfl rfl ?_
          refine LR.v (Y.loadN vi.pt rfl Try.isAgg30 Try.sizeOf30 (fA_len _) rfl) (Wd.u rfl) rfl rfl ?_
          refine LR.s (S.putA (_) hb keyId rfl Try.runUnderlying72 rfl rfl rfl) (Wd.u rfl) rfl (fun H11_2 r11_2 => ?_)
          obtain ⟨hb, hs11_2⟩ := r11_2
          replace hs11_2 := hs11_2.md1
          replace hv := hv.upL hs11_2 (DL.cons dj160 DL.nil)
          replace hsr := hsr.upL hs11_2 (DFL.cons df161 DFL.nil)
          replace ow23 := ow23.upL hs11_2 (DL.cons dj164 DL.nil)
          replace ow24 := ow24.upL hs11_2 (DL.cons dj165 DL.nil)
          replace hc := hc.upL hs11_2 (DFL.cons df166 DFL.nil)
          replace h1 := h1.upL hs11_2 (DL.cons dj167 DL.nil)
          replace h2 := h2.upL hs11_2 (DL.cons dj168 DL.nil)
          replace it := it.upL hs11_2 (DL.cons dj177.symm DL.nil)
          replace vi := vi.upL hs11_2 (DL.cons dj186.symm DL.nil)
          replace hm0 := hm0.trL hs11_2 (MIL.cons (MI.app MI.z (nx169) (Nat.le_refl _)) MIL.nil)
          replace hlm1 := hlm1.trL hs11_2 (MIL.cons (MI.app (MI.root (by simp)) (nx_hlm1_hb) (Nat.le_refl _)) MIL.nil)
          have hz24 := hs11_2.size
          refine LR.nil ?_
          refine hK14 _ _ ?_
          have hdn2 : (dn ++ [x]).Nodup ∧ ∀ k ∈ dn ++ [x], k ∈ m1.map (·.1) := by
            refine ⟨?_, fun k hk => ?_⟩
            · rw [List.nodup_append]
              exact ⟨hdn.1, by simp, fun a ha b hb e => by simp only [List.mem_singleton] at hb; subst hb; subst e; exact hnd ha⟩
            · rcases List.mem_append.1 hk with hk | hk
              · exact hdn.2 k hk
              · rw [List.mem_singleton.1 hk]; exact List.mem_map.2 ⟨_, hxy, rfl⟩
          have hdl2 := nodup_le hdn2.1 hdn2.2
          rw [List.length_append, List.length_map, List.length_singleton] at hdl2
          refine QN.sub (hN11 (dn ++ [x], mput bb x 0) _ ?_ ?_) ⟨rfl, rfl, rfl, rfl, trivial⟩
          · exact ⟨it, hb, fun k => by
              rw [mget_put]
              by_cases h1 : k = x
              · subst h1; rw [if_pos rfl]; exact ⟨fun _ => ⟨by simp, isSome_iff_key.1 c52⟩, fun _ => rfl⟩
              · rw [if_neg h1, hD k]; simp [h1], hdn2, hlm1⟩
          · simp <;> omega
        ·
          refine CW.skip ?_
          refine hK14 _ _ ?_
          have hdn2 : (dn ++ [x]).Nodup ∧ ∀ k ∈ dn ++ [x], k ∈ m1.map (·.1) := by
            refine ⟨?_, fun k hk => ?_⟩
            · rw [List.nodup_append]
              exact ⟨hdn.1, by simp, fun a ha b hb e => by simp only [List.mem_singleton] at hb; subst hb; subst e; exact hnd ha⟩
            · rcases List.mem_append.1 hk with hk | hk
              · exact hdn.2 k hk
              · rw [List.mem_singleton.1 hk]; exact List.mem_map.2 ⟨_, hxy, rfl⟩
          have hdl2 := nodup_le hdn2.1 hdn2.2
          rw [List.length_append, List.length_map, List.length_singleton] at hdl2
          refine QN.sub (hN11 (dn ++ [x], bb) _ ?_ ?_) ⟨rfl, rfl, rfl, rfl, trivial⟩
          · exact ⟨it, hb, fun k => by
              rw [hD k]
              by_cases h1 : k = x
              · subst h1
                refine ⟨fun q => absurd q.1 hnd, fun q => ?_⟩
                rw [isSome_iff_key.2 q.2] at c52; cases c52
              · simp [h1], hdn2, hlm1⟩
          · simp <;> omega
      ·
        obtain ⟨hall, hdq⟩ := hF42 c43
        have hdm : ∀ k, k ∈ dn ↔ k ∈ m1.map (·.1) := fun k => ⟨hdn.2 k, fun h => by obtain ⟨p, hp, rfl⟩ := List.mem_map.1 h; exact hall p hp⟩
        have hbb : ∀ k, k ∈ bb.map (·.1) ↔ Com So.pa a b k := fun k => by rw [← isSome_iff_key, hD k, hdm, hu1, hu2]; rfl
        have hbK : ∀ k ∈ bb.map (·.1), k ∈ m.map (·.1) := fun k hk => up_in hA (hstK a (by simp)) ((hbb k).1 hk).1
        have hb5 := nodup_le hb.mo.nodup hbK
        rw [List.length_map, List.length_map] at hb5
        refine CW.exit (hE13 (.exit 0) nofun _ _ (hE11 (.exit 0) nofun _ _ (hX10 _ _ ?_)))
        refine hK8 _ _ ?_
        refine CW.seq (fun K18 hK18 hE18 => ?_)
        refine CW.region ?_
        refine LR.v (Y.assign rfl rfl) (Wd.u rfl) rfl rfl ?_
        refine LR.nil ?_
        refine hK18 _ _ ?_
        refine CW.seq (fun K19 hK19 hE19 => ?_)
        refine CW.seq (fun K20 hK20 hE20 => ?_)
        refine CW.region ?_
        refine LR.v (Y.move rfl rfl) (Wd.u rfl) rfl rfl ?_
        obtain ⟨es2, ck2, hb⟩ := hb.raw
        refine LR.z (Z.rangeA hb rfl Try.runUnderlying72 rfl) (Wd.u rfl) rfl rfl (fun v56 H56 r56 => ?_)
        obtain ⟨rfl, it2, hs56, ob56, hH56⟩ := r56
        have hzs56 : H56.size = H42.size + 1 := by rw [hH56]; simp
        have dj190 : Dj (sb + 1) (H42.size + 1) := Dj.new hv.lt
        have df191 := (DF.new (bf_hsr.mono hm0.size) : DF _ (H42.size + 1))
        have dj192 : Dj (H5.size + 1) (H42.size + 1) := Dj.new ow23.le
        have dj193 : Dj (H23.size + 1) (H42.size + 1) := Dj.new ow24.le
        have df194 := (DF.new (bf_hc.mono (by omega)) : DF _ (H42.size + 1))
        have dj195 : Dj ((a1 + 1)) (H42.size + 1) := Dj.new h1.le
        have dj196 : Dj ((a2 + 1)) (H42.size + 1) := Dj.new h2.le
        have dj197 : Dj (Hcutr4.size + 1) (H42.size + 1) := Dj.new hb.lt
        have dj198 : Dj (H39.size + 1) (H42.size + 1) := Dj.new it.lt
        have nx199 : Nx 0 H0.size (H42.size + 1) := Nx.new hm0.size
        replace hv := hv.nw hs56
        replace hsr := hsr.nw hs56
        replace ow23 := ow23.nw hs56
        replace ow24 := ow24.nw hs56
        replace hc := hc.nw hs56
        replace h1 := h1.nw hs56
        replace h2 := h2.nw hs56
        replace hb := hb.nw hs56
        replace it := it.nw hs56
        replace hm0 := hm0.trN hs56
        have hz25 := hs56.size
        have hlt_it2 := it2.lt
        refine LR.nil ?_
        refine hK20 _ _ ?_
        refine CW.block (fun K21 hK21 hX21 hE21 => ?_)
        refine CW.loop (fun (s_ : (List Ide) × (Value) × (Nat) × (List Ide)) => match s_ with | (dn, vp, kp, pr) => [(8, vc), (12, .map (some Hcutr4.size)), (16, vp), (56, .pointer (some ⟨H42.size, 0, none⟩))])
          (fun (s_ : (List Ide) × (Value) × (Nat) × (List Ide)) (H : Heap) => match s_ with | (dn, vp, kp, pr) => (Itr H H42.size Hcutr4.size vA es2 ck2 dn) ∧ (Ow kp 30 H fA 32 vp pr) ∧ (∀ p, p ∈ pr ↔ ∃ k ∈ dn, p ∈ cpa So.pa (m.map (·.1)) k) ∧ (pr.length ≤ dn.length * 1000) ∧ (dn.Nodup ∧ ∀ k ∈ dn, k ∈ bb.map (·.1)) ∧ (Nx 0 H56.size kp) ∧ (Dj (H42.size + 1) kp) ∧ Mo (Ms [(H42.size + 1)]) H56 H)
          (fun (s_ : (List Ide) × (Value) × (Nat) × (List Ide)) => match s_ with | (dn, vp, kp, pr) => bb.length - dn.length) ([], .slice none 0 0, 0, []) ⟨rfl, rfl, rfl, rfl, trivial⟩ ?_ ?_
        ·
          exact ⟨it2, Ow.nil fA_len fA_one, fun p => by simp, by simp, ⟨List.nodup_nil, by simp⟩, Nx.refl _ _, Dj.z, Mo.refl _ _⟩
        rintro ⟨dn, vp, kp, pr⟩ HL2 hI2 K22 hN22 hE22
        obtain ⟨it2, op, hpr, hprl, hdn, nxl_op, dj_it2_op, hlm2⟩ := hI2
        have dj200 : Dj (sb + 1) kp := Dj.app (Dj.z) hv.lt nxl_op
        have df201 := DF.app (DF.z) (bf_hsr.mono hm0.size) nxl_op
        have dj202 : Dj (H5.size + 1) kp := Dj.app (Dj.z) ow23.le nxl_op
        have dj203 : Dj (H23.size + 1) kp := Dj.app (Dj.z) ow24.le nxl_op
        have df204 := DF.app (DF.z) (bf_hc.mono (by omega)) nxl_op
        have dj205 : Dj ((a1 + 1)) kp := Dj.app (Dj.z) h1.le nxl_op
        have dj206 : Dj ((a2 + 1)) kp := Dj.app (Dj.z) h2.le nxl_op
        have dj207 : Dj (Hcutr4.size + 1) kp := Dj.app (Dj.z) hb.lt nxl_op
        have dj208 : Dj (H39.size + 1) kp := Dj.app (Dj.z) it.lt nxl_op
        have nx209 : Nx 0 H0.size kp := Nx.tr (Nx.refl 0 _) nxl_op hm0.size
        replace hv := hv.upL hlm2 (DL.cons dj190 DL.nil)
        replace hsr := hsr.upL hlm2 (DFL.cons df191 DFL.nil)
        replace ow23 := ow23.upL hlm2 (DL.cons dj192 DL.nil)
        replace ow24 := ow24.upL hlm2 (DL.cons dj193 DL.nil)
        replace hc := hc.upL hlm2 (DFL.cons df194 DFL.nil)
        replace h1 := h1.upL hlm2 (DL.cons dj195 DL.nil)
        replace h2 := h2.upL hlm2 (DL.cons dj196 DL.nil)
        replace hb := hb.upL hlm2 (DL.cons dj197 DL.nil)
        replace it := it.upL hlm2 (DL.cons dj198 DL.nil)
        replace hm0 := hm0.trL hlm2 (MIL.cons (MI.app MI.z (nx199) (Nat.le_refl _)) MIL.nil)
        have hz26 := hlm2.size
        have hle_op := op.le
        have dj210 := dj_it2_op
        have nx_hlm2_it2 := Nx.refl (H42.size + 1) H56.size
        have nx211 := nxl_op
        have hdl := nodup_le hdn.1 hdn.2
        rw [List.length_map] at hdl
        refine CW.seq (fun K23 hK23 hE23 => ?_)
        refine CW.region ?_
        refine LR.z (Z.nextA it2 hb keyId.inj rfl rfl) (Wd.u rfl) rfl rfl (fun v57 H57 r57 => ?_)
        obtain ⟨qb, x, y, dn3, rfl, it2, hT57, hF57, hs57⟩ := r57
        replace hs57 := hs57.md1
        replace hv := hv.upL hs57 (DL.cons dj190 DL.nil)
        replace hsr := hsr.upL hs57 (DFL.cons df191 DFL.nil)
        replace ow23 := ow23.upL hs57 (DL.cons dj192 DL.nil)
        replace ow24 := ow24.upL hs57 (DL.cons dj193 DL.nil)
        replace hc := hc.upL hs57 (DFL.cons df194 DFL.nil)
        replace h1 := h1.upL hs57 (DL.cons dj195 DL.nil)
        replace h2 := h2.upL hs57 (DL.cons dj196 DL.nil)
        replace hb := hb.upL hs57 (DL.cons dj197 DL.nil)
        replace it := it.upL hs57 (DL.cons dj198 DL.nil)
        replace op := op.upL hs57 (DL.cons dj210.symm DL.nil)
        replace hm0 := hm0.trL hs57 (MIL.cons (MI.app MI.z (nx199) (Nat.le_refl _)) MIL.nil)
        replace hlm2 := hlm2.trL hs57 (MIL.cons (MI.app (MI.root (by simp)) (nx_hlm2_it2) (Nat.le_refl _)) MIL.nil)
        have hz27 := hs57.size
        refine LR.v (Y.ext0 rfl rfl) (Wd.u rfl) rfl rfl ?_
        refine LR.nil ?_
        refine hK23 _ _ ?_
        refine CW.seq (fun K24 hK24 hE24 => ?_)
        refine CW.cond rfl (fun c58 => ?_) (fun c58 => ?_)
        ·
          obtain ⟨hxy, hnd, hdq⟩ := hT57 c58
          rw [hdq] at it2
          refine CW.skip ?_
          refine hK24 _ _ ?_
          refine CW.block (fun K25 hK25 hX25 hE25 => ?_)
          refine CW.seq (fun K26 hK26 hE26 => ?_)
          refine CW.region ?_
          refine LR.v (Y.entryA it2 hb keyId.inj hxy rfl rfl) (Wd.u rfl) rfl rfl ?_
          refine LR.v (Y.extract rfl rfl rfl) (Wd.u rfl) rfl rfl ?_
          refine LR.z (Z.allocv rfl Try.zeroValue30) (Wd.u rfl) rfl rfl (fun v17 H17 r17 => ?_)
          obtain ⟨rfl, vj, hs17, ob17, hH17⟩ := r17
          have hzs17 : H17.size = H57.size + 1 := by rw [hH17]; simp
          have dj212 : Dj (sb + 1) (H57.size + 1) := Dj.new hv.lt
          have df213 := (DF.new (bf_hsr.mono hm0.size) : DF _ (H57.size + 1))
          have dj214 : Dj (H5.size + 1) (H57.size + 1) := Dj.new ow23.le
          have dj215 : Dj (H23.size + 1) (H57.size + 1) := Dj.new ow24.le
          have df216 := (DF.new (bf_hc.mono (by omega)) : DF _ (H57.size + 1))
          have dj217 : Dj ((a1 + 1)) (H57.size + 1) := Dj.new h1.le
          have dj218 : Dj ((a2 + 1)) (H57.size + 1) := Dj.new h2.le
          have dj219 : Dj (Hcutr4.size + 1) (H57.size + 1) := Dj.new hb.lt
          have dj220 : Dj (H39.size + 1) (H57.size + 1) := Dj.new it.lt
          have dj221 : Dj (H42.size + 1) (H57.size + 1) := Dj.new it2.lt
          have dj222 : Dj kp (H57.size + 1) := Dj.new op.le
          have nx223 : Nx 0 H0.size (H57.size + 1) := Nx.new hm0.size
          have nx224 : Nx 0 H56.size (H57.size + 1) := Nx.new hlm2.size
          replace hv := hv.nw hs17
          replace hsr := hsr.nw hs17
          replace ow23 := ow23.nw hs17
          replace ow24 := ow24.nw hs17
          replace hc := hc.nw hs17
          replace h1 := h1.nw hs17
          replace h2 := h2.nw hs17
          replace hb := hb.nw hs17
          replace it := it.nw hs17
          replace it2 := it2.nw hs17
          replace op := op.nw hs17
          replace hm0 := hm0.trN hs17
          replace hlm2 := hlm2.trN hs17
          have hz28 := hs17.size
          replace vj : Var 30 H17 H57.size (fA Zid) := vj
          refine LR.s (S.var vj (_) (fA (x)) rfl rfl rfl rfl (fA_one _) Try.sizeOf30 (fA_len _) (by first | decide | simp [fA_len]) ((splice_all2 (by first | exact (fA_len _).symm | rfl | exact (fA_len _).trans (fA_len _).symm)))) (Wd.u rfl) rfl (fun H15_3 r15_3 => ?_)
          obtain ⟨vj, hs15_3⟩ := r15_3
          replace hs15_3 := hs15_3.md1
          replace hv := hv.upL hs15_3 (DL.cons dj212 DL.nil)
          replace hsr := hsr.upL hs15_3 (DFL.cons df213 DFL.nil)
          replace ow23 := ow23.upL hs15_3 (DL.cons dj214 DL.nil)
          replace ow24 := ow24.upL hs15_3 (DL.cons dj215 DL.nil)
          replace hc := hc.upL hs15_3 (DFL.cons df216 DFL.nil)
          replace h1 := h1.upL hs15_3 (DL.cons dj217 DL.nil)
          replace h2 := h2.upL hs15_3 (DL.cons dj218 DL.nil)
          replace hb := hb.upL hs15_3 (DL.cons dj219 DL.nil)
          replace it := it.upL hs15_3 (DL.cons dj220 DL.nil)
          replace it2 := it2.upL hs15_3 (DL.cons dj221 DL.nil)
          replace op := op.upL hs15_3 (DL.cons dj222 DL.nil)
          replace hm0 := hm0.trL hs15_3 (MIL.cons (MI.app MI.z (nx223) (Nat.le_refl _)) MIL.nil)
          replace hlm2 := hlm2.trL hs15_3 (MIL.cons (MI.app MI.z (nx224) (Nat.le_refl _)) MIL.nil)
          have hz29 := hs15_3.size
          refine LR.nil ?_
          refine hK26 _ _ ?_
          refine CW.region ?_
          refine LR.v (Y.move rfl rfl) (Wd.u rfl) rfl rfl ?_
          refine LR.v (Y.move rfl rfl) (Wd.u rfl) rfl rfl ?_
          refine LR.v (Y.loadN vj.pt rfl Try.isAgg30 Try.sizeOf30 (fA_len _) rfl) (Wd.u rfl) rfl rfl ?_
          refine LR.v (Y.lookupA hc.mo keyId rfl Try.runUnderlying69 Try.zeroValue28 rfl rfl) (Wd.u rfl) rfl rfl ?_
          have hpl := hco.pl x
          refine LR.z (Z.apnd op (hc.row x) rfl inf28 rfl rfl (by first | omega | (simp; omega)) (by first | omega | (simp; omega))) (Wd.u rfl) rfl rfl (fun v65 H65 r65 => ?_)
          obtain ⟨k65, op, hk65, hs65⟩ := r65
          replace hk65 : Nx kp H15_3.size k65 := hk65
          replace hs65 := hs65.md
          have dj225 : Dj (sb + 1) k65 := Dj.app (dj200) hv.lt hk65
          have df226 := DF.app (df201) (bf_hsr.mono hm0.size) hk65
          have dj227 : Dj (H5.size + 1) k65 := Dj.app (dj202) ow23.le hk65
          have dj228 : Dj (H23.size + 1) k65 := Dj.app (dj203) ow24.le hk65
          have df229 := DF.app (df204) (bf_hc.mono (by omega)) hk65
          have dj230 : Dj ((a1 + 1)) k65 := Dj.app (dj205) h1.le hk65
          have dj231 : Dj ((a2 + 1)) k65 := Dj.app (dj206) h2.le hk65
          have dj232 : Dj (Hcutr4.size + 1) k65 := Dj.app (dj207) hb.lt hk65
          have dj233 : Dj (H39.size + 1) k65 := Dj.app (dj208) it.lt hk65
          have dj234 : Dj (H42.size + 1) k65 := Dj.app (dj210) it2.lt hk65
          have dj235 : Dj (H57.size + 1) k65 := Dj.app (dj222.symm) vj.lt hk65
          have nx236 : Nx 0 H0.size k65 := Nx.tr (nx209) hk65 hm0.size
          have nx237 : Nx 0 H56.size k65 := Nx.tr (nx211) hk65 hlm2.size
          replace hv := hv.upL hs65 (DL.cons dj200 DL.nil)
          replace hsr := hsr.upL hs65 (DFL.cons df201 DFL.nil)
          replace ow23 := ow23.upL hs65 (DL.cons dj202 DL.nil)
          replace ow24 := ow24.upL hs65 (DL.cons dj203 DL.nil)
          replace hc := hc.upL hs65 (DFL.cons df204 DFL.nil)
          replace h1 := h1.upL hs65 (DL.cons dj205 DL.nil)
          replace h2 := h2.upL hs65 (DL.cons dj206 DL.nil)
          replace hb := hb.upL hs65 (DL.cons dj207 DL.nil)
          replace it := it.upL hs65 (DL.cons dj208 DL.nil)
          replace it2 := it2.upL hs65 (DL.cons dj210 DL.nil)
          replace vj := vj.upL hs65 (DL.cons dj222.symm DL.nil)
          replace hm0 := hm0.trL hs65 (MIL.cons (MI.app MI.z (nx209) (Nat.le_refl _)) MIL.nil)
          replace hlm2 := hlm2.trL hs65 (MIL.cons (MI.app MI.z (nx211) (Nat.le_refl _)) MIL.nil)
          have hz30 := hs65.size
          have hle_op := op.le
          refine LR.v (Y.assign rfl rfl) (Wd.u rfl) rfl rfl ?_
          refine LR.nil ?_
          refine hK25 _ _ ?_
          have hdn2 : (dn ++ [x]).Nodup ∧ ∀ k ∈ dn ++ [x], k ∈ bb.map (·.1) := by
            refine ⟨?_, fun k hk => ?_⟩
            · rw [List.nodup_append]
              exact ⟨hdn.1, by simp, fun a ha b hb e => by simp only [List.mem_singleton] at hb; subst hb; subst e; exact hnd ha⟩
            · rcases List.mem_append.1 hk with hk | hk
              · exact hdn.2 k hk
              · rw [List.mem_singleton.1 hk]; exact List.mem_map.2 ⟨_, hxy, rfl⟩
          have hdl2 := nodup_le hdn2.1 hdn2.2
          rw [List.length_append, List.length_map, List.length_singleton] at hdl2
          refine QN.sub (hN22 (dn ++ [x], v65, k65, pr ++ cpa So.pa (m.map (·.1)) x) _ ?_ ?_) ⟨rfl, rfl, rfl, rfl, trivial⟩
          · exact ⟨it2, op, fun p => by
              rw [List.mem_append, hpr]
              constructor
              · rintro (⟨k, h1, h2⟩ | h)
                · exact ⟨k, List.mem_append_left _ h1, h2⟩
                · exact ⟨x, by simp, h⟩
              · rintro ⟨k, h1, h2⟩
                rcases List.mem_append.1 h1 with h1 | h1
                · exact .inl ⟨k, h1, h2⟩
                · rw [List.mem_singleton.1 h1] at h2; exact .inr h2, by rw [List.length_append, List.length_append, List.length_singleton, Nat.add_mul]; omega, hdn2, nx237, dj234, hlm2⟩
          · simp <;> omega
        ·
          obtain ⟨hall, hdq⟩ := hF57 c58
          have hdb : ∀ k, k ∈ dn ↔ k ∈ bb.map (·.1) := fun k => ⟨hdn.2 k, fun h => by obtain ⟨p, hp, rfl⟩ := List.mem_map.1 h; exact hall p hp⟩
          have hprK : ∀ p ∈ pr, p ∈ m.map (·.1) := fun p hp => by obtain ⟨k, _, h2⟩ := (hpr p).1 hp; exact hco.clo k p h2
          refine CW.exit (hE24 (.exit 2) nofun _ _ (hE22 (.exit 2) nofun _ _ (hX21 _ _ ?_)))
          refine hK19 _ _ ?_
          refine CW.seq (fun K27 hK27 hE27 => ?_)
          refine CW.seq (fun K28 hK28 hE28 => ?_)
          refine CW.region ?_
          refine LR.v (Y.move rfl rfl) (Wd.u rfl) rfl rfl ?_
          refine LR.v (Y.move rfl rfl) (Wd.u rfl) rfl rfl ?_
          have hpl5 : pr.length ≤ 5000 * 1000 := by omega
          -- call (selvage/graph.commits).above
          refine LR.call rfl Try.call28 rfl (Wd.u rfl) rfl rfl (above_ct _ _ _ _ _ pr w0 _ hc (bf_hc.mono (by omega)) hco op.rd.any hprK (by omega)) (fun v68 H68 r68 => ?_)
          obtain ⟨a3, m3, rfl, h3, hk_h3, hU3, hs68⟩ := r68
          have dj238 : Dj (sb + 1) (a3 + 1) := Dj.app (Dj.z) hv.lt hk_h3
          have df239 := DF.app (DF.z) (bf_hsr.mono hm0.size) hk_h3
          have dj240 : Dj (H5.size + 1) (a3 + 1) := Dj.app (Dj.z) ow23.le hk_h3
          have dj241 : Dj (H23.size + 1) (a3 + 1) := Dj.app (Dj.z) ow24.le hk_h3
          have df242 := DF.app (DF.z) (bf_hc.mono (by omega)) hk_h3
          have dj243 : Dj ((a1 + 1)) (a3 + 1) := Dj.app (Dj.z) h1.le hk_h3
          have dj244 : Dj ((a2 + 1)) (a3 + 1) := Dj.app (Dj.z) h2.le hk_h3
          have dj245 : Dj (Hcutr4.size + 1) (a3 + 1) := Dj.app (Dj.z) hb.lt hk_h3
          have dj246 : Dj (H39.size + 1) (a3 + 1) := Dj.app (Dj.z) it.lt hk_h3
          have dj247 : Dj (H42.size + 1) (a3 + 1) := Dj.app (Dj.z) it2.lt hk_h3
          have dj248 : Dj kp (a3 + 1) := Dj.app (Dj.z) op.le hk_h3
          have nx249 : Nx 0 H0.size (a3 + 1) := Nx.tr (Nx.refl 0 _) hk_h3 hm0.size
          replace hv := hv.nw hs68
          replace hsr := hsr.nw hs68
          replace ow23 := ow23.nw hs68
          replace ow24 := ow24.nw hs68
          replace hc := hc.nw hs68
          replace h1 := h1.nw hs68
          replace h2 := h2.nw hs68
          replace hb := hb.nw hs68
          replace it := it.nw hs68
          replace it2 := it2.nw hs68
          replace op := op.nw hs68
          replace hm0 := hm0.trN hs68
          have hz31 := hs68.size
          have hle_h3 := h3.le
          obtain ⟨es3, ck3, h3⟩ := h3.raw
          refine LR.z (Z.rangeA h3 rfl Try.runUnderlying72 rfl) (Wd.u rfl) rfl rfl (fun v69 H69 r69 => ?_)
          obtain ⟨rfl, it3, hs69, ob69, hH69⟩ := r69
          have hzs69 : H69.size = H68.size + 1 := by rw [hH69]; simp
          have dj250 : Dj (sb + 1) (H68.size + 1) := Dj.new hv.lt
          have df251 := (DF.new (bf_hsr.mono hm0.size) : DF _ (H68.size + 1))
          have dj252 : Dj (H5.size + 1) (H68.size + 1) := Dj.new ow23.le
          have dj253 : Dj (H23.size + 1) (H68.size + 1) := Dj.new ow24.le
          have df254 := (DF.new (bf_hc.mono (by omega)) : DF _ (H68.size + 1))
          have dj255 : Dj ((a1 + 1)) (H68.size + 1) := Dj.new h1.le
          have dj256 : Dj ((a2 + 1)) (H68.size + 1) := Dj.new h2.le
          have dj257 : Dj (Hcutr4.size + 1) (H68.size + 1) := Dj.new hb.lt
          have dj258 : Dj (H39.size + 1) (H68.size + 1) := Dj.new it.lt
          have dj259 : Dj (H42.size + 1) (H68.size + 1) := Dj.new it2.lt
          have dj260 : Dj kp (H68.size + 1) := Dj.new op.le
          have dj261 : Dj (a3 + 1) (H68.size + 1) := Dj.new h3.le
          have nx262 : Nx 0 H0.size (H68.size + 1) := Nx.new hm0.size
          replace hv := hv.nw hs69
          replace hsr := hsr.nw hs69
          replace ow23 := ow23.nw hs69
          replace ow24 := ow24.nw hs69
          replace hc := hc.nw hs69
          replace h1 := h1.nw hs69
          replace h2 := h2.nw hs69
          replace hb := hb.nw hs69
          replace it := it.nw hs69
          replace it2 := it2.nw hs69
          replace op := op.nw hs69
          replace h3 := h3.nw hs69
          replace hm0 := hm0.trN hs69
          have hz32 := hs69.size
          have hlt_it3 := it3.lt
          refine LR.nil ?_
          refine hK28 _ _ ?_
          refine CW.block (fun K29 hK29 hX29 hE29 => ?_)
          refine CW.loop (fun (s_ : (List Ide) × (List (Ide × Int))) => match s_ with | (dn, b3) => [(12, .map (some Hcutr4.size)), (69, .pointer (some ⟨H68.size, 0, none⟩))])
            (fun (s_ : (List Ide) × (List (Ide × Int))) (H : Heap) => match s_ with | (dn, b3) => (Itr H H68.size a3 vA es3 ck3 dn) ∧ (Mp H vA (Value.int .i64) Hcutr4.size b3) ∧ (∀ k, (mget b3 k).isSome = true ↔ (mget bb k).isSome = true ∧ k ∉ dn) ∧ (dn.Nodup ∧ ∀ k ∈ dn, k ∈ m3.map (·.1)) ∧ Mo (Ms [(H68.size + 1), (Hcutr4.size + 1)]) H69 H)
            (fun (s_ : (List Ide) × (List (Ide × Int))) => match s_ with | (dn, b3) => m3.length - dn.length) ([], bb) ⟨rfl, rfl, trivial⟩ ?_ ?_
          ·
            exact ⟨it3, hb.mp, fun k => by simp, ⟨List.nodup_nil, by simp⟩, Mo.refl _ _⟩
          rintro ⟨dn, b3⟩ HL3 hI3 K30 hN30 hE30
          obtain ⟨it3, hb, hD3, hdn, hlm3⟩ := hI3
          replace hv := hv.upL hlm3 (DL.cons dj250 (DL.cons dj160 DL.nil))
          replace hsr := hsr.upL hlm3 (DFL.cons df251 (DFL.cons df161 DFL.nil))
          replace ow23 := ow23.upL hlm3 (DL.cons dj252 (DL.cons dj164 DL.nil))
          replace ow24 := ow24.upL hlm3 (DL.cons dj253 (DL.cons dj165 DL.nil))
          replace hc := hc.upL hlm3 (DFL.cons df254 (DFL.cons df166 DFL.nil))
          replace h1 := h1.upL hlm3 (DL.cons dj255 (DL.cons dj167 DL.nil))
          replace h2 := h2.upL hlm3 (DL.cons dj256 (DL.cons dj168 DL.nil))
          replace it := it.upL hlm3 (DL.cons dj258 (DL.cons dj177.symm DL.nil))
          replace it2 := it2.upL hlm3 (DL.cons dj259 (DL.cons dj197.symm DL.nil))
          replace op := op.upL hlm3 (DL.cons dj260 (DL.cons dj207.symm DL.nil))
          replace h3 := h3.upL hlm3 (DL.cons dj261 (DL.cons dj245.symm DL.nil))
          replace hm0 := hm0.trL hlm3 (MIL.cons (MI.app MI.z (nx262) (Nat.le_refl _)) (MIL.cons (MI.app MI.z (nx169) (Nat.le_refl _)) MIL.nil))
          have hz33 := hlm3.size
          have nx_hlm3_it3 := Nx.refl (H68.size + 1) H69.size
          have nx_hlm3_hb := Nx.refl (Hcutr4.size + 1) H69.size
          have hdl := nodup_le hdn.1 hdn.2
          rw [List.length_map] at hdl
          refine CW.seq (fun K31 hK31 hE31 => ?_)
          refine CW.region ?_
          refine LR.z (Z.nextA it3 h3 keyId.inj rfl rfl) (Wd.u rfl) rfl rfl (fun v70 H70 r70 => ?_)
          obtain ⟨qb, x, y, dn4, rfl, it3, hT70, hF70, hs70⟩ := r70
          replace hs70 := hs70.md1
          replace hv := hv.upL hs70 (DL.cons dj250 DL.nil)
          replace hsr := hsr.upL hs70 (DFL.cons df251 DFL.nil)
          replace ow23 := ow23.upL hs70 (DL.cons dj252 DL.nil)
          replace ow24 := ow24.upL hs70 (DL.cons dj253 DL.nil)
          replace hc := hc.upL hs70 (DFL.cons df254 DFL.nil)
          replace h1 := h1.upL hs70 (DL.cons dj255 DL.nil)
          replace h2 := h2.upL hs70 (DL.cons dj256 DL.nil)
          replace hb := hb.upL hs70 (DL.cons dj257 DL.nil)
          replace it := it.upL hs70 (DL.cons dj258 DL.nil)
          replace it2 := it2.upL hs70 (DL.cons dj259 DL.nil)
          replace op := op.upL hs70 (DL.cons dj260 DL.nil)
          replace h3 := h3.upL hs70 (DL.cons dj261 DL.nil)
          replace hm0 := hm0.trL hs70 (MIL.cons (MI.app MI.z (nx262) (Nat.le_refl _)) MIL.nil)
          replace hlm3 := hlm3.trL hs70 (MIL.cons (MI.app (MI.root (by simp)) (nx_hlm3_it3) (Nat.le_refl _)) MIL.nil)
          have hz34 := hs70.size
          refine LR.v (Y.ext0 rfl rfl) (Wd.u rfl) rfl rfl ?_
          refine LR.nil ?_
          refine hK31 _ _ ?_
          refine CW.seq (fun K32 hK32 hE32 => ?_)
          refine CW.cond rfl (fun c71 => ?_) (fun c71 => ?_)
          ·
            obtain ⟨hxy, hnd, hdq⟩ := hT70 c71
            rw [hdq] at it3
            refine CW.skip ?_
            refine hK32 _ _ ?_
            refine CW.block (fun K33 hK33 hX33 hE33 => ?_)
            refine CW.seq (fun K34 hK34 hE34 => ?_)
            refine CW.region ?_
            refine LR.v (Y.entryA it3 h3 keyId.inj hxy rfl rfl) (Wd.u rfl) rfl rfl ?_
            refine LR.v (Y.extract rfl rfl rfl) (Wd.u rfl) rfl rfl ?_
            refine LR.z (Z.allocv rfl Try.zeroValue30) (Wd.u rfl) rfl rfl (fun v18 H18 r18 => ?_)
            obtain ⟨rfl, vk, hs18, ob18, hH18⟩ := r18
            have hzs18 : H18.size = H70.size + 1 := by rw [hH18]; simp
            have dj263 : Dj (sb + 1) (H70.size + 1) := Dj.new hv.lt
            have df264 := (DF.new (bf_hsr.mono hm0.size) : DF _ (H70.size + 1))
            have dj265 : Dj (H5.size + 1) (H70.size + 1) := Dj.new ow23.le
            have dj266 : Dj (H23.size + 1) (H70.size + 1) := Dj.new ow24.le
            have df267 := (DF.new (bf_hc.mono (by omega)) : DF _ (H70.size + 1))
            have dj268 : Dj ((a1 + 1)) (H70.size + 1) := Dj.new h1.le
            have dj269 : Dj ((a2 + 1)) (H70.size + 1) := Dj.new h2.le
            have dj270 : Dj (Hcutr4.size + 1) (H70.size + 1) := Dj.new hb.lt
            have dj271 : Dj (H39.size + 1) (H70.size + 1) := Dj.new it.lt
            have dj272 : Dj (H42.size + 1) (H70.size + 1) := Dj.new it2.lt
            have dj273 : Dj kp (H70.size + 1) := Dj.new op.le
            have dj274 : Dj (a3 + 1) (H70.size + 1) := Dj.new h3.le
            have dj275 : Dj (H68.size + 1) (H70.size + 1) := Dj.new it3.lt
            have nx276 : Nx 0 H0.size (H70.size + 1) := Nx.new hm0.size
            have nx277 : Nx 0 H69.size (H70.size + 1) := Nx.new hlm3.size
            replace hv := hv.nw hs18
            replace hsr := hsr.nw hs18
            replace ow23 := ow23.nw hs18
            replace ow24 := ow24.nw hs18
            replace hc := hc.nw hs18
            replace h1 := h1.nw hs18
            replace h2 := h2.nw hs18
            replace hb := hb.nw hs18
            replace it := it.nw hs18
            replace it2 := it2.nw hs18
            replace op := op.nw hs18
            replace h3 := h3.nw hs18
            replace it3 := it3.nw hs18
            replace hm0 := hm0.trN hs18
            replace hlm3 := hlm3.trN hs18
            have hz35 := hs18.size
            replace vk : Var 30 H18 H70.size (fA Zid) := vk
            refine LR.s (S.var vk (_) (fA (x)) rfl rfl rfl rfl (fA_one _) Try.sizeOf30 (fA_len _) (by first | decide | simp [fA_len]) ((splice_all2 (by first | exact (fA_len _).symm | rfl | exact (fA_len _).trans (fA_len _).symm)))) (Wd.u rfl) rfl (fun H19_3 r19_3 => ?_)
            obtain ⟨vk, hs19_3⟩ := r19_3
            replace hs19_3 := hs19_3.md1
            replace hv := hv.upL hs19_3 (DL.cons dj263 DL.nil)
            replace hsr := hsr.upL hs19_3 (DFL.cons df264 DFL.nil)
            replace ow23 := ow23.upL hs19_3 (DL.cons dj265 DL.nil)
            replace ow24 := ow24.upL hs19_3 (DL.cons dj266 DL.nil)
            replace hc := hc.upL hs19_3 (DFL.cons df267 DFL.nil)
            replace h1 := h1.upL hs19_3 (DL.cons dj268 DL.nil)
            replace h2 := h2.upL hs19_3 (DL.cons dj269 DL.nil)
            replace hb := hb.upL hs19_3 (DL.cons dj270 DL.nil)
            replace it := it.upL hs19_3 (DL.cons dj271 DL.nil)
            replace it2 := it2.upL hs19_3 (DL.cons dj272 DL.nil)
            replace op := op.upL hs19_3 (DL.cons dj273 DL.nil)
            replace h3 := h3.upL hs19_3 (DL.cons dj274 DL.nil)
            replace it3 := it3.upL hs19_3 (DL.cons dj275 DL.nil)
            replace hm0 := hm0.trL hs19_3 (MIL.cons (MI.app MI.z (nx276) (Nat.le_refl _)) MIL.nil)
            replace hlm3 := hlm3.trL hs19_3 (MIL.cons (MI.app MI.z (nx277) (Nat.le_refl _)) MIL.nil)
            have hz36 := hs19_3.size
            refine LR.nil ?_
            refine hK34 _ _ ?_
            refine CW.region ?_
            refine LR.v (Y.move rfl rfl) (Wd.u rfl) rfl rfl ?_
            refine LR.v (Y.loadN vk.pt rfl Try.isAgg30 Try.sizeOf30 (fA_len _) rfl) (Wd.u rfl) rfl rfl ?_
            refine LR.zn (Z.delA hb keyId rfl Try.runUnderlying72 rfl rfl) (Wd.u rfl) rfl (fun v20_2 H20_2 r20_2 => ?_)
            obtain ⟨rfl, hb, hs20_2⟩ := r20_2
            replace hs20_2 := hs20_2.md1
            replace hv := hv.upL hs20_2 (DL.cons dj160 DL.nil)
            replace hsr := hsr.upL hs20_2 (DFL.cons df161 DFL.nil)
            replace ow23 := ow23.upL hs20_2 (DL.cons dj164 DL.nil)
            replace ow24 := ow24.upL hs20_2 (DL.cons dj165 DL.nil)
            replace hc := hc.upL hs20_2 (DFL.cons df166 DFL.nil)
            replace h1 := h1.upL hs20_2 (DL.cons dj167 DL.nil)
            replace h2 := h2.upL hs20_2 (DL.cons dj168 DL.nil)
            replace it := it.upL hs20_2 (DL.cons dj177.symm DL.nil)
            replace it2 := it2.upL hs20_2 (DL.cons dj197.symm DL.nil)
            replace op := op.upL hs20_2 (DL.cons dj207.symm DL.nil)
            replace h3 := h3.upL hs20_2 (DL.cons dj245.symm DL.nil)
            replace it3 := it3.upL hs20_2 (DL.cons dj257.symm DL.nil)
            replace vk := vk.upL hs20_2 (DL.cons dj270.symm DL.nil)
            replace hm0 := hm0.trL hs20_2 (MIL.cons (MI.app MI.z (nx169) (Nat.le_refl _)) MIL.nil)
            replace hlm3 := hlm3.trL hs20_2 (MIL.cons (MI.app (MI.root (by simp)) (nx_hlm3_hb) (Nat.le_refl _)) MIL.nil)
            have hz37 := hs20_2.size
            refine LR.nil ?_
            refine hK33 _ _ ?_
            have hdn2 : (dn ++ [x]).Nodup ∧ ∀ k ∈ dn ++ [x], k ∈ m3.map (·.1) := by
              refine ⟨?_, fun k hk => ?_⟩
              · rw [List.nodup_append]
                exact ⟨hdn.1, by simp, fun a ha b hb e => by simp only [List.mem_singleton] at hb; subst hb; subst e; exact hnd ha⟩
              · rcases List.mem_append.1 hk with hk | hk
                · exact hdn.2 k hk
                · rw [List.mem_singleton.1 hk]; exact List.mem_map.2 ⟨_, hxy, rfl⟩
            have hdl2 := nodup_le hdn2.1 hdn2.2
            rw [List.length_append, List.length_map, List.length_singleton] at hdl2
            refine QN.sub (hN30 (dn ++ [x], mdel b3 x) _ ?_ ?_) ⟨rfl, rfl, trivial⟩
            · exact ⟨it3, hb, fun k => by
                rw [mget_del]
                by_cases h1 : k = x
                · subst h1; simp
                · rw [if_neg h1, hD3 k]; simp [h1], hdn2, hlm3⟩
            · simp <;> omega
          ·
            obtain ⟨hall, hdq⟩ := hF70 c71
            have hd3 : ∀ k, k ∈ dn ↔ k ∈ m3.map (·.1) := fun k => ⟨hdn.2 k, fun h => by obtain ⟨p, hp, rfl⟩ := List.mem_map.1 h; exact hall p hp⟩
            have hbest : ∀ k, k ∈ b3.map (·.1) ↔ Best So.pa a b k := fun k => by
              rw [← isSome_iff_key, hD3 k, isSome_iff_key, hbb, hd3, hU3, best_iff hac]
              have e : (∃ i ∈ pr, Up (cpa So.pa (m.map (·.1))) i k) ↔ ∃ j, Com So.pa a b j ∧ ∃ ps p, So.pa j = some ps ∧ p ∈ ps ∧ UpO So.pa p k := by
                constructor
                · rintro ⟨p, hp, hu⟩
                  obtain ⟨j, hj, hpj⟩ := (hpr p).1 hp
                  have hjb := (hdb j).1 hj
                  exact ⟨j, (hbb j).1 hjb, _, p, cpa_in hA (hbK j hjb), hpj, (up_iff hA (hprK p hp)).1 hu⟩
                · rintro ⟨j, hj, ps, p, hq, hp, hu⟩
                  have hjb := (hbb j).2 hj
                  have h9 := cpa_in hA (hbK j hjb)
                  rw [hq] at h9
                  cases h9
                  have hpp := (hpr p).2 ⟨j, (hdb j).2 hjb, hp⟩
                  exact ⟨p, hpp, (up_iff hA (hprK p hpp)).2 hu⟩
              rw [e]
            have hb35 := nodup_le hb.mo.nodup (fun k hk => hbK k ((hbb k).2 ((hbest k).1 hk).1))
            rw [List.length_map, List.length_map] at hb35
            refine CW.exit (hE32 (.exit 4) nofun _ _ (hE30 (.exit 4) nofun _ _ (hX29 _ _ ?_)))
            refine hK27 _ _ ?_
            refine CW.seq (fun K35 hK35 hE35 => ?_)
            refine CW.seq (fun K36 hK36 hE36 => ?_)
            refine CW.region ?_
            refine LR.v (Y.move rfl rfl) (Wd.u rfl) rfl rfl ?_
            refine LR.v (Y.mlen hb.mo rfl Try.runUnderlying72 rfl) (Wd.u rfl) rfl rfl ?_
            refine LR.v (Y.gtr rfl rfl rfl) (Wd.u rfl) rfl rfl ?_
            refine LR.nil ?_
            refine hK36 _ _ ?_
            refine CW.condp rfl (fun c78 => ?_) (fun c78 => ?_)
            ·
              refine CW.seq (fun K37 hK37 hE37 => ?_)
              refine CW.region ?_
              refine LR.v (Y.mki rfl Try.runUnderlying76 (by intro ms h; cases h) rfl) (Wd.u rfl) rfl rfl ?_
              refine LR.v (Y.assign rfl rfl) (Wd.u rfl) rfl rfl ?_
              refine LR.v (Y.assign rfl rfl) (Wd.u rfl) rfl rfl ?_
              refine LR.nil ?_
              refine hK37 _ _ ?_
              refine CW.ret (hE35 .ret nofun _ _ (hret .ret (.inr rfl) _ _ _ (res2 rfl rfl rfl) ?_))
              exact ⟨⟨none, 0, 0⟩, 0, [], 4, q, rfl, Ow.nil fA_len fA_one, Nx.refl _ _, hv, .inr (.inl ⟨rfl, rfl, ⟨_, hA⟩, _, hb.mo.nodup, by rw [List.length_map]; omega, hbest⟩), by omega, hm0⟩
            ·
              refine CW.skip ?_
              refine hK35 _ _ ?_
              refine CW.seq (fun K38 hK38 hE38 => ?_)
              refine CW.region ?_
              refine LR.v (Y.move rfl rfl) (Wd.u rfl) rfl rfl ?_
              -- call maps.Keys[map[selvage/api.Id]int,selvage/api.Id,int]
              refine LR.call rfl Try.call31 rfl (Wd.u rfl) rfl rfl (keys_ct _ w0 _) (fun v81 H81 r81 => ?_)
              obtain ⟨bx, rfl, hx, hkx, hs81⟩ := r81
              have dj278 : Dj (sb + 1) (bx + 1) := Dj.app (Dj.z) hv.lt hkx
              have df279 := DF.app (DF.z) (bf_hsr.mono hm0.size) hkx
              have dj280 : Dj (H5.size + 1) (bx + 1) := Dj.app (Dj.z) ow23.le hkx
              have dj281 : Dj (H23.size + 1) (bx + 1) := Dj.app (Dj.z) ow24.le hkx
              have df282 := DF.app (DF.z) (bf_hc.mono (by omega)) hkx
              have dj283 : Dj ((a1 + 1)) (bx + 1) := Dj.app (Dj.z) h1.le hkx
              have dj284 : Dj ((a2 + 1)) (bx + 1) := Dj.app (Dj.z) h2.le hkx
              have dj285 : Dj (Hcutr4.size + 1) (bx + 1) := Dj.app (Dj.z) hb.lt hkx
              have dj286 : Dj (H39.size + 1) (bx + 1) := Dj.app (Dj.z) it.lt hkx
              have dj287 : Dj (H42.size + 1) (bx + 1) := Dj.app (Dj.z) it2.lt hkx
              have dj288 : Dj kp (bx + 1) := Dj.app (Dj.z) op.le hkx
              have dj289 : Dj (a3 + 1) (bx + 1) := Dj.app (Dj.z) h3.le hkx
              have dj290 : Dj (H68.size + 1) (bx + 1) := Dj.app (Dj.z) it3.lt hkx
              have nx291 : Nx 0 H0.size (bx + 1) := Nx.tr (Nx.refl 0 _) hkx hm0.size
              replace hv := hv.nw hs81
              replace hsr := hsr.nw hs81
              replace ow23 := ow23.nw hs81
              replace ow24 := ow24.nw hs81
              replace hc := hc.nw hs81
              replace h1 := h1.nw hs81
              replace h2 := h2.nw hs81
              replace hb := hb.nw hs81
              replace it := it.nw hs81
              replace it2 := it2.nw hs81
              replace op := op.nw hs81
              replace h3 := h3.nw hs81
              replace it3 := it3.nw hs81
              replace hm0 := hm0.trN hs81
              have hz38 := hs81.size
              have hle_hx := hx.le
              -- call slices.SortedFunc[selvage/api.Id]
              refine LR.call rfl Try.call30 rfl (Wd.u rfl) rfl rfl (sorted_ct bx _ b3 w0 _ hx hb (by omega)) (fun v82 H82 r82 => ?_)
              obtain ⟨s82, k82, out, rfl, oo, hk82, hout, hs82⟩ := r82
              have dj292 : Dj (sb + 1) k82 := Dj.app (Dj.z) hv.lt hk82
              have df293 := DF.app (DF.z) (bf_hsr.mono hm0.size) hk82
              have dj294 : Dj (H5.size + 1) k82 := Dj.app (Dj.z) ow23.le hk82
              have dj295 : Dj (H23.size + 1) k82 := Dj.app (Dj.z) ow24.le hk82
              have df296 := DF.app (DF.z) (bf_hc.mono (by omega)) hk82
              have dj297 : Dj ((a1 + 1)) k82 := Dj.app (Dj.z) h1.le hk82
              have dj298 : Dj ((a2 + 1)) k82 := Dj.app (Dj.z) h2.le hk82
              have dj299 : Dj (Hcutr4.size + 1) k82 := Dj.app (Dj.z) hb.lt hk82
              have dj300 : Dj (H39.size + 1) k82 := Dj.app (Dj.z) it.lt hk82
              have dj301 : Dj (H42.size + 1) k82 := Dj.app (Dj.z) it2.lt hk82
              have dj302 : Dj kp k82 := Dj.app (Dj.z) op.le hk82
              have dj303 : Dj (a3 + 1) k82 := Dj.app (Dj.z) h3.le hk82
              have dj304 : Dj (H68.size + 1) k82 := Dj.app (Dj.z) it3.lt hk82
              have dj305 : Dj (bx + 1) k82 := Dj.app (Dj.z) hx.le hk82
              have nx306 : Nx 0 H0.size k82 := Nx.tr (Nx.refl 0 _) hk82 hm0.size
              replace hv := hv.nw hs82
              replace hsr := hsr.nw hs82
              replace ow23 := ow23.nw hs82
              replace ow24 := ow24.nw hs82
              replace hc := hc.nw hs82
              replace h1 := h1.nw hs82
              replace h2 := h2.nw hs82
              replace hb := hb.nw hs82
              replace it := it.nw hs82
              replace it2 := it2.nw hs82
              replace op := op.nw hs82
              replace h3 := h3.nw hs82
              replace it3 := it3.nw hs82
              replace hx := hx.nw hs82
              replace hm0 := hm0.trN hs82
              have hz39 := hs82.size
              have hle_oo := oo.le
              refine LR.v (Y.assign rfl rfl) (Wd.u rfl) rfl rfl ?_
              refine LR.v (Y.assign rfl rfl) (Wd.u rfl) rfl rfl ?_
              refine LR.nil ?_
              refine hK38 _ _ ?_
              refine CW.ret (hret .ret (.inr rfl) _ _ _ (res2 rfl rfl rfl) ?_)
              have hol := nodup_le (ris_nodup hout.1) (fun k hk => (hout.2 k).1 hk)
              rw [List.length_map] at hol
              exact ⟨s82, k82, out, 0, q, rfl, oo, nx306, hv, .inl ⟨rfl, ⟨_, hA⟩, hout.1, by omega, fun k => by rw [hout.2, hbest]⟩, by omega, hm0⟩

end Go.Proofs.Ytepdhokpfecdnaa.GraM
/-
  Graphs told by rows of places; the chapter's example.
-/
namespace Go.Proofs.Ytepdhokpfecdnaa.GraN
open Go.Proofs.Ytepdhokpfecdnaa.E Go.RowKit Go.Proofs.Ytepdhokpfecdnaa.GraA Go.Proofs.Ytepdhokpfecdnaa.GraB Go.Proofs.Ytepdhokpfecdnaa.GraC Go.Proofs.Ytepdhokpfecdnaa.GraD Go.Proofs.Ytepdhokpfecdnaa.GraE Go.Proofs.Ytepdhokpfecdnaa.GraF Go.Proofs.Ytepdhokpfecdnaa.GraG Go.Proofs.Ytepdhokpfecdnaa.GraH Go.Proofs.Ytepdhokpfecdnaa.GraI Go.Proofs.Ytepdhokpfecdnaa.GraJ Go.Proofs.Ytepdhokpfecdnaa.GraK Go.Proofs.Ytepdhokpfecdnaa.GraL Go.Proofs.Ytepdhokpfecdnaa.GraM
set_option maxRecDepth 20000
set_option linter.unusedVariables false
set_option linter.unusedSimpArgs false
set_option linter.unusedSectionVars false

/-- a graph without rounds -/
structure GOk (g : List (List Nat)) : Prop where
  le : g.length ≤ 1000
  lt : ∀ n (h : n < g.length), ∀ k ∈ g[n], k < n
  deg : ∀ n (h : n < g.length), (g[n]).length ≤ 1000
section
variable {g : List (List Nat)} {a b k : Nat} {i j : Ide}
theorem GOk.pa (hg : GOk g) (ha : a < g.length) : paL g (idn a) = some ((g[a]).map idn) := paL_at (by have := hg.le; omega) ha
theorem GOk.inj (hg : GOk g) (ha : a ≤ g.length) (hb : b ≤ g.length) (h : idn a = idn b) : a = b := idn_inj (by have := hg.le; omega) (by have := hg.le; omega) h
/-- what stands above a place is a place, not behind it -/
theorem GOk.up (hg : GOk g) (ha : a < g.length) (h : UpO (paL g) (idn a) j) : ∃ k, k ≤ a ∧ j = idn k := by
  induction h with
  | refl => exact ⟨a, Nat.le_refl _, rfl⟩
  | @step j p ps _ hq hp ih =>
    obtain ⟨k, hk, rfl⟩ := ih
    have hkl : k < g.length := by omega
    rw [hg.pa hkl] at hq
    cases hq
    obtain ⟨q, hq2, rfl⟩ := List.mem_map.1 hp
    have := hg.lt k hkl q hq2
    exact ⟨q, by omega, rfl⟩
theorem GOk.step (hg : GOk g) (ha : a < g.length) (hk : k ∈ g[a]) (h : UpO (paL g) (idn k) j) : UpO (paL g) (idn a) j :=
  UpO.trans (UpO.step .refl (hg.pa ha) (List.mem_map.2 ⟨k, hk, rfl⟩)) h
theorem GOk.first (hg : GOk g) (ha : a < g.length) (h : UpO (paL g) (idn a) j) : j = idn a ∨ ∃ k ∈ g[a], UpO (paL g) (idn k) j := by
  rcases upo_first h with e | ⟨ps, p, h1, h2, h3⟩
  · exact .inl e.symm
  · rw [hg.pa ha] at h1
    cases h1
    obtain ⟨k, hk, rfl⟩ := List.mem_map.1 h2
    exact .inr ⟨k, hk, h3⟩
/-- a rank -/
def rkL (g : List (List Nat)) (i : Ide) : Nat := ((List.range g.length).find? (fun n => decide (idn n = i))).getD 0
theorem GOk.rk (hg : GOk g) (ha : a < g.length) : rkL g (idn a) = a := by
  unfold rkL
  have : (List.range g.length).find? (fun n => decide (idn n = idn a)) = some a := by
    rw [List.find?_range_eq_some]
    exact ⟨by simp, by simpa using ha, fun j hj => by simpa using fun e => by have := hg.inj (by omega) (by omega) e; omega⟩
  rw [this]; rfl
theorem GOk.told (hg : GOk g) {ps : List Ide} (h : paL g i = some ps) : ∃ a, ∃ h : a < g.length, i = idn a ∧ ps = (g[a]).map idn := by
  unfold paL at h
  rw [Option.map_eq_some_iff] at h
  obtain ⟨n, h1, rfl⟩ := h
  rw [List.find?_range_eq_some] at h1
  have hn : n < g.length := by simpa using h1.2.1
  exact ⟨n, hn, by have := h1.1; simp only [decide_eq_true_eq] at this; exact this.symm, by rw [List.getD_eq_getElem?_getD, List.getElem?_eq_getElem hn]; rfl⟩
theorem GOk.ac (hg : GOk g) : ∀ k ps, paL g k = some ps → ∀ p ∈ ps, rkL g p < rkL g k := by
  intro k ps h p hp
  obtain ⟨a, ha, rfl, rfl⟩ := hg.told h
  obtain ⟨q, hq, rfl⟩ := List.mem_map.1 hp
  have := hg.lt a ha q hq
  rw [hg.rk ha, hg.rk (by omega)]; exact this
/-- of places that there are all that stand above them are told -/
theorem GOk.ok (hg : GOk g) {st K : List Ide} {e : Nat} (hst : ∀ i ∈ st, ∃ a, a < g.length ∧ i = idn a) (h : AllR (paL g) st K e) : e = 0 := by
  have hr : ∀ k, (∃ i ∈ st, UpO (paL g) i k) → ∃ a, a < g.length ∧ k = idn a := by
    rintro k ⟨i, hi, hu⟩
    obtain ⟨a, ha, rfl⟩ := hst i hi
    obtain ⟨b, hb, rfl⟩ := hg.up ha hu
    exact ⟨b, by omega, rfl⟩
  rcases h with ⟨h, _⟩ | ⟨_, k, hk, hn⟩ | ⟨_, K2, hd, hl, hK, _⟩
  · exact h
  · obtain ⟨a, ha, rfl⟩ := hr k hk
    rw [hg.pa ha] at hn; cases hn
  · have := nodup_le (b := (List.range g.length).map idn) hd (fun k hk => by
      obtain ⟨a, ha, rfl⟩ := hr k (hK k hk).1
      exact List.mem_map.2 ⟨a, by simpa using ha, rfl⟩)
    rw [List.length_map, List.length_range] at this
    have := hg.le
    omega
/-- what stands above, by places -/
def clo (g : List (List Nat)) : Nat → Nat → List Nat
  | 0, _ => []
  | f + 1, a => a :: (g.getD a []).flatMap (clo g f)
theorem GOk.clo_iff (hg : GOk g) : ∀ (f a : Nat), a < f → a < g.length → ∀ k, k ≤ g.length → (UpO (paL g) (idn a) (idn k) ↔ k ∈ clo g f a)
  | 0, a, h, _, _, _ => by omega
  | f + 1, a, hf, ha, k, hk => by
    have hgd : g.getD a [] = g[a] := by rw [List.getD_eq_getElem?_getD, List.getElem?_eq_getElem ha]; rfl
    rw [clo, hgd, List.mem_cons, List.mem_flatMap]
    constructor
    · intro h
      rcases hg.first ha h with e | ⟨q, hq, hu⟩
      · exact .inl (hg.inj hk (by omega) e)
      · have hlt := hg.lt a ha q hq
        exact .inr ⟨q, hq, (hg.clo_iff f q (by omega) (by omega) k hk).1 hu⟩
    · rintro (rfl | ⟨q, hq, hu⟩)
      · exact .refl
      · have hlt := hg.lt a ha q hq
        exact hg.step ha hq ((hg.clo_iff f q (by omega) (by omega) k hk).2 hu)
end
def lvl (g : List (List Nat)) : Nat → Nat → Nat
  | 0, _ => 0
  | f + 1, a => (g.getD a []).foldl (fun m k => max m (lvl g f k + 1)) 0
/-- how long the longest way up from a name is -/
def gfun (g : List (List Nat)) (i : Ide) : Nat := lvl g g.length (rkL g i)
theorem fold_congr {F G : Nat → Nat} : ∀ (l : List Nat) (m : Nat), (∀ k ∈ l, F k = G k) → l.foldl (fun m k => max m (F k + 1)) m = l.foldl (fun m k => max m (G k + 1)) m
  | [], _, _ => rfl
  | x :: l, m, h => by
    rw [List.foldl_cons, List.foldl_cons, h x List.mem_cons_self]
    exact fold_congr l _ (fun k hk => h k (List.mem_cons_of_mem _ hk))
theorem fold_le {F : Nat → Nat} {b : Nat} : ∀ (l : List Nat) (m : Nat), m ≤ b → (∀ k ∈ l, F k + 1 ≤ b) → l.foldl (fun m k => max m (F k + 1)) m ≤ b
  | [], _, h, _ => h
  | x :: l, m, h, h2 => by
    rw [List.foldl_cons]
    exact fold_le l _ (by have := h2 x List.mem_cons_self; omega) (fun k hk => h2 k (List.mem_cons_of_mem _ hk))
section
variable {g : List (List Nat)}
theorem GOk.getD (hg : GOk g) {a : Nat} (ha : a < g.length) : g.getD a [] = g[a] := by rw [List.getD_eq_getElem?_getD, List.getElem?_eq_getElem ha]; rfl
theorem GOk.lvl_eq (hg : GOk g) : ∀ f1 f2 a, a < f1 → a < f2 → a < g.length → lvl g f1 a = lvl g f2 a
  | 0, _, _, h, _, _ => by omega
  | f1 + 1, 0, _, _, h, _ => by omega
  | f1 + 1, f2 + 1, a, h1, h2, ha => by
    rw [lvl, lvl, hg.getD ha]
    refine fold_congr _ _ (fun k hk => ?_)
    have := hg.lt a ha k hk
    exact hg.lvl_eq f1 f2 k (by omega) (by omega) (by omega)
theorem GOk.lvl_le (hg : GOk g) : ∀ f a, a < g.length → lvl g f a ≤ a
  | 0, _, _ => Nat.zero_le _
  | f + 1, a, ha => by
    rw [lvl, hg.getD ha]
    refine fold_le _ _ (Nat.zero_le _) (fun k hk => ?_)
    have := hg.lt a ha k hk
    have := hg.lvl_le f k (by omega)
    omega
theorem GOk.gf (hg : GOk g) {a : Nat} (ha : a < g.length) : gfun g (idn a) = lvl g g.length a := by unfold gfun; rw [hg.rk ha]
theorem GOk.gf_eq (hg : GOk g) {a : Nat} (ha : a < g.length) : gfun g (idn a) = gmax (gfun g) ((g[a]).map idn) := by
  rw [hg.gf ha, hg.lvl_eq g.length (g.length + 1) a ha (by omega) ha, lvl, hg.getD ha, gmax, List.foldl_map]
  refine fold_congr (F := fun k => lvl g g.length k) (G := fun k => gfun g (idn k)) _ _ (fun k hk => ?_)
  have := hg.lt a ha k hk
  exact (hg.gf (by omega)).symm
theorem GOk.gf_all (hg : GOk g) : ∀ k ps, paL g k = some ps → gfun g k = gmax (gfun g) ps := by
  intro k ps h
  obtain ⟨a, ha, rfl, rfl⟩ := hg.told h
  exact hg.gf_eq ha
theorem GOk.gf_le (hg : GOk g) (k : Ide) : gfun g k ≤ 1000000 := by
  have hle := hg.le
  unfold gfun
  by_cases h : rkL g k < g.length
  · have := hg.lvl_le g.length (rkL g k) h; omega
  · have : rkL g k = 0 ∨ rkL g k < g.length := by
      unfold rkL
      cases hf : (List.range g.length).find? (fun n => decide (idn n = k)) with
      | none => exact .inl rfl
      | some n => rw [List.find?_range_eq_some] at hf; exact .inr (by simpa using hf.2.1)
    have h0 : g.length = 0 := by omega
    rw [h0]
    exact Nat.zero_le _
end
def KN : List (List Nat) := [[], [0], [0], [1, 2]]
theorem knOk : GOk KN := ⟨by decide, by decide, by decide⟩
theorem kn_best12 (k : Ide) : Best (paL KN) (idn 1) (idn 2) k ↔ k = idn 0 := by
  have up : ∀ a k, a < 4 → k < 4 → (UpO (paL KN) (idn a) (idn k) ↔ k ∈ clo KN 4 a) := fun a k ha hk => knOk.clo_iff 4 a ha ha k (by show k ≤ 4; omega)
  constructor
  · rintro ⟨⟨h1, h2⟩, _⟩
    obtain ⟨n, hn, rfl⟩ := knOk.up (show 1 < KN.length by decide) h1
    have m1 := (up 1 n (by omega) (by omega)).1 h1
    have m2 := (up 2 n (by omega) (by omega)).1 h2
    match n, hn, m1, m2 with
    | 0, _, _, _ => rfl
    | 1, _, _, m2 => exact absurd m2 (by decide)
  · rintro rfl
    refine ⟨⟨(up 1 0 (by omega) (by omega)).2 (by decide), (up 2 0 (by omega) (by omega)).2 (by decide)⟩, ?_⟩
    rintro j ⟨h1, h2⟩ _
    obtain ⟨n, hn, rfl⟩ := knOk.up (show 1 < KN.length by decide) h1
    have m1 := (up 1 n (by omega) (by omega)).1 h1
    have m2 := (up 2 n (by omega) (by omega)).1 h2
    match n, hn, m1, m2 with
    | 0, _, _, _ => rfl
    | 1, _, _, m2 => exact absurd m2 (by decide)
theorem kn_best31 (k : Ide) : Best (paL KN) (idn 3) (idn 1) k ↔ k = idn 1 := by
  have up : ∀ a k, a < 4 → k < 4 → (UpO (paL KN) (idn a) (idn k) ↔ k ∈ clo KN 4 a) := fun a k ha hk => knOk.clo_iff 4 a ha ha k (by show k ≤ 4; omega)
  have u31 : UpO (paL KN) (idn 3) (idn 1) := (up 3 1 (by omega) (by omega)).2 (by decide)
  constructor
  · rintro ⟨⟨h1, h2⟩, h3⟩
    exact (h3 (idn 1) ⟨u31, .refl⟩ h2).symm
  · rintro rfl
    refine ⟨⟨u31, .refl⟩, ?_⟩
    rintro j ⟨h1, h2⟩ h3
    obtain ⟨n, hn, rfl⟩ := knOk.up (show 1 < KN.length by decide) h2
    have m1 := (up n 1 (by omega) (by omega)).1 h3
    match n, hn, m1 with
    | 0, _, m1 => exact absurd m1 (by decide)
    | 1, _, _ => rfl
theorem bas_one {pa : Ide → Option (List Ide)} {a b x : Ide} {out : List Ide} {e : Nat} (h : BsR pa a b out e) (hok : ∀ K e, AllR pa [a, b] K e → e = 0) (hb : ∀ k, Best pa a b k ↔ k = x) : e = 0 ∧ out = [x] := by
  rcases h with ⟨h, _, hr, _, hm⟩ | ⟨_, _, _, l, hd, hl, hm⟩ | ⟨h, _, K, hA⟩
  · refine ⟨h, ris_ext hr (List.pairwise_singleton _ _) (fun k => ?_)⟩
    rw [hm, hb]; simp
  · have := nodup_le (b := [x]) hd (fun k hk => by rw [hm, hb] at hk; simp [hk])
    simp at this; omega
  · exact absurd (hok K e hA) h
theorem kn_ord {out : List Ide} (h : Ord (paL KN) [idn 3] [idn 1] out) : out = [idn 2, idn 3] := by
  obtain ⟨K, S, hA, hT, hS⟩ := h
  have up : ∀ a k, a < 4 → k < 4 → (UpO (paL KN) (idn a) (idn k) ↔ k ∈ clo KN 4 a) := fun a k ha hk => knOk.clo_iff 4 a ha ha k (by show k ≤ 4; omega)
  have hm : ∀ k, k ∈ S ↔ k = idn 2 ∨ k = idn 3 := by
    intro k
    rw [hS]
    constructor
    · rintro ⟨⟨i, hi, h1⟩, h2⟩
      rw [List.mem_singleton.1 hi] at h1
      obtain ⟨n, hn, rfl⟩ := knOk.up (show 3 < KN.length by decide) h1
      have h3 : ¬ UpO (paL KN) (idn 1) (idn n) := fun q => h2 ⟨_, by simp, q⟩
      rw [up 1 n (by omega) (by omega)] at h3
      match n, hn, h3 with
      | 0, _, h3 => exact absurd (by decide) h3
      | 1, _, h3 => exact absurd (by decide) h3
      | 2, _, _ => exact .inl rfl
      | 3, _, _ => exact .inr rfl
    · rintro (rfl | rfl)
      · refine ⟨⟨_, by simp, (up 3 2 (by omega) (by omega)).2 (by decide)⟩, ?_⟩
        rintro ⟨i, hi, h1⟩
        rw [List.mem_singleton.1 hi, up 1 2 (by omega) (by omega)] at h1
        exact absurd h1 (by decide)
      · refine ⟨⟨_, by simp, .refl⟩, ?_⟩
        rintro ⟨i, hi, h1⟩
        rw [List.mem_singleton.1 hi, up 1 3 (by omega) (by omega)] at h1
        exact absurd h1 (by decide)
  have h3K : idn 3 ∈ K := (all0 hA).2.2.1 _ (by simp)
  have hpa3 : cpa (paL KN) K (idn 3) = [idn 1, idn 2] := by
    have := cpa_in hA h3K
    rw [knOk.pa (show 3 < KN.length by decide)] at this
    exact (Option.some.inj this).symm
  have ne : idn 2 ≠ idn 3 := fun e => by have := knOk.inj (show 2 ≤ KN.length by decide) (show 3 ≤ KN.length by decide) e; omega
  have l1 : out.length ≤ 2 := nodup_le (b := [idn 2, idn 3]) hT.dnd (fun k hk => by have := (hm k).1 (hT.dsub k hk); simpa using this)
  have l2 : 2 ≤ out.length := nodup_le (a := [idn 2, idn 3]) (by simp [ne]) (fun k hk => hT.all k ((hm k).2 (by simpa using hk)))
  match out, l1, l2, hT with
  | [x, y], _, _, hT =>
    have hx := (hm x).1 (hT.dsub x (by simp))
    have hy := (hm y).1 (hT.dsub y (by simp))
    have hd := hT.dnd
    simp only [List.nodup_cons, List.mem_singleton, List.not_mem_nil, not_false_eq_true, List.nodup_nil, and_true] at hd
    rcases hx with rfl | rfl
    · rcases hy with rfl | rfl
      · exact absurd rfl hd
      · rfl
    · have := hT.par 0 (by simp) (idn 2) (by show idn 2 ∈ cpa (paL KN) K (idn 3); rw [hpa3]; simp) ((hm _).2 (.inl rfl))
      cases this

end Go.Proofs.Ytepdhokpfecdnaa.GraN
/-
  The chapter's example holds.
-/
namespace Go.Proofs.Ytepdhokpfecdnaa.GraO
open Go.Proofs.Ytepdhokpfecdnaa.E Go.RowKit Go.Proofs.Ytepdhokpfecdnaa.GraA Go.Proofs.Ytepdhokpfecdnaa.GraB Go.Proofs.Ytepdhokpfecdnaa.GraC Go.Proofs.Ytepdhokpfecdnaa.GraD Go.Proofs.Ytepdhokpfecdnaa.GraE Go.Proofs.Ytepdhokpfecdnaa.GraF Go.Proofs.Ytepdhokpfecdnaa.GraG Go.Proofs.Ytepdhokpfecdnaa.GraH Go.Proofs.Ytepdhokpfecdnaa.GraI Go.Proofs.Ytepdhokpfecdnaa.GraJ Go.Proofs.Ytepdhokpfecdnaa.GraK Go.Proofs.Ytepdhokpfecdnaa.GraL Go.Proofs.Ytepdhokpfecdnaa.GraM Go.Proofs.Ytepdhokpfecdnaa.GraN
set_option maxRecDepth 20000
set_option linter.unusedVariables false
set_option linter.unusedSimpArgs false
set_option linter.unusedSectionVars false
set_option maxRecDepth 100000 in
theorem inf22 : Inf Try.prog 22 38 1 24 := ⟨Try.underlying22, _, _, rfl, rfl, rfl, rfl, rfl⟩
set_option maxRecDepth 100000 in
theorem inf28 : Inf Try.prog 28 30 32 32 := ⟨Try.underlying28, _, _, rfl, rfl, rfl, rfl, rfl⟩
set_option maxRecDepth 100000 in
theorem inf38 : Inf Try.prog 38 3 1 8 := ⟨Try.underlying38, _, _, rfl, rfl, rfl, rfl, rfl⟩

theorem srd_of {s : SV} {rs : List Rw} {H : Heap} {F : Nat → Prop} (hl : Rd F H fRw 1 s.v rs) (hx : ∀ x ∈ rs, Rd F H fN 1 x.v.v x.l) : SRd F H (.rows s rs) :=
  ⟨fun v l e => by cases e; exact hl, fun v l e x hx2 => by cases e; exact hx x hx2⟩
theorem Ow.bl {α : Type} {k b : Nat} {e : TypeId} {H : Heap} {f : α → List Value} {sz : Nat} {v : Value} {l : List α} (x : Ow k e H f sz v l) (h : k ≤ b) : Rd (fun c => c < b) H f sz v l := x.rd.imp (fun c _ e => by omega)
theorem el0 {l : List Ide} {x : Ide} {n : Nat} {y : List Ide} (h : l = y) (hn : n < l.length) (hy : y[n]? = some x) : (.agg (fA l[n]).toArray : Value) = vA x := by
  subst h
  rw [List.getElem?_eq_getElem hn] at hy
  rw [Option.some.inj hy]; rfl

set_option maxHeartbeats 4000000 in
theorem known_ct  (w0 : World) (H0 : Heap)
     :
    Ct Try.prog w0 10 #[] H0 (fun r H2 => r = .bool true ∧ Nw H0 H2) := by
  refine Ct.enter (args := []) Try.func10 rfl rfl rfl ?_
  intro Q0 hret
  have hm0 : Nw H0 H0 := Mo.refl _ _
  refine CW.seq (fun K1 hK1 hE1 => ?_)
  refine CW.region ?_
  refine LR.v (Y.assign rfl rfl) (Wd.u rfl) rfl rfl ?_
  refine LR.nil ?_
  refine hK1 _ _ ?_
  refine CW.seq (fun K2 hK2 hE2 => ?_)
  refine CW.region ?_
  refine LR.z (Z.litw _ (([] : List Nat)) rfl inf38 rfl rfl rfl (by decide) (by decide) fN_len fN_one (rfl)) (Wd.u rfl) rfl rfl (fun v8 H8 r8 => ?_)
  obtain ⟨ow8, hs8, ob8, hH8⟩ := r8
  have hzs8 : H8.size = H0.size + 1 := by rw [hH8]; simp
  have nx1 : Nx 0 H0.size (H0.size + 1) := Nx.new hm0.size
  replace hm0 := hm0.tr hs8
  have hz1 := hs8.size
  obtain ⟨s8, rfl⟩ : ∃ s : SV, v8 = s.v := ⟨toSV v8, ow8.sv.symm⟩
  refine LR.z (Z.litw _ ([0]) rfl inf38 rfl rfl rfl (by decide) (by decide) fN_len fN_one (rfl)) (Wd.u rfl) rfl rfl (fun v9 H9 r9 => ?_)
  obtain ⟨ow9, hs9, ob9, hH9⟩ := r9
  have hzs9 : H9.size = H8.size + 1 := by rw [hH9]; simp
  have dj2 : Dj (H0.size + 1) (H8.size + 1) := Dj.new ow8.le
  have nx3 : Nx 0 H0.size (H8.size + 1) := Nx.new hm0.size
  replace ow8 := ow8.nw hs9
  replace hm0 := hm0.tr hs9
  have hz2 := hs9.size
  obtain ⟨s9, rfl⟩ : ∃ s : SV, v9 = s.v := ⟨toSV v9, ow9.sv.symm⟩
  refine LR.z (Z.litw _ ([0]) rfl inf38 rfl rfl rfl (by decide) (by decide) fN_len fN_one (rfl)) (Wd.u rfl) rfl rfl (fun v10 H10 r10 => ?_)
  obtain ⟨ow10, hs10, ob10, hH10⟩ := r10
  have hzs10 : H10.size = H9.size + 1 := by rw [hH10]; simp
  have dj4 : Dj (H0.size + 1) (H9.size + 1) := Dj.new ow8.le
  have dj5 : Dj (H8.size + 1) (H9.size + 1) := Dj.new ow9.le
  have nx6 : Nx 0 H0.size (H9.size + 1) := Nx.new hm0.size
  replace ow8 := ow8.nw hs10
  replace ow9 := ow9.nw hs10
  replace hm0 := hm0.tr hs10
  have hz3 := hs10.size
  obtain ⟨s10, rfl⟩ : ∃ s : SV, v10 = s.v := ⟨toSV v10, ow10.sv.symm⟩
  refine LR.z (Z.litw _ ([1, 2]) rfl inf38 rfl rfl rfl (by decide) (by decide) fN_len fN_one (rfl)) (Wd.u rfl) rfl rfl (fun v11 H11 r11 => ?_)
  obtain ⟨ow11, hs11, ob11, hH11⟩ := r11
  have hzs11 : H11.size = H10.size + 1 := by rw [hH11]; simp
  have dj7 : Dj (H0.size + 1) (H10.size + 1) := Dj.new ow8.le
  have dj8 : Dj (H8.size + 1) (H10.size + 1) := Dj.new ow9.le
  have dj9 : Dj (H9.size + 1) (H10.size + 1) := Dj.new ow10.le
  have nx10 : Nx 0 H0.size (H10.size + 1) := Nx.new hm0.size
  replace ow8 := ow8.nw hs11
  replace ow9 := ow9.nw hs11
  replace ow10 := ow10.nw hs11
  replace hm0 := hm0.tr hs11
  have hz4 := hs11.size
  obtain ⟨s11, rfl⟩ : ∃ s : SV, v11 = s.v := ⟨toSV v11, ow11.sv.symm⟩
  refine LR.z (Z.litw _ ([⟨s8, []⟩, ⟨s9, [0]⟩, ⟨s10, [0]⟩, ⟨s11, [1, 2]⟩]) rfl inf22 rfl rfl rfl (by decide) (by decide) fRw_len fRw_one (rfl)) (Wd.u rfl) rfl rfl (fun v12 H12 r12 => ?_)
  obtain ⟨ow12, hs12, ob12, hH12⟩ := r12
  have hzs12 : H12.size = H11.size + 1 := by rw [hH12]; simp
  have dj11 : Dj (H0.size + 1) (H11.size + 1) := Dj.new ow8.le
  have dj12 : Dj (H8.size + 1) (H11.size + 1) := Dj.new ow9.le
  have dj13 : Dj (H9.size + 1) (H11.size + 1) := Dj.new ow10.le
  have dj14 : Dj (H10.size + 1) (H11.size + 1) := Dj.new ow11.le
  have nx15 : Nx 0 H0.size (H11.size + 1) := Nx.new hm0.size
  replace ow8 := ow8.nw hs12
  replace ow9 := ow9.nw hs12
  replace ow10 := ow10.nw hs12
  replace ow11 := ow11.nw hs12
  replace hm0 := hm0.tr hs12
  have hz5 := hs12.size
  obtain ⟨s12, rfl⟩ : ∃ s : SV, v12 = s.v := ⟨toSV v12, ow12.sv.symm⟩
  refine LR.v (Y.build (v := .agg #[s12.v, .int .i64 0]) rfl rfl (by intro w; kernel_rfl)) (Wd.u rfl) rfl rfl ?_
  refine LR.z (Z.boxv rfl rfl) (Wd.u rfl) rfl rfl (fun v14 H14 r14 => ?_)
  obtain ⟨rfl, va14, hs14, ob14, hH14⟩ := r14
  have hzs14 : H14.size = H12.size + 1 := by rw [hH14]; simp
  have dj16 : Dj (H0.size + 1) (H12.size + 1) := Dj.new ow8.le
  have dj17 : Dj (H8.size + 1) (H12.size + 1) := Dj.new ow9.le
  have dj18 : Dj (H9.size + 1) (H12.size + 1) := Dj.new ow10.le
  have dj19 : Dj (H10.size + 1) (H12.size + 1) := Dj.new ow11.le
  have dj20 : Dj (H11.size + 1) (H12.size + 1) := Dj.new ow12.le
  have nx21 : Nx 0 H0.size (H12.size + 1) := Nx.new hm0.size
  replace ow8 := ow8.nw hs14
  replace ow9 := ow9.nw hs14
  replace ow10 := ow10.nw hs14
  replace ow11 := ow11.nw hs14
  replace ow12 := ow12.nw hs14
  replace hm0 := hm0.tr hs14
  have hz6 := hs14.size
  replace va14 : Var 27 H14 H12.size ([s12.v, .int .i64 ((0 : Nat) : Int)]) := va14
  
  refine LR.v (Y.assign rfl rfl) (Wd.u rfl) rfl rfl ?_
  refine LR.nil ?_
  refine hK2 _ _ ?_
  refine CW.seq (fun K3 hK3 hE3 => ?_)
  refine CW.region ?_
  refine LR.v (Y.move rfl rfl) (Wd.u rfl) rfl rfl ?_
  refine LR.v (Y.mki rfl Try.runUnderlying25 (by intro ms h; cases h) rfl) (Wd.u rfl) rfl rfl ?_
  -- call selvage/selvagelaw11.Id
  refine LR.call rfl Try.call12 rfl (Wd.u rfl) rfl rfl (idn_ct 1 w0 _ (by omega)) (fun v18 H18 r18 => ?_)
  obtain ⟨rfl, hs18⟩ := r18
  replace ow8 := ow8.nw hs18
  replace ow9 := ow9.nw hs18
  replace ow10 := ow10.nw hs18
  replace ow11 := ow11.nw hs18
  replace ow12 := ow12.nw hs18
  replace va14 := va14.nw hs18
  replace hm0 := hm0.tr hs18
  have hz7 := hs18.size
  -- call selvage/selvagelaw11.Id
  refine LR.call rfl Try.call12 rfl (Wd.u rfl) rfl rfl (idn_ct 2 w0 _ (by omega)) (fun v19 H19 r19 => ?_)
  obtain ⟨rfl, hs19⟩ := r19
  replace ow8 := ow8.nw hs19
  replace ow9 := ow9.nw hs19
  replace ow10 := ow10.nw hs19
  replace ow11 := ow11.nw hs19
  replace ow12 := ow12.nw hs19
  replace va14 := va14.nw hs19
  replace hm0 := hm0.tr hs19
  have hz8 := hs19.size
  -- call selvage/graph.Bases
  refine LR.call rfl Try.call18 rfl (Wd.u rfl) rfl rfl (bas_ct (.rows s12 [⟨s8, []⟩, ⟨s9, [0]⟩, ⟨s10, [0]⟩, ⟨s11, [1, 2]⟩]) H12.size 0 (fun c => c < H12.size) (idn 1) (idn 2) (rkL KN) w0 _ va14 (srd_of (Ow.bl ow12 (by omega)) (fun x hx => by simp only [List.mem_cons, List.not_mem_nil, or_false] at hx; rcases hx with rfl | rfl | rfl | rfl; exact Ow.bl ow8 (by omega); exact Ow.bl ow9 (by omega); exact Ow.bl ow10 (by omega); exact Ow.bl ow11 (by omega))) (fun c (h : c < H12.size) => by omega) (fun c (h : c < H12.size) h2 => by omega) ⟨by simp, by simp⟩ (by omega) knOk.ac) (fun v20 H20 r20 => ?_)
  have ql22 := ow8.le
  have ql23 := ow9.le
  have ql24 := ow10.le
  have ql25 := ow11.le
  have ql26 := ow12.le
  have ql27 := va14.lt
  obtain ⟨s20, k20, o20, e20, q20, rfl, ow20, hk20, va14, hR20, hq20, hs20⟩ := r20
  have dj28 : Dj (H0.size + 1) k20 := Dj.app (Dj.z) ql22 hk20
  have dj29 : Dj (H8.size + 1) k20 := Dj.app (Dj.z) ql23 hk20
  have dj30 : Dj (H9.size + 1) k20 := Dj.app (Dj.z) ql24 hk20
  have dj31 : Dj (H10.size + 1) k20 := Dj.app (Dj.z) ql25 hk20
  have dj32 : Dj (H11.size + 1) k20 := Dj.app (Dj.z) ql26 hk20
  have dj33 : Dj (H12.size + 1) k20 := Dj.app (Dj.z) ql27 hk20
  have nx34 : Nx 0 H0.size k20 := Nx.tr (Nx.refl 0 _) hk20 hm0.size
  replace ow8 := ow8.upL hs20 (DL.cons dj16 DL.nil)
  replace ow9 := ow9.upL hs20 (DL.cons dj17 DL.nil)
  replace ow10 := ow10.upL hs20 (DL.cons dj18 DL.nil)
  replace ow11 := ow11.upL hs20 (DL.cons dj19 DL.nil)
  replace ow12 := ow12.upL hs20 (DL.cons dj20 DL.nil)
  replace hm0 := (Mo.trL (ks := []) (hm0.mdn []) hs20 (MIL.cons (MI.app MI.z (nx21) (Nat.le_refl _)) MIL.nil)).nil
  have hz9 := hs20.size
  have hle_ow20 := ow20.le
  obtain ⟨he20, ho20⟩ := bas_one hR20 (fun K e h => knOk.ok (st := [idn 1, idn 2]) (fun i hi => by simp only [List.mem_cons, List.not_mem_nil, or_false] at hi; rcases hi with rfl | rfl; exact ⟨1, by decide, rfl⟩; exact ⟨2, by decide, rfl⟩) h) kn_best12
  refine LR.v (Y.move rfl rfl) (Wd.u rfl) rfl rfl ?_
  refine LR.v (Y.extract rfl rfl rfl) (Wd.u rfl) rfl rfl ?_
  refine LR.v (Y.extract rfl rfl rfl) (Wd.u rfl) rfl rfl ?_
  refine LR.v (Y.assign rfl rfl) (Wd.u rfl) rfl rfl ?_
  refine LR.v (Y.assign rfl rfl) (Wd.u rfl) rfl rfl ?_
  refine LR.nil ?_
  refine hK3 _ _ ?_
  refine CW.seq (fun K4 hK4 hE4 => ?_)
  refine CW.region ?_
  refine LR.v (Y.move rfl rfl) (Wd.u rfl) rfl rfl ?_
  refine LR.v (Y.mki rfl Try.runUnderlying25 (by intro ms h; cases h) rfl) (Wd.u rfl) rfl rfl ?_
  -- call selvage/selvagelaw11.Id
  refine LR.call rfl Try.call12 rfl (Wd.u rfl) rfl rfl (idn_ct 3 w0 _ (by omega)) (fun v26 H26 r26 => ?_)
  obtain ⟨rfl, hs26⟩ := r26
  replace ow8 := ow8.nw hs26
  replace ow9 := ow9.nw hs26
  replace ow10 := ow10.nw hs26
  replace ow11 := ow11.nw hs26
  replace ow12 := ow12.nw hs26
  replace va14 := va14.nw hs26
  replace ow20 := ow20.nw hs26
  replace hm0 := hm0.tr hs26
  have hz10 := hs26.size
  -- call selvage/selvagelaw11.Id
  refine LR.call rfl Try.call12 rfl (Wd.u rfl) rfl rfl (idn_ct 1 w0 _ (by omega)) (fun v27 H27 r27 => ?_)
  obtain ⟨rfl, hs27⟩ := r27
  replace ow8 := ow8.nw hs27
  replace ow9 := ow9.nw hs27
  replace ow10 := ow10.nw hs27
  replace ow11 := ow11.nw hs27
  replace ow12 := ow12.nw hs27
  replace va14 := va14.nw hs27
  replace ow20 := ow20.nw hs27
  replace hm0 := hm0.tr hs27
  have hz11 := hs27.size
  -- call selvage/graph.Bases
  refine LR.call rfl Try.call18 rfl (Wd.u rfl) rfl rfl (bas_ct (.rows s12 [⟨s8, []⟩, ⟨s9, [0]⟩, ⟨s10, [0]⟩, ⟨s11, [1, 2]⟩]) H12.size _ (fun c => c < H12.size) (idn 3) (idn 1) (rkL KN) w0 _ va14 (srd_of (Ow.bl ow12 (by omega)) (fun x hx => by simp only [List.mem_cons, List.not_mem_nil, or_false] at hx; rcases hx with rfl | rfl | rfl | rfl; exact Ow.bl ow8 (by omega); exact Ow.bl ow9 (by omega); exact Ow.bl ow10 (by omega); exact Ow.bl ow11 (by omega))) (fun c (h : c < H12.size) => by omega) (fun c (h : c < H12.size) h2 => by omega) ⟨by simp, by simp⟩ (by omega) knOk.ac) (fun v28 H28 r28 => ?_)
  have ql35 := ow8.le
  have ql36 := ow9.le
  have ql37 := ow10.le
  have ql38 := ow11.le
  have ql39 := ow12.le
  have ql40 := va14.lt
  have ql41 := ow20.le
  obtain ⟨s28, k28, o28, e28, q28, rfl, ow28, hk28, va14, hR28, hq28, hs28⟩ := r28
  have dj42 : Dj (H0.size + 1) k28 := Dj.app (Dj.z) ql35 hk28
  have dj43 : Dj (H8.size + 1) k28 := Dj.app (Dj.z) ql36 hk28
  have dj44 : Dj (H9.size + 1) k28 := Dj.app (Dj.z) ql37 hk28
  have dj45 : Dj (H10.size + 1) k28 := Dj.app (Dj.z) ql38 hk28
  have dj46 : Dj (H11.size + 1) k28 := Dj.app (Dj.z) ql39 hk28
  have dj47 : Dj (H12.size + 1) k28 := Dj.app (Dj.z) ql40 hk28
  have dj48 : Dj k20 k28 := Dj.app (Dj.z) ql41 hk28
  have nx49 : Nx 0 H0.size k28 := Nx.tr (Nx.refl 0 _) hk28 hm0.size
  replace ow8 := ow8.upL hs28 (DL.cons dj16 DL.nil)
  replace ow9 := ow9.upL hs28 (DL.cons dj17 DL.nil)
  replace ow10 := ow10.upL hs28 (DL.cons dj18 DL.nil)
  replace ow11 := ow11.upL hs28 (DL.cons dj19 DL.nil)
  replace ow12 := ow12.upL hs28 (DL.cons dj20 DL.nil)
  replace ow20 := ow20.upL hs28 (DL.cons dj33.symm DL.nil)
  replace hm0 := (Mo.trL (ks := []) (hm0.mdn []) hs28 (MIL.cons (MI.app MI.z (nx21) (Nat.le_refl _)) MIL.nil)).nil
  have hz12 := hs28.size
  have hle_ow28 := ow28.le
  obtain ⟨he28, ho28⟩ := bas_one hR28 (fun K e h => knOk.ok (st := [idn 3, idn 1]) (fun i hi => by simp only [List.mem_cons, List.not_mem_nil, or_false] at hi; rcases hi with rfl | rfl; exact ⟨3, by decide, rfl⟩; exact ⟨1, by decide, rfl⟩) h) kn_best31
  refine LR.v (Y.move rfl rfl) (Wd.u rfl) rfl rfl ?_
  refine LR.v (Y.extract rfl rfl rfl) (Wd.u rfl) rfl rfl ?_
  refine LR.v (Y.extract rfl rfl rfl) (Wd.u rfl) rfl rfl ?_
  refine LR.v (Y.assign rfl rfl) (Wd.u rfl) rfl rfl ?_
  refine LR.v (Y.assign rfl rfl) (Wd.u rfl) rfl rfl ?_
  refine LR.nil ?_
  refine hK4 _ _ ?_
  refine CW.seq (fun K5 hK5 hE5 => ?_)
  refine CW.region ?_
  refine LR.v (Y.move rfl rfl) (Wd.u rfl) rfl rfl ?_
  refine LR.v (Y.mki rfl Try.runUnderlying25 (by intro ms h; cases h) rfl) (Wd.u rfl) rfl rfl ?_
  -- call selvage/selvagelaw11.Id
  refine LR.call rfl Try.call12 rfl (Wd.u rfl) rfl rfl (idn_ct 3 w0 _ (by omega)) (fun v34 H34 r34 => ?_)
  obtain ⟨rfl, hs34⟩ := r34
  replace ow8 := ow8.nw hs34
  replace ow9 := ow9.nw hs34
  replace ow10 := ow10.nw hs34
  replace ow11 := ow11.nw hs34
  replace ow12 := ow12.nw hs34
  replace va14 := va14.nw hs34
  replace ow20 := ow20.nw hs34
  replace ow28 := ow28.nw hs34
  replace hm0 := hm0.tr hs34
  have hz13 := hs34.size
  refine LR.z (Z.litw _ ([idn 3]) rfl inf28 rfl rfl rfl (by decide) (by decide) fA_len fA_one (rfl)) (Wd.u rfl) rfl rfl (fun v35 H35 r35 => ?_)
  obtain ⟨ow35, hs35, ob35, hH35⟩ := r35
  have hzs35 : H35.size = H34.size + 1 := by rw [hH35]; simp
  have dj50 : Dj (H0.size + 1) (H34.size + 1) := Dj.new ow8.le
  have dj51 : Dj (H8.size + 1) (H34.size + 1) := Dj.new ow9.le
  have dj52 : Dj (H9.size + 1) (H34.size + 1) := Dj.new ow10.le
  have dj53 : Dj (H10.size + 1) (H34.size + 1) := Dj.new ow11.le
  have dj54 : Dj (H11.size + 1) (H34.size + 1) := Dj.new ow12.le
  have dj55 : Dj (H12.size + 1) (H34.size + 1) := Dj.new va14.lt
  have dj56 : Dj k20 (H34.size + 1) := Dj.new ow20.le
  have dj57 : Dj k28 (H34.size + 1) := Dj.new ow28.le
  have nx58 : Nx 0 H0.size (H34.size + 1) := Nx.new hm0.size
  replace ow8 := ow8.nw hs35
  replace ow9 := ow9.nw hs35
  replace ow10 := ow10.nw hs35
  replace ow11 := ow11.nw hs35
  replace ow12 := ow12.nw hs35
  replace va14 := va14.nw hs35
  replace ow20 := ow20.nw hs35
  replace ow28 := ow28.nw hs35
  replace hm0 := hm0.tr hs35
  have hz14 := hs35.size
  obtain ⟨s35, rfl⟩ : ∃ s : SV, v35 = s.v := ⟨toSV v35, ow35.sv.symm⟩
  -- call selvage/selvagelaw11.Id
  refine LR.call rfl Try.call12 rfl (Wd.u rfl) rfl rfl (idn_ct 1 w0 _ (by omega)) (fun v36 H36 r36 => ?_)
  obtain ⟨rfl, hs36⟩ := r36
  replace ow8 := ow8.nw hs36
  replace ow9 := ow9.nw hs36
  replace ow10 := ow10.nw hs36
  replace ow11 := ow11.nw hs36
  replace ow12 := ow12.nw hs36
  replace va14 := va14.nw hs36
  replace ow20 := ow20.nw hs36
  replace ow28 := ow28.nw hs36
  replace ow35 := ow35.nw hs36
  replace hm0 := hm0.tr hs36
  have hz15 := hs36.size
  refine LR.z (Z.litw _ ([idn 1]) rfl inf28 rfl rfl rfl (by decide) (by decide) fA_len fA_one (rfl)) (Wd.u rfl) rfl rfl (fun v37 H37 r37 => ?_)
  obtain ⟨ow37, hs37, ob37, hH37⟩ := r37
  have hzs37 : H37.size = H36.size + 1 := by rw [hH37]; simp
  have dj59 : Dj (H0.size + 1) (H36.size + 1) := Dj.new ow8.le
  have dj60 : Dj (H8.size + 1) (H36.size + 1) := Dj.new ow9.le
  have dj61 : Dj (H9.size + 1) (H36.size + 1) := Dj.new ow10.le
  have dj62 : Dj (H10.size + 1) (H36.size + 1) := Dj.new ow11.le
  have dj63 : Dj (H11.size + 1) (H36.size + 1) := Dj.new ow12.le
  have dj64 : Dj (H12.size + 1) (H36.size + 1) := Dj.new va14.lt
  have dj65 : Dj k20 (H36.size + 1) := Dj.new ow20.le
  have dj66 : Dj k28 (H36.size + 1) := Dj.new ow28.le
  have dj67 : Dj (H34.size + 1) (H36.size + 1) := Dj.new ow35.le
  have nx68 : Nx 0 H0.size (H36.size + 1) := Nx.new hm0.size
  replace ow8 := ow8.nw hs37
  replace ow9 := ow9.nw hs37
  replace ow10 := ow10.nw hs37
  replace ow11 := ow11.nw hs37
  replace ow12 := ow12.nw hs37
  replace va14 := va14.nw hs37
  replace ow20 := ow20.nw hs37
  replace ow28 := ow28.nw hs37
  replace ow35 := ow35.nw hs37
  replace hm0 := hm0.tr hs37
  have hz16 := hs37.size
  obtain ⟨s37, rfl⟩ : ∃ s : SV, v37 = s.v := ⟨toSV v37, ow37.sv.symm⟩
  -- call selvage/graph.Order
  refine LR.call rfl Try.call13 rfl (Wd.u rfl) rfl rfl (ord_ct (.rows s12 [⟨s8, []⟩, ⟨s9, [0]⟩, ⟨s10, [0]⟩, ⟨s11, [1, 2]⟩]) H12.size _ (fun c => c < H12.size) s35 s37 [idn 3] [idn 1] (rkL KN) w0 _ va14 (srd_of (Ow.bl ow12 (by omega)) (fun x hx => by simp only [List.mem_cons, List.not_mem_nil, or_false] at hx; rcases hx with rfl | rfl | rfl | rfl; exact Ow.bl ow8 (by omega); exact Ow.bl ow9 (by omega); exact Ow.bl ow10 (by omega); exact Ow.bl ow11 (by omega))) (fun c (h : c < H12.size) => by omega) (fun c (h : c < H12.size) h2 => by omega) ⟨by simp, by simp⟩ (by omega) (Ow.ne ow35 (dj55)) (Ow.ne ow37 (dj64)) (by simp) knOk.ac) (fun v38 H38 r38 => ?_)
  have ql69 := ow8.le
  have ql70 := ow9.le
  have ql71 := ow10.le
  have ql72 := ow11.le
  have ql73 := ow12.le
  have ql74 := va14.lt
  have ql75 := ow20.le
  have ql76 := ow28.le
  have ql77 := ow35.le
  have ql78 := ow37.le
  obtain ⟨s38, k38, o38, e38, q38, rfl, ow38, hk38, va14, hR38, hq38, hs38⟩ := r38
  have dj79 : Dj (H0.size + 1) k38 := Dj.app (Dj.z) ql69 hk38
  have dj80 : Dj (H8.size + 1) k38 := Dj.app (Dj.z) ql70 hk38
  have dj81 : Dj (H9.size + 1) k38 := Dj.app (Dj.z) ql71 hk38
  have dj82 : Dj (H10.size + 1) k38 := Dj.app (Dj.z) ql72 hk38
  have dj83 : Dj (H11.size + 1) k38 := Dj.app (Dj.z) ql73 hk38
  have dj84 : Dj (H12.size + 1) k38 := Dj.app (Dj.z) ql74 hk38
  have dj85 : Dj k20 k38 := Dj.app (Dj.z) ql75 hk38
  have dj86 : Dj k28 k38 := Dj.app (Dj.z) ql76 hk38
  have dj87 : Dj (H34.size + 1) k38 := Dj.app (Dj.z) ql77 hk38
  have dj88 : Dj (H36.size + 1) k38 := Dj.app (Dj.z) ql78 hk38
  have nx89 : Nx 0 H0.size k38 := Nx.tr (Nx.refl 0 _) hk38 hm0.size
  replace ow8 := ow8.upL hs38 (DL.cons dj16 DL.nil)
  replace ow9 := ow9.upL hs38 (DL.cons dj17 DL.nil)
  replace ow10 := ow10.upL hs38 (DL.cons dj18 DL.nil)
  replace ow11 := ow11.upL hs38 (DL.cons dj19 DL.nil)
  replace ow12 := ow12.upL hs38 (DL.cons dj20 DL.nil)
  replace ow20 := ow20.upL hs38 (DL.cons dj33.symm DL.nil)
  replace ow28 := ow28.upL hs38 (DL.cons dj47.symm DL.nil)
  replace ow35 := ow35.upL hs38 (DL.cons dj55.symm DL.nil)
  replace ow37 := ow37.upL hs38 (DL.cons dj64.symm DL.nil)
  replace hm0 := (Mo.trL (ks := []) (hm0.mdn []) hs38 (MIL.cons (MI.app MI.z (nx21) (Nat.le_refl _)) MIL.nil)).nil
  have hz17 := hs38.size
  have hle_ow38 := ow38.le
  obtain ⟨he38, ho38⟩ : e38 = 0 ∧ o38 = [idn 2, idn 3] := by
    rcases hR38 with ⟨h1, h2⟩ | ⟨h1, _, K, h3⟩
    · exact ⟨h1, kn_ord h2⟩
    · exact absurd ((fun K e h => knOk.ok (st := [idn 3, idn 1]) (fun i hi => by simp only [List.mem_cons, List.not_mem_nil, or_false] at hi; rcases hi with rfl | rfl; exact ⟨3, by decide, rfl⟩; exact ⟨1, by decide, rfl⟩) h) K e38 h3) h1
  refine LR.v (Y.move rfl rfl) (Wd.u rfl) rfl rfl ?_
  refine LR.v (Y.extract rfl rfl rfl) (Wd.u rfl) rfl rfl ?_
  refine LR.v (Y.extract rfl rfl rfl) (Wd.u rfl) rfl rfl ?_
  refine LR.v (Y.assign rfl rfl) (Wd.u rfl) rfl rfl ?_
  refine LR.v (Y.assign rfl rfl) (Wd.u rfl) rfl rfl ?_
  refine LR.nil ?_
  refine hK5 _ _ ?_
  refine CW.seq (fun K6 hK6 hE6 => ?_)
  refine CW.region_any (fun Hq => Nw H38 Hq) [] rfl ?_
  have hqs := Nw.refl H38
  refine LH.take 0 (by kernel_rfl) rfl (by kernel_rfl) (by kernel_rfl) (by kernel_rfl) (fun Hq hq => Y.move rfl rfl) (Wd.u rfl) rfl rfl hqs ?_
  refine LH.take 1 (by kernel_rfl) rfl (by kernel_rfl) (by kernel_rfl) (by kernel_rfl) (fun Hq hq => (Y.eeq rfl Try.underlying33 rfl).isT (he20)) (Wd.u rfl) rfl rfl hqs ?_
  refine LH.take 2 (by kernel_rfl) rfl (by kernel_rfl) (by kernel_rfl) (by kernel_rfl) (fun Hq hq => Y.move rfl rfl) (Wd.u rfl) rfl rfl hqs ?_
  refine LH.take 3 (by kernel_rfl) rfl (by kernel_rfl) (by kernel_rfl) (by kernel_rfl) (fun Hq hq => Y.move rfl rfl) (Wd.g rfl rfl rfl) rfl rfl hqs ?_
  refine LH.take 4 (by kernel_rfl) rfl (by kernel_rfl) (by kernel_rfl) (by kernel_rfl) (fun Hq hq => (Y.eeq rfl Try.underlying33 rfl).isT (he28)) (Wd.g rfl rfl rfl) rfl rfl hqs ?_
  refine LH.take 5 (by kernel_rfl) rfl (by kernel_rfl) (by kernel_rfl) (by kernel_rfl) (fun Hq hq => Y.pick_t rfl rfl rfl) (Wd.u rfl) rfl rfl hqs ?_
  refine LH.take 6 (by kernel_rfl) rfl (by kernel_rfl) (by kernel_rfl) (by kernel_rfl) (fun Hq hq => Y.move rfl rfl) (Wd.u rfl) rfl rfl hqs ?_
  refine LH.take 7 (by kernel_rfl) rfl (by kernel_rfl) (by kernel_rfl) (by kernel_rfl) (fun Hq hq => Y.move rfl rfl) (Wd.g rfl rfl rfl) rfl rfl hqs ?_
  refine LH.take 8 (by kernel_rfl) rfl (by kernel_rfl) (by kernel_rfl) (by kernel_rfl) (fun Hq hq => (Y.eeq rfl Try.underlying33 rfl).isT (he38)) (Wd.g rfl rfl rfl) rfl rfl hqs ?_
  refine LH.take 9 (by kernel_rfl) rfl (by kernel_rfl) (by kernel_rfl) (by kernel_rfl) (fun Hq hq => Y.pick_t rfl rfl rfl) (Wd.u rfl) rfl rfl hqs ?_
  refine LH.take 10 (by kernel_rfl) rfl (by kernel_rfl) (by kernel_rfl) (by kernel_rfl) (fun Hq hq => Y.move rfl rfl) (Wd.u rfl) rfl rfl hqs ?_
  refine LH.take 11 (by kernel_rfl) rfl (by kernel_rfl) (by kernel_rfl) (by kernel_rfl) (fun Hq hq => Y.move rfl rfl) (Wd.g rfl rfl rfl) rfl rfl hqs ?_
  refine LH.take 12 (by kernel_rfl) rfl (by kernel_rfl) (by kernel_rfl) (by kernel_rfl) (fun Hq hq => Y.len (ow20.rd.nw hq) rfl Try.runUnderlying28 rfl) (Wd.g rfl rfl rfl) rfl rfl hqs ?_
  refine LH.take 13 (by kernel_rfl) rfl (by kernel_rfl) (by kernel_rfl) (by kernel_rfl) (fun Hq hq => (Y.eql rfl rfl rfl).isT (by rw [ho20]; rfl)) (Wd.g rfl rfl rfl) rfl rfl hqs ?_
  refine LH.take 14 (by kernel_rfl) rfl (by kernel_rfl) (by kernel_rfl) (by kernel_rfl) (fun Hq hq => Y.pick_t rfl rfl rfl) (Wd.u rfl) rfl rfl hqs ?_
  refine LH.take 15 (by kernel_rfl) rfl (by kernel_rfl) (by kernel_rfl) (by kernel_rfl) (fun Hq hq => Y.move rfl rfl) (Wd.u rfl) rfl rfl hqs ?_
  refine LH.take 16 (by kernel_rfl) rfl (by kernel_rfl) (by kernel_rfl) (by kernel_rfl) (fun Hq hq => Y.move rfl rfl) (Wd.g rfl rfl rfl) rfl rfl hqs ?_
  refine LH.take 17 (by kernel_rfl) rfl (by kernel_rfl) (by kernel_rfl) (by kernel_rfl) (fun Hq hq => Y.owAddr (ow20.nw hq) (0) rfl Try.runUnderlying28 Try.sizeOf30 rfl rfl (by first | rfl | omega) (by rw [ho20]; simp)) (Wd.g rfl rfl rfl) rfl rfl hqs ?_
  refine LH.take 18 (by kernel_rfl) rfl (by kernel_rfl) (by kernel_rfl) (by kernel_rfl) (fun Hq hq => Y.cast (v2 := vA (idn 0)) (Y.loadN ((ow20.pt (j := 0) (by rw [ho20]; simp)).nw hq) rfl Try.isAgg30 Try.sizeOf30 (fA_len _) rfl) (el0 ho20 (by rw [ho20]; simp) rfl)) (Wd.g rfl rfl rfl) rfl rfl hqs ?_
  refine LH.one (i := 19) (by kernel_rfl) ?_
  -- call selvage/selvagelaw11.Id
  refine LO.call rfl rfl Try.call12 rfl (Wd.g rfl rfl rfl) rfl rfl (idn_ct 0 w0 _ (by omega)) (fun v60 H60 r60 => ?_)
  obtain ⟨rfl, hs60⟩ := r60
  replace ow8 := ow8.nw hs60
  replace ow9 := ow9.nw hs60
  replace ow10 := ow10.nw hs60
  replace ow11 := ow11.nw hs60
  replace ow12 := ow12.nw hs60
  replace va14 := va14.nw hs60
  replace ow20 := ow20.nw hs60
  replace ow28 := ow28.nw hs60
  replace ow35 := ow35.nw hs60
  replace ow37 := ow37.nw hs60
  replace ow38 := ow38.nw hs60
  replace hm0 := hm0.tr hs60
  have hz18 := hs60.size
  have hq60 := hqs.tr hs60
  refine ⟨.inr hq60, LH.narrow (SH2 := fun Hq => Nw H60 Hq) (fun Hq hq => hq60.tr hq) ?_⟩
  have hqn60 := Nw.refl H60
  refine LH.take 20 (by kernel_rfl) rfl (by kernel_rfl) (by kernel_rfl) (by kernel_rfl) (fun Hq hq => (Y.aeql rfl Try.eqGuardType30 (fun w => run_equalIn_id 9998 Try.underlying30 Try.underlying5 Try.sizeOf5 Try.isAgg5 ((idn 0).2) ((idn 0).2) w) rfl rfl).isT (rfl)) (Wd.g rfl rfl rfl) rfl rfl hqn60 ?_
  refine LH.take 21 (by kernel_rfl) rfl (by kernel_rfl) (by kernel_rfl) (by kernel_rfl) (fun Hq hq => Y.pick_t rfl rfl rfl) (Wd.u rfl) rfl rfl hqn60 ?_
  refine LH.take 22 (by kernel_rfl) rfl (by kernel_rfl) (by kernel_rfl) (by kernel_rfl) (fun Hq hq => Y.move rfl rfl) (Wd.u rfl) rfl rfl hqn60 ?_
  refine LH.take 23 (by kernel_rfl) rfl (by kernel_rfl) (by kernel_rfl) (by kernel_rfl) (fun Hq hq => Y.move rfl rfl) (Wd.g rfl rfl rfl) rfl rfl hqn60 ?_
  refine LH.take 24 (by kernel_rfl) rfl (by kernel_rfl) (by kernel_rfl) (by kernel_rfl) (fun Hq hq => Y.len (ow28.rd.nw hq) rfl Try.runUnderlying28 rfl) (Wd.g rfl rfl rfl) rfl rfl hqn60 ?_
  refine LH.take 25 (by kernel_rfl) rfl (by kernel_rfl) (by kernel_rfl) (by kernel_rfl) (fun Hq hq => (Y.eql rfl rfl rfl).isT (by rw [ho28]; rfl)) (Wd.g rfl rfl rfl) rfl rfl hqn60 ?_
  refine LH.take 26 (by kernel_rfl) rfl (by kernel_rfl) (by kernel_rfl) (by kernel_rfl) (fun Hq hq => Y.pick_t rfl rfl rfl) (Wd.u rfl) rfl rfl hqn60 ?_
  refine LH.take 27 (by kernel_rfl) rfl (by kernel_rfl) (by kernel_rfl) (by kernel_rfl) (fun Hq hq => Y.move rfl rfl) (Wd.u rfl) rfl rfl hqn60 ?_
  refine LH.take 28 (by kernel_rfl) rfl (by kernel_rfl) (by kernel_rfl) (by kernel_rfl) (fun Hq hq => Y.move rfl rfl) (Wd.g rfl rfl rfl) rfl rfl hqn60 ?_
  refine LH.take 29 (by kernel_rfl) rfl (by kernel_rfl) (by kernel_rfl) (by kernel_rfl) (fun Hq hq => Y.owAddr (ow28.nw hq) (0) rfl Try.runUnderlying28 Try.sizeOf30 rfl rfl (by first | rfl | omega) (by rw [ho28]; simp)) (Wd.g rfl rfl rfl) rfl rfl hqn60 ?_
  refine LH.take 30 (by kernel_rfl) rfl (by kernel_rfl) (by kernel_rfl) (by kernel_rfl) (fun Hq hq => Y.cast (v2 := vA (idn 1)) (Y.loadN ((ow28.pt (j := 0) (by rw [ho28]; simp)).nw hq) rfl Try.isAgg30 Try.sizeOf30 (fA_len _) rfl) (el0 ho28 (by rw [ho28]; simp) rfl)) (Wd.g rfl rfl rfl) rfl rfl hqn60 ?_
  refine LH.one (i := 31) (by kernel_rfl) ?_
  -- call selvage/selvagelaw11.Id
  refine LO.call rfl rfl Try.call12 rfl (Wd.g rfl rfl rfl) rfl rfl (idn_ct 1 w0 _ (by omega)) (fun v72 H72 r72 => ?_)
  obtain ⟨rfl, hs72⟩ := r72
  replace ow8 := ow8.nw hs72
  replace ow9 := ow9.nw hs72
  replace ow10 := ow10.nw hs72
  replace ow11 := ow11.nw hs72
  replace ow12 := ow12.nw hs72
  replace va14 := va14.nw hs72
  replace ow20 := ow20.nw hs72
  replace ow28 := ow28.nw hs72
  replace ow35 := ow35.nw hs72
  replace ow37 := ow37.nw hs72
  replace ow38 := ow38.nw hs72
  replace hm0 := hm0.tr hs72
  have hz19 := hs72.size
  have hq72 := hqn60.tr hs72
  refine ⟨.inr hq72, LH.narrow (SH2 := fun Hq => Nw H72 Hq) (fun Hq hq => hq72.tr hq) ?_⟩
  have hqn72 := Nw.refl H72
  refine LH.take 32 (by kernel_rfl) rfl (by kernel_rfl) (by kernel_rfl) (by kernel_rfl) (fun Hq hq => (Y.aeql rfl Try.eqGuardType30 (fun w => run_equalIn_id 9998 Try.underlying30 Try.underlying5 Try.sizeOf5 Try.isAgg5 ((idn 1).2) ((idn 1).2) w) rfl rfl).isT (rfl)) (Wd.g rfl rfl rfl) rfl rfl hqn72 ?_
  refine LH.take 33 (by kernel_rfl) rfl (by kernel_rfl) (by kernel_rfl) (by kernel_rfl) (fun Hq hq => Y.pick_t rfl rfl rfl) (Wd.u rfl) rfl rfl hqn72 ?_
  refine LH.take 34 (by kernel_rfl) rfl (by kernel_rfl) (by kernel_rfl) (by kernel_rfl) (fun Hq hq => Y.move rfl rfl) (Wd.u rfl) rfl rfl hqn72 ?_
  refine LH.take 35 (by kernel_rfl) rfl (by kernel_rfl) (by kernel_rfl) (by kernel_rfl) (fun Hq hq => Y.move rfl rfl) (Wd.g rfl rfl rfl) rfl rfl hqn72 ?_
  refine LH.take 36 (by kernel_rfl) rfl (by kernel_rfl) (by kernel_rfl) (by kernel_rfl) (fun Hq hq => Y.len (ow38.rd.nw hq) rfl Try.runUnderlying28 rfl) (Wd.g rfl rfl rfl) rfl rfl hqn72 ?_
  refine LH.take 37 (by kernel_rfl) rfl (by kernel_rfl) (by kernel_rfl) (by kernel_rfl) (fun Hq hq => (Y.eql rfl rfl rfl).isT (by rw [ho38]; rfl)) (Wd.g rfl rfl rfl) rfl rfl hqn72 ?_
  refine LH.take 38 (by kernel_rfl) rfl (by kernel_rfl) (by kernel_rfl) (by kernel_rfl) (fun Hq hq => Y.pick_t rfl rfl rfl) (Wd.u rfl) rfl rfl hqn72 ?_
  refine LH.take 39 (by kernel_rfl) rfl (by kernel_rfl) (by kernel_rfl) (by kernel_rfl) (fun Hq hq => Y.move rfl rfl) (Wd.u rfl) rfl rfl hqn72 ?_
  refine LH.take 40 (by kernel_rfl) rfl (by kernel_rfl) (by kernel_rfl) (by kernel_rfl) (fun Hq hq => Y.move rfl rfl) (Wd.g rfl rfl rfl) rfl rfl hqn72 ?_
  refine LH.take 41 (by kernel_rfl) rfl (by kernel_rfl) (by kernel_rfl) (by kernel_rfl) (fun Hq hq => Y.owAddr (ow38.nw hq) (0) rfl Try.runUnderlying28 Try.sizeOf30 rfl rfl (by first | rfl | omega) (by rw [ho38]; simp)) (Wd.g rfl rfl rfl) rfl rfl hqn72 ?_
  refine LH.take 42 (by kernel_rfl) rfl (by kernel_rfl) (by kernel_rfl) (by kernel_rfl) (fun Hq hq => Y.cast (v2 := vA (idn 2)) (Y.loadN ((ow38.pt (j := 0) (by rw [ho38]; simp)).nw hq) rfl Try.isAgg30 Try.sizeOf30 (fA_len _) rfl) (el0 ho38 (by rw [ho38]; simp) rfl)) (Wd.g rfl rfl rfl) rfl rfl hqn72 ?_
  refine LH.one (i := 43) (by kernel_rfl) ?_
  -- call selvage/selvagelaw11.Id
  refine LO.call rfl rfl Try.call12 rfl (Wd.g rfl rfl rfl) rfl rfl (idn_ct 2 w0 _ (by omega)) (fun v84 H84 r84 => ?_)
  obtain ⟨rfl, hs84⟩ := r84
  replace ow8 := ow8.nw hs84
  replace ow9 := ow9.nw hs84
  replace ow10 := ow10.nw hs84
  replace ow11 := ow11.nw hs84
  replace ow12 := ow12.nw hs84
  replace va14 := va14.nw hs84
  replace ow20 := ow20.nw hs84
  replace ow28 := ow28.nw hs84
  replace ow35 := ow35.nw hs84
  replace ow37 := ow37.nw hs84
  replace ow38 := ow38.nw hs84
  replace hm0 := hm0.tr hs84
  have hz20 := hs84.size
  have hq84 := hqn72.tr hs84
  refine ⟨.inr hq84, LH.narrow (SH2 := fun Hq => Nw H84 Hq) (fun Hq hq => hq84.tr hq) ?_⟩
  have hqn84 := Nw.refl H84
  refine LH.take 44 (by kernel_rfl) rfl (by kernel_rfl) (by kernel_rfl) (by kernel_rfl) (fun Hq hq => (Y.aeql rfl Try.eqGuardType30 (fun w => run_equalIn_id 9998 Try.underlying30 Try.underlying5 Try.sizeOf5 Try.isAgg5 ((idn 2).2) ((idn 2).2) w) rfl rfl).isT (rfl)) (Wd.g rfl rfl rfl) rfl rfl hqn84 ?_
  refine LH.take 45 (by kernel_rfl) rfl (by kernel_rfl) (by kernel_rfl) (by kernel_rfl) (fun Hq hq => Y.pick_t rfl rfl rfl) (Wd.u rfl) rfl rfl hqn84 ?_
  refine LH.take 46 (by kernel_rfl) rfl (by kernel_rfl) (by kernel_rfl) (by kernel_rfl) (fun Hq hq => Y.move rfl rfl) (Wd.u rfl) rfl rfl hqn84 ?_
  refine LH.take 47 (by kernel_rfl) rfl (by kernel_rfl) (by kernel_rfl) (by kernel_rfl) (fun Hq hq => Y.move rfl rfl) (Wd.g rfl rfl rfl) rfl rfl hqn84 ?_
  refine LH.take 48 (by kernel_rfl) rfl (by kernel_rfl) (by kernel_rfl) (by kernel_rfl) (fun Hq hq => Y.owAddr (ow38.nw hq) (1) rfl Try.runUnderlying28 Try.sizeOf30 rfl rfl (by first | rfl | omega) (by rw [ho38]; simp)) (Wd.g rfl rfl rfl) rfl rfl hqn84 ?_
  refine LH.take 49 (by kernel_rfl) rfl (by kernel_rfl) (by kernel_rfl) (by kernel_rfl) (fun Hq hq => Y.cast (v2 := vA (idn 3)) (Y.loadN ((ow38.pt (j := 1) (by rw [ho38]; simp)).nw hq) rfl Try.isAgg30 Try.sizeOf30 (fA_len _) rfl) (el0 ho38 (by rw [ho38]; simp) rfl)) (Wd.g rfl rfl rfl) rfl rfl hqn84 ?_
  refine LH.one (i := 50) (by kernel_rfl) ?_
  -- call selvage/selvagelaw11.Id
  refine LO.call rfl rfl Try.call12 rfl (Wd.g rfl rfl rfl) rfl rfl (idn_ct 3 w0 _ (by omega)) (fun v91 H91 r91 => ?_)
  obtain ⟨rfl, hs91⟩ := r91
  replace ow8 := ow8.nw hs91
  replace ow9 := ow9.nw hs91
  replace ow10 := ow10.nw hs91
  replace ow11 := ow11.nw hs91
  replace ow12 := ow12.nw hs91
  replace va14 := va14.nw hs91
  replace ow20 := ow20.nw hs91
  replace ow28 := ow28.nw hs91
  replace ow35 := ow35.nw hs91
  replace ow37 := ow37.nw hs91
  replace ow38 := ow38.nw hs91
  replace hm0 := hm0.tr hs91
  have hz21 := hs91.size
  have hq91 := hqn84.tr hs91
  refine ⟨.inr hq91, LH.narrow (SH2 := fun Hq => Nw H91 Hq) (fun Hq hq => hq91.tr hq) ?_⟩
  have hqn91 := Nw.refl H91
  refine LH.take 51 (by kernel_rfl) rfl (by kernel_rfl) (by kernel_rfl) (by kernel_rfl) (fun Hq hq => (Y.aeql rfl Try.eqGuardType30 (fun w => run_equalIn_id 9998 Try.underlying30 Try.underlying5 Try.sizeOf5 Try.isAgg5 ((idn 3).2) ((idn 3).2) w) rfl rfl).isT (rfl)) (Wd.g rfl rfl rfl) rfl rfl hqn91 ?_
  refine LH.take 52 (by kernel_rfl) rfl (by kernel_rfl) (by kernel_rfl) (by kernel_rfl) (fun Hq hq => Y.pick_t rfl rfl rfl) (Wd.u rfl) rfl rfl hqn91 ?_
  refine LH.take 53 (by kernel_rfl) rfl (by kernel_rfl) (by kernel_rfl) (by kernel_rfl) (fun Hq hq => Y.assign rfl rfl) (Wd.u rfl) rfl rfl hqn91 ?_
  refine LH.done (by kernel_rfl) ?_
  have hqe := hqn91
  refine hK6 _ _ ?_
  refine CW.ret (hret .ret (.inr rfl) _ _ _ (res1 rfl rfl) ?_)
  exact ⟨rfl, hm0⟩

end Go.Proofs.Ytepdhokpfecdnaa.GraO
/-
  Graphs without rounds out of any rows of numbers; commits by any numbers.
-/
namespace Go.Proofs.Ytepdhokpfecdnaa.GraP
open Go.Proofs.Ytepdhokpfecdnaa.E Go.RowKit Go.Proofs.Ytepdhokpfecdnaa.GraA Go.Proofs.Ytepdhokpfecdnaa.GraB Go.Proofs.Ytepdhokpfecdnaa.GraC Go.Proofs.Ytepdhokpfecdnaa.GraD Go.Proofs.Ytepdhokpfecdnaa.GraE Go.Proofs.Ytepdhokpfecdnaa.GraF Go.Proofs.Ytepdhokpfecdnaa.GraG Go.Proofs.Ytepdhokpfecdnaa.GraH Go.Proofs.Ytepdhokpfecdnaa.GraI Go.Proofs.Ytepdhokpfecdnaa.GraJ Go.Proofs.Ytepdhokpfecdnaa.GraK Go.Proofs.Ytepdhokpfecdnaa.GraL Go.Proofs.Ytepdhokpfecdnaa.GraM Go.Proofs.Ytepdhokpfecdnaa.GraN Go.Proofs.Ytepdhokpfecdnaa.GraO
set_option maxRecDepth 20000
set_option linter.unusedVariables false
set_option linter.unusedSimpArgs false
set_option linter.unusedSectionVars false
set_option maxRecDepth 100000 in
theorem inf22 : Inf Try.prog 22 38 1 24 := ⟨Try.underlying22, _, _, rfl, rfl, rfl, rfl, rfl⟩
set_option maxRecDepth 100000 in
theorem inf28 : Inf Try.prog 28 30 32 32 := ⟨Try.underlying28, _, _, rfl, rfl, rfl, rfl, rfl⟩
set_option maxRecDepth 100000 in
theorem inf38 : Inf Try.prog 38 3 1 8 := ⟨Try.underlying38, _, _, rfl, rfl, rfl, rfl, rfl⟩

abbrev fPi (x : SV × List Int) : List Value := [x.1.v]
structure RwOk (out : List Rw) : Prop where
  le : out.length ≤ 40
  at_ : ∀ n (h : n < out.length), (out[n]).l.length ≤ 4 ∧ ∀ k ∈ (out[n]).l, k < n
theorem RwOk.g {out : List Rw} (h : RwOk out) : GOk (out.map (·.l)) := by
  refine ⟨by rw [List.length_map]; have := h.le; omega, fun n hn k hk => ?_, fun n hn => ?_⟩
  · rw [List.length_map] at hn
    rw [List.getElem_map] at hk
    exact (h.at_ n hn).2 k hk
  · rw [List.length_map] at hn
    rw [List.getElem_map]
    have := (h.at_ n hn).1; omega
theorem RwOk.ok {s : SV} {out : List Rw} (h : RwOk out) : (Sou.rows s out).ok := by
  refine ⟨by have := h.le; omega, fun x hx => ?_⟩
  obtain ⟨n, hn, rfl⟩ := List.getElem_of_mem hx
  have h1 := h.at_ n hn
  have := h.le
  exact ⟨by omega, fun k hk => by have := h1.2 k hk; omega⟩
theorem RwOk.nil : RwOk [] := ⟨by simp, fun n h => by simp at h⟩
theorem RwOk.snoc {out : List Rw} (h : RwOk out) {x : Rw} (hl : out.length < 40) (h1 : x.l.length ≤ 4) (h2 : ∀ k ∈ x.l, k < out.length) : RwOk (out ++ [x]) := by
  refine ⟨by rw [List.length_append, List.length_singleton]; omega, fun n hn => ?_⟩
  rw [List.length_append, List.length_singleton] at hn
  by_cases hlt : n < out.length
  · rw [List.getElem_append_left hlt]; exact h.at_ n hlt
  · obtain rfl : n = out.length := by omega
    rw [List.getElem_concat_length rfl]; exact ⟨h1, h2⟩
def i64b (a : Int) : Prop := -9223372036854775808 ≤ a ∧ a ≤ 9223372036854775807

theorem rows_ct (vl : Value) (li : List (SV × List Int)) (w0 : World) (H0 : Heap)
    (hl : RdT H0 fPi 1 vl li) (hlx : ∀ x ∈ li, RdT H0 fI 1 x.1.v x.2) (hi64 : ∀ x ∈ li, ∀ a ∈ x.2, i64b a) :
    Ct Try.prog w0 11 #[vl] H0 (fun r H2 => ∃ s : SV, ∃ out : List Rw, r = s.v ∧ (SRd (fun b => H0.size ≤ b) H2 (.rows s out)) ∧ (RwOk out) ∧ Nw H0 H2) := by
  refine Ct.enter (args := [vl]) Try.func11 rfl rfl rfl ?_
  intro Q0 hret
  have hm0 : Nw H0 H0 := Mo.refl _ _
  replace hl := hl.bnd
  have bf_hl := hl.bf
  replace hlx := fun x h_ => (hlx x h_).bnd
  have bf_hlx : BF (fun b => True ∧ b < H0.size) H0.size := fun b h => h.2
  refine CW.seq (fun K1 hK1 hE1 => ?_)
  refine CW.region ?_
  refine LR.v (Y.assign rfl rfl) (Wd.u rfl) rfl rfl ?_
  refine LR.nil ?_
  refine hK1 _ _ ?_
  refine CW.seq (fun K2 hK2 hE2 => ?_)
  refine CW.region ?_
  refine LR.v (Y.assign rfl rfl) (Wd.u rfl) rfl rfl ?_
  refine LR.nil ?_
  refine hK2 _ _ ?_
  refine CW.seq (fun K3 hK3 hE3 => ?_)
  refine CW.seq (fun K4 hK4 hE4 => ?_)
  refine CW.region ?_
  refine LR.v (Y.assign rfl rfl) (Wd.u rfl) rfl rfl ?_
  refine LR.nil ?_
  refine hK4 _ _ ?_
  refine CW.block (fun K5 hK5 hX5 hE5 => ?_)
  refine CW.loop (fun (s_ : (Nat) × (Value) × (Nat) × (List Rw) × (Nat → Prop)) => match s_ with | (n, vo, ko, out, G) => [(0, vl), (3, vo), (4, .int .i64 (n : Int))])
    (fun (s_ : (Nat) × (Value) × (Nat) × (List Rw) × (Nat → Prop)) (H : Heap) => match s_ with | (n, vo, ko, out, G) => (n ≤ li.length) ∧ (Ow ko 38 H fRw 1 vo out) ∧ (∀ x ∈ out, Rd G H fN 1 x.v.v x.l) ∧ (BF G H.size) ∧ (DF G ko) ∧ (∀ b, G b → H0.size ≤ b) ∧ (out.length = n) ∧ (RwOk out) ∧ (Nx 0 H0.size ko) ∧ Nw H0 H)
    (fun (s_ : (Nat) × (Value) × (Nat) × (List Rw) × (Nat → Prop)) => match s_ with | (n, vo, ko, out, G) => li.length - n) (0, .slice none 0 0, 0, [], fun _ => False) ⟨rfl, rfl, rfl, trivial⟩ ?_ ?_
  ·
    exact ⟨(by omega), Ow.nil fRw_len fRw_one, (fun x h => by cases h), (fun b e => e.elim), (fun b e => e.elim), (fun b e => e.elim), rfl, RwOk.nil, Nx.refl _ _, Mo.refl _ _⟩
  rintro ⟨n, vo, ko, out, G⟩ HL1 hI1 K6 hN6 hE6
  obtain ⟨hn, how, hx, bf_hx, fg, hG, hol, hok, nxl_how, hlm1⟩ := hI1
  have df1 := DF.app (DF.z) (bf_hl.mono hm0.size) nxl_how
  have df2 := DF.app (DF.z) (bf_hlx.mono hm0.size) nxl_how
  have nx3 : Nx 0 H0.size ko := Nx.tr (Nx.refl 0 _) nxl_how hm0.size
  replace hl := hl.nw hlm1
  replace hlx := fun x h_ => (hlx x h_).nw hlm1
  replace hm0 := hm0.tr hlm1
  have hz1 := hlm1.size
  have hle_how := how.le
  have nx4 := nxl_how
  refine CW.seq (fun K7 hK7 hE7 => ?_)
  refine CW.seq (fun K8 hK8 hE8 => ?_)
  refine CW.region ?_
  refine LR.v (Y.move rfl rfl) (Wd.u rfl) rfl rfl ?_
  refine LR.v (Y.move rfl rfl) (Wd.u rfl) rfl rfl ?_
  refine LR.v (Y.len hl rfl Try.runUnderlying22 rfl) (Wd.u rfl) rfl rfl ?_
  refine LR.v (Y.lss rfl rfl rfl) (Wd.u rfl) rfl rfl ?_
  refine LR.v (Y.move rfl rfl) (Wd.u rfl) rfl rfl ?_
  refine LR.splitp (d := 14) rfl (fun g14 => ?_) (fun g14 => ?_)
  ·
    refine LR.v (Y.move rfl rfl) (Wd.g rfl rfl rfl) rfl rfl ?_
    refine LR.v (Y.lss rfl rfl rfl) (Wd.g rfl rfl rfl) rfl rfl ?_
    refine LR.v (Y.pick_t rfl rfl rfl) (Wd.u rfl) rfl rfl ?_
    refine LR.nil ?_
    refine hK8 _ _ ?_
    refine CW.condp rfl (fun c17 => ?_) (fun c17 => ?_)
    ·
      refine CW.skip ?_
      refine hK7 _ _ ?_
      refine CW.seq (fun K9 hK9 hE9 => ?_)
      refine CW.block (fun K10 hK10 hX10 hE10 => ?_)
      refine CW.seq (fun K11 hK11 hE11 => ?_)
      refine CW.region ?_
      refine LR.v (Y.assign rfl rfl) (Wd.u rfl) rfl rfl ?_
      refine LR.nil ?_
      refine hK11 _ _ ?_
      refine CW.seq (fun K12 hK12 hE12 => ?_)
      refine CW.seq (fun K13 hK13 hE13 => ?_)
      refine CW.region ?_
      refine LR.v (Y.assign rfl rfl) (Wd.u rfl) rfl rfl ?_
      refine LR.nil ?_
      refine hK13 _ _ ?_
      refine CW.block (fun K14 hK14 hX14 hE14 => ?_)
      refine CW.loop (fun (s_ : (Nat) × (Value) × (Nat) × (List Nat)) => match s_ with | (k, vp, kp, p) => [(0, vl), (3, vo), (4, .int .i64 (n : Int)), (5, vp), (6, .int .i64 (k : Int))])
        (fun (s_ : (Nat) × (Value) × (Nat) × (List Nat)) (H : Heap) => match s_ with | (k, vp, kp, p) => (Ow kp 3 H fN 1 vp p) ∧ (p.length ≤ k ∧ p.length ≤ 4) ∧ (∀ a ∈ p, a < n) ∧ (Nx 0 HL1.size kp) ∧ Nw HL1 H)
        (fun (s_ : (Nat) × (Value) × (Nat) × (List Nat)) => match s_ with | (k, vp, kp, p) => (li[n]).2.length - k) (0, .slice none 0 0, 0, []) ⟨rfl, rfl, rfl, rfl, rfl, trivial⟩ ?_ ?_
      ·
        exact ⟨Ow.nil fN_len fN_one, ⟨by simp, by simp⟩, by simp, Nx.refl _ _, Mo.refl _ _⟩
      rintro ⟨k, vp, kp, p⟩ HL2 hI2 K15 hN15 hE15
      obtain ⟨op, hpl, hpn, nxl_op, hlm2⟩ := hI2
      have df5 := DF.app (DF.z) (bf_hl.mono hm0.size) nxl_op
      have df6 := DF.app (DF.z) (bf_hlx.mono hm0.size) nxl_op
      have dj7 : Dj ko kp := Dj.app (Dj.z) how.le nxl_op
      have df8 := DF.app (DF.z) (bf_hx.mono (by omega)) nxl_op
      have nx9 : Nx 0 H0.size kp := Nx.tr (Nx.refl 0 _) nxl_op hm0.size
      have nx10 : Nx 0 H0.size kp := Nx.tr (Nx.refl 0 _) nxl_op hlm1.size
      replace hl := hl.nw hlm2
      replace hlx := fun x h_ => (hlx x h_).nw hlm2
      replace how := how.nw hlm2
      replace hx := fun x h_ => (hx x h_).nw hlm2
      replace hm0 := hm0.tr hlm2
      replace hlm1 := hlm1.tr hlm2
      have hz2 := hlm2.size
      have hle_op := op.le
      have nx11 := nxl_op
      refine CW.seq (fun K16 hK16 hE16 => ?_)
      refine CW.seq (fun K17 hK17 hE17 => ?_)
      refine CW.region ?_
      refine LR.v (Y.move rfl rfl) (Wd.u rfl) rfl rfl ?_
      refine LR.v (Y.move rfl rfl) (Wd.u rfl) rfl rfl ?_
      refine LR.v (Y.move rfl rfl) (Wd.u rfl) rfl rfl ?_
      refine LR.e (g := fun ad => .pointer (some ad)) (Y.indexAddrF hl (n) rfl Try.runUnderlying22 Try.sizeOf38 rfl rfl (by first | rfl | omega) (by omega)) (Wd.u rfl) rfl rfl (fun ad23 pt23 => ?_)
      have bf_pt23 := bf_hl
      refine LR.v (Y.load1 pt23.pt rfl Try.isAgg38 rfl) (Wd.u rfl) rfl rfl ?_
      refine LR.v (Y.len (hlx _ (List.getElem_mem (by omega : n < li.length))) rfl Try.runUnderlying38 rfl) (Wd.u rfl) rfl rfl ?_
      refine LR.v (Y.lss rfl rfl rfl) (Wd.u rfl) rfl rfl ?_
      refine LR.v (Y.move rfl rfl) (Wd.u rfl) rfl rfl ?_
      refine LR.splitp (d := 27) rfl (fun g27 => ?_) (fun g27 => ?_)
      ·
        refine LR.v (Y.move rfl rfl) (Wd.g rfl rfl rfl) rfl rfl ?_
        refine LR.v (Y.lss rfl rfl rfl) (Wd.g rfl rfl rfl) rfl rfl ?_
        refine LR.v (Y.pick_t rfl rfl rfl) (Wd.u rfl) rfl rfl ?_
        refine LR.v (Y.move rfl rfl) (Wd.u rfl) rfl rfl ?_
        refine LR.splitp (d := 31) rfl (fun g31 => ?_) (fun g31 => ?_)
        ·
          refine LR.v (Y.move rfl rfl) (Wd.g rfl rfl rfl) rfl rfl ?_
          refine LR.v (Y.gtr rfl rfl rfl) (Wd.g rfl rfl rfl) rfl rfl ?_
          refine LR.v (Y.pick_t rfl rfl rfl) (Wd.u rfl) rfl rfl ?_
          refine LR.nil ?_
          refine hK17 _ _ ?_
          refine CW.condp rfl (fun c34 => ?_) (fun c34 => ?_)
          ·
            refine CW.skip ?_
            refine hK16 _ _ ?_
            refine CW.seq (fun K18 hK18 hE18 => ?_)
            refine CW.block (fun K19 hK19 hX19 hE19 => ?_)
            refine CW.seq (fun K20 hK20 hE20 => ?_)
            refine CW.region ?_
            refine LR.v (Y.move rfl rfl) (Wd.u rfl) rfl rfl ?_
            refine LR.v (Y.move rfl rfl) (Wd.u rfl) rfl rfl ?_
            refine LR.e (g := fun ad => .pointer (some ad)) (Y.indexAddrF hl (n) rfl Try.runUnderlying22 Try.sizeOf38 rfl rfl (by first | rfl | omega) (by omega)) (Wd.u rfl) rfl rfl (fun ad39 pt39 => ?_)
            have bf_pt39 := bf_hl
            refine LR.v (Y.load1 pt39.pt rfl Try.isAgg38 rfl) (Wd.u rfl) rfl rfl ?_
            refine LR.v (Y.move rfl rfl) (Wd.u rfl) rfl rfl ?_
            refine LR.e (g := fun ad => .pointer (some ad)) (Y.indexAddrF (hlx _ (List.getElem_mem (by omega : n < li.length))) (k) rfl Try.runUnderlying38 Try.sizeOf3 rfl rfl (by first | rfl | omega) (by omega)) (Wd.u rfl) rfl rfl (fun ad42 pt42 => ?_)
            have bf_pt42 := bf_hlx
            refine LR.v (Y.load1 pt42.pt rfl Try.isAgg3 rfl) (Wd.u rfl) rfl rfl ?_
            refine LR.v (Y.move rfl rfl) (Wd.u rfl) rfl rfl ?_
            -- call selvage/selvagelaw11.within
            refine LR.call rfl Try.call14 rfl (Wd.u rfl) rfl rfl (within_ct _ n w0 _ (by omega) (hi64 _ (List.getElem_mem (by omega : n < li.length)) _ (List.getElem_mem (by omega)))) (fun v45 H45 r45 => ?_)
            obtain ⟨q45, rfl, hq45, hs45⟩ := r45
            replace hl := hl.nw hs45
            replace hlx := fun x h_ => (hlx x h_).nw hs45
            replace how := how.nw hs45
            replace hx := fun x h_ => (hx x h_).nw hs45
            replace op := op.nw hs45
            replace pt39 := pt39.nw hs45
            replace pt42 := pt42.nw hs45
            replace hm0 := hm0.tr hs45
            replace hlm1 := hlm1.tr hs45
            replace hlm2 := hlm2.tr hs45
            have hz3 := hs45.size
            refine LR.v (Y.assign rfl rfl) (Wd.u rfl) rfl rfl ?_
            refine LR.nil ?_
            refine hK20 _ _ ?_
            refine CW.seq (fun K21 hK21 hE21 => ?_)
            refine CW.region ?_
            refine LR.v (Y.assign rfl rfl) (Wd.u rfl) rfl rfl ?_
            refine LR.nil ?_
            refine hK21 _ _ ?_
            refine CW.seq (fun K22 hK22 hE22 => ?_)
            refine CW.seq (fun K23 hK23 hE23 => ?_)
            refine CW.region ?_
            refine LR.v (Y.assign rfl rfl) (Wd.u rfl) rfl rfl ?_
            refine LR.nil ?_
            refine hK23 _ _ ?_
            refine CW.block (fun K24 hK24 hX24 hE24 => ?_)
            refine CW.loop (fun (s_ : (Nat) × (Bool)) => match s_ with | (j, th) => [(0, vl), (3, vo), (4, .int .i64 (n : Int)), (5, vp), (6, .int .i64 (k : Int)), (7, .int .i64 (q45 : Int)), (8, .bool th), (9, .int .i64 (j : Int))])
              (fun (s_ : (Nat) × (Bool)) (H : Heap) => match s_ with | (j, th) => (j ≤ p.length) ∧ Nw H45 H)
              (fun (s_ : (Nat) × (Bool)) => match s_ with | (j, th) => p.length - j) (0, false) ⟨rfl, rfl, rfl, rfl, rfl, rfl, rfl, rfl, trivial⟩ ?_ ?_
            ·
              exact ⟨(by omega), Mo.refl _ _⟩
            rintro ⟨j, th⟩ HL3 hI3 K25 hN25 hE25
            obtain ⟨hj, hlm3⟩ := hI3
            replace hl := hl.nw hlm3
            replace hlx := fun x h_ => (hlx x h_).nw hlm3
            replace how := how.nw hlm3
            replace hx := fun x h_ => (hx x h_).nw hlm3
            replace op := op.nw hlm3
            replace hm0 := hm0.tr hlm3
            replace hlm1 := hlm1.tr hlm3
            replace hlm2 := hlm2.tr hlm3
            have hz4 := hlm3.size
            refine CW.seq (fun K26 hK26 hE26 => ?_)
            refine CW.seq (fun K27 hK27 hE27 => ?_)
            refine CW.region ?_
            refine LR.v (Y.move rfl rfl) (Wd.u rfl) rfl rfl ?_
            refine LR.v (Y.move rfl rfl) (Wd.u rfl) rfl rfl ?_
            refine LR.v (Y.len op.rd rfl Try.runUnderlying38 rfl) (Wd.u rfl) rfl rfl ?_
            refine LR.v (Y.lss rfl rfl rfl) (Wd.u rfl) rfl rfl ?_
            refine LR.nil ?_
            refine hK27 _ _ ?_
            refine CW.condp rfl (fun c49 => ?_) (fun c49 => ?_)
            ·
              refine CW.skip ?_
              refine hK26 _ _ ?_
              refine CW.seq (fun K28 hK28 hE28 => ?_)
              refine CW.block (fun K29 hK29 hX29 hE29 => ?_)
              refine CW.region ?_
              refine LR.v (Y.move rfl rfl) (Wd.u rfl) rfl rfl ?_
              refine LR.v (Y.move rfl rfl) (Wd.u rfl) rfl rfl ?_
              refine LR.split (d := 53) rfl (fun g53 => ?_) (fun g53 => ?_)
              ·
                refine LR.gs rfl rfl rfl rfl rfl rfl ?_
                refine LR.gs rfl rfl rfl rfl rfl rfl ?_
                refine LR.gs rfl rfl rfl rfl rfl rfl ?_
                refine LR.gs rfl rfl rfl rfl rfl rfl ?_
                refine LR.gs rfl rfl rfl rfl rfl rfl ?_
                refine LR.gs rfl rfl rfl rfl rfl rfl ?_
                refine LR.v (Y.pick_t rfl rfl rfl) (Wd.u rfl) rfl rfl ?_
                refine LR.v (Y.assign rfl rfl) (Wd.u rfl) rfl rfl ?_
                refine LR.nil ?_
                refine hK29 _ _ ?_
                refine hK28 _ _ ?_
                refine CW.region ?_
                refine LR.v (Y.move rfl rfl) (Wd.u rfl) rfl rfl ?_
                refine LR.v (Y.addi rfl rfl rfl (by omega)) (Wd.u rfl) rfl rfl ?_
                refine LR.v (Y.assign rfl rfl) (Wd.u rfl) rfl rfl ?_
                refine LR.nil ?_
                refine QN.sub (hN25 (j + 1, _) _ ?_ ?_) ⟨rfl, rfl, (iv (by omega)), rfl, (iv (by omega)), (iv (by omega)), rfl, (iv (by omega)), trivial⟩
                · exact ⟨(by omega), hlm3⟩
                · first | omega | (simp only; omega) | (simp; omega)
              ·
                refine LR.v (Y.move rfl rfl) (Wd.g rfl rfl rfl) rfl rfl ?_
                refine LR.v (Y.move rfl rfl) (Wd.g rfl rfl rfl) rfl rfl ?_
                refine LR.v (Y.owAddr op (j) rfl Try.runUnderlying38 Try.sizeOf3 rfl rfl (by first | rfl | omega) (by omega)) (Wd.g rfl rfl rfl) rfl rfl ?_
                refine LR.v (Y.load1 (op.pt (j := j) (by omega)) rfl Try.isAgg3 rfl) (Wd.g rfl rfl rfl) rfl rfl ?_
                refine LR.v (Y.move rfl rfl) (Wd.g rfl rfl rfl) rfl rfl ?_
                refine LR.v (Y.eql rfl rfl rfl) (Wd.g rfl rfl rfl) rfl rfl ?_
                refine LR.v (Y.pick_f rfl rfl rfl) (Wd.u rfl) rfl rfl ?_
                refine LR.v (Y.assign rfl rfl) (Wd.u rfl) rfl rfl ?_
                refine LR.nil ?_
                refine hK29 _ _ ?_
                refine hK28 _ _ ?_
                refine CW.region ?_
                refine LR.v (Y.move rfl rfl) (Wd.u rfl) rfl rfl ?_
                refine LR.v (Y.addi rfl rfl rfl (by omega)) (Wd.u rfl) rfl rfl ?_
                refine LR.v (Y.assign rfl rfl) (Wd.u rfl) rfl rfl ?_
                refine LR.nil ?_
                refine QN.sub (hN25 (j + 1, _) _ ?_ ?_) ⟨rfl, rfl, (iv (by omega)), rfl, (iv (by omega)), (iv (by omega)), rfl, (iv (by omega)), trivial⟩
                · exact ⟨(by omega), hlm3⟩
                · first | omega | (simp only; omega) | (simp; omega)
            ·
              refine CW.exit (hE26 (.exit 4) nofun _ _ (hE25 (.exit 4) nofun _ _ (hX24 _ _ ?_)))
              refine hK22 _ _ ?_
              refine CW.seq (fun K30 hK30 hE30 => ?_)
              refine CW.region ?_
              refine LR.v (Y.move rfl rfl) (Wd.u rfl) rfl rfl ?_
              refine LR.v (Y.not rfl rfl) (Wd.u rfl) rfl rfl ?_
              refine LR.nil ?_
              refine hK30 _ _ ?_
              refine CW.cond rfl (fun c62 => ?_) (fun c62 => ?_)
              ·
                refine CW.region ?_
                refine LR.v (Y.move rfl rfl) (Wd.u rfl) rfl rfl ?_
                refine LR.v (Y.move rfl rfl) (Wd.u rfl) rfl rfl ?_
                refine LR.z (Z.litw _ ([q45]) rfl inf38 rfl rfl rfl (by decide) (by decide) fN_len fN_one (rfl)) (Wd.u rfl) rfl rfl (fun v65 H65 r65 => ?_)
                obtain ⟨ow65, hs65, ob65, hH65⟩ := r65
                have hzs65 : H65.size = HL3.size + 1 := by rw [hH65]; simp
                have df12 := (DF.new (bf_hl.mono hm0.size) : DF _ (HL3.size + 1))
                have df13 := (DF.new (bf_hlx.mono hm0.size) : DF _ (HL3.size + 1))
                have dj14 : Dj ko (HL3.size + 1) := Dj.new how.le
                have df15 := (DF.new (bf_hx.mono (by omega)) : DF _ (HL3.size + 1))
                have dj16 : Dj kp (HL3.size + 1) := Dj.new op.le
                have nx17 : Nx 0 H0.size (HL3.size + 1) := Nx.new hm0.size
                have nx18 : Nx 0 H0.size (HL3.size + 1) := Nx.new hlm1.size
                have nx19 : Nx 0 HL1.size (HL3.size + 1) := Nx.new hlm2.size
                replace hl := hl.nw hs65
                replace hlx := fun x h_ => (hlx x h_).nw hs65
                replace how := how.nw hs65
                replace hx := fun x h_ => (hx x h_).nw hs65
                replace op := op.nw hs65
                replace hm0 := hm0.tr hs65
                replace hlm1 := hlm1.tr hs65
                replace hlm2 := hlm2.tr hs65
                have hz5 := hs65.size
                refine LR.z (Z.apnd op ow65.rd rfl inf38 rfl rfl (by rw [List.length_singleton]; omega) (by rw [List.length_singleton]; omega)) (Wd.u rfl) rfl rfl (fun v66 H66 r66 => ?_)
                obtain ⟨k66, op, hk66, hs66⟩ := r66
                replace hk66 : Nx kp H65.size k66 := hk66
                replace hs66 := hs66.md
                have df20 := DF.app (df5) (bf_hl.mono hm0.size) hk66
                have df21 := DF.app (df6) (bf_hlx.mono hm0.size) hk66
                have dj22 : Dj ko k66 := Dj.app (dj7) how.le hk66
                have df23 := DF.app (df8) (bf_hx.mono (by omega)) hk66
                have dj24 : Dj (HL3.size + 1) k66 := Dj.app (dj16.symm) ow65.le hk66
                have nx25 : Nx 0 H0.size k66 := Nx.tr (nx9) hk66 hm0.size
                have nx26 : Nx 0 H0.size k66 := Nx.tr (nx10) hk66 hlm1.size
                have nx27 : Nx 0 HL1.size k66 := Nx.tr (nx11) hk66 hlm2.size
                replace hl := hl.upL hs66 (DFL.cons df5 DFL.nil)
                replace hlx := fun x h_ => (hlx x h_).upL hs66 (DFL.cons df6 DFL.nil)
                replace how := how.upL hs66 (DL.cons dj7 DL.nil)
                replace hx := fun x h_ => (hx x h_).upL hs66 (DFL.cons df8 DFL.nil)
                replace ow65 := ow65.upL hs66 (DL.cons dj16.symm DL.nil)
                replace hm0 := (Mo.trL (ks := []) (hm0.mdn []) hs66 (MIL.cons (MI.app MI.z (nx9) (Nat.le_refl _)) MIL.nil)).nil
                replace hlm1 := (Mo.trL (ks := []) (hlm1.mdn []) hs66 (MIL.cons (MI.app MI.z (nx10) (Nat.le_refl _)) MIL.nil)).nil
                replace hlm2 := (Mo.trL (ks := []) (hlm2.mdn []) hs66 (MIL.cons (MI.app MI.z (nx11) (Nat.le_refl _)) MIL.nil)).nil
                have hz6 := hs66.size
                have hle_op := op.le
                refine LR.v (Y.assign rfl rfl) (Wd.u rfl) rfl rfl ?_
                refine LR.nil ?_
                refine hK19 _ _ ?_
                refine hK18 _ _ ?_
                refine CW.region ?_
                refine LR.v (Y.move rfl rfl) (Wd.u rfl) rfl rfl ?_
                refine LR.v (Y.addi rfl rfl rfl (by omega)) (Wd.u rfl) rfl rfl ?_
                refine LR.v (Y.assign rfl rfl) (Wd.u rfl) rfl rfl ?_
                refine LR.nil ?_
                refine QN.sub (hN15 (k + 1, v66, k66, p ++ [q45]) _ ?_ ?_) ⟨rfl, rfl, (iv (by omega)), rfl, (iv (by omega)), trivial⟩
                · exact ⟨op, by simp only [List.length_append, List.length_singleton]; omega, fun a ha => by
                    rcases List.mem_append.1 ha with h | h
                    · exact hpn a h
                    · rw [List.mem_singleton.1 h]; exact hq45, nx27, hlm2⟩
                · first | omega | (simp only; omega) | (simp; omega)
              ·
                refine CW.skip ?_
                refine hK19 _ _ ?_
                refine hK18 _ _ ?_
                refine CW.region ?_
                refine LR.v (Y.move rfl rfl) (Wd.u rfl) rfl rfl ?_
                refine LR.v (Y.addi rfl rfl rfl (by omega)) (Wd.u rfl) rfl rfl ?_
                refine LR.v (Y.assign rfl rfl) (Wd.u rfl) rfl rfl ?_
                refine LR.nil ?_
                refine QN.sub (hN15 (k + 1, vp, kp, p) _ ?_ ?_) ⟨rfl, rfl, (iv (by omega)), rfl, (iv (by omega)), trivial⟩
                · exact ⟨op, by omega, (by omega), nx11, hlm2⟩
                · first | omega | (simp only; omega) | (simp; omega)
          ·
            refine CW.exit (hE16 (.exit 2) nofun _ _ (hE15 (.exit 2) nofun _ _ (hX14 _ _ ?_)))
            refine hK12 _ _ ?_
            refine CW.region ?_
            refine LR.v (Y.move rfl rfl) (Wd.u rfl) rfl rfl ?_
            obtain ⟨sp, hsp⟩ : ∃ s : SV, vp = s.v := ⟨toSV vp, op.sv.symm⟩
            rw [hsp] at op
            refine LR.v (Y.cast (v2 := sp.v) (Y.move rfl rfl) (hsp)) (Wd.u rfl) rfl rfl ?_
            refine LR.z (Z.litw _ ([⟨sp, p⟩]) rfl inf22 rfl rfl rfl (by decide) (by decide) fRw_len fRw_one (rfl)) (Wd.u rfl) rfl rfl (fun v69 H69 r69 => ?_)
            obtain ⟨ow69, hs69, ob69, hH69⟩ := r69
            have hzs69 : H69.size = HL2.size + 1 := by rw [hH69]; simp
            have df28 := (DF.new (bf_hl.mono hm0.size) : DF _ (HL2.size + 1))
            have df29 := (DF.new (bf_hlx.mono hm0.size) : DF _ (HL2.size + 1))
            have dj30 : Dj ko (HL2.size + 1) := Dj.new how.le
            have df31 := (DF.new (bf_hx.mono (by omega)) : DF _ (HL2.size + 1))
            have dj32 : Dj kp (HL2.size + 1) := Dj.new op.le
            have nx33 : Nx 0 H0.size (HL2.size + 1) := Nx.new hm0.size
            have nx34 : Nx 0 H0.size (HL2.size + 1) := Nx.new hlm1.size
            replace hl := hl.nw hs69
            replace hlx := fun x h_ => (hlx x h_).nw hs69
            replace how := how.nw hs69
            replace hx := fun x h_ => (hx x h_).nw hs69
            replace op := op.nw hs69
            replace hm0 := hm0.tr hs69
            replace hlm1 := hlm1.tr hs69
            have hz7 := hs69.size
            refine LR.z (Z.apnd how ow69.rd rfl inf22 rfl rfl (by rw [List.length_singleton]; omega) (by rw [List.length_singleton]; omega)) (Wd.u rfl) rfl rfl (fun v70 H70 r70 => ?_)
            obtain ⟨k70, how, hk70, hs70⟩ := r70
            replace hk70 : Nx ko H69.size k70 := hk70
            replace hs70 := hs70.md
            have df35 := DF.app (df1) (bf_hl.mono hm0.size) hk70
            have df36 := DF.app (df2) (bf_hlx.mono hm0.size) hk70
            have df37 := DF.app (fg) (bf_hx.mono (by omega)) hk70
            have dj38 : Dj kp k70 := Dj.app (dj7.symm) op.le hk70
            have dj39 : Dj (HL2.size + 1) k70 := Dj.app (dj30.symm) ow69.le hk70
            have nx40 : Nx 0 H0.size k70 := Nx.tr (nx3) hk70 hm0.size
            have nx41 : Nx 0 H0.size k70 := Nx.tr (nx4) hk70 hlm1.size
            replace hl := hl.upL hs70 (DFL.cons df1 DFL.nil)
            replace hlx := fun x h_ => (hlx x h_).upL hs70 (DFL.cons df2 DFL.nil)
            replace hx := fun x h_ => (hx x h_).upL hs70 (DFL.cons fg DFL.nil)
            replace op := op.upL hs70 (DL.cons dj7.symm DL.nil)
            replace ow69 := ow69.upL hs70 (DL.cons dj30.symm DL.nil)
            replace hm0 := (Mo.trL (ks := []) (hm0.mdn []) hs70 (MIL.cons (MI.app MI.z (nx3) (Nat.le_refl _)) MIL.nil)).nil
            replace hlm1 := (Mo.trL (ks := []) (hlm1.mdn []) hs70 (MIL.cons (MI.app MI.z (nx4) (Nat.le_refl _)) MIL.nil)).nil
            have hz8 := hs70.size
            have hle_how := how.le
            refine LR.v (Y.assign rfl rfl) (Wd.u rfl) rfl rfl ?_
            refine LR.nil ?_
            refine hK10 _ _ ?_
            refine hK9 _ _ ?_
            refine CW.region ?_
            refine LR.v (Y.move rfl rfl) (Wd.u rfl) rfl rfl ?_
            refine LR.v (Y.addi rfl rfl rfl (by omega)) (Wd.u rfl) rfl rfl ?_
            refine LR.v (Y.assign rfl rfl) (Wd.u rfl) rfl rfl ?_
            refine LR.nil ?_
            refine QN.sub (hN6 (n + 1, v70, k70, out ++ [⟨sp, p⟩], fun b => G b ∨ b + 1 = kp) _ ?_ ?_) ⟨rfl, rfl, (iv (by omega)), trivial⟩
            · exact ⟨(by omega), how, (fun x h => by
                rcases List.mem_append.1 h with h | h
                · exact (hx x h).imp (fun b _ e => .inl e)
                · rw [List.mem_singleton.1 h]; exact op.rd.imp (fun b _ e => .inr e)), BF.or1 (bf_hx.mono (by omega)) op.le, DF.or1 (df37) (dj38.symm), fun b e => e.elim (hG b) (fun e => by have := (nx9); unfold Nx at this; omega), by simp; omega, hok.snoc (by omega) (by simp only; omega) (fun k hk => by rw [hol]; exact hpn k hk), nx41, hlm1⟩
            · first | omega | (simp only; omega) | (simp; omega)
        ·
          refine LR.gs rfl rfl rfl rfl rfl rfl ?_
          refine LR.gs rfl rfl rfl rfl rfl rfl ?_
          refine LR.v (Y.pick_f rfl rfl rfl) (Wd.u rfl) rfl rfl ?_
          refine LR.nil ?_
          refine hK17 _ _ ?_
          refine CW.cond_f rfl ?_
          refine CW.exit (hE16 (.exit 2) nofun _ _ (hE15 (.exit 2) nofun _ _ (hX14 _ _ ?_)))
          refine hK12 _ _ ?_
          refine CW.region ?_
          refine LR.v (Y.move rfl rfl) (Wd.u rfl) rfl rfl ?_
          obtain ⟨sp, hsp⟩ : ∃ s : SV, vp = s.v := ⟨toSV vp, op.sv.symm⟩
          rw [hsp] at op
          refine LR.v (Y.cast (v2 := sp.v) (Y.move rfl rfl) (hsp)) (Wd.u rfl) rfl rfl ?_
          refine LR.z (Z.litw _ ([⟨sp, p⟩]) rfl inf22 rfl rfl rfl (by decide) (by decide) fRw_len fRw_one (rfl)) (Wd.u rfl) rfl rfl (fun v69 H69 r69 => ?_)
          obtain ⟨ow69, hs69, ob69, hH69⟩ := r69
          have hzs69 : H69.size = HL2.size + 1 := by rw [hH69]; simp
          have df42 := (DF.new (bf_hl.mono hm0.size) : DF _ (HL2.size + 1))
          have df43 := (DF.new (bf_hlx.mono hm0.size) : DF _ (HL2.size + 1))
          have dj44 : Dj ko (HL2.size + 1) := Dj.new how.le
          have df45 := (DF.new (bf_hx.mono (by omega)) : DF _ (HL2.size + 1))
          have dj46 : Dj kp (HL2.size + 1) := Dj.new op.le
          have nx47 : Nx 0 H0.size (HL2.size + 1) := Nx.new hm0.size
          have nx48 : Nx 0 H0.size (HL2.size + 1) := Nx.new hlm1.size
          replace hl := hl.nw hs69
          replace hlx := fun x h_ => (hlx x h_).nw hs69
          replace how := how.nw hs69
          replace hx := fun x h_ => (hx x h_).nw hs69
          replace op := op.nw hs69
          replace hm0 := hm0.tr hs69
          replace hlm1 := hlm1.tr hs69
          have hz9 := hs69.size
          refine LR.z (Z.apnd how ow69.rd rfl inf22 rfl rfl (by rw [List.length_singleton]; omega) (by rw [List.length_singleton]; omega)) (Wd.u rfl) rfl rfl (fun v70 H70 r70 => ?_)
          obtain ⟨k70, how, hk70, hs70⟩ := r70
          replace hk70 : Nx ko H69.size k70 := hk70
          replace hs70 := hs70.md
          have df49 := DF.app (df1) (bf_hl.mono hm0.size) hk70
          have df50 := DF.app (df2) (bf_hlx.mono hm0.size) hk70
          have df51 := DF.app (fg) (bf_hx.mono (by omega)) hk70
          have dj52 : Dj kp k70 := Dj.app (dj7.symm) op.le hk70
          have dj53 : Dj (HL2.size + 1) k70 := Dj.app (dj44.symm) ow69.le hk70
          have nx54 : Nx 0 H0.size k70 := Nx.tr (nx3) hk70 hm0.size
          have nx55 : Nx 0 H0.size k70 := Nx.tr (nx4) hk70 hlm1.size
          replace hl := hl.upL hs70 (DFL.cons df1 DFL.nil)
          replace hlx := fun x h_ => (hlx x h_).upL hs70 (DFL.cons df2 DFL.nil)
          replace hx := fun x h_ => (hx x h_).upL hs70 (DFL.cons fg DFL.nil)
          replace op := op.upL hs70 (DL.cons dj7.symm DL.nil)
          replace ow69 := ow69.upL hs70 (DL.cons dj44.symm DL.nil)
          replace hm0 := (Mo.trL (ks := []) (hm0.mdn []) hs70 (MIL.cons (MI.app MI.z (nx3) (Nat.le_refl _)) MIL.nil)).nil
          replace hlm1 := (Mo.trL (ks := []) (hlm1.mdn []) hs70 (MIL.cons (MI.app MI.z (nx4) (Nat.le_refl _)) MIL.nil)).nil
          have hz10 := hs70.size
          have hle_how := how.le
          refine LR.v (Y.assign rfl rfl) (Wd.u rfl) rfl rfl ?_
          refine LR.nil ?_
          refine hK10 _ _ ?_
          refine hK9 _ _ ?_
          refine CW.region ?_
          refine LR.v (Y.move rfl rfl) (Wd.u rfl) rfl rfl ?_
          refine LR.v (Y.addi rfl rfl rfl (by omega)) (Wd.u rfl) rfl rfl ?_
          refine LR.v (Y.assign rfl rfl) (Wd.u rfl) rfl rfl ?_
          refine LR.nil ?_
          refine QN.sub (hN6 (n + 1, v70, k70, out ++ [⟨sp, p⟩], fun b => G b ∨ b + 1 = kp) _ ?_ ?_) ⟨rfl, rfl, (iv (by omega)), trivial⟩
          · exact ⟨(by omega), how, (fun x h => by
              rcases List.mem_append.1 h with h | h
              · exact (hx x h).imp (fun b _ e => .inl e)
              · rw [List.mem_singleton.1 h]; exact op.rd.imp (fun b _ e => .inr e)), BF.or1 (bf_hx.mono (by omega)) op.le, DF.or1 (df51) (dj52.symm), fun b e => e.elim (hG b) (fun e => by have := (nx9); unfold Nx at this; omega), by simp; omega, hok.snoc (by omega) (by simp only; omega) (fun k hk => by rw [hol]; exact hpn k hk), nx55, hlm1⟩
          · first | omega | (simp only; omega) | (simp; omega)
      ·
        refine LR.gs rfl rfl rfl rfl rfl rfl ?_
        refine LR.gs rfl rfl rfl rfl rfl rfl ?_
        refine LR.v (Y.pick_f rfl rfl rfl) (Wd.u rfl) rfl rfl ?_
        refine LR.v (Y.move rfl rfl) (Wd.u rfl) rfl rfl ?_
        refine LR.gs rfl rfl rfl rfl rfl rfl ?_
        refine LR.gs rfl rfl rfl rfl rfl rfl ?_
        refine LR.v (Y.pick_f rfl rfl rfl) (Wd.u rfl) rfl rfl ?_
        refine LR.nil ?_
        refine hK17 _ _ ?_
        refine CW.cond_f rfl ?_
        refine CW.exit (hE16 (.exit 2) nofun _ _ (hE15 (.exit 2) nofun _ _ (hX14 _ _ ?_)))
        refine hK12 _ _ ?_
        refine CW.region ?_
        refine LR.v (Y.move rfl rfl) (Wd.u rfl) rfl rfl ?_
        obtain ⟨sp, hsp⟩ : ∃ s : SV, vp = s.v := ⟨toSV vp, op.sv.symm⟩
        rw [hsp] at op
        refine LR.v (Y.cast (v2 := sp.v) (Y.move rfl rfl) (hsp)) (Wd.u rfl) rfl rfl ?_
        refine LR.z (Z.litw _ ([⟨sp, p⟩]) rfl inf22 rfl rfl rfl (by decide) (by decide) fRw_len fRw_one (rfl)) (Wd.u rfl) rfl rfl (fun v69 H69 r69 => ?_)
        obtain ⟨ow69, hs69, ob69, hH69⟩ := r69
        have hzs69 : H69.size = HL2.size + 1 := by rw [hH69]; simp
        have df56 := (DF.new (bf_hl.mono hm0.size) : DF _ (HL2.size + 1))
        have df57 := (DF.new (bf_hlx.mono hm0.size) : DF _ (HL2.size + 1))
        have dj58 : Dj ko (HL2.size + 1) := Dj.new how.le
        have df59 := (DF.new (bf_hx.mono (by omega)) : DF _ (HL2.size + 1))
        have dj60 : Dj kp (HL2.size + 1) := Dj.new op.le
        have nx61 : Nx 0 H0.size (HL2.size + 1) := Nx.new hm0.size
        have nx62 : Nx 0 H0.size (HL2.size + 1) := Nx.new hlm1.size
        replace hl := hl.nw hs69
        replace hlx := fun x h_ => (hlx x h_).nw hs69
        replace how := how.nw hs69
        replace hx := fun x h_ => (hx x h_).nw hs69
        replace op := op.nw hs69
        replace hm0 := hm0.tr hs69
        replace hlm1 := hlm1.tr hs69
        have hz11 := hs69.size
        refine LR.z (Z.apnd how ow69.rd rfl inf22 rfl rfl (by rw [List.length_singleton]; omega) (by rw [List.length_singleton]; omega)) (Wd.u rfl) rfl rfl (fun v70 H70 r70 => ?_)
        obtain ⟨k70, how, hk70, hs70⟩ := r70
        replace hk70 : Nx ko H69.size k70 := hk70
        replace hs70 := hs70.md
        have df63 := DF.app (df1) (bf_hl.mono hm0.size) hk70
        have df64 := DF.app (df2) (bf_hlx.mono hm0.size) hk70
        have df65 := DF.app (fg) (bf_hx.mono (by omega)) hk70
        have dj66 : Dj kp k70 := Dj.app (dj7.symm) op.le hk70
        have dj67 : Dj (HL2.size + 1) k70 := Dj.app (dj58.symm) ow69.le hk70
        have nx68 : Nx 0 H0.size k70 := Nx.tr (nx3) hk70 hm0.size
        have nx69 : Nx 0 H0.size k70 := Nx.tr (nx4) hk70 hlm1.size
        replace hl := hl.upL hs70 (DFL.cons df1 DFL.nil)
        replace hlx := fun x h_ => (hlx x h_).upL hs70 (DFL.cons df2 DFL.nil)
        replace hx := fun x h_ => (hx x h_).upL hs70 (DFL.cons fg DFL.nil)
        replace op := op.upL hs70 (DL.cons dj7.symm DL.nil)
        replace ow69 := ow69.upL hs70 (DL.cons dj58.symm DL.nil)
        replace hm0 := (Mo.trL (ks := []) (hm0.mdn []) hs70 (MIL.cons (MI.app MI.z (nx3) (Nat.le_refl _)) MIL.nil)).nil
        replace hlm1 := (Mo.trL (ks := []) (hlm1.mdn []) hs70 (MIL.cons (MI.app MI.z (nx4) (Nat.le_refl _)) MIL.nil)).nil
        have hz12 := hs70.size
        have hle_how := how.le
        refine LR.v (Y.assign rfl rfl) (Wd.u rfl) rfl rfl ?_
        refine LR.nil ?_
        refine hK10 _ _ ?_
        refine hK9 _ _ ?_
        refine CW.region ?_
        refine LR.v (Y.move rfl rfl) (Wd.u rfl) rfl rfl ?_
        refine LR.v (Y.addi rfl rfl rfl (by omega)) (Wd.u rfl) rfl rfl ?_
        refine LR.v (Y.assign rfl rfl) (Wd.u rfl) rfl rfl ?_
        refine LR.nil ?_
        refine QN.sub (hN6 (n + 1, v70, k70, out ++ [⟨sp, p⟩], fun b => G b ∨ b + 1 = kp) _ ?_ ?_) ⟨rfl, rfl, (iv (by omega)), trivial⟩
        · exact ⟨(by omega), how, (fun x h => by
            rcases List.mem_append.1 h with h | h
            · exact (hx x h).imp (fun b _ e => .inl e)
            · rw [List.mem_singleton.1 h]; exact op.rd.imp (fun b _ e => .inr e)), BF.or1 (bf_hx.mono (by omega)) op.le, DF.or1 (df65) (dj66.symm), fun b e => e.elim (hG b) (fun e => by have := (nx9); unfold Nx at this; omega), by simp; omega, hok.snoc (by omega) (by simp only; omega) (fun k hk => by rw [hol]; exact hpn k hk), nx69, hlm1⟩
        · first | omega | (simp only; omega) | (simp; omega)
    ·
      refine CW.exit (hE7 (.exit 0) nofun _ _ (hE6 (.exit 0) nofun _ _ (hX5 _ _ ?_)))
      refine hK3 _ _ ?_
      refine CW.seq (fun K31 hK31 hE31 => ?_)
      refine CW.region ?_
      refine LR.v (Y.move rfl rfl) (Wd.u rfl) rfl rfl ?_
      refine LR.v (Y.assign rfl rfl) (Wd.u rfl) rfl rfl ?_
      refine LR.nil ?_
      refine hK31 _ _ ?_
      refine CW.ret (hret .ret (.inr rfl) _ _ _ (res1 rfl rfl) ?_)
      obtain ⟨s9, hs9⟩ : ∃ s : SV, vo = s.v := ⟨toSV vo, how.sv.symm⟩
      exact ⟨s9, out, hs9, srd_of (by rw [← hs9]; exact how.fre (nx3)) (fun x h => (hx x h).imp (fun b _ e => hG b e)), hok, hm0⟩
  ·
    refine LR.gs rfl rfl rfl rfl rfl rfl ?_
    refine LR.gs rfl rfl rfl rfl rfl rfl ?_
    refine LR.v (Y.pick_f rfl rfl rfl) (Wd.u rfl) rfl rfl ?_
    refine LR.nil ?_
    refine hK8 _ _ ?_
    refine CW.cond_f rfl ?_
    refine CW.exit (hE7 (.exit 0) nofun _ _ (hE6 (.exit 0) nofun _ _ (hX5 _ _ ?_)))
    refine hK3 _ _ ?_
    refine CW.seq (fun K32 hK32 hE32 => ?_)
    refine CW.region ?_
    refine LR.v (Y.move rfl rfl) (Wd.u rfl) rfl rfl ?_
    refine LR.v (Y.assign rfl rfl) (Wd.u rfl) rfl rfl ?_
    refine LR.nil ?_
    refine hK32 _ _ ?_
    refine CW.ret (hret .ret (.inr rfl) _ _ _ (res1 rfl rfl) ?_)
    obtain ⟨s9, hs9⟩ : ∃ s : SV, vo = s.v := ⟨toSV vo, how.sv.symm⟩
    exact ⟨s9, out, hs9, srd_of (by rw [← hs9]; exact how.fre (nx3)) (fun x h => (hx x h).imp (fun b _ e => hG b e)), hok, hm0⟩

theorem some_ct (vl : Value) (li : List Int) (n : Nat) (w0 : World) (H0 : Heap)
    (hl : RdT H0 fI 1 vl li) (hi64 : ∀ a ∈ li, i64b a) (hn : n ≤ 1000) :
    Ct Try.prog w0 15 #[vl, .int .i64 (n : Int)] H0 (fun r H2 => ∃ s : SV, ∃ k : Nat, ∃ ps : List Nat, r = s.v ∧ (Ow k 30 H2 fA 32 s.v (ps.map idn)) ∧ (Nx 0 H0.size k) ∧ (ps.length ≤ 10 ∧ ∀ p ∈ ps, p ≤ n) ∧ Nw H0 H2) := by
  refine Ct.enter (args := [vl, .int .i64 (n : Int)]) Try.func15 rfl rfl rfl ?_
  intro Q0 hret
  have hm0 : Nw H0 H0 := Mo.refl _ _
  replace hl := hl.bnd
  have bf_hl := hl.bf
  refine CW.seq (fun K1 hK1 hE1 => ?_)
  refine CW.region ?_
  refine LR.v (Y.assign rfl rfl) (Wd.u rfl) rfl rfl ?_
  refine LR.nil ?_
  refine hK1 _ _ ?_
  refine CW.seq (fun K2 hK2 hE2 => ?_)
  refine CW.region ?_
  refine LR.v (Y.assign rfl rfl) (Wd.u rfl) rfl rfl ?_
  refine LR.nil ?_
  refine hK2 _ _ ?_
  refine CW.seq (fun K3 hK3 hE3 => ?_)
  refine CW.seq (fun K4 hK4 hE4 => ?_)
  refine CW.region ?_
  refine LR.v (Y.assign rfl rfl) (Wd.u rfl) rfl rfl ?_
  refine LR.nil ?_
  refine hK4 _ _ ?_
  refine CW.block (fun K5 hK5 hX5 hE5 => ?_)
  refine CW.loop (fun (s_ : (Nat) × (Value) × (Nat) × (List Nat)) => match s_ with | (i, vo, ko, ps) => [(0, vl), (1, .int .i64 (n : Int)), (5, vo), (6, .int .i64 (i : Int))])
    (fun (s_ : (Nat) × (Value) × (Nat) × (List Nat)) (H : Heap) => match s_ with | (i, vo, ko, ps) => (Ow ko 30 H fA 32 vo (ps.map idn)) ∧ (ps.length ≤ i ∧ ps.length ≤ 10 ∧ ∀ p ∈ ps, p ≤ n) ∧ (i ≤ li.length) ∧ (Nx 0 H0.size ko) ∧ Nw H0 H)
    (fun (s_ : (Nat) × (Value) × (Nat) × (List Nat)) => match s_ with | (i, vo, ko, ps) => li.length - i) (0, .slice none 0 0, 0, []) ⟨rfl, rfl, rfl, rfl, trivial⟩ ?_ ?_
  ·
    exact ⟨Ow.nil fA_len fA_one, ⟨by simp, by simp, by simp⟩, (by omega), Nx.refl _ _, Mo.refl _ _⟩
  rintro ⟨i, vo, ko, ps⟩ HL1 hI1 K6 hN6 hE6
  obtain ⟨how, hp, hi, nxl_how, hlm1⟩ := hI1
  have df1 := DF.app (DF.z) (bf_hl.mono hm0.size) nxl_how
  have nx2 : Nx 0 H0.size ko := Nx.tr (Nx.refl 0 _) nxl_how hm0.size
  replace hl := hl.nw hlm1
  replace hm0 := hm0.tr hlm1
  have hz1 := hlm1.size
  have hle_how := how.le
  have nx3 := nxl_how
  refine CW.seq (fun K7 hK7 hE7 => ?_)
  refine CW.seq (fun K8 hK8 hE8 => ?_)
  refine CW.region ?_
  refine LR.v (Y.move rfl rfl) (Wd.u rfl) rfl rfl ?_
  refine LR.v (Y.move rfl rfl) (Wd.u rfl) rfl rfl ?_
  refine LR.v (Y.len hl rfl Try.runUnderlying38 rfl) (Wd.u rfl) rfl rfl ?_
  refine LR.v (Y.lss rfl rfl rfl) (Wd.u rfl) rfl rfl ?_
  refine LR.v (Y.move rfl rfl) (Wd.u rfl) rfl rfl ?_
  refine LR.splitp (d := 11) rfl (fun g11 => ?_) (fun g11 => ?_)
  ·
    refine LR.v (Y.move rfl rfl) (Wd.g rfl rfl rfl) rfl rfl ?_
    refine LR.v (Y.lss rfl rfl rfl) (Wd.g rfl rfl rfl) rfl rfl ?_
    refine LR.v (Y.pick_t rfl rfl rfl) (Wd.u rfl) rfl rfl ?_
    refine LR.nil ?_
    refine hK8 _ _ ?_
    refine CW.condp rfl (fun c14 => ?_) (fun c14 => ?_)
    ·
      refine CW.skip ?_
      refine hK7 _ _ ?_
      refine CW.seq (fun K9 hK9 hE9 => ?_)
      refine CW.block (fun K10 hK10 hX10 hE10 => ?_)
      refine CW.region ?_
      refine LR.v (Y.move rfl rfl) (Wd.u rfl) rfl rfl ?_
      refine LR.v (Y.move rfl rfl) (Wd.u rfl) rfl rfl ?_
      refine LR.v (Y.move rfl rfl) (Wd.u rfl) rfl rfl ?_
      refine LR.e (g := fun ad => .pointer (some ad)) (Y.indexAddrF hl (i) rfl Try.runUnderlying38 Try.sizeOf3 rfl rfl (by first | rfl | omega) (by omega)) (Wd.u rfl) rfl rfl (fun ad20 pt20 => ?_)
      have bf_pt20 := bf_hl
      refine LR.v (Y.load1 pt20.pt rfl Try.isAgg3 rfl) (Wd.u rfl) rfl rfl ?_
      refine LR.v (Y.move rfl rfl) (Wd.u rfl) rfl rfl ?_
      refine LR.v (Y.cast (v2 := .int .i64 ((n + 1 : Nat) : Int)) (Y.addi rfl rfl rfl (by omega)) (ivv (by omega))) (Wd.u rfl) rfl rfl ?_
      -- call selvage/selvagelaw11.within
      refine LR.call rfl Try.call14 rfl (Wd.u rfl) rfl rfl (within_ct _ (n + 1) w0 _ (by omega) (hi64 _ (List.getElem_mem (by omega)))) (fun v24 H24 r24 => ?_)
      obtain ⟨q24, rfl, hq24, hs24⟩ := r24
      replace hl := hl.nw hs24
      replace how := how.nw hs24
      replace pt20 := pt20.nw hs24
      replace hm0 := hm0.tr hs24
      replace hlm1 := hlm1.tr hs24
      have hz2 := hs24.size
      -- call selvage/selvagelaw11.Id
      refine LR.call rfl Try.call12 rfl (Wd.u rfl) rfl rfl (idn_ct q24 w0 _ (by omega)) (fun v25 H25 r25 => ?_)
      obtain ⟨rfl, hs25⟩ := r25
      replace hl := hl.nw hs25
      replace how := how.nw hs25
      replace pt20 := pt20.nw hs25
      replace hm0 := hm0.tr hs25
      replace hlm1 := hlm1.tr hs25
      have hz3 := hs25.size
      refine LR.z (Z.litw _ ([idn q24]) rfl inf28 rfl rfl rfl (by decide) (by decide) fA_len fA_one (rfl)) (Wd.u rfl) rfl rfl (fun v26 H26 r26 => ?_)
      obtain ⟨ow26, hs26, ob26, hH26⟩ := r26
      have hzs26 : H26.size = H25.size + 1 := by rw [hH26]; simp
      have df4 := (DF.new (bf_hl.mono hm0.size) : DF _ (H25.size + 1))
      have dj5 : Dj ko (H25.size + 1) := Dj.new how.le
      have df6 := (DF.new (bf_pt20.mono hm0.size) : DF _ (H25.size + 1))
      have nx7 : Nx 0 H0.size (H25.size + 1) := Nx.new hm0.size
      have nx8 : Nx 0 H0.size (H25.size + 1) := Nx.new hlm1.size
      replace hl := hl.nw hs26
      replace how := how.nw hs26
      replace pt20 := pt20.nw hs26
      replace hm0 := hm0.tr hs26
      replace hlm1 := hlm1.tr hs26
      have hz4 := hs26.size
      refine LR.z (Z.apnd how ow26.rd rfl inf28 rfl rfl (by simp; omega) (by simp; omega)) (Wd.u rfl) rfl rfl (fun v27 H27 r27 => ?_)
      obtain ⟨k27, how, hk27, hs27⟩ := r27
      replace hk27 : Nx ko H26.size k27 := hk27
      replace hs27 := hs27.md
      have df9 := DF.app (df1) (bf_hl.mono hm0.size) hk27
      have df10 := DF.app (df1) (bf_pt20.mono hm0.size) hk27
      have dj11 : Dj (H25.size + 1) k27 := Dj.app (dj5.symm) ow26.le hk27
      have nx12 : Nx 0 H0.size k27 := Nx.tr (nx2) hk27 hm0.size
      have nx13 : Nx 0 H0.size k27 := Nx.tr (nx3) hk27 hlm1.size
      replace hl := hl.upL hs27 (DFL.cons df1 DFL.nil)
      replace pt20 := pt20.upL hs27 (DFL.cons df1 DFL.nil)
      replace ow26 := ow26.upL hs27 (DL.cons dj5.symm DL.nil)
      replace hm0 := (Mo.trL (ks := []) (hm0.mdn []) hs27 (MIL.cons (MI.app MI.z (nx2) (Nat.le_refl _)) MIL.nil)).nil
      replace hlm1 := (Mo.trL (ks := []) (hlm1.mdn []) hs27 (MIL.cons (MI.app MI.z (nx3) (Nat.le_refl _)) MIL.nil)).nil
      have hz5 := hs27.size
      have hle_how := how.le
      refine LR.v (Y.assign rfl rfl) (Wd.u rfl) rfl rfl ?_
      refine LR.nil ?_
      refine hK10 _ _ ?_
      refine hK9 _ _ ?_
      refine CW.region ?_
      refine LR.v (Y.move rfl rfl) (Wd.u rfl) rfl rfl ?_
      refine LR.v (Y.addi rfl rfl rfl (by omega)) (Wd.u rfl) rfl rfl ?_
      refine LR.v (Y.assign rfl rfl) (Wd.u rfl) rfl rfl ?_
      refine LR.nil ?_
      refine QN.sub (hN6 (i + 1, v27, k27, ps ++ [q24]) _ ?_ ?_) ⟨rfl, (iv (by omega)), rfl, (iv (by omega)), trivial⟩
      · exact ⟨by rw [List.map_append]; exact how, ⟨by simp; omega, by simp; omega, fun p h => by
          rcases List.mem_append.1 h with h | h
          · exact hp.2.2 p h
          · rw [List.mem_singleton.1 h]; omega⟩, (by omega), nx13, hlm1⟩
      · first | omega | (simp only; omega) | (simp; omega)
    ·
      refine CW.exit (hE7 (.exit 0) nofun _ _ (hE6 (.exit 0) nofun _ _ (hX5 _ _ ?_)))
      refine hK3 _ _ ?_
      refine CW.seq (fun K11 hK11 hE11 => ?_)
      refine CW.region ?_
      refine LR.v (Y.move rfl rfl) (Wd.u rfl) rfl rfl ?_
      refine LR.v (Y.assign rfl rfl) (Wd.u rfl) rfl rfl ?_
      refine LR.nil ?_
      refine hK11 _ _ ?_
      refine CW.ret (hret .ret (.inr rfl) _ _ _ (res1 rfl rfl) ?_)
      obtain ⟨s9, hs9⟩ : ∃ s : SV, vo = s.v := ⟨toSV vo, how.sv.symm⟩
      exact ⟨s9, ko, ps, hs9, by rw [← hs9]; exact how, nx2, hp.2, hm0⟩
  ·
    refine LR.gs rfl rfl rfl rfl rfl rfl ?_
    refine LR.gs rfl rfl rfl rfl rfl rfl ?_
    refine LR.v (Y.pick_f rfl rfl rfl) (Wd.u rfl) rfl rfl ?_
    refine LR.nil ?_
    refine hK8 _ _ ?_
    refine CW.cond_f rfl ?_
    refine CW.exit (hE7 (.exit 0) nofun _ _ (hE6 (.exit 0) nofun _ _ (hX5 _ _ ?_)))
    refine hK3 _ _ ?_
    refine CW.seq (fun K12 hK12 hE12 => ?_)
    refine CW.region ?_
    refine LR.v (Y.move rfl rfl) (Wd.u rfl) rfl rfl ?_
    refine LR.v (Y.assign rfl rfl) (Wd.u rfl) rfl rfl ?_
    refine LR.nil ?_
    refine hK12 _ _ ?_
    refine CW.ret (hret .ret (.inr rfl) _ _ _ (res1 rfl rfl) ?_)
    obtain ⟨s9, hs9⟩ : ∃ s : SV, vo = s.v := ⟨toSV vo, how.sv.symm⟩
    exact ⟨s9, ko, ps, hs9, by rw [← hs9]; exact how, nx2, hp.2, hm0⟩

end Go.Proofs.Ytepdhokpfecdnaa.GraP
/-
  Rows that are ours alone and begin anywhere in their block: cut at the front, appended to: no condition.
-/
namespace Go.Proofs.Ytepdhokpfecdnaa.E
set_option linter.unusedVariables false
set_option linter.unusedSimpArgs false
set_option linter.unusedSectionVars false

structure Owt {α : Type} (k : Nat) (e : TypeId) (H : Heap) (f : α → List Value) (sz : Nat) (v : Value) (l : List α) : Prop where
  cells : ∀ x, (f x).length = sz
  one : ∀ x, ∀ u ∈ f x, u.oneCell' = true
  le : k ≤ H.size
  ex : ∃ a c, v = .slice a l.length c ∧ l.length ≤ c ∧ c ≤ maxLen ∧ (0 < c → ∃ g d cur, a = some ⟨g, d, none⟩ ∧ g + 1 = k ∧ Row H g cur e ∧ cur.size = d + c * sz ∧ (cur.toList.drop d).take (l.length * sz) = l.flatMap f)

section
variable {α : Type} {k : Nat} {e : TypeId} {H H' : Heap} {f : α → List Value} {sz : Nat} {v : Value} {l : List α}
theorem Ow.tl (h : Ow k e H f sz v l) : Owt k e H f sz v l := by
  refine ⟨h.own.cells, h.own.one, h.le, ?_⟩
  rcases h.own.ex with ⟨rfl, rfl⟩ | ⟨g, cap, cur, rfl, hg, hh, r1, r2, r3, r4⟩
  · exact ⟨none, 0, rfl, Nat.le_refl _, by unfold maxLen; omega, fun h => absurd h (Nat.lt_irrefl _)⟩
  · exact ⟨_, cap, rfl, r1, r2, fun _ => ⟨g, 0, cur, rfl, hg, hh, by rw [r3, Nat.zero_add], by simpa using r4⟩⟩
theorem Owt.rd (h : Owt k e H f sz v l) : Rd (fun b => b + 1 = k) H f sz v l := by
  obtain ⟨a, c, rfl, h1, h2, h3⟩ := h.ex
  refine ⟨a, c, rfl, h1, h2, fun hne => ?_⟩
  have hl : 0 < l.length := List.length_pos_iff.2 hne
  obtain ⟨g, d, cur, rfl, hg, hh, r1, r2⟩ := h3 (by omega)
  refine ⟨_, rfl, rfl, hg, hh.lt, fun i x hx => ⟨rfl, fun j c hc => ?_⟩⟩
  have hr := get_flatMap h.cells l i j x c hx hc
  rw [← r2, List.getElem?_take] at hr
  split at hr
  · rw [List.getElem?_drop] at hr
    rw [hh.cell]
    simpa [Nat.add_assoc] using hr
  · cases hr
theorem Owt.up {S : Nat → Prop} (h : Owt k e H f sz v l) (s : Mo S H H') (hS : ∀ b, b < H.size → b + 1 = k → ¬ S b) : Owt k e H' f sz v l := by
  refine ⟨h.cells, h.one, Nat.le_trans h.le s.size, ?_⟩
  obtain ⟨a, c, rfl, h1, h2, h3⟩ := h.ex
  refine ⟨a, c, rfl, h1, h2, fun hc => ?_⟩
  obtain ⟨g, d, cur, rfl, hg, hh, r⟩ := h3 hc
  exact ⟨g, d, cur, rfl, hg, hh.up (s.same g hh.lt (hS _ hh.lt hg)), r⟩
theorem Owt.nw (h : Owt k e H f sz v l) (s : Nw H H') : Owt k e H' f sz v l := h.up s (fun _ _ _ e => e)
theorem Owt.upL {ks : List Nat} (x : Owt k e H f sz v l) (s : Mo (Ms ks) H H') (d : DL k ks) : Owt k e H' f sz v l :=
  x.up s (fun b _ h1 h2 => d (b + 1) h2 b h1 rfl)
theorem Owt.len (h : Owt k e H f sz v l) : l.length ≤ 9223372036854775807 := h.rd.len
theorem Owt.sv (h : Owt k e H f sz v l) : (toSV v).v = v := h.rd.sv
theorem drop_flatMap {f : α → List Value} {sz : Nat} (hf : ∀ x, (f x).length = sz) : ∀ (j : Nat) (l : List α), (l.flatMap f).drop (j * sz) = (l.drop j).flatMap f
  | 0, l => by simp
  | j + 1, [] => by simp
  | j + 1, x :: l => by
    have ih := drop_flatMap hf j l
    rw [List.flatMap_cons, List.drop_succ_cons, ← ih, Nat.add_mul, Nat.one_mul, Nat.add_comm, ← List.drop_drop, ← hf x, List.drop_left]
end

section
variable {P : Program} {w0 : World} {n : Nat} {l : FL} {H : Heap} {o : Oper}
variable {α : Type} {k : Nat} {e : TypeId} {f : α → List Value} {sz : Nat} {v : Value} {xs ys : List α}
theorem Y.owTail {x lo : Operand} {t e2 : TypeId} {k2 : IntKind} {iv : Int} (h : Owt k e H f sz v xs) (j : Nat) (ho : o.op = .slice t x (some lo) none none) (ht : ∀ w, (underlying t).run P w = .ok (.slice e2) w) (hs : ∀ w, (sizeOf e2).run P w = .ok sz w)
    (hx : opv l x = some v) (hi2 : opv l lo = some (.int k2 iv)) (hjv : iv = j) (hj : j ≤ xs.length) : ∃ v', (∀ H', Y P w0 n l H' o v') ∧ Owt k e H f sz v' (xs.drop j) := by
  obtain ⟨a, c, rfl, h1, h2, h3⟩ := h.ex
  refine ⟨.slice (if c = j then a else a.map (·.add (j * sz))) (xs.length - j) (c - j), ?_, ?_⟩
  · intro H' ac w hf ha
    have e1 : ∀ w, (Instr.sliceBounds true xs.length c (some (ac.eval lo)) none none).run P w = .ok (j, xs.length, c) w := by
      intro w
      subst hjv
      simp [Instr.sliceBounds, Instr.sliceBound, asIntOf, hf.eval hi2, *]
    simp [execOp, ho, hf.eval hx, Instr.sliceAt, Instr.slice, ht, hs, e1]
  · refine ⟨h.cells, h.one, h.le, _, c - j, by rw [List.length_drop], by rw [List.length_drop]; omega, by omega, fun hc => ?_⟩
    obtain ⟨g, d, cur, rfl, hg, hh, r1, r2⟩ := h3 (by omega)
    refine ⟨g, d + j * sz, cur, by rw [if_neg (by omega)]; simp [add_eq], hg, hh, ?_, ?_⟩
    · rw [r1, Nat.add_assoc, ← Nat.add_mul, Nat.add_sub_cancel' (by omega)]
    · rw [← drop_flatMap h.cells, ← r2, List.drop_take, List.drop_drop, List.length_drop, Nat.sub_mul]

theorem run_append_softAt {w : World} (t ty e : TypeId) (i : TypeInfo) (ht : P.underlying t = some (.slice e)) (hi : P.info? e = some i)
    (g d sLen sCap : Nat) (cur : Array Value) (fz : Nat × Nat) (hg : w.heap[g]? = some (.cells cur e fz)) (hfz : Soft fz cur.size)
    (a : Addr) (m c : Nat) (news : List Value) (hl : news.length = m * i.size) (hnews : ∀ j u, news[j]? = some u → w.cell? (a.add j) = some u) (h1 : ∀ u ∈ news, u.oneCell' = true)
    (hroom : sLen + m ≤ sCap) (hfit : d + sLen * i.size + news.length ≤ cur.size) :
    (Builtin.append_ #[t, t] ty #[.slice (some ⟨g, d, none⟩) sLen sCap, .slice (some a) m c]).run P w =
      .ok (.slice (some ⟨g, d, none⟩) (sLen + m) sCap) (w.setRow g (cur.toList.take (d + sLen * i.size) ++ news ++ cur.toList.drop (d + sLen * i.size + news.length)).toArray) := by
  have hf := run_firstCells_some (P := P) w i.size m a m c news hl hnews
  have hst := run_storeCells_soft P g (d + sLen * i.size) e fz news 0 cur w hg hfz (by simpa using hfit) h1
  simp only [Nat.add_zero] at hst
  simp [Builtin.append_, run_underlying ht, sizeOf, typeInfo, hi, Builtin.lenOf, hroom, hf, add_eq, hst]

theorem Z.apndT {F : Nat → Prop} {s x : Operand} {t : TypeId} {u : Value} {bytes : Nat} (h : Owt k e H f sz v xs) (hr : Rd F H f sz u ys) (ho : o.op = .call { callee := .builtin .append, args := #[s, x], argTypes := #[t, t] })
    (hinf : Inf P t e sz bytes) (hs : opv l s = some v) (hx : opv l x = some u) (hb : (xs.length + ys.length) * bytes ≤ 140737488355328) (hm : xs.length + ys.length ≤ 9223372036854775807) :
    Z P w0 n l H o (fun r H' => ∃ k', Owt k' e H' f sz r (xs ++ ys) ∧ (k' = 0 ∨ k' = k ∨ H.size < k') ∧ Mo (fun b => b + 1 = k) H H') := by
  obtain ⟨ht, i, z, hi, hz, hsz, hby, hzs⟩ := hinf
  subst hsz
  subst hby
  intro a w hf ha
  obtain ⟨ad, cap, rfl, q1, q2, q3⟩ := id hr.ex
  obtain ⟨av, c, rfl, h1, h2, h3⟩ := id h.ex
  have hl : (ys.flatMap f).length = ys.length * i.size := length_flatMap h.cells ys
  have h1c : ∀ c ∈ ys.flatMap f, c.oneCell' = true := by
    intro c hc
    obtain ⟨y, hy, hc⟩ := List.mem_flatMap.1 hc
    exact h.one y c hc
  have same : ys = [] → (Builtin.append_ #[t, t] o.type #[.slice av xs.length c, .slice ad ys.length cap]).run P w = .ok (.slice av xs.length c) w := by
    intro e; subst e
    have hf : (Builtin.firstCells i.size 0 (.slice ad 0 cap)).run P w = .ok #[] w := by
      cases ad with
      | none => exact run_firstCells_none w i.size 0 0 cap
      | some ad => exact run_firstCells_some w i.size 0 ad 0 cap [] (by simp) (by simp)
    cases av <;> simp [Builtin.append_, run_underlying ht, sizeOf, typeInfo, hi, Builtin.lenOf, hf, h1, storeCells]
  by_cases hys : ys = []
  · have hrun := same hys
    subst hys
    refine ⟨.slice av xs.length c, H, w, ?_, ha, k, by rw [List.append_nil]; exact h, .inr (.inl rfl), Mo.refl _ _⟩
    simp only [List.length_nil] at hrun hx hf
    simp [execOp, ho, resolve, invoke, builtin, hf.eval hs, hf.eval hx, hrun]
  · have hyl : 0 < ys.length := List.length_pos_iff.2 hys
    obtain ⟨ad', rfl, _⟩ := q3 hys
    have hnews := hr.pts h.cells rfl ha
    have grown : ∀ (old : Nat) (r : Value), old < xs.length + ys.length → r = .slice (some ⟨w.heap.size, 0, none⟩) (xs.length + ys.length) (grownCap w (xs.length + ys.length) old e) → ∀ ob, ob = Obj.cells ((xs.flatMap f).toArray ++ (ys.flatMap f).toArray ++ Builtin.zeroCells z.cells (grownCap w (xs.length + ys.length) old e - (xs.length + ys.length))) e →
        At w0 (w.drew.alloc ob).heap (w.drew.alloc ob) ∧ ∃ k', Owt k' e (w.drew.alloc ob).heap f i.size r (xs ++ ys) ∧ (k' = 0 ∨ k' = k ∨ H.size < k') ∧ Mo (fun b => b + 1 = k) H (w.drew.alloc ob).heap := by
      rintro old r ho' rfl ob rfl
      have hge := grownCap_ge w (xs.length + ys.length) old e
      have hcm : grownCap w (xs.length + ys.length) old e ≤ maxLen := grownCap_le_maxLen w (xs.length + ys.length) old e (by unfold maxLen; omega)
      have ha2 : At w0 H w.drew := ha.drew
      have hn := Own.new (e := e) (G' := fun b => b + 1 = H.size + 1) (w := w.drew) (z := z) (cap := grownCap w (xs.length + ys.length) old e) (zs := xs ++ ys) h.cells h.one hzs (by rw [ha2.heap]) (by simpa using hge) hcm
      refine ⟨⟨rfl, ha.os, ha.tape, ha.output, ha2.dr⟩, H.size + 1, ?_, .inr (.inr (Nat.lt_succ_self _)), ?_⟩
      · refine Ow.tl ⟨by simpa using hn, ?_⟩
        rw [(ha2.alloc _).heap]; simp
      · rw [(ha2.alloc _).heap]; exact Mo.push _ _ _
    by_cases hroom : xs.length + ys.length ≤ c
    · obtain ⟨g, d, cur, rfl, hg, hh, r1, r2⟩ := h3 (by omega)
      obtain ⟨fz, hh0, hsf⟩ := id hh
      have hg' : w.heap[g]? = some (.cells cur e fz) := by rw [ha.heap]; exact hh0
      have hmul : (xs.length + ys.length) * i.size ≤ c * i.size := Nat.mul_le_mul_right _ hroom
      rw [Nat.add_mul] at hmul
      have hfit : d + xs.length * i.size + (ys.flatMap f).length ≤ cur.size := by rw [hl, r1]; omega
      have hrun := run_append_softAt (P := P) (w := w) t o.type e i ht hi g d xs.length c cur fz hg' hsf ad' ys.length cap (ys.flatMap f) hl hnews h1c hroom hfit
      refine ⟨.slice (some ⟨g, d, none⟩) (xs.length + ys.length) c, (w.setRow g (cur.toList.take (d + xs.length * i.size) ++ ys.flatMap f ++ cur.toList.drop (d + xs.length * i.size + (ys.flatMap f).length)).toArray).heap, w.setRow g (cur.toList.take (d + xs.length * i.size) ++ ys.flatMap f ++ cur.toList.drop (d + xs.length * i.size + (ys.flatMap f).length)).toArray, by simp [execOp, ho, resolve, invoke, builtin, hf.eval hs, hf.eval hx, hrun], ⟨rfl, ha.os, ha.tape, ha.output, ha.dr⟩, k, ⟨h.cells, h.one, ?_, some ⟨g, d, none⟩, c, by rw [List.length_append], by rw [List.length_append]; exact hroom, h2, fun _ => ⟨g, d, _, rfl, hg, ⟨fz, setRow_heap w g cur _ e _ hg', hsf.1, fun i hi => hsf.2 i (by simp only [List.size_toArray, List.length_append, List.length_take, List.length_drop, Array.length_toList] at hi; omega)⟩, ?_, ?_⟩⟩, .inr (.inl rfl), ⟨by rw [← ha.heap]; simp [World.setRow], fun b hb hn => ?_⟩⟩
      · have := h.le; simp [World.setRow, ha.heap]; exact this
      · simp only [List.size_toArray, List.length_append, List.length_take, List.length_drop, Array.length_toList]
        omega
      · have hlx := length_flatMap h.cells xs
        have hcl : cur.toList.length = cur.size := Array.length_toList
        have e1 : (cur.toList.take (d + xs.length * i.size)).drop d = xs.flatMap f := by
          rw [List.drop_take, ← r2]
          congr 1; omega
        simp only [List.append_assoc]
        rw [List.drop_append_of_le_length (by rw [List.length_take]; omega), e1, List.length_append, List.flatMap_append, ← List.append_assoc, Nat.add_mul, ← hl, ← hlx, ← List.length_append]
        exact List.take_left
      · rw [← ha.heap]; exact setRow_other w g b _ (fun e => hn (e ▸ hg))
    · have mk : ∀ r, (Builtin.append_ #[t, t] o.type #[.slice av xs.length c, .slice (some ad') ys.length cap]).run P w = .ok (.slice (some ⟨w.heap.size, 0, none⟩) (xs.length + ys.length) (grownCap w (xs.length + ys.length) r e)) (w.drew.alloc (.cells ((xs.flatMap f).toArray ++ (ys.flatMap f).toArray ++ Builtin.zeroCells z.cells (grownCap w (xs.length + ys.length) r e - (xs.length + ys.length))) e)) → r < xs.length + ys.length →
          ∃ v' H' w', (execOp a.eval o).run P w = .ok (.value v') w' ∧ At w0 H' w' ∧ ∃ k', Owt k' e H' f i.size v' (xs ++ ys) ∧ (k' = 0 ∨ k' = k ∨ H.size < k') ∧ Mo (fun b => b + 1 = k) H H' := by
        intro r hrun hlt
        have := grown r _ hlt rfl _ rfl
        exact ⟨_, _, _, by simp [execOp, ho, resolve, invoke, builtin, hf.eval hs, hf.eval hx, hrun], this.1, this.2⟩
      cases av with
      | none =>
        have hx0 : xs = [] := by
          apply Decidable.byContradiction; intro hne
          have := List.length_pos_iff.2 hne
          obtain ⟨g, d, cur, e1, _⟩ := h3 (by omega)
          cases e1
        have hc0 : c = 0 := by
          apply Decidable.byContradiction; intro hne
          obtain ⟨g, d, cur, e1, _⟩ := h3 (by omega)
          cases e1
        subst hx0
        subst hc0
        simp only [List.length_nil, Nat.zero_add] at hb hm
        have hrun := run_append_nil (P := P) w t o.type e i z ht hi hz ad' ys.length cap (ys.flatMap f) hl hnews (by omega) (by omega) (by omega)
        exact mk 0 (by simpa using hrun) (by simp; omega)
      | some b =>
        have holds : ∀ j c, (xs.flatMap f)[j]? = some c → w.cell? (b.add j) = some c := h.rd.pts h.cells rfl ha
        have hrun := run_append_grow (P := P) w t o.type e i z ht hi hz b xs.length c (xs.flatMap f) (length_flatMap h.cells xs) holds ad' ys.length cap (ys.flatMap f) hl hnews (by omega) (by omega) (growslice_fits (by omega) hb)
        exact mk c hrun (by omega)
end
end Go.Proofs.Ytepdhokpfecdnaa.E
/-
  The document's commits: names that rise, a graph as a row of commits.
-/
namespace Go.Proofs.Ytepdhokpfecdnaa.GraX
open Go.Proofs.Ytepdhokpfecdnaa.E Go.RowKit Go.Proofs.Ytepdhokpfecdnaa.GraA Go.Proofs.Ytepdhokpfecdnaa.GraB Go.Proofs.Ytepdhokpfecdnaa.GraC Go.Proofs.Ytepdhokpfecdnaa.GraD Go.Proofs.Ytepdhokpfecdnaa.GraE Go.Proofs.Ytepdhokpfecdnaa.GraF Go.Proofs.Ytepdhokpfecdnaa.GraG Go.Proofs.Ytepdhokpfecdnaa.GraH Go.Proofs.Ytepdhokpfecdnaa.GraI Go.Proofs.Ytepdhokpfecdnaa.GraJ Go.Proofs.Ytepdhokpfecdnaa.GraK Go.Proofs.Ytepdhokpfecdnaa.GraL Go.Proofs.Ytepdhokpfecdnaa.GraM Go.Proofs.Ytepdhokpfecdnaa.GraN Go.Proofs.Ytepdhokpfecdnaa.GraO Go.Proofs.Ytepdhokpfecdnaa.GraP
set_option maxRecDepth 20000
set_option linter.unusedVariables false
set_option linter.unusedSimpArgs false
set_option linter.unusedSectionVars false
set_option maxRecDepth 100000 in
theorem inf28 : Inf Try.prog 28 30 32 32 := ⟨Try.underlying28, _, _, rfl, rfl, rfl, rfl, rfl⟩

theorem blx_at : ∀ (k : Nat) (a b : List UInt8), a.take k = b.take k → k < a.length → k < b.length → a.getD k 0 ≠ b.getD k 0 → Op.bytesLess a b = decide ((a.getD k 0).toNat < (b.getD k 0).toNat)
  | 0, x :: a, y :: b, _, _, _, h => by
    have h : x ≠ y := by simpa using h
    have h2 : (x == y) = false := by simpa using h
    simp [Op.bytesLess, h2, UInt8.lt_iff_toNat_lt]
  | k + 1, x :: a, y :: b, ht, h1, h2, h => by
    simp only [List.take_succ_cons, List.cons.injEq] at ht
    obtain ⟨rfl, ht⟩ := ht
    have := blx_at k a b ht (by simpa using h1) (by simpa using h2) (by simpa using h)
    simp [Op.bytesLess, this]
  | _, [], _, _, h1, _, _ => by simp at h1
  | _, _, [], _, _, h2, _ => by simp at h2
theorem gdx {l : List UInt8} {j : Nat} (h : j < l.length) : l[j] = l.getD j 0 := by simp [h]
/-- a commit of the document's graph -/
structure Nd where
  i : Ide
  v : SV
  ps : List Ide
abbrev fNd (x : Nd) : List Value := fA x.i ++ [x.v.v]
theorem fNd_len (x : Nd) : (fNd x).length = 33 := by simp [fA_len]
theorem fNd_one (x : Nd) : ∀ u ∈ fNd x, u.oneCell' = true := by
  intro u hu
  rcases List.mem_append.1 hu with h | h
  · exact fA_one _ u h
  · simp only [List.mem_singleton] at h; subst h; rfl
theorem fNd_take (x : Nd) : ((fNd x).drop 0).take 32 = fA x.i := by
  rw [List.drop_zero]; exact List.take_left' (fA_len _)
theorem fNd_drop (x : Nd) : (fNd x).drop 32 = [x.v.v] := List.drop_left' (fA_len _)
/-- the document's graph -/
structure GrR (F : Nat → Prop) (H : Heap) (gb : Nat) (nl : SV) (nd : List Nd) : Prop where
  v : PtF F H ⟨gb, 0, none⟩ [nl.v]
  l : Rd F H fNd 33 nl.v nd
  x : ∀ y ∈ nd, Rd F H fA 32 y.v.v y.ps
section
variable {F : Nat → Prop} {H H' : Heap} {gb : Nat} {nl : SV} {nd : List Nd} {ks : List Nat}
theorem GrR.nw (h : GrR F H gb nl nd) (s : Nw H H') : GrR F H' gb nl nd := ⟨h.v.nw s, h.l.nw s, fun y hy => (h.x y hy).nw s⟩
theorem GrR.upL (h : GrR F H gb nl nd) (s : Mo (Ms ks) H H') (d : DFL F ks) : GrR F H' gb nl nd := ⟨h.v.upL s d, h.l.upL s d, fun y hy => (h.x y hy).upL s d⟩
theorem GrR.lt (h : GrR F H gb nl nd) : gb < H.size := cell_lt (a := ⟨gb, 0, none⟩) (by have := h.v.pt.cells 0 nl.v rfl; simpa using this)
theorem GrR.bnd (h : GrR F H gb nl nd) : GrR (fun b => F b ∧ b < H.size) H gb nl nd := ⟨⟨h.v.pt, h.v.f, h.lt⟩, h.l.bnd, fun y hy => (h.x y hy).bnd⟩
theorem GrR.bf {G : Nat → Prop} {h : Nat} {H : Heap} (x : GrR (fun b => G b ∧ b < h) H gb nl nd) : BF (fun b => G b ∧ b < h) h := fun b e => e.2
end
/-- what the document's graph tells of one -/
def paR (nd : List Nd) (i : Ide) : Option (List Ide) := (nd.find? (fun x => decide (x.i = i))).map (·.ps)
theorem paR_some {nd : List Nd} {i : Ide} {k : Nat} (hk : k < nd.length) (hi : nd[k].i = i) (hno : ∀ j (h : j < nd.length), j < k → nd[j].i ≠ i) : paR nd i = some nd[k].ps := by
  unfold paR
  have : nd.find? (fun x => decide (x.i = i)) = some nd[k] := by
    rw [List.find?_eq_some_iff_getElem]
    exact ⟨by simp [hi], k, hk, rfl, fun j hj => by simpa using hno j (by omega) hj⟩
  rw [this]; rfl
theorem paR_none {nd : List Nd} {i : Ide} (hno : ∀ j (h : j < nd.length), nd[j].i ≠ i) : paR nd i = none := by
  unfold paR
  have : nd.find? (fun x => decide (x.i = i)) = none := by
    rw [List.find?_eq_none]
    intro x hx
    obtain ⟨j, hj, rfl⟩ := List.getElem_of_mem hx
    simpa using hno j hj
  rw [this]; rfl
/-- a name among names that rise -/
def withI : List Ide → Ide → List Ide
  | [], x => [x]
  | y :: l, x => if ltA y x then y :: withI l x else if y = x then y :: l else x :: y :: l
theorem withI_mem {x z : Ide} : ∀ l : List Ide, z ∈ withI l x ↔ z = x ∨ z ∈ l
  | [] => by simp [withI]
  | y :: l => by
    have ih := withI_mem (x := x) (z := z) l
    unfold withI
    split
    · simp only [List.mem_cons, ih]
      constructor
      · rintro (h | h | h) <;> simp [h]
      · rintro (h | h | h) <;> simp [h]
    · split
      · rename_i h; subst h
        simp only [List.mem_cons]
        constructor
        · intro h; exact .inr h
        · rintro (h | h)
          · exact .inl h
          · exact h
      · simp
theorem withI_ris {x : Ide} : ∀ {l : List Ide}, Ris l → Ris (withI l x)
  | [], _ => by unfold withI Ris; simp
  | y :: l, h => by
    unfold Ris at h
    rw [List.pairwise_cons] at h
    have ih := withI_ris (x := x) (l := l) h.2
    unfold withI
    split
    · rename_i hlt
      unfold Ris
      rw [List.pairwise_cons]
      refine ⟨fun z hz => ?_, ih⟩
      rcases (withI_mem l).1 hz with rfl | hz
      · exact hlt
      · exact h.1 z hz
    · rename_i hlt
      split
      · exact List.pairwise_cons.2 h
      · rename_i hne
        have hx : ltA x y := Decidable.byContradiction fun h2 => hne (ltA_tot hlt h2)
        refine List.pairwise_cons.2 ⟨fun z hz => ?_, List.pairwise_cons.2 h⟩
        rcases List.mem_cons.1 hz with rfl | hz
        · exact hx
        · exact ltA_tr hx (h.1 z hz)
theorem withI_new {x : Ide} : ∀ {l : List Ide}, x ∉ l → (withI l x).length = l.length + 1
  | [], _ => rfl
  | y :: l, h => by
    simp only [List.mem_cons, not_or] at h
    unfold withI
    split
    · simp [withI_new h.2]
    · rw [if_neg (fun e => h.1 e.symm)]; rfl
theorem withI_at {x : Ide} : ∀ {l : List Ide} {k : Nat}, k ≤ l.length → (∀ j (h : j < l.length), j < k → ltA l[j] x) → (∀ h : k < l.length, ¬ ltA l[k] x ∧ l[k] ≠ x) → withI l x = l.take k ++ [x] ++ l.drop k
  | [], k, hk, _, _ => by
    obtain rfl : k = 0 := by simpa using hk
    rfl
  | y :: l, 0, _, _, h2 => by
    have := h2 (by simp)
    simp only [List.getElem_cons_zero] at this
    unfold withI
    rw [if_neg this.1, if_neg this.2]; rfl
  | y :: l, k + 1, hk, h1, h2 => by
    have hy := h1 0 (by simp) (by omega)
    simp only [List.getElem_cons_zero] at hy
    have ih := withI_at (x := x) (l := l) (k := k) (by simpa using hk) (fun j h hj => by have := h1 (j + 1) (by simpa using h) (by omega); simpa using this) (fun h => by have := h2 (by simpa using h); simpa using this)
    unfold withI
    rw [if_pos hy, ih]; rfl
theorem rless_ct (a b : Ide) (w0 : World) (H0 : Heap)
     :
    Ct Try.prog w0 53 #[vA a, vA b] H0 (fun r H2 => r = .bool (decide (ltA a b)) ∧ Nw H0 H2) := by
  refine Ct.enter (args := [vA a, vA b]) Try.func53 rfl rfl rfl ?_
  intro Q0 hret
  have hm0 : Nw H0 H0 := Mo.refl _ _
  have ha := a.2
  have hb := b.2
  refine CW.seq (fun K1 hK1 hE1 => ?_)
  refine CW.region ?_
  refine LR.z (Z.boxv rfl rfl) (Wd.u rfl) rfl rfl (fun v2 H2 r2 => ?_)
  obtain ⟨rfl, va2, hs2, ob2, hH2⟩ := r2
  have hzs2 : H2.size = H0.size + 1 := by rw [hH2]; simp
  have nx1 : Nx 0 H0.size (H0.size + 1) := Nx.new hm0.size
  replace hm0 := hm0.tr hs2
  have hz1 := hs2.size
  replace va2 : Var 30 H2 H0.size (fA a) := va2
  refine LR.z (Z.boxv rfl rfl) (Wd.u rfl) rfl rfl (fun v3 H3 r3 => ?_)
  obtain ⟨rfl, va3, hs3, ob3, hH3⟩ := r3
  have hzs3 : H3.size = H2.size + 1 := by rw [hH3]; simp
  have dj2 : Dj (H0.size + 1) (H2.size + 1) := Dj.new va2.lt
  have nx3 : Nx 0 H0.size (H2.size + 1) := Nx.new hm0.size
  replace va2 := va2.nw hs3
  replace hm0 := hm0.tr hs3
  have hz2 := hs3.size
  replace va3 : Var 30 H3 H2.size (fA b) := va3
  refine LR.v (Y.assign rfl rfl) (Wd.u rfl) rfl rfl ?_
  refine LR.nil ?_
  refine hK1 _ _ ?_
  refine CW.seq (fun K2 hK2 hE2 => ?_)
  refine CW.seq (fun K3 hK3 hE3 => ?_)
  refine CW.region ?_
  refine LR.v (Y.assign rfl rfl) (Wd.u rfl) rfl rfl ?_
  refine LR.nil ?_
  refine hK3 _ _ ?_
  refine CW.block (fun K4 hK4 hX4 hE4 => ?_)
  refine CW.loop (fun (k : (Nat)) => [(2, .pointer (some ⟨H0.size, 0, none⟩)), (3, .pointer (some ⟨H2.size, 0, none⟩)), (5, .int .i64 (k : Int))])
    (fun (k : (Nat)) (H : Heap) => (k ≤ 32) ∧ (a.1.take k = b.1.take k) ∧ Nw H3 H)
    (fun (k : (Nat)) => 32 - k) 0 ⟨rfl, rfl, rfl, trivial⟩ ?_ ?_
  ·
    exact ⟨(by omega), by simp, Mo.refl _ _⟩
  intro k HL1 hI1 K5 hN5 hE5
  obtain ⟨hk, ht, hlm1⟩ := hI1
  replace va2 := va2.nw hlm1
  replace va3 := va3.nw hlm1
  replace hm0 := hm0.tr hlm1
  have hz3 := hlm1.size
  refine CW.seq (fun K6 hK6 hE6 => ?_)
  refine CW.seq (fun K7 hK7 hE7 => ?_)
  refine CW.region ?_
  refine LR.v (Y.move rfl rfl) (Wd.u rfl) rfl rfl ?_
  refine LR.v (Y.lss rfl rfl rfl) (Wd.u rfl) rfl rfl ?_
  refine LR.nil ?_
  refine hK7 _ _ ?_
  refine CW.condp rfl (fun c7 => ?_) (fun c7 => ?_)
  ·
    refine CW.skip ?_
    refine hK6 _ _ ?_
    refine CW.seq (fun K8 hK8 hE8 => ?_)
    refine CW.block (fun K9 hK9 hX9 hE9 => ?_)
    refine CW.seq (fun K10 hK10 hE10 => ?_)
    refine CW.region_draw rfl (by kernel_rfl) ?_
    refine LR.v (Y.move rfl rfl) (Wd.u rfl) rfl rfl ?_
    refine LR.v (Y.arrAddr va2.pt (k) rfl Try.runUnderlying30 Try.sizeOf5 rfl rfl (by first | rfl | omega) (by first | omega | (simp; omega) | (simp; done))) (Wd.u rfl) rfl rfl ?_
    refine LR.v (Y.load1 (va2.pt.at (k) (fA_at a k (by omega))) rfl Try.isAgg5 rfl) (Wd.u rfl) rfl rfl ?_
    refine LR.v (Y.move rfl rfl) (Wd.u rfl) rfl rfl ?_
    refine LR.v (Y.arrAddr va3.pt (k) rfl Try.runUnderlying30 Try.sizeOf5 rfl rfl (by first | rfl | omega) (by first | omega | (simp; omega) | (simp; done))) (Wd.u rfl) rfl rfl ?_
    refine LR.v (Y.load1 (va3.pt.at (k) (fA_at b k (by omega))) rfl Try.isAgg5 rfl) (Wd.u rfl) rfl rfl ?_
    refine LR.v (Y.neq rfl rfl rfl) (Wd.u rfl) rfl rfl ?_
    refine LR.nil ?_
    refine hK10 _ _ ?_
    refine CW.condp rfl (fun c16 => ?_) (fun c16 => ?_)
    ·
      refine CW.seq (fun K11 hK11 hE11 => ?_)
      refine CW.region_draw rfl (by kernel_rfl) ?_
      refine LR.v (Y.move rfl rfl) (Wd.u rfl) rfl rfl ?_
      refine LR.v (Y.arrAddr va2.pt (k) rfl Try.runUnderlying30 Try.sizeOf5 rfl rfl (by first | rfl | omega) (by first | omega | (simp; omega) | (simp; done))) (Wd.u rfl) rfl rfl ?_
      refine LR.v (Y.load1 (va2.pt.at (k) (fA_at a k (by omega))) rfl Try.isAgg5 rfl) (Wd.u rfl) rfl rfl ?_
      refine LR.v (Y.move rfl rfl) (Wd.u rfl) rfl rfl ?_
      refine LR.v (Y.arrAddr va3.pt (k) rfl Try.runUnderlying30 Try.sizeOf5 rfl rfl (by first | rfl | omega) (by first | omega | (simp; omega) | (simp; done))) (Wd.u rfl) rfl rfl ?_
      refine LR.v (Y.load1 (va3.pt.at (k) (fA_at b k (by omega))) rfl Try.isAgg5 rfl) (Wd.u rfl) rfl rfl ?_
      refine LR.v (Y.lss rfl rfl rfl) (Wd.u rfl) rfl rfl ?_
      refine LR.v (Y.assign rfl rfl) (Wd.u rfl) rfl rfl ?_
      refine LR.nil ?_
      refine hK11 _ _ ?_
      refine CW.ret (hE9 .ret nofun (by simp) _ _ (hE8 .ret nofun _ _ (hE5 .ret nofun _ _ (hE4 .ret nofun (by simp) _ _ (hE2 .ret nofun _ _ (hret .ret (.inr rfl) _ _ _ (res1 rfl rfl) ?_))))))
      exact ⟨bdec (by unfold ltA; rw [blx_at k a.1 b.1 ht (by omega) (by omega) (fun e => c16 (by rw [e])), decide_eq_true_eq]; omega), hm0⟩
    ·
      refine CW.skip ?_
      refine hK9 _ _ ?_
      refine hK8 _ _ ?_
      refine CW.region ?_
      refine LR.v (Y.move rfl rfl) (Wd.u rfl) rfl rfl ?_
      refine LR.v (Y.addi rfl rfl rfl (by omega)) (Wd.u rfl) rfl rfl ?_
      refine LR.v (Y.assign rfl rfl) (Wd.u rfl) rfl rfl ?_
      refine LR.nil ?_
      refine QN.sub (hN5 (k + 1) _ ?_ ?_) ⟨rfl, rfl, (iv (by omega)), trivial⟩
      · exact ⟨(by omega), by rw [List.take_succ_eq_append_getElem (by omega), List.take_succ_eq_append_getElem (by omega), ht, gdx, gdx, UInt8.toNat_inj.1 (show (a.1.getD k 0).toNat = (b.1.getD k 0).toNat by omega)], hlm1⟩
      · first | omega | (simp only; omega) | (simp; omega)
  ·
    refine CW.exit (hE6 (.exit 0) nofun _ _ (hE5 (.exit 0) nofun _ _ (hX4 _ _ ?_)))
    refine hK2 _ _ ?_
    refine CW.seq (fun K12 hK12 hE12 => ?_)
    refine CW.region ?_
    refine LR.v (Y.assign rfl rfl) (Wd.u rfl) rfl rfl ?_
    refine LR.nil ?_
    refine hK12 _ _ ?_
    refine CW.ret (hret .ret (.inr rfl) _ _ _ (res1 rfl rfl) ?_)
    obtain rfl : k = 32 := by omega
    rw [List.take_of_length_le (by omega), List.take_of_length_le (by omega)] at ht
    exact ⟨congrArg Value.bool (decide_eq_false (fun h => by unfold ltA at h; rw [ht, bl_refl] at h; cases h)).symm, hm0⟩

theorem rhas_ct (vl : Value) (l : List Ide) (x : Ide) (w0 : World) (H0 : Heap)
    (hl : RdT H0 fA 32 vl l) :
    Ct Try.prog w0 35 #[vl, vA x] H0 (fun r H2 => r = .bool (decide (x ∈ l)) ∧ Nw H0 H2) := by
  refine Ct.enter (args := [vl, vA x]) Try.func35 rfl rfl rfl ?_
  intro Q0 hret
  have hm0 : Nw H0 H0 := Mo.refl _ _
  replace hl := hl.bnd
  have bf_hl := hl.bf
  have hll := hl.len
  refine CW.seq (fun K1 hK1 hE1 => ?_)
  refine CW.region ?_
  refine LR.z (Z.boxv rfl rfl) (Wd.u rfl) rfl rfl (fun v3 H3 r3 => ?_)
  obtain ⟨rfl, vi, hs3, ob3, hH3⟩ := r3
  have hzs3 : H3.size = H0.size + 1 := by rw [hH3]; simp
  have df1 := (DF.new (bf_hl.mono hm0.size) : DF _ (H0.size + 1))
  have nx2 : Nx 0 H0.size (H0.size + 1) := Nx.new hm0.size
  replace hl := hl.nw hs3
  replace hm0 := hm0.tr hs3
  have hz1 := hs3.size
  replace vi : Var 30 H3 H0.size (fA x) := vi
  refine LR.v (Y.assign rfl rfl) (Wd.u rfl) rfl rfl ?_
  refine LR.nil ?_
  refine hK1 _ _ ?_
  refine CW.seq (fun K2 hK2 hE2 => ?_)
  refine CW.seq (fun K3 hK3 hE3 => ?_)
  refine CW.region ?_
  refine LR.v (Y.assign rfl rfl) (Wd.u rfl) rfl rfl ?_
  refine LR.nil ?_
  refine hK3 _ _ ?_
  refine CW.block (fun K4 hK4 hX4 hE4 => ?_)
  refine CW.loop (fun (i : (Nat)) => [(0, vl), (3, .pointer (some ⟨H0.size, 0, none⟩)), (5, .int .i64 (i : Int))])
    (fun (i : (Nat)) (H : Heap) => (i ≤ l.length) ∧ (∀ j (h : j < l.length), j < i → l[j] ≠ x) ∧ Nw H3 H)
    (fun (i : (Nat)) => l.length - i) 0 ⟨rfl, rfl, rfl, trivial⟩ ?_ ?_
  ·
    exact ⟨(by omega), fun j h h2 => by omega, Mo.refl _ _⟩
  intro i HL1 hI1 K5 hN5 hE5
  obtain ⟨hi, hno, hlm1⟩ := hI1
  replace hl := hl.nw hlm1
  replace vi := vi.nw hlm1
  replace hm0 := hm0.tr hlm1
  have hz2 := hlm1.size
  refine CW.seq (fun K6 hK6 hE6 => ?_)
  refine CW.seq (fun K7 hK7 hE7 => ?_)
  refine CW.region ?_
  refine LR.v (Y.move rfl rfl) (Wd.u rfl) rfl rfl ?_
  refine LR.v (Y.move rfl rfl) (Wd.u rfl) rfl rfl ?_
  refine LR.v (Y.len hl rfl Try.runUnderlying28 rfl) (Wd.u rfl) rfl rfl ?_
  refine LR.v (Y.lss rfl rfl rfl) (Wd.u rfl) rfl rfl ?_
  refine LR.nil ?_
  refine hK7 _ _ ?_
  refine CW.condp rfl (fun c9 => ?_) (fun c9 => ?_)
  ·
    have hil : i < l.length := by omega
    obtain ⟨y, hy⟩ : ∃ y, y = l[i] := ⟨_, rfl⟩
    refine CW.skip ?_
    refine hK6 _ _ ?_
    refine CW.seq (fun K8 hK8 hE8 => ?_)
    refine CW.block (fun K9 hK9 hX9 hE9 => ?_)
    refine CW.seq (fun K10 hK10 hE10 => ?_)
    refine CW.region_draw rfl (by kernel_rfl) ?_
    refine LR.v (Y.move rfl rfl) (Wd.u rfl) rfl rfl ?_
    refine LR.v (Y.move rfl rfl) (Wd.u rfl) rfl rfl ?_
    refine LR.e (g := fun ad => .pointer (some ad)) (Y.indexAddrF hl (i) rfl Try.runUnderlying28 Try.sizeOf30 rfl rfl (by first | rfl | omega) (by omega)) (Wd.u rfl) rfl rfl (fun ad14 pt14 => ?_)
    have bf_pt14 := bf_hl
    refine LR.v (Y.cast (v2 := vA y) (Y.loadN pt14.pt rfl Try.isAgg30 Try.sizeOf30 (fA_len _) rfl) (by rw [hy]; rfl)) (Wd.u rfl) rfl rfl ?_
    refine LR.v (Y.loadN vi.pt rfl Try.isAgg30 Try.sizeOf30 (fA_len _) rfl) (Wd.u rfl) rfl rfl ?_
    refine LR.v (Y.aeql rfl Try.eqGuardType30 (fun w => run_equalIn_id 9998 Try.underlying30 Try.underlying5 Try.sizeOf5 Try.isAgg5 (y.2) (x.2) w) rfl rfl) (Wd.u rfl) rfl rfl ?_
    refine LR.nil ?_
    refine hK10 _ _ ?_
    refine CW.condp rfl (fun c17 => ?_) (fun c17 => ?_)
    ·
      refine CW.seq (fun K11 hK11 hE11 => ?_)
      refine CW.region ?_
      refine LR.v (Y.assign rfl rfl) (Wd.u rfl) rfl rfl ?_
      refine LR.nil ?_
      refine hK11 _ _ ?_
      refine CW.ret (hE9 .ret nofun (by simp) _ _ (hE8 .ret nofun _ _ (hE5 .ret nofun _ _ (hE4 .ret nofun (by simp) _ _ (hE2 .ret nofun _ _ (hret .ret (.inr rfl) _ _ _ (res1 rfl rfl) ?_))))))
      exact ⟨congrArg Value.bool (decide_eq_true (by rw [← Subtype.ext c17, hy]; exact List.getElem_mem _)).symm, hm0⟩
    ·
      refine CW.skip ?_
      refine hK9 _ _ ?_
      refine hK8 _ _ ?_
      refine CW.region ?_
      refine LR.v (Y.move rfl rfl) (Wd.u rfl) rfl rfl ?_
      refine LR.v (Y.addi rfl rfl rfl (by omega)) (Wd.u rfl) rfl rfl ?_
      refine LR.v (Y.assign rfl rfl) (Wd.u rfl) rfl rfl ?_
      refine LR.nil ?_
      refine QN.sub (hN5 (i + 1) _ ?_ ?_) ⟨rfl, rfl, (iv (by omega)), trivial⟩
      · exact ⟨(by omega), fun j h h2 => by
          by_cases h3 : j < i
          · exact hno j h h3
          · obtain rfl : j = i := by omega
            rw [← hy]; exact fun e => c17 (congrArg Subtype.val e), hlm1⟩
      · first | omega | (simp only; omega) | (simp; omega)
  ·
    refine CW.exit (hE6 (.exit 0) nofun _ _ (hE5 (.exit 0) nofun _ _ (hX4 _ _ ?_)))
    refine hK2 _ _ ?_
    refine CW.seq (fun K12 hK12 hE12 => ?_)
    refine CW.region ?_
    refine LR.v (Y.assign rfl rfl) (Wd.u rfl) rfl rfl ?_
    refine LR.nil ?_
    refine hK12 _ _ ?_
    refine CW.ret (hret .ret (.inr rfl) _ _ _ (res1 rfl rfl) ?_)
    exact ⟨by rw [decide_eq_false (fun h => by obtain ⟨j, hj, e⟩ := List.getElem_of_mem h; exact hno j hj (by omega) e)], hm0⟩

theorem rwith_ct (vl : Value) (l : List Ide) (x : Ide) (w0 : World) (H0 : Heap)
    (hl : RdT H0 fA 32 vl l) (hll : l.length ≤ 1000000) (hxl : x ∉ l) :
    Ct Try.prog w0 46 #[vl, vA x] H0 (fun r H2 => ∃ s : SV, ∃ k2 : Nat, r = s.v ∧ (Ow k2 30 H2 fA 32 s.v (withI l x)) ∧ (Nx 0 H0.size k2) ∧ Nw H0 H2) := by
  refine Ct.enter (args := [vl, vA x]) Try.func46 rfl rfl rfl ?_
  intro Q0 hret
  have hm0 : Nw H0 H0 := Mo.refl _ _
  replace hl := hl.bnd
  have bf_hl := hl.bf
  refine CW.seq (fun K1 hK1 hE1 => ?_)
  refine CW.region ?_
  refine LR.z (Z.boxv rfl rfl) (Wd.u rfl) rfl rfl (fun v3 H3 r3 => ?_)
  obtain ⟨rfl, vi, hs3, ob3, hH3⟩ := r3
  have hzs3 : H3.size = H0.size + 1 := by rw [hH3]; simp
  have df1 := (DF.new (bf_hl.mono hm0.size) : DF _ (H0.size + 1))
  have nx2 : Nx 0 H0.size (H0.size + 1) := Nx.new hm0.size
  replace hl := hl.nw hs3
  replace hm0 := hm0.tr hs3
  have hz1 := hs3.size
  replace vi : Var 30 H3 H0.size (fA x) := vi
  refine LR.v (Y.assign rfl rfl) (Wd.u rfl) rfl rfl ?_
  refine LR.nil ?_
  refine hK1 _ _ ?_
  refine CW.seq (fun K2 hK2 hE2 => ?_)
  refine CW.region ?_
  refine LR.v (Y.assign rfl rfl) (Wd.u rfl) rfl rfl ?_
  refine LR.nil ?_
  refine hK2 _ _ ?_
  refine CW.cut (fun (k : (Nat)) => [(0, vl), (3, .pointer (some ⟨H0.size, 0, none⟩)), (5, .int .i64 (k : Int))])
    (fun (k : (Nat)) (H : Heap) => (k ≤ l.length) ∧ (withI l x = l.take k ++ [x] ++ l.drop k) ∧ Nw H3 H) (fun K3 hK3 hE3 => ?_) ?_
  ·
    have hcm3 : Nw H3 H3 := Mo.refl _ _
    refine CW.block (fun K4 hK4 hX4 hE4 => ?_)
    refine CW.loop (fun (k : (Nat)) => [(0, vl), (3, .pointer (some ⟨H0.size, 0, none⟩)), (5, .int .i64 (k : Int))])
      (fun (k : (Nat)) (H : Heap) => (k ≤ l.length) ∧ (∀ j (h : j < l.length), j < k → ltA l[j] x) ∧ Nw H3 H)
      (fun (k : (Nat)) => l.length - k) 0 ⟨rfl, rfl, rfl, trivial⟩ ?_ ?_
    ·
      exact ⟨(by omega), fun j h h2 => by omega, Mo.refl _ _⟩
    intro k HL1 hI1 K5 hN5 hE5
    obtain ⟨hk, hlt, hlm1⟩ := hI1
    replace hl := hl.nw hlm1
    replace vi := vi.nw hlm1
    replace hm0 := hm0.tr hlm1
    replace hcm3 := hcm3.tr hlm1
    have hz2 := hlm1.size
    refine CW.seq (fun K6 hK6 hE6 => ?_)
    refine CW.seq (fun K7 hK7 hE7 => ?_)
    refine CW.region_tail 10 rfl (by kernel_rfl) (fun T2 hT2 => ?_)
    refine LR.v (Y.move rfl rfl) (Wd.u rfl) rfl rfl ?_
    refine LR.v (Y.move rfl rfl) (Wd.u rfl) rfl rfl ?_
    refine LR.v (Y.len hl rfl Try.runUnderlying28 rfl) (Wd.u rfl) rfl rfl ?_
    refine LR.v (Y.lss rfl rfl rfl) (Wd.u rfl) rfl rfl ?_
    refine LR.v (Y.move rfl rfl) (Wd.u rfl) rfl rfl ?_
    refine LR.splitp (d := 11) rfl (fun g11 => ?_) (fun g11 => ?_)
    ·
      have hkl : k < l.length := by omega
      obtain ⟨y, hy⟩ : ∃ y, y = l[k] := ⟨_, rfl⟩
      refine LR.v (Y.move rfl rfl) (Wd.g rfl rfl rfl) rfl rfl ?_
      refine LR.v (Y.move rfl rfl) (Wd.g rfl rfl rfl) rfl rfl ?_
      refine LR.e (g := fun ad => .pointer (some ad)) (Y.indexAddrF hl (k) rfl Try.runUnderlying28 Try.sizeOf30 rfl rfl (by first | rfl | omega) (by omega)) (Wd.g rfl rfl rfl) rfl rfl (fun ad14 pt14 => ?_)
      have bf_pt14 := bf_hl
      refine LR.v (Y.cast (v2 := vA y) (Y.loadN pt14.pt rfl Try.isAgg30 Try.sizeOf30 (fA_len _) rfl) (by rw [hy]; rfl)) (Wd.g rfl rfl rfl) rfl rfl ?_
      refine LR.v (Y.loadN vi.pt rfl Try.isAgg30 Try.sizeOf30 (fA_len _) rfl) (Wd.g rfl rfl rfl) rfl rfl ?_
      refine LR.nil (hT2 _ ?_)
      -- call selvage/selvageref1.Less
      refine LR.call rfl Try.call53 rfl (Wd.g rfl rfl rfl) rfl rfl (rless_ct y x w0 _) (fun v17 H17 r17 => ?_)
      obtain ⟨rfl, hs17⟩ := r17
      replace hl := hl.nw hs17
      replace vi := vi.nw hs17
      replace pt14 := pt14.nw hs17
      replace hm0 := hm0.tr hs17
      replace hcm3 := hcm3.tr hs17
      replace hlm1 := hlm1.tr hs17
      have hz3 := hs17.size
      refine LR.v (Y.pick_t rfl rfl rfl) (Wd.u rfl) rfl rfl ?_
      refine LR.nil ?_
      refine hK7 _ _ ?_
      refine CW.condp rfl (fun c18 => ?_) (fun c18 => ?_)
      ·
        refine CW.skip ?_
        refine hK6 _ _ ?_
        refine CW.block (fun K8 hK8 hX8 hE8 => ?_)
        refine CW.region ?_
        refine LR.v (Y.move rfl rfl) (Wd.u rfl) rfl rfl ?_
        refine LR.v (Y.addi rfl rfl rfl (by omega)) (Wd.u rfl) rfl rfl ?_
        refine LR.v (Y.assign rfl rfl) (Wd.u rfl) rfl rfl ?_
        refine LR.nil ?_
        refine hK8 _ _ ?_
        refine QN.sub (hN5 (k + 1) _ ?_ ?_) ⟨rfl, rfl, (iv (by omega)), trivial⟩
        · exact ⟨(by omega), fun j h h2 => by
            by_cases h3 : j < k
            · exact hlt j h h3
            · obtain rfl : j = k := by omega
              rw [← hy]; exact c18, hlm1⟩
        · first | omega | (simp only; omega) | (simp; omega)
      ·
        refine CW.exit (hE6 (.exit 0) nofun _ _ (hE5 (.exit 0) nofun _ _ (hX4 _ _ ?_)))
        refine QN.sub (hK3 k _ ?_) ⟨rfl, rfl, (iv (by omega)), trivial⟩
        exact ⟨(by omega), withI_at hk hlt (fun h => ⟨by rw [← hy]; exact c18, fun e => hxl (by rw [← e]; exact List.getElem_mem _)⟩), hcm3⟩
    ·
      refine LR.gs rfl rfl rfl rfl rfl rfl ?_
      refine LR.gs rfl rfl rfl rfl rfl rfl ?_
      refine LR.gs rfl rfl rfl rfl rfl rfl ?_
      refine LR.gs rfl rfl rfl rfl rfl rfl ?_
      refine LR.gs rfl rfl rfl rfl rfl rfl ?_
      refine LR.nil (hT2 _ ?_)
      refine LR.gs rfl rfl rfl rfl rfl rfl ?_
      refine LR.v (Y.pick_f rfl rfl rfl) (Wd.u rfl) rfl rfl ?_
      refine LR.nil ?_
      refine hK7 _ _ ?_
      refine CW.cond_f rfl ?_
      refine CW.exit (hE6 (.exit 0) nofun _ _ (hE5 (.exit 0) nofun _ _ (hX4 _ _ ?_)))
      refine QN.sub (hK3 k _ ?_) ⟨rfl, rfl, (iv (by omega)), trivial⟩
      exact ⟨(by omega), withI_at hk hlt (fun h => by omega), hcm3⟩
  ·
    intro k Hcut0 hIcut0
    obtain ⟨hk, hw, hlmcut0⟩ := hIcut0
    replace hl := hl.nw hlmcut0
    replace vi := vi.nw hlmcut0
    replace hm0 := hm0.tr hlmcut0
    have hz4 := hlmcut0.size
    refine CW.seq (fun K9 hK9 hE9 => ?_)
    refine CW.seq (fun K10 hK10 hE10 => ?_)
    refine CW.region_draw rfl (by kernel_rfl) ?_
    refine LR.v (Y.move rfl rfl) (Wd.u rfl) rfl rfl ?_
    refine LR.v (Y.move rfl rfl) (Wd.u rfl) rfl rfl ?_
    refine LR.v (Y.len hl rfl Try.runUnderlying28 rfl) (Wd.u rfl) rfl rfl ?_
    refine LR.v (Y.lss rfl rfl rfl) (Wd.u rfl) rfl rfl ?_
    refine LR.v (Y.move rfl rfl) (Wd.u rfl) rfl rfl ?_
    refine LR.splitp (d := 25) rfl (fun g25 => ?_) (fun g25 => ?_)
    ·
      have hkl : k < l.length := by omega
      obtain ⟨y, hy⟩ : ∃ y, y = l[k] := ⟨_, rfl⟩
      refine LR.v (Y.move rfl rfl) (Wd.g rfl rfl rfl) rfl rfl ?_
      refine LR.v (Y.move rfl rfl) (Wd.g rfl rfl rfl) rfl rfl ?_
      refine LR.e (g := fun ad => .pointer (some ad)) (Y.indexAddrF hl (k) rfl Try.runUnderlying28 Try.sizeOf30 rfl rfl (by first | rfl | omega) (by omega)) (Wd.g rfl rfl rfl) rfl rfl (fun ad28 pt28 => ?_)
      have bf_pt28 := bf_hl
      refine LR.v (Y.cast (v2 := vA y) (Y.loadN pt28.pt rfl Try.isAgg30 Try.sizeOf30 (fA_len _) rfl) (by rw [hy]; rfl)) (Wd.g rfl rfl rfl) rfl rfl ?_
      refine LR.v (Y.loadN vi.pt rfl Try.isAgg30 Try.sizeOf30 (fA_len _) rfl) (Wd.g rfl rfl rfl) rfl rfl ?_
      refine LR.v (Y.aeql rfl Try.eqGuardType30 (fun w => run_equalIn_id 9998 Try.underlying30 Try.underlying5 Try.sizeOf5 Try.isAgg5 (y.2) (x.2) w) rfl rfl) (Wd.g rfl rfl rfl) rfl rfl ?_
      refine LR.v (Y.pick_t rfl rfl rfl) (Wd.u rfl) rfl rfl ?_
      refine LR.nil ?_
      refine hK10 _ _ ?_
      refine CW.condp rfl (fun c32 => ?_) (fun c32 => ?_)
      ·
        exact absurd (by rw [← Subtype.ext c32, hy]; exact List.getElem_mem _) hxl
      ·
        refine CW.skip ?_
        refine hK9 _ _ ?_
        refine CW.seq (fun K11 hK11 hE11 => ?_)
        refine CW.region ?_
        refine LR.v (Y.assign rfl rfl) (Wd.u rfl) rfl rfl ?_
        refine LR.nil ?_
        refine hK11 _ _ ?_
        refine CW.seq (fun K12 hK12 hE12 => ?_)
        refine CW.region ?_
        refine LR.v (Y.move rfl rfl) (Wd.u rfl) rfl rfl ?_
        refine LR.v (Y.move rfl rfl) (Wd.u rfl) rfl rfl ?_
        refine LR.v (Y.move rfl rfl) (Wd.u rfl) rfl rfl ?_
        refine LR.e (g := fun v => v) (Y.slice hl (0) (k) rfl Try.runUnderlying28 Try.sizeOf30 rfl (.inl ⟨rfl, rfl⟩) (.inr ⟨_, _, _, rfl, rfl, by first | rfl | omega⟩) (by omega) (by omega)) (Wd.u rfl) rfl rfl (fun v37 rd37 => ?_)
        have bf_rd37 := bf_hl
        have nl38 : Ow 0 30 Hcut0 fA 32 (.slice none 0 0) [] := Ow.nil fA_len fA_one
        refine LR.z (Z.apnd nl38 rd37 rfl inf28 rfl rfl (by first | omega | (simp; omega)) (by first | omega | (simp; omega))) (Wd.u rfl) rfl rfl (fun v38 H38 r38 => ?_)
        obtain ⟨k38, ow38, hk38, hs38⟩ := r38
        replace hk38 : Nx 0 Hcut0.size k38 := hk38
        replace hs38 := hs38.md
        have df3 := DF.app (DF.z) (bf_hl.mono hm0.size) hk38
        have dj4 : Dj (H0.size + 1) k38 := Dj.app (Dj.z) vi.lt hk38
        have df5 := DF.app (DF.z) (bf_rd37.mono hm0.size) hk38
        have nx6 : Nx 0 H0.size k38 := Nx.tr (Nx.refl 0 _) hk38 hm0.size
        replace hl := hl.upL hs38 (DFL.cons DF.z DFL.nil)
        replace vi := vi.upL hs38 (DL.cons Dj.z DL.nil)
        replace rd37 := rd37.upL hs38 (DFL.cons DF.z DFL.nil)
        replace hm0 := (Mo.trL (ks := []) (hm0.mdn []) hs38 (MIL.cons MI.z MIL.nil)).nil
        have hz5 := hs38.size
        have hle_ow38 := ow38.le
        refine LR.v (Y.assign rfl rfl) (Wd.u rfl) rfl rfl ?_
        refine LR.nil ?_
        refine hK12 _ _ ?_
        refine CW.seq (fun K13 hK13 hE13 => ?_)
        refine CW.region ?_
        refine LR.v (Y.move rfl rfl) (Wd.u rfl) rfl rfl ?_
        refine LR.v (Y.loadN vi.pt rfl Try.isAgg30 Try.sizeOf30 (fA_len _) rfl) (Wd.u rfl) rfl rfl ?_
        refine LR.z (Z.litw _ ([x]) rfl inf28 rfl rfl rfl (by decide) (by decide) fA_len fA_one (rfl)) (Wd.u rfl) rfl rfl (fun v41 H41 r41 => ?_)
        obtain ⟨ow41, hs41, ob41, hH41⟩ := r41
        have hzs41 : H41.size = H38.size + 1 := by rw [hH41]; simp
        have df7 := (DF.new (bf_hl.mono hm0.size) : DF _ (H38.size + 1))
        have dj8 : Dj (H0.size + 1) (H38.size + 1) := Dj.new vi.lt
        have dj9 : Dj k38 (H38.size + 1) := Dj.new ow38.le
        have nx10 : Nx 0 H0.size (H38.size + 1) := Nx.new hm0.size
        replace hl := hl.nw hs41
        replace vi := vi.nw hs41
        replace ow38 := ow38.nw hs41
        replace hm0 := hm0.tr hs41
        have hz6 := hs41.size
        refine LR.z (Z.apnd ow38 ow41.rd rfl inf28 rfl rfl (by first | omega | (simp; omega)) (by first | omega | (simp; omega))) (Wd.u rfl) rfl rfl (fun v42 H42 r42 => ?_)
        obtain ⟨k42, ow42, hk42, hs42⟩ := r42
        replace hk42 : Nx k38 H41.size k42 := hk42
        replace hs42 := hs42.md
        have df11 := DF.app (df3) (bf_hl.mono hm0.size) hk42
        have dj12 : Dj (H0.size + 1) k42 := Dj.app (dj4) vi.lt hk42
        have dj13 : Dj (H38.size + 1) k42 := Dj.app (dj9.symm) ow41.le hk42
        have nx14 : Nx 0 H0.size k42 := Nx.tr (nx6) hk42 hm0.size
        replace hl := hl.upL hs42 (DFL.cons df3 DFL.nil)
        replace vi := vi.upL hs42 (DL.cons dj4 DL.nil)
        replace ow41 := ow41.upL hs42 (DL.cons dj9.symm DL.nil)
        replace hm0 := (Mo.trL (ks := []) (hm0.mdn []) hs42 (MIL.cons (MI.app MI.z (nx6) (Nat.le_refl _)) MIL.nil)).nil
        have hz7 := hs42.size
        have hle_ow42 := ow42.le
        refine LR.v (Y.assign rfl rfl) (Wd.u rfl) rfl rfl ?_
        refine LR.nil ?_
        refine hK13 _ _ ?_
        refine CW.seq (fun K14 hK14 hE14 => ?_)
        refine CW.region ?_
        refine LR.v (Y.move rfl rfl) (Wd.u rfl) rfl rfl ?_
        refine LR.v (Y.move rfl rfl) (Wd.u rfl) rfl rfl ?_
        refine LR.v (Y.move rfl rfl) (Wd.u rfl) rfl rfl ?_
        refine LR.e (g := fun v => v) (Y.slice hl (k) (_) rfl Try.runUnderlying28 Try.sizeOf30 rfl (.inr ⟨_, _, _, rfl, rfl, by first | rfl | omega⟩) (.inl ⟨rfl, rfl⟩) (by omega) (by omega)) (Wd.u rfl) rfl rfl (fun v46 rd46 => ?_)
        have bf_rd46 := bf_hl
        refine LR.z (Z.apnd ow42 rd46 rfl inf28 rfl rfl (by first | omega | (simp; omega)) (by first | omega | (simp; omega))) (Wd.u rfl) rfl rfl (fun v47 H47 r47 => ?_)
        obtain ⟨k47, ow47, hk47, hs47⟩ := r47
        replace hk47 : Nx k42 H42.size k47 := hk47
        replace hs47 := hs47.md
        have df15 := DF.app (df11) (bf_hl.mono hm0.size) hk47
        have df16 := DF.app (df11) (bf_rd46.mono hm0.size) hk47
        have nx17 : Nx 0 H0.size k47 := Nx.tr (nx14) hk47 hm0.size
        replace hl := hl.upL hs47 (DFL.cons df11 DFL.nil)
        replace rd46 := rd46.upL hs47 (DFL.cons df11 DFL.nil)
        replace hm0 := (Mo.trL (ks := []) (hm0.mdn []) hs47 (MIL.cons (MI.app MI.z (nx14) (Nat.le_refl _)) MIL.nil)).nil
        have hz8 := hs47.size
        have hle_ow47 := ow47.le
        refine LR.v (Y.assign rfl rfl) (Wd.u rfl) rfl rfl ?_
        refine LR.nil ?_
        refine hK14 _ _ ?_
        refine CW.ret (hret .ret (.inr rfl) _ _ _ (res1 rfl rfl) ?_)
        obtain ⟨s9, hs9⟩ : ∃ s : SV, v47 = s.v := ⟨toSV v47, ow47.sv.symm⟩
        exact ⟨s9, k47, hs9, by rw [← hs9, hw]; simpa using ow47, nx17, hm0⟩
    ·
      refine LR.gs rfl rfl rfl rfl rfl rfl ?_
      refine LR.gs rfl rfl rfl rfl rfl rfl ?_
      refine LR.gs rfl rfl rfl rfl rfl rfl ?_
      refine LR.gs rfl rfl rfl rfl rfl rfl ?_
      refine LR.gs rfl rfl rfl rfl rfl rfl ?_
      refine LR.gs rfl rfl rfl rfl rfl rfl ?_
      refine LR.v (Y.pick_f rfl rfl rfl) (Wd.u rfl) rfl rfl ?_
      refine LR.nil ?_
      refine hK10 _ _ ?_
      refine CW.cond_f rfl ?_
      refine CW.skip ?_
      refine hK9 _ _ ?_
      refine CW.seq (fun K15 hK15 hE15 => ?_)
      refine CW.region ?_
      refine LR.v (Y.assign rfl rfl) (Wd.u rfl) rfl rfl ?_
      refine LR.nil ?_
      refine hK15 _ _ ?_
      refine CW.seq (fun K16 hK16 hE16 => ?_)
      refine CW.region ?_
      refine LR.v (Y.move rfl rfl) (Wd.u rfl) rfl rfl ?_
      refine LR.v (Y.move rfl rfl) (Wd.u rfl) rfl rfl ?_
      refine LR.v (Y.move rfl rfl) (Wd.u rfl) rfl rfl ?_
      refine LR.e (g := fun v => v) (Y.slice hl (0) (k) rfl Try.runUnderlying28 Try.sizeOf30 rfl (.inl ⟨rfl, rfl⟩) (.inr ⟨_, _, _, rfl, rfl, by first | rfl | omega⟩) (by omega) (by omega)) (Wd.u rfl) rfl rfl (fun v37 rd37 => ?_)
      have bf_rd37 := bf_hl
      have nl38 : Ow 0 30 Hcut0 fA 32 (.slice none 0 0) [] := Ow.nil fA_len fA_one
      refine LR.z (Z.apnd nl38 rd37 rfl inf28 rfl rfl (by first | omega | (simp; omega)) (by first | omega | (simp; omega))) (Wd.u rfl) rfl rfl (fun v38 H38 r38 => ?_)
      obtain ⟨k38, ow38, hk38, hs38⟩ := r38
      replace hk38 : Nx 0 Hcut0.size k38 := hk38
      replace hs38 := hs38.md
      have df18 := DF.app (DF.z) (bf_hl.mono hm0.size) hk38
      have dj19 : Dj (H0.size + 1) k38 := Dj.app (Dj.z) vi.lt hk38
      have df20 := DF.app (DF.z) (bf_rd37.mono hm0.size) hk38
      have nx21 : Nx 0 H0.size k38 := Nx.tr (Nx.refl 0 _) hk38 hm0.size
      replace hl := hl.upL hs38 (DFL.cons DF.z DFL.nil)
      replace vi := vi.upL hs38 (DL.cons Dj.z DL.nil)
      replace rd37 := rd37.upL hs38 (DFL.cons DF.z DFL.nil)
      replace hm0 := (Mo.trL (ks := []) (hm0.mdn []) hs38 (MIL.cons MI.z MIL.nil)).nil
      have hz9 := hs38.size
      have hle_ow38 := ow38.le
      refine LR.v (Y.assign rfl rfl) (Wd.u rfl) rfl rfl ?_
      refine LR.nil ?_
      refine hK16 _ _ ?_
      refine CW.seq (fun K17 hK17 hE17 => ?_)
      refine CW.region ?_
      refine LR.v (Y.move rfl rfl) (Wd.u rfl) rfl rfl ?_
      refine LR.v (Y.loadN vi.pt rfl Try.isAgg30 Try.sizeOf30 (fA_len _) rfl) (Wd.u rfl) rfl rfl ?_
      refine LR.z (Z.litw _ ([x]) rfl inf28 rfl rfl rfl (by decide) (by decide) fA_len fA_one (rfl)) (Wd.u rfl) rfl rfl (fun v41 H41 r41 => ?_)
      obtain ⟨ow41, hs41, ob41, hH41⟩ := r41
      have hzs41 : H41.size = H38.size + 1 := by rw [hH41]; simp
      have df22 := (DF.new (bf_hl.mono hm0.size) : DF _ (H38.size + 1))
      have dj23 : Dj (H0.size + 1) (H38.size + 1) := Dj.new vi.lt
      have dj24 : Dj k38 (H38.size + 1) := Dj.new ow38.le
      have nx25 : Nx 0 H0.size (H38.size + 1) := Nx.new hm0.size
      replace hl := hl.nw hs41
      replace vi := vi.nw hs41
      replace ow38 := ow38.nw hs41
      replace hm0 := hm0.tr hs41
      have hz10 := hs41.size
      refine LR.z (Z.apnd ow38 ow41.rd rfl inf28 rfl rfl (by first | omega | (simp; omega)) (by first | omega | (simp; omega))) (Wd.u rfl) rfl rfl (fun v42 H42 r42 => ?_)
      obtain ⟨k42, ow42, hk42, hs42⟩ := r42
      replace hk42 : Nx k38 H41.size k42 := hk42
      replace hs42 := hs42.md
      have df26 := DF.app (df18) (bf_hl.mono hm0.size) hk42
      have dj27 : Dj (H0.size + 1) k42 := Dj.app (dj19) vi.lt hk42
      have dj28 : Dj (H38.size + 1) k42 := Dj.app (dj24.symm) ow41.le hk42
      have nx29 : Nx 0 H0.size k42 := Nx.tr (nx21) hk42 hm0.size
      replace hl := hl.upL hs42 (DFL.cons df18 DFL.nil)
      replace vi := vi.upL hs42 (DL.cons dj19 DL.nil)
      replace ow41 := ow41.upL hs42 (DL.cons dj24.symm DL.nil)
      replace hm0 := (Mo.trL (ks := []) (hm0.mdn []) hs42 (MIL.cons (MI.app MI.z (nx21) (Nat.le_refl _)) MIL.nil)).nil
      have hz11 := hs42.size
      have hle_ow42 := ow42.le
      refine LR.v (Y.assign rfl rfl) (Wd.u rfl) rfl rfl ?_
      refine LR.nil ?_
      refine hK17 _ _ ?_
      refine CW.seq (fun K18 hK18 hE18 => ?_)
      refine CW.region ?_
      refine LR.v (Y.move rfl rfl) (Wd.u rfl) rfl rfl ?_
      refine LR.v (Y.move rfl rfl) (Wd.u rfl) rfl rfl ?_
      refine LR.v (Y.move rfl rfl) (Wd.u rfl) rfl rfl ?_
      refine LR.e (g := fun v => v) (Y.slice hl (k) (_) rfl Try.runUnderlying28 Try.sizeOf30 rfl (.inr ⟨_, _, _, rfl, rfl, by first | rfl | omega⟩) (.inl ⟨rfl, rfl⟩) (by omega) (by omega)) (Wd.u rfl) rfl rfl (fun v46 rd46 => ?_)
      have bf_rd46 := bf_hl
      refine LR.z (Z.apnd ow42 rd46 rfl inf28 rfl rfl (by first | omega | (simp; omega)) (by first | omega | (simp; omega))) (Wd.u rfl) rfl rfl (fun v47 H47 r47 => ?_)
      obtain ⟨k47, ow47, hk47, hs47⟩ := r47
      replace hk47 : Nx k42 H42.size k47 := hk47
      replace hs47 := hs47.md
      have df30 := DF.app (df26) (bf_hl.mono hm0.size) hk47
      have df31 := DF.app (df26) (bf_rd46.mono hm0.size) hk47
      have nx32 : Nx 0 H0.size k47 := Nx.tr (nx29) hk47 hm0.size
      replace hl := hl.upL hs47 (DFL.cons df26 DFL.nil)
      replace rd46 := rd46.upL hs47 (DFL.cons df26 DFL.nil)
      replace hm0 := (Mo.trL (ks := []) (hm0.mdn []) hs47 (MIL.cons (MI.app MI.z (nx29) (Nat.le_refl _)) MIL.nil)).nil
      have hz12 := hs47.size
      have hle_ow47 := ow47.le
      refine LR.v (Y.assign rfl rfl) (Wd.u rfl) rfl rfl ?_
      refine LR.nil ?_
      refine hK18 _ _ ?_
      refine CW.ret (hret .ret (.inr rfl) _ _ _ (res1 rfl rfl) ?_)
      obtain ⟨s9, hs9⟩ : ∃ s : SV, v47 = s.v := ⟨toSV v47, ow47.sv.symm⟩
      exact ⟨s9, k47, hs9, by rw [← hs9, hw]; simpa using ow47, nx32, hm0⟩

end Go.Proofs.Ytepdhokpfecdnaa.GraX
