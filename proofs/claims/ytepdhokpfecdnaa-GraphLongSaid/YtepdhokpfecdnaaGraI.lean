/-
  Whether a commit stands above another one; how long the longest way up is.
-/
import Derived.Test.YtepdhokpfecdnaaGraH
namespace Go.Proofs.Ytepdhokpfecdnaa.GraI
open Go.Proofs.Ytepdhokpfecdnaa.E Go.RowKit Go.Proofs.Ytepdhokpfecdnaa.GraA Go.Proofs.Ytepdhokpfecdnaa.GraB Go.Proofs.Ytepdhokpfecdnaa.GraC Go.Proofs.Ytepdhokpfecdnaa.GraD Go.Proofs.Ytepdhokpfecdnaa.GraE Go.Proofs.Ytepdhokpfecdnaa.GraF Go.Proofs.Ytepdhokpfecdnaa.GraG Go.Proofs.Ytepdhokpfecdnaa.GraH
set_option maxRecDepth 20000
set_option linter.unusedVariables false
set_option linter.unusedSimpArgs false
set_option linter.unusedSectionVars false
set_option maxRecDepth 100000 in
theorem inf28 : Inf Try.prog 28 30 32 32 := ⟨Try.underlying28, _, _, rfl, rfl, rfl, rfl, rfl⟩
set_option maxRecDepth 100000 in
theorem inf92 : Inf Try.prog 92 28 1 24 := ⟨Try.underlying92, _, _, rfl, rfl, rfl, rfl, rfl⟩

theorem Ow.ne {α : Type} {k sb : Nat} {e : TypeId} {H : Heap} {f : α → List Value} {sz : Nat} {v : Value} {l : List α} (x : Ow k e H f sz v l) (d : Dj (sb + 1) k) : Rd (fun b => b ≠ sb) H f sz v l := x.rd.imp (fun b _ e e2 => d b (by rw [e2]) e)
theorem Up.trans {pa : Ide → List Ide} {i j k : Ide} (h : Up pa i j) (h2 : Up pa j k) : Up pa i k := by
  induction h2 with
  | refl => exact h
  | step _ hp ih => exact ih.step hp
theorem UpO.trans {pa : Ide → Option (List Ide)} {i j k : Ide} (h : UpO pa i j) (h2 : UpO pa j k) : UpO pa i k := by
  induction h2 with
  | refl => exact h
  | step _ hq hp ih => exact ih.step hq hp
section
variable {pa : Ide → Option (List Ide)} {st K : List Ide}
theorem all0 (h : AllR pa st K 0) : K.Nodup ∧ (∀ k ∈ K, ∃ ps, pa k = some ps ∧ ∀ p ∈ ps, p ∈ K) ∧ (∀ k ∈ st, k ∈ K) ∧ (∀ k ∈ K, ∃ i ∈ st, UpO pa i k) ∧ K.length ≤ 5000 := by
  rcases h with ⟨_, h⟩ | ⟨h, _⟩ | ⟨h, _⟩
  · exact h
  · cases h
  · cases h
/-- within the commits that were told, above is above -/
theorem up_iff (h : AllR pa st K 0) {i k : Ide} (hi : i ∈ K) : Up (cpa pa K) i k ↔ UpO pa i k := by
  obtain ⟨_, h1, _⟩ := all0 h
  constructor
  · intro hu
    have key : UpO pa i k ∧ k ∈ K := by
      induction hu with
      | refl => exact ⟨.refl, hi⟩
      | @step j p _ hp ih =>
        obtain ⟨ps, e1, e2⟩ := h1 j ih.2
        unfold cpa at hp
        rw [if_pos ih.2, e1] at hp
        exact ⟨ih.1.step e1 hp, e2 p hp⟩
    exact key.1
  · intro hu
    have key : Up (cpa pa K) i k ∧ k ∈ K := by
      induction hu with
      | refl => exact ⟨.refl, hi⟩
      | @step j p ps _ hq hp ih =>
        obtain ⟨qs, e1, e2⟩ := h1 j ih.2
        rw [e1] at hq
        cases hq
        exact ⟨ih.1.step (by unfold cpa; rw [if_pos ih.2, e1]; exact hp), e2 p hp⟩
    exact key.1
theorem cpa_ac {rk : Ide → Nat} (hac : ∀ k ps, pa k = some ps → ∀ p ∈ ps, rk p < rk k) : ∀ k, ∀ p ∈ cpa pa K k, rk p < rk k := by
  intro k p hp
  unfold cpa at hp
  split at hp
  · cases h : pa k with
    | none => rw [h] at hp; cases hp
    | some ps => rw [h] at hp; exact hac k ps h p hp
  · cases hp
end
/-- what Above tells -/
def AbR (pa : Ide → Option (List Ide)) (a b : Ide) (up : Bool) (e : Nat) : Prop := (∃ K, AllR pa [a, b] K e) ∧ (e = 0 → (up = true ↔ UpO pa b a)) ∧ (e ≠ 0 → up = false)

theorem abv_ct (So : Sou) (sb n : Nat) (F : Nat → Prop) (a b : Ide) (w0 : World) (H0 : Heap)
    (hv : Var So.e H0 sb (So.cs n)) (hsr : SRd F H0 So) (bf_hsr : BF F H0.size) (dfs : DF F (sb + 1)) (hok : So.ok) (hn : n ≤ 800000000) :
    Ct Try.prog w0 16 #[So.v sb, vA a, vA b] H0 (fun r H2 => ∃ up : Bool, ∃ e : Nat, ∃ q : Nat, r = .tuple #[.bool up, eV e] ∧ (Var So.e H2 sb (So.cs q)) ∧ (AbR So.pa a b up e) ∧ (q ≤ n + 5001) ∧ Mo (Ms [(sb + 1)]) H0 H2) := by
  refine Ct.enter (args := [So.v sb, vA a, vA b]) Try.func16 rfl rfl rfl ?_
  intro Q0 hret
  have hm0 : Mo (Ms [(sb + 1)]) H0 H0 := Mo.refl _ _
  have nx_hm0_hv := Nx.refl (sb + 1) H0.size
  have hlt_hv := hv.lt
  refine CW.seq (fun K1 hK1 hE1 => ?_)
  refine CW.region ?_
  refine LR.z (Z.boxv rfl rfl) (Wd.u rfl) rfl rfl (fun v4 H4 r4 => ?_)
  obtain ⟨rfl, va, hs4, ob4, hH4⟩ := r4
  have hzs4 : H4.size = H0.size + 1 := by rw [hH4]; simp
  have dj1 : Dj (sb + 1) (H0.size + 1) := Dj.new hv.lt
  have df2 := (DF.new (bf_hsr.mono hm0.size) : DF _ (H0.size + 1))
  have nx3 : Nx 0 H0.size (H0.size + 1) := Nx.new hm0.size
  replace hv := hv.nw hs4
  replace hsr := hsr.nw hs4
  replace hm0 := hm0.trN hs4
  have hz1 := hs4.size
  replace va : Var 30 H4 H0.size (fA a) := va
  refine LR.z (Z.boxv rfl rfl) (Wd.u rfl) rfl rfl (fun v5 H5 r5 => ?_)
  obtain ⟨rfl, vb, hs5, ob5, hH5⟩ := r5
  have hzs5 : H5.size = H4.size + 1 := by rw [hH5]; simp
  have dj4 : Dj (sb + 1) (H4.size + 1) := Dj.new hv.lt
  have df5 := (DF.new (bf_hsr.mono hm0.size) : DF _ (H4.size + 1))
  have dj6 : Dj (H0.size + 1) (H4.size + 1) := Dj.new va.lt
  have nx7 : Nx 0 H0.size (H4.size + 1) := Nx.new hm0.size
  replace hv := hv.nw hs5
  replace hsr := hsr.nw hs5
  replace va := va.nw hs5
  replace hm0 := hm0.trN hs5
  have hz2 := hs5.size
  replace vb : Var 30 H5 H4.size (fA b) := vb
  refine LR.v (Y.assign rfl rfl) (Wd.u rfl) rfl rfl ?_
  refine LR.v (Y.assign rfl rfl) (Wd.u rfl) rfl rfl ?_
  refine LR.nil ?_
  refine hK1 _ _ ?_
  refine CW.seq (fun K2 hK2 hE2 => ?_)
  refine CW.region ?_
  refine LR.v (Y.move rfl rfl) (Wd.u rfl) rfl rfl ?_
  refine LR.v (Y.loadN va.pt rfl Try.isAgg30 Try.sizeOf30 (fA_len _) rfl) (Wd.u rfl) rfl rfl ?_
  refine LR.v (Y.loadN vb.pt rfl Try.isAgg30 Try.sizeOf30 (fA_len _) rfl) (Wd.u rfl) rfl rfl ?_
  refine LR.z (Z.litw _ ([a, b]) rfl inf28 rfl rfl rfl (by decide) (by decide) fA_len fA_one (rfl)) (Wd.u rfl) rfl rfl (fun v16 H16 r16 => ?_)
  obtain ⟨ow16, hs16, ob16, hH16⟩ := r16
  have hzs16 : H16.size = H5.size + 1 := by rw [hH16]; simp
  have dj8 : Dj (sb + 1) (H5.size + 1) := Dj.new hv.lt
  have df9 := (DF.new (bf_hsr.mono hm0.size) : DF _ (H5.size + 1))
  have dj10 : Dj (H0.size + 1) (H5.size + 1) := Dj.new va.lt
  have dj11 : Dj (H4.size + 1) (H5.size + 1) := Dj.new vb.lt
  have nx12 : Nx 0 H0.size (H5.size + 1) := Nx.new hm0.size
  replace hv := hv.nw hs16
  replace hsr := hsr.nw hs16
  replace va := va.nw hs16
  replace vb := vb.nw hs16
  replace hm0 := hm0.trN hs16
  have hz3 := hs16.size
  obtain ⟨s16, rfl⟩ : ∃ s : SV, v16 = s.v := ⟨toSV v16, ow16.sv.symm⟩
  refine LR.z (Z.litw _ ([(s16, [a, b])]) rfl inf92 rfl rfl rfl (by decide) (by decide) fLs_len fLs_one (rfl)) (Wd.u rfl) rfl rfl (fun v17 H17 r17 => ?_)
  obtain ⟨ow17, hs17, ob17, hH17⟩ := r17
  have hzs17 : H17.size = H16.size + 1 := by rw [hH17]; simp
  have dj13 : Dj (sb + 1) (H16.size + 1) := Dj.new hv.lt
  have df14 := (DF.new (bf_hsr.mono hm0.size) : DF _ (H16.size + 1))
  have dj15 : Dj (H0.size + 1) (H16.size + 1) := Dj.new va.lt
  have dj16 : Dj (H4.size + 1) (H16.size + 1) := Dj.new vb.lt
  have dj17 : Dj (H5.size + 1) (H16.size + 1) := Dj.new ow16.le
  have nx18 : Nx 0 H0.size (H16.size + 1) := Nx.new hm0.size
  replace hv := hv.nw hs17
  replace hsr := hsr.nw hs17
  replace va := va.nw hs17
  replace vb := vb.nw hs17
  replace ow16 := ow16.nw hs17
  replace hm0 := hm0.trN hs17
  have hz4 := hs17.size
  -- call selvage/graph.all
  refine LR.call rfl Try.call27 rfl (Wd.u rfl) rfl rfl (all_ct So sb n _ _ [(s16, [a, b])] w0 _ hv hsr (bf_hsr.mono hm0.size) dfs hok (by omega) (Ow.ne ow17 (dj13)) (by simp) (fun x hx => by rw [List.mem_singleton.1 hx]; exact Ow.ne ow16 (dj8)) (by simp)) (fun v18 H18 r18 => ?_)
  obtain ⟨vc, m, e, q, rfl, hc, hv, hA, hq, hs18⟩ := r18
  replace hsr := hsr.upL hs18 (DFL.cons dfs DFL.nil)
  replace va := va.upL hs18 (DL.cons dj1.symm DL.nil)
  replace vb := vb.upL hs18 (DL.cons dj4.symm DL.nil)
  replace ow16 := ow16.upL hs18 (DL.cons dj8.symm DL.nil)
  replace ow17 := ow17.upL hs18 (DL.cons dj13.symm DL.nil)
  replace hm0 := hm0.trL hs18 (MIL.cons (MI.app (MI.root (by simp)) (nx_hm0_hv) (Nat.le_refl _)) MIL.nil)
  have hz5 := hs18.size
  replace hc := hc.bnd
  have bf_hc := hc.bf
  have df19 : DF (fun b => H17.size ≤ b ∧ b < H18.size) (sb + 1) := DF.above (fun b h => h.1) (by first | exact hle_hv | exact hlt_hv | omega)
  have df20 : DF (fun b => H17.size ≤ b ∧ b < H18.size) (H0.size + 1) := DF.above (fun b h => h.1) (by first | exact hle_va | exact hlt_va | omega)
  have df21 : DF (fun b => H17.size ≤ b ∧ b < H18.size) (H4.size + 1) := DF.above (fun b h => h.1) (by first | exact hle_vb | exact hlt_vb | omega)
  have df22 : DF (fun b => H17.size ≤ b ∧ b < H18.size) (H5.size + 1) := DF.above (fun b h => h.1) (by first | exact hle_ow16 | exact hlt_ow16 | omega)
  have df23 : DF (fun b => H17.size ≤ b ∧ b < H18.size) (H16.size + 1) := DF.above (fun b h => h.1) (by first | exact hle_ow17 | exact hlt_ow17 | omega)
  refine LR.v (Y.move rfl rfl) (Wd.u rfl) rfl rfl ?_
  refine LR.v (Y.extract rfl rfl rfl) (Wd.u rfl) rfl rfl ?_
  refine LR.v (Y.extract rfl rfl rfl) (Wd.u rfl) rfl rfl ?_
  refine LR.v (Y.assign rfl rfl) (Wd.u rfl) rfl rfl ?_
  refine LR.v (Y.assign rfl rfl) (Wd.u rfl) rfl rfl ?_
  refine LR.nil ?_
  refine hK2 _ _ ?_
  refine CW.seq (fun K3 hK3 hE3 => ?_)
  refine CW.seq (fun K4 hK4 hE4 => ?_)
  refine CW.region ?_
  refine LR.v (Y.move rfl rfl) (Wd.u rfl) rfl rfl ?_
  refine LR.v (Y.ene rfl Try.underlying33 rfl) (Wd.u rfl) rfl rfl ?_
  refine LR.nil ?_
  refine hK4 _ _ ?_
  refine CW.condp rfl (fun c22 => ?_) (fun c22 => ?_)
  ·
    refine CW.seq (fun K5 hK5 hE5 => ?_)
    refine CW.region ?_
    refine LR.v (Y.move rfl rfl) (Wd.u rfl) rfl rfl ?_
    refine LR.v (Y.assign rfl rfl) (Wd.u rfl) rfl rfl ?_
    refine LR.v (Y.assign rfl rfl) (Wd.u rfl) rfl rfl ?_
    refine LR.nil ?_
    refine hK5 _ _ ?_
    refine CW.ret (hE3 .ret nofun _ _ (hret .ret (.inr rfl) _ _ _ (res2 rfl rfl rfl) ?_))
    exact ⟨false, e, q, rfl, hv, ⟨⟨_, hA⟩, fun h => absurd h c22, fun _ => rfl⟩, by omega, hm0⟩
  ·
    obtain rfl : e = 0 := by omega
    replace hA : AllR So.pa [a, b] (m.map (·.1)) 0 := hA
    replace hc := hc.get rfl
    have hco := cok_of hok hA
    obtain ⟨_, _, hstK, _, _⟩ := all0 hA
    have hml := hco.le
    refine CW.skip ?_
    refine hK3 _ _ ?_
    refine CW.seq (fun K6 hK6 hE6 => ?_)
    refine CW.region_any (fun Hq => Nw H18 Hq) [] rfl ?_
    have hqs := Nw.refl H18
    refine LH.take 0 (by kernel_rfl) rfl (by kernel_rfl) (by kernel_rfl) (by kernel_rfl) (fun Hq hq => Y.move rfl rfl) (Wd.u rfl) rfl rfl hqs ?_
    refine LH.take 1 (by kernel_rfl) rfl (by kernel_rfl) (by kernel_rfl) (by kernel_rfl) (fun Hq hq => Y.loadN (vb.pt.nw hq) rfl Try.isAgg30 Try.sizeOf30 (fA_len _) rfl) (Wd.u rfl) rfl rfl hqs ?_
    refine LH.take 4 (by kernel_rfl) rfl (by kernel_rfl) (by kernel_rfl) (by kernel_rfl) (fun Hq hq => Y.loadN (va.pt.nw hq) rfl Try.isAgg30 Try.sizeOf30 (fA_len _) rfl) (Wd.u rfl) rfl rfl hqs ?_
    refine LH.one (i := 2) (by kernel_rfl) ?_
    refine LO.z rfl (Z.litw _ ([b]) rfl inf28 rfl rfl rfl (by decide) (by decide) fA_len fA_one (rfl)) (Wd.u rfl) rfl rfl (fun v27 H27 r27 => ?_)
    obtain ⟨ow27, hs27, ob27, hH27⟩ := r27
    have hzs27 : H27.size = H18.size + 1 := by rw [hH27]; simp
    have dj24 : Dj (sb + 1) (H18.size + 1) := Dj.new hv.lt
    have df25 := (DF.new (bf_hsr.mono hm0.size) : DF _ (H18.size + 1))
    have dj26 : Dj (H0.size + 1) (H18.size + 1) := Dj.new va.lt
    have dj27 : Dj (H4.size + 1) (H18.size + 1) := Dj.new vb.lt
    have dj28 : Dj (H5.size + 1) (H18.size + 1) := Dj.new ow16.le
    have dj29 : Dj (H16.size + 1) (H18.size + 1) := Dj.new ow17.le
    have df30 := (DF.new (bf_hc.mono (by omega)) : DF _ (H18.size + 1))
    have nx31 : Nx 0 H0.size (H18.size + 1) := Nx.new hm0.size
    replace hv := hv.nw hs27
    replace hsr := hsr.nw hs27
    replace va := va.nw hs27
    replace vb := vb.nw hs27
    replace ow16 := ow16.nw hs27
    replace ow17 := ow17.nw hs27
    replace hc := hc.nw hs27
    replace hm0 := hm0.trN hs27
    have hz6 := hs27.size
    have hq27 := hqs.tr hs27
    refine ⟨.inr hq27, LH.narrow (SH2 := fun Hq => Nw H27 Hq) (fun Hq hq => hq27.tr hq) ?_⟩
    have hqn27 := Nw.refl H27
    refine LH.one (i := 3) (by kernel_rfl) ?_
    -- call (selvage/graph.commits).above
    refine LO.call rfl rfl Try.call28 rfl (Wd.u rfl) rfl rfl (above_ct _ _ _ _ _ [b] w0 _ hc (bf_hc.mono (by omega)) hco ow27.rd.any (fun k hk => hstK k (by simp at hk; simp [hk])) (by simp)) (fun v28 H28 r28 => ?_)
    obtain ⟨ab, mm, rfl, ha, hkab, hU, hs28⟩ := r28
    have dj32 : Dj (sb + 1) (ab + 1) := Dj.app (Dj.z) hv.lt hkab
    have df33 := DF.app (DF.z) (bf_hsr.mono hm0.size) hkab
    have dj34 : Dj (H0.size + 1) (ab + 1) := Dj.app (Dj.z) va.lt hkab
    have dj35 : Dj (H4.size + 1) (ab + 1) := Dj.app (Dj.z) vb.lt hkab
    have dj36 : Dj (H5.size + 1) (ab + 1) := Dj.app (Dj.z) ow16.le hkab
    have dj37 : Dj (H16.size + 1) (ab + 1) := Dj.app (Dj.z) ow17.le hkab
    have df38 := DF.app (DF.z) (bf_hc.mono (by omega)) hkab
    have dj39 : Dj (H18.size + 1) (ab + 1) := Dj.app (Dj.z) ow27.le hkab
    have nx40 : Nx 0 H0.size (ab + 1) := Nx.tr (Nx.refl 0 _) hkab hm0.size
    replace hv := hv.nw hs28
    replace hsr := hsr.nw hs28
    replace va := va.nw hs28
    replace vb := vb.nw hs28
    replace ow16 := ow16.nw hs28
    replace ow17 := ow17.nw hs28
    replace hc := hc.nw hs28
    replace ow27 := ow27.nw hs28
    replace hm0 := hm0.trN hs28
    have hz7 := hs28.size
    have hle_ha := ha.le
    have hq28 := hqn27.tr hs28
    refine ⟨.inr hq28, LH.narrow (SH2 := fun Hq => Nw H28 Hq) (fun Hq hq => hq28.tr hq) ?_⟩
    have hqn28 := Nw.refl H28
    refine LH.take 5 (by kernel_rfl) rfl (by kernel_rfl) (by kernel_rfl) (by kernel_rfl) (fun Hq hq => Y.lookupOkA (ha.nw hq).mo keyId rfl Try.runUnderlying72 Try.zeroValue3 rfl rfl) (Wd.u rfl) rfl rfl hqn28 ?_
    refine LH.take 6 (by kernel_rfl) rfl (by kernel_rfl) (by kernel_rfl) (by kernel_rfl) (fun Hq hq => Y.move rfl rfl) (Wd.u rfl) rfl rfl hqn28 ?_
    refine LH.take 7 (by kernel_rfl) rfl (by kernel_rfl) (by kernel_rfl) (by kernel_rfl) (fun Hq hq => Y.extract rfl rfl rfl) (Wd.u rfl) rfl rfl hqn28 ?_
    refine LH.take 8 (by kernel_rfl) rfl (by kernel_rfl) (by kernel_rfl) (by kernel_rfl) (fun Hq hq => Y.extract rfl rfl rfl) (Wd.u rfl) rfl rfl hqn28 ?_
    refine LH.take 9 (by kernel_rfl) rfl (by kernel_rfl) (by kernel_rfl) (by kernel_rfl) (fun Hq hq => Y.assign rfl rfl) (Wd.u rfl) rfl rfl hqn28 ?_
    refine LH.take 10 (by kernel_rfl) rfl (by kernel_rfl) (by kernel_rfl) (by kernel_rfl) (fun Hq hq => Y.assign rfl rfl) (Wd.u rfl) rfl rfl hqn28 ?_
    refine LH.done (by kernel_rfl) ?_
    have hqe := hqn28
    refine hK6 _ _ ?_
    refine CW.seq (fun K7 hK7 hE7 => ?_)
    refine CW.region ?_
    refine LR.v (Y.move rfl rfl) (Wd.u rfl) rfl rfl ?_
    refine LR.v (Y.assign rfl rfl) (Wd.u rfl) rfl rfl ?_
    refine LR.v (Y.assign rfl rfl) (Wd.u rfl) rfl rfl ?_
    refine LR.nil ?_
    refine hK7 _ _ ?_
    refine CW.ret (hret .ret (.inr rfl) _ _ _ (res2 rfl rfl rfl) ?_)
    exact ⟨_, 0, q, rfl, hv, ⟨⟨_, hA⟩, fun _ => by rw [isSome_iff_key, hU]; exact ⟨fun ⟨i, hi, hu⟩ => by rw [List.mem_singleton.1 hi] at hu; exact (up_iff hA (hstK b (by simp))).1 hu, fun hu => ⟨b, by simp, (up_iff hA (hstK b (by simp))).2 hu⟩⟩, fun h => absurd rfl h⟩, by omega, hm0⟩

end Go.Proofs.Ytepdhokpfecdnaa.GraI
