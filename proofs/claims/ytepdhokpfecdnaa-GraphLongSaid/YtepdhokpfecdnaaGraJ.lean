/-
  How long the longest way up is; the commits between some and others.
-/
import Derived.Test.YtepdhokpfecdnaaGraI
namespace Go.Proofs.Ytepdhokpfecdnaa.GraJ
open Go.Proofs.Ytepdhokpfecdnaa.E Go.RowKit Go.Proofs.Ytepdhokpfecdnaa.GraA Go.Proofs.Ytepdhokpfecdnaa.GraB Go.Proofs.Ytepdhokpfecdnaa.GraC Go.Proofs.Ytepdhokpfecdnaa.GraD Go.Proofs.Ytepdhokpfecdnaa.GraE Go.Proofs.Ytepdhokpfecdnaa.GraF Go.Proofs.Ytepdhokpfecdnaa.GraG Go.Proofs.Ytepdhokpfecdnaa.GraH Go.Proofs.Ytepdhokpfecdnaa.GraI
set_option maxRecDepth 20000
set_option linter.unusedVariables false
set_option linter.unusedSimpArgs false
set_option linter.unusedSectionVars false
set_option maxRecDepth 100000 in
theorem inf28 : Inf Try.prog 28 30 32 32 := ⟨Try.underlying28, _, _, rfl, rfl, rfl, rfl, rfl⟩
set_option maxRecDepth 100000 in
theorem inf92 : Inf Try.prog 92 28 1 24 := ⟨Try.underlying92, _, _, rfl, rfl, rfl, rfl, rfl⟩

def gmax (g : Ide → Nat) (ps : List Ide) : Nat := ps.foldl (fun a p => max a (g p + 1)) 0
theorem gmax_snoc (g : Ide → Nat) (ps : List Ide) (p : Ide) : gmax g (ps ++ [p]) = max (gmax g ps) (g p + 1) := by simp [gmax, List.foldl_append]
theorem foldl_ge (g : Ide → Nat) : ∀ (ps : List Ide) (a : Nat), a ≤ ps.foldl (fun a p => max a (g p + 1)) a
  | [], a => Nat.le_refl _
  | p :: ps, a => Nat.le_trans (by omega) (foldl_ge g ps (max a (g p + 1)))
theorem foldl_gt (g : Ide → Nat) : ∀ (ps : List Ide) (a : Nat), ∀ p ∈ ps, g p < ps.foldl (fun a p => max a (g p + 1)) a
  | [], a, p, hp => by cases hp
  | x :: ps, a, p, hp => by
    rcases List.mem_cons.1 hp with rfl | hp
    · have := foldl_ge g ps (max a (g p + 1))
      rw [List.foldl_cons]; omega
    · exact foldl_gt g ps _ p hp
theorem gmax_gt {g : Ide → Nat} {ps : List Ide} {p : Ide} (h : p ∈ ps) : g p < gmax g ps := foldl_gt g ps 0 p h
theorem foldl_le (g : Ide → Nat) (b : Nat) : ∀ (ps : List Ide) (a : Nat), a ≤ b → (∀ p ∈ ps, g p + 1 ≤ b) → ps.foldl (fun a p => max a (g p + 1)) a ≤ b
  | [], a, h, _ => h
  | x :: ps, a, h, h2 => by
    rw [List.foldl_cons]
    exact foldl_le g b ps _ (by have := h2 x List.mem_cons_self; omega) (fun p hp => h2 p (List.mem_cons_of_mem _ hp))
theorem gmax_le {g : Ide → Nat} {ps : List Ide} {b : Nat} (h : ∀ p ∈ ps, g p + 1 ≤ b) : gmax g ps ≤ b := foldl_le g b ps 0 (by omega) h
theorem gmax_take_le {g : Ide → Nat} {ps : List Ide} {q : Nat} : gmax g (ps.take q) ≤ gmax g ps := gmax_le (fun p hp => gmax_gt (List.mem_of_mem_take hp))
/-- what Gen tells -/
def GnR (pa : Ide → Option (List Ide)) (g : Ide → Nat) (a : Ide) (r e n q : Nat) : Prop := (∃ K, AllR pa [a] K e ∧ (e = 0 → q = n + K.length)) ∧ (e = 0 → r = g a) ∧ (e ≠ 0 → r = 0)
/-- the commits between some and others, in their order -/
def Ord (pa : Ide → Option (List Ide)) (fr un out : List Ide) : Prop := ∃ K S, AllR pa (fr ++ un) K 0 ∧ Topo (cpa pa K) S out ∧ ∀ k, k ∈ S ↔ (∃ i ∈ fr, UpO pa i k) ∧ ¬ ∃ i ∈ un, UpO pa i k
theorem up_list {pa : Ide → Option (List Ide)} {st K l : List Ide} (h : AllR pa st K 0) (hl : ∀ i ∈ l, i ∈ K) (k : Ide) : (∃ i ∈ l, Up (cpa pa K) i k) ↔ ∃ i ∈ l, UpO pa i k :=
  ⟨fun ⟨i, hi, hu⟩ => ⟨i, hi, (up_iff h (hl i hi)).1 hu⟩, fun ⟨i, hi, hu⟩ => ⟨i, hi, (up_iff h (hl i hi)).2 hu⟩⟩
theorem up_in {pa : Ide → Option (List Ide)} {st K : List Ide} (h : AllR pa st K 0) {i k : Ide} (hi : i ∈ K) (hu : UpO pa i k) : k ∈ K := by
  obtain ⟨_, h1, _⟩ := all0 h
  induction hu with
  | refl => exact hi
  | @step j p ps _ hq hp ih =>
    obtain ⟨qs, e1, e2⟩ := h1 j ih
    rw [e1] at hq; cases hq; exact e2 p hp
theorem cpa_in {pa : Ide → Option (List Ide)} {st K : List Ide} (h : AllR pa st K 0) {k : Ide} (hk : k ∈ K) : pa k = some (cpa pa K k) := by
  obtain ⟨_, h1, _⟩ := all0 h
  obtain ⟨ps, e1, _⟩ := h1 k hk
  unfold cpa; rw [if_pos hk, e1]; rfl

set_option maxHeartbeats 4000000 in
theorem gen_ct (So : Sou) (sb n : Nat) (F : Nat → Prop) (a : Ide) (g : Ide → Nat) (w0 : World) (H0 : Heap)
    (hv : Var So.e H0 sb (So.cs n)) (hsr : SRd F H0 So) (bf_hsr : BF F H0.size) (dfs : DF F (sb + 1)) (hok : So.ok) (hn : n ≤ 800000000) (hg : ∀ k ps, So.pa k = some ps → g k = gmax g ps) (hgb : ∀ k, g k ≤ 1000000) :
    Ct Try.prog w0 17 #[So.v sb, vA a] H0 (fun r H2 => ∃ rr : Nat, ∃ e : Nat, ∃ q : Nat, r = .tuple #[.int .i64 (rr : Int), eV e] ∧ (Var So.e H2 sb (So.cs q)) ∧ (GnR So.pa g a rr e n q) ∧ (q ≤ n + 5001) ∧ Mo (Ms [(sb + 1)]) H0 H2) := by
  refine Ct.enter (args := [So.v sb, vA a]) Try.func17 rfl rfl rfl ?_
  intro Q0 hret
  have hm0 : Mo (Ms [(sb + 1)]) H0 H0 := Mo.refl _ _
  have nx_hm0_hv := Nx.refl (sb + 1) H0.size
  have hlt_hv := hv.lt
  refine CW.seq (fun K1 hK1 hE1 => ?_)
  refine CW.region ?_
  refine LR.z (Z.boxv rfl rfl) (Wd.u rfl) rfl rfl (fun v3 H3 r3 => ?_)
  obtain ⟨rfl, va, hs3, ob3, hH3⟩ := r3
  have hzs3 : H3.size = H0.size + 1 := by rw [hH3]; simp
  have dj1 : Dj (sb + 1) (H0.size + 1) := Dj.new hv.lt
  have df2 := (DF.new (bf_hsr.mono hm0.size) : DF _ (H0.size + 1))
  have nx3 : Nx 0 H0.size (H0.size + 1) := Nx.new hm0.size
  replace hv := hv.nw hs3
  replace hsr := hsr.nw hs3
  replace hm0 := hm0.trN hs3
  have hz1 := hs3.size
  replace va : Var 30 H3 H0.size (fA a) := va
  refine LR.v (Y.assign rfl rfl) (Wd.u rfl) rfl rfl ?_
  refine LR.v (Y.assign rfl rfl) (Wd.u rfl) rfl rfl ?_
  refine LR.nil ?_
  refine hK1 _ _ ?_
  refine CW.seq (fun K2 hK2 hE2 => ?_)
  refine CW.region ?_
  refine LR.v (Y.move rfl rfl) (Wd.u rfl) rfl rfl ?_
  refine LR.v (Y.loadN va.pt rfl Try.isAgg30 Try.sizeOf30 (fA_len _) rfl) (Wd.u rfl) rfl rfl ?_
  refine LR.z (Z.litw _ ([a]) rfl inf28 rfl rfl rfl (by decide) (by decide) fA_len fA_one (rfl)) (Wd.u rfl) rfl rfl (fun v16 H16 r16 => ?_)
  obtain ⟨ow16, hs16, ob16, hH16⟩ := r16
  have hzs16 : H16.size = H3.size + 1 := by rw [hH16]; simp
  have dj4 : Dj (sb + 1) (H3.size + 1) := Dj.new hv.lt
  have df5 := (DF.new (bf_hsr.mono hm0.size) : DF _ (H3.size + 1))
  have dj6 : Dj (H0.size + 1) (H3.size + 1) := Dj.new va.lt
  have nx7 : Nx 0 H0.size (H3.size + 1) := Nx.new hm0.size
  replace hv := hv.nw hs16
  replace hsr := hsr.nw hs16
  replace va := va.nw hs16
  replace hm0 := hm0.trN hs16
  have hz2 := hs16.size
  obtain ⟨s16, rfl⟩ : ∃ s : SV, v16 = s.v := ⟨toSV v16, ow16.sv.symm⟩
  refine LR.z (Z.litw _ ([(s16, [a])]) rfl inf92 rfl rfl rfl (by decide) (by decide) fLs_len fLs_one (rfl)) (Wd.u rfl) rfl rfl (fun v17 H17 r17 => ?_)
  obtain ⟨ow17, hs17, ob17, hH17⟩ := r17
  have hzs17 : H17.size = H16.size + 1 := by rw [hH17]; simp
  have dj8 : Dj (sb + 1) (H16.size + 1) := Dj.new hv.lt
  have df9 := (DF.new (bf_hsr.mono hm0.size) : DF _ (H16.size + 1))
  have dj10 : Dj (H0.size + 1) (H16.size + 1) := Dj.new va.lt
  have dj11 : Dj (H3.size + 1) (H16.size + 1) := Dj.new ow16.le
  have nx12 : Nx 0 H0.size (H16.size + 1) := Nx.new hm0.size
  replace hv := hv.nw hs17
  replace hsr := hsr.nw hs17
  replace va := va.nw hs17
  replace ow16 := ow16.nw hs17
  replace hm0 := hm0.trN hs17
  have hz3 := hs17.size
  -- call selvage/graph.all
  refine LR.call rfl Try.call27 rfl (Wd.u rfl) rfl rfl (all_ct So sb n _ _ [(s16, [a])] w0 _ hv hsr (bf_hsr.mono hm0.size) dfs hok (by omega) (Ow.ne ow17 (dj8)) (by simp) (fun x hx => by rw [List.mem_singleton.1 hx]; exact Ow.ne ow16 (dj4)) (by simp)) (fun v18 H18 r18 => ?_)
  obtain ⟨vc, m, e, q, rfl, hc, hv, hA, hq, hs18⟩ := r18
  replace hsr := hsr.upL hs18 (DFL.cons dfs DFL.nil)
  replace va := va.upL hs18 (DL.cons dj1.symm DL.nil)
  replace ow16 := ow16.upL hs18 (DL.cons dj4.symm DL.nil)
  replace ow17 := ow17.upL hs18 (DL.cons dj8.symm DL.nil)
  replace hm0 := hm0.trL hs18 (MIL.cons (MI.app (MI.root (by simp)) (nx_hm0_hv) (Nat.le_refl _)) MIL.nil)
  have hz4 := hs18.size
  replace hc := hc.bnd
  have bf_hc := hc.bf
  have df13 : DF (fun b => H17.size ≤ b ∧ b < H18.size) (sb + 1) := DF.above (fun b h => h.1) (by first | exact hle_hv | exact hlt_hv | omega)
  have df14 : DF (fun b => H17.size ≤ b ∧ b < H18.size) (H0.size + 1) := DF.above (fun b h => h.1) (by first | exact hle_va | exact hlt_va | omega)
  have df15 : DF (fun b => H17.size ≤ b ∧ b < H18.size) (H3.size + 1) := DF.above (fun b h => h.1) (by first | exact hle_ow16 | exact hlt_ow16 | omega)
  have df16 : DF (fun b => H17.size ≤ b ∧ b < H18.size) (H16.size + 1) := DF.above (fun b h => h.1) (by first | exact hle_ow17 | exact hlt_ow17 | omega)
  refine LR.v (Y.move rfl rfl) (Wd.u rfl) rfl rfl ?_
  refine LR.v (Y.extract rfl rfl rfl) (Wd.u rfl) rfl rfl ?_
  refine LR.v (Y.extract rfl rfl rfl) (Wd.u rfl) rfl rfl ?_
  refine LR.v (Y.assign rfl rfl) (Wd.u rfl) rfl rfl ?_
  refine LR.v (Y.assign rfl rfl) (Wd.u rfl) rfl rfl ?_
  refine LR.nil ?_
  refine hK2 _ _ ?_
  refine CW.seq (fun K3 hK3 hE3 => ?_)
  refine CW.seq (fun K4 hK4 hE4 => ?_)
  refine CW.region ?_
  refine LR.v (Y.move rfl rfl) (Wd.u rfl) rfl rfl ?_
  refine LR.v (Y.ene rfl Try.underlying33 rfl) (Wd.u rfl) rfl rfl ?_
  refine LR.nil ?_
  refine hK4 _ _ ?_
  refine CW.condp rfl (fun c22 => ?_) (fun c22 => ?_)
  ·
    refine CW.seq (fun K5 hK5 hE5 => ?_)
    refine CW.region ?_
    refine LR.v (Y.move rfl rfl) (Wd.u rfl) rfl rfl ?_
    refine LR.v (Y.assign rfl rfl) (Wd.u rfl) rfl rfl ?_
    refine LR.v (Y.assign rfl rfl) (Wd.u rfl) rfl rfl ?_
    refine LR.nil ?_
    refine hK5 _ _ ?_
    refine CW.ret (hE3 .ret nofun _ _ (hret .ret (.inr rfl) _ _ _ (res2 rfl rfl rfl) ?_))
    exact ⟨0, e, q, rfl, hv, ⟨⟨_, hA, fun h => absurd h c22⟩, fun h => absurd h c22, fun _ => rfl⟩, by omega, hm0⟩
  ·
    obtain rfl : e = 0 := by omega
    replace hA : AllR So.pa [a] (m.map (·.1)) 0 := hA
    replace hc := hc.get rfl
    have hco := cok_of hok hA
    obtain ⟨_, _, hstK, _, _⟩ := all0 hA
    have hml := hco.le
    refine CW.skip ?_
    refine hK3 _ _ ?_
    refine CW.seq (fun K6 hK6 hE6 => ?_)
    refine CW.region ?_
    refine LR.z (Z.makeMp vA (Value.int .i64) rfl) (Wd.u rfl) rfl rfl (fun v24 H24 r24 => ?_)
    obtain ⟨rfl, hgm, hs24, ob24, hH24⟩ := r24
    have hzs24 : H24.size = H18.size + 1 := by rw [hH24]; simp
    have dj17 : Dj (sb + 1) (H18.size + 1) := Dj.new hv.lt
    have df18 := (DF.new (bf_hsr.mono hm0.size) : DF _ (H18.size + 1))
    have dj19 : Dj (H0.size + 1) (H18.size + 1) := Dj.new va.lt
    have dj20 : Dj (H3.size + 1) (H18.size + 1) := Dj.new ow16.le
    have dj21 : Dj (H16.size + 1) (H18.size + 1) := Dj.new ow17.le
    have df22 := (DF.new (bf_hc.mono (by omega)) : DF _ (H18.size + 1))
    have nx23 : Nx 0 H0.size (H18.size + 1) := Nx.new hm0.size
    replace hv := hv.nw hs24
    replace hsr := hsr.nw hs24
    replace va := va.nw hs24
    replace ow16 := ow16.nw hs24
    replace ow17 := ow17.nw hs24
    replace hc := hc.nw hs24
    replace hm0 := hm0.trN hs24
    have hz5 := hs24.size
    have hlt_hgm := hgm.lt
    refine LR.v (Y.assign rfl rfl) (Wd.u rfl) rfl rfl ?_
    refine LR.nil ?_
    refine hK6 _ _ ?_
    refine CW.seq (fun K7 hK7 hE7 => ?_)
    refine CW.seq (fun K8 hK8 hE8 => ?_)
    refine CW.region ?_
    refine LR.v (Y.move rfl rfl) (Wd.u rfl) rfl rfl ?_
    refine LR.v (Y.move rfl rfl) (Wd.u rfl) rfl rfl ?_
    refine LR.v (Y.loadN va.pt rfl Try.isAgg30 Try.sizeOf30 (fA_len _) rfl) (Wd.u rfl) rfl rfl ?_
    refine LR.z (Z.litw _ ([a]) rfl inf28 rfl rfl rfl (by decide) (by decide) fA_len fA_one (rfl)) (Wd.u rfl) rfl rfl (fun v28 H28 r28 => ?_)
    obtain ⟨ow28, hs28, ob28, hH28⟩ := r28
    have hzs28 : H28.size = H24.size + 1 := by rw [hH28]; simp
    have dj24 : Dj (sb + 1) (H24.size + 1) := Dj.new hv.lt
    have df25 := (DF.new (bf_hsr.mono hm0.size) : DF _ (H24.size + 1))
    have dj26 : Dj (H0.size + 1) (H24.size + 1) := Dj.new va.lt
    have dj27 : Dj (H3.size + 1) (H24.size + 1) := Dj.new ow16.le
    have dj28 : Dj (H16.size + 1) (H24.size + 1) := Dj.new ow17.le
    have df29 := (DF.new (bf_hc.mono (by omega)) : DF _ (H24.size + 1))
    have dj30 : Dj (H18.size + 1) (H24.size + 1) := Dj.new hgm.lt
    have nx31 : Nx 0 H0.size (H24.size + 1) := Nx.new hm0.size
    replace hv := hv.nw hs28
    replace hsr := hsr.nw hs28
    replace va := va.nw hs28
    replace ow16 := ow16.nw hs28
    replace ow17 := ow17.nw hs28
    replace hc := hc.nw hs28
    replace hgm := hgm.nw hs28
    replace hm0 := hm0.trN hs28
    have hz6 := hs28.size
    -- call (selvage/graph.commits).above
    refine LR.call rfl Try.call28 rfl (Wd.u rfl) rfl rfl (above_ct _ _ _ _ _ [a] w0 _ hc (bf_hc.mono (by omega)) hco ow28.rd.any (fun k hk => hstK k (by simp at hk; simp [hk])) (by simp)) (fun v29 H29 r29 => ?_)
    obtain ⟨ab, mm, rfl, ha, hkab, hU, hs29⟩ := r29
    have dj32 : Dj (sb + 1) (ab + 1) := Dj.app (Dj.z) hv.lt hkab
    have df33 := DF.app (DF.z) (bf_hsr.mono hm0.size) hkab
    have dj34 : Dj (H0.size + 1) (ab + 1) := Dj.app (Dj.z) va.lt hkab
    have dj35 : Dj (H3.size + 1) (ab + 1) := Dj.app (Dj.z) ow16.le hkab
    have dj36 : Dj (H16.size + 1) (ab + 1) := Dj.app (Dj.z) ow17.le hkab
    have df37 := DF.app (DF.z) (bf_hc.mono (by omega)) hkab
    have dj38 : Dj (H18.size + 1) (ab + 1) := Dj.app (Dj.z) hgm.lt hkab
    have dj39 : Dj (H24.size + 1) (ab + 1) := Dj.app (Dj.z) ow28.le hkab
    have nx40 : Nx 0 H0.size (ab + 1) := Nx.tr (Nx.refl 0 _) hkab hm0.size
    replace hv := hv.nw hs29
    replace hsr := hsr.nw hs29
    replace va := va.nw hs29
    replace ow16 := ow16.nw hs29
    replace ow17 := ow17.nw hs29
    replace hc := hc.nw hs29
    replace hgm := hgm.nw hs29
    replace ow28 := ow28.nw hs29
    replace hm0 := hm0.trN hs29
    have hz7 := hs29.size
    have hle_ha := ha.le
    have hsK : ∀ k ∈ mm.map (·.1), k ∈ m.map (·.1) := fun k hk => by
      obtain ⟨i, hi, hu⟩ := (hU k).1 hk
      rw [List.mem_singleton.1 hi] at hu
      exact up_in hA (hstK a (by simp)) ((up_iff hA (hstK a (by simp))).1 hu)
    have hmm5 := nodup_le ha.mo.nodup hsK
    rw [List.length_map, List.length_map] at hmm5
    -- call (selvage/graph.commits).order
    refine LR.call rfl Try.call29 rfl (Wd.u rfl) rfl rfl (order_ct _ _ _ _ ab mm g w0 _ hc (bf_hc.mono (by omega)) hco ha (by omega) (cpa_ac (fun k ps hps p hp => by rw [hg k ps hps]; exact gmax_gt hp))) (fun v30 H30 r30 => ?_)
    obtain ⟨s30, k30, out, rfl, oo, hk30, hT, hs30⟩ := r30
    have dj41 : Dj (sb + 1) k30 := Dj.app (Dj.z) hv.lt hk30
    have df42 := DF.app (DF.z) (bf_hsr.mono hm0.size) hk30
    have dj43 : Dj (H0.size + 1) k30 := Dj.app (Dj.z) va.lt hk30
    have dj44 : Dj (H3.size + 1) k30 := Dj.app (Dj.z) ow16.le hk30
    have dj45 : Dj (H16.size + 1) k30 := Dj.app (Dj.z) ow17.le hk30
    have df46 := DF.app (DF.z) (bf_hc.mono (by omega)) hk30
    have dj47 : Dj (H18.size + 1) k30 := Dj.app (Dj.z) hgm.lt hk30
    have dj48 : Dj (H24.size + 1) k30 := Dj.app (Dj.z) ow28.le hk30
    have dj49 : Dj (ab + 1) k30 := Dj.app (Dj.z) ha.le hk30
    have nx50 : Nx 0 H0.size k30 := Nx.tr (Nx.refl 0 _) hk30 hm0.size
    replace hv := hv.nw hs30
    replace hsr := hsr.nw hs30
    replace va := va.nw hs30
    replace ow16 := ow16.nw hs30
    replace ow17 := ow17.nw hs30
    replace hc := hc.nw hs30
    replace hgm := hgm.nw hs30
    replace ow28 := ow28.nw hs30
    replace ha := ha.nw hs30
    replace hm0 := hm0.trN hs30
    have hz8 := hs30.size
    have hle_oo := oo.le
    have hol := nodup_le hT.dnd hT.dsub
    rw [List.length_map] at hol
    refine LR.v (Y.len oo.rd rfl Try.runUnderlying28 rfl) (Wd.u rfl) rfl rfl ?_
    refine LR.v (Y.move rfl rfl) (Wd.u rfl) rfl rfl ?_
    refine LR.nil ?_
    refine hK8 _ _ ?_
    refine CW.block (fun K9 hK9 hX9 hE9 => ?_)
    refine CW.loop (fun (s_ : (Nat) × (List (Ide × Int))) => match s_ with | (j, gm) => [(3, .pointer (some ⟨H0.size, 0, none⟩)), (6, vc), (8, .map (some H18.size)), (30, s30.v), (31, .int .i64 (out.length : Int)), (32, .int .i64 (j : Int))])
      (fun (s_ : (Nat) × (List (Ide × Int))) (H : Heap) => match s_ with | (j, gm) => (Mp H vA (Value.int .i64) H18.size gm) ∧ (j ≤ out.length) ∧ (∀ k, (mget gm k).getD 0 = if k ∈ out.take j then (g k : Int) else 0) ∧ Mo (Ms [(H18.size + 1)]) H30 H)
      (fun (s_ : (Nat) × (List (Ide × Int))) => match s_ with | (j, gm) => out.length - j) (0, []) ⟨rfl, rfl, rfl, rfl, rfl, rfl, trivial⟩ ?_ ?_
    ·
      exact ⟨hgm, (by omega), fun k => by simp [mget], Mo.refl _ _⟩
    rintro ⟨j, gm⟩ HL1 hI1 K10 hN10 hE10
    obtain ⟨hgm, hj, hG, hlm1⟩ := hI1
    replace hv := hv.upL hlm1 (DL.cons dj17 DL.nil)
    replace hsr := hsr.upL hlm1 (DFL.cons df18 DFL.nil)
    replace va := va.upL hlm1 (DL.cons dj19 DL.nil)
    replace ow16 := ow16.upL hlm1 (DL.cons dj20 DL.nil)
    replace ow17 := ow17.upL hlm1 (DL.cons dj21 DL.nil)
    replace hc := hc.upL hlm1 (DFL.cons df22 DFL.nil)
    replace ha := ha.upL hlm1 (DL.cons dj38.symm DL.nil)
    replace oo := oo.upL hlm1 (DL.cons dj47.symm DL.nil)
    replace hm0 := hm0.trL hlm1 (MIL.cons (MI.app MI.z (nx23) (Nat.le_refl _)) MIL.nil)
    have hz9 := hlm1.size
    have nx_hlm1_hgm := Nx.refl (H18.size + 1) H30.size
    refine CW.seq (fun K11 hK11 hE11 => ?_)
    refine CW.region ?_
    refine LR.v (Y.lss rfl rfl rfl) (Wd.u rfl) rfl rfl ?_
    refine LR.nil ?_
    refine hK11 _ _ ?_
    refine CW.seq (fun K12 hK12 hE12 => ?_)
    refine CW.condp rfl (fun c33 => ?_) (fun c33 => ?_)
    ·
      have hjl : j < out.length := by omega
      obtain ⟨x, hx⟩ : ∃ x, x = out[j] := ⟨_, rfl⟩
      have hxm : x ∈ mm.map (·.1) := hT.dsub x (by rw [hx]; exact List.getElem_mem hjl)
      have hxK := hsK x hxm
      have hgx := hg x _ (cpa_in hA hxK)
      have hxn : x ∉ out.take j := fun h9 => by
        obtain ⟨i9, hi9, he9⟩ := List.getElem_of_mem h9
        rw [List.getElem_take, hx] at he9
        rw [List.length_take] at hi9
        have := (List.getElem_inj hT.dnd).1 he9
        omega
      have hpl := hco.pl x
      refine CW.skip ?_
      refine hK12 _ _ ?_
      refine CW.seq (fun K13 hK13 hE13 => ?_)
      refine CW.block (fun K14 hK14 hX14 hE14 => ?_)
      refine CW.seq (fun K15 hK15 hE15 => ?_)
      refine CW.region ?_
      refine LR.v (Y.owAddr oo (j) rfl Try.runUnderlying28 Try.sizeOf30 rfl rfl (by first | rfl | omega) (by omega)) (Wd.u rfl) rfl rfl ?_
      refine LR.v (Y.cast (v2 := vA x) (Y.loadN (oo.pt (j := j) (by omega)) rfl Try.isAgg30 Try.sizeOf30 (fA_len _) rfl) (by rw [hx]; rfl)) (Wd.u rfl) rfl rfl ?_
      refine LR.z (Z.allocv rfl Try.zeroValue30) (Wd.u rfl) rfl rfl (fun v10 H10 r10 => ?_)
      obtain ⟨rfl, vi, hs10, ob10, hH10⟩ := r10
      have hzs10 : H10.size = HL1.size + 1 := by rw [hH10]; simp
      have dj51 : Dj (sb + 1) (HL1.size + 1) := Dj.new hv.lt
      have df52 := (DF.new (bf_hsr.mono hm0.size) : DF _ (HL1.size + 1))
      have dj53 : Dj (H0.size + 1) (HL1.size + 1) := Dj.new va.lt
      have dj54 : Dj (H3.size + 1) (HL1.size + 1) := Dj.new ow16.le
      have dj55 : Dj (H16.size + 1) (HL1.size + 1) := Dj.new ow17.le
      have df56 := (DF.new (bf_hc.mono (by omega)) : DF _ (HL1.size + 1))
      have dj57 : Dj (H18.size + 1) (HL1.size + 1) := Dj.new hgm.lt
      have dj58 : Dj (ab + 1) (HL1.size + 1) := Dj.new ha.le
      have dj59 : Dj k30 (HL1.size + 1) := Dj.new oo.le
      have nx60 : Nx 0 H0.size (HL1.size + 1) := Nx.new hm0.size
      have nx61 : Nx 0 H30.size (HL1.size + 1) := Nx.new hlm1.size
      replace hv := hv.nw hs10
      replace hsr := hsr.nw hs10
      replace va := va.nw hs10
      replace ow16 := ow16.nw hs10
      replace ow17 := ow17.nw hs10
      replace hc := hc.nw hs10
      replace hgm := hgm.nw hs10
      replace ha := ha.nw hs10
      replace oo := oo.nw hs10
      replace hm0 := hm0.trN hs10
      replace hlm1 := hlm1.trN hs10
      have hz10 := hs10.size
      replace vi : Var 30 H10 HL1.size (fA Zid) := vi
      refine LR.s (S.var vi (_) (fA (x)) rfl rfl rfl rfl (fA_one _) Try.sizeOf30 (fA_len _) (by first | decide | simp [fA_len]) ((splice_all2 (by first | exact (fA_len _).symm | rfl | exact (fA_len _).trans (fA_len _).symm)))) (Wd.u rfl) rfl (fun H7_3 r7_3 => ?_)
      obtain ⟨vi, hs7_3⟩ := r7_3
      replace hs7_3 := hs7_3.md1
      replace hv := hv.upL hs7_3 (DL.cons dj51 DL.nil)
      replace hsr := hsr.upL hs7_3 (DFL.cons df52 DFL.nil)
      replace va := va.upL hs7_3 (DL.cons dj53 DL.nil)
      replace ow16 := ow16.upL hs7_3 (DL.cons dj54 DL.nil)
      replace ow17 := ow17.upL hs7_3 (DL.cons dj55 DL.nil)
      replace hc := hc.upL hs7_3 (DFL.cons df56 DFL.nil)
      replace hgm := hgm.upL hs7_3 (DL.cons dj57 DL.nil)
      replace ha := ha.upL hs7_3 (DL.cons dj58 DL.nil)
      replace oo := oo.upL hs7_3 (DL.cons dj59 DL.nil)
      replace hm0 := hm0.trL hs7_3 (MIL.cons (MI.app MI.z (nx60) (Nat.le_refl _)) MIL.nil)
      replace hlm1 := hlm1.trL hs7_3 (MIL.cons (MI.app MI.z (nx61) (Nat.le_refl _)) MIL.nil)
      have hz11 := hs7_3.size
      refine LR.nil ?_
      refine hK15 _ _ ?_
      refine CW.seq (fun K16 hK16 hE16 => ?_)
      refine CW.region ?_
      refine LR.v (Y.move rfl rfl) (Wd.u rfl) rfl rfl ?_
      refine LR.v (Y.loadN vi.pt rfl Try.isAgg30 Try.sizeOf30 (fA_len _) rfl) (Wd.u rfl) rfl rfl ?_
      refine LR.v (Y.lookupA hc.mo keyId rfl Try.runUnderlying69 Try.zeroValue28 rfl rfl) (Wd.u rfl) rfl rfl ?_
      refine LR.v (Y.len (hc.row x) rfl Try.runUnderlying28 rfl) (Wd.u rfl) rfl rfl ?_
      refine LR.v (Y.move rfl rfl) (Wd.u rfl) rfl rfl ?_
      refine LR.nil ?_
      refine hK16 _ _ ?_
      refine CW.block (fun K17 hK17 hX17 hE17 => ?_)
      refine CW.loop (fun (s_ : (Nat) × (List (Ide × Int))) => match s_ with | (q2, gm2) => [(3, .pointer (some ⟨H0.size, 0, none⟩)), (6, vc), (8, .map (some H18.size)), (10, .pointer (some ⟨HL1.size, 0, none⟩)), (30, s30.v), (31, .int .i64 (out.length : Int)), (32, .int .i64 (j : Int)), (38, (id ((mget m x).getD nilS) : Value)), (39, .int .i64 ((cpa So.pa (m.map (·.1)) x).length : Int)), (40, .int .i64 (q2 : Int))])
        (fun (s_ : (Nat) × (List (Ide × Int))) (H : Heap) => match s_ with | (q2, gm2) => (Mp H vA (Value.int .i64) H18.size gm2) ∧ (q2 ≤ (cpa So.pa (m.map (·.1)) x).length) ∧ (∀ k, (mget gm2 k).getD 0 = if k ∈ out.take j then (g k : Int) else if k = x then ((gmax g ((cpa So.pa (m.map (·.1)) x).take q2) : Nat) : Int) else 0) ∧ Mo (Ms [(H18.size + 1)]) H7_3 H)
        (fun (s_ : (Nat) × (List (Ide × Int))) => match s_ with | (q2, gm2) => (cpa So.pa (m.map (·.1)) x).length - q2) (0, gm) ⟨rfl, rfl, rfl, rfl, rfl, rfl, rfl, rfl, rfl, rfl, trivial⟩ ?_ ?_
      ·
        exact ⟨hgm, (by omega), fun k => by
            rw [hG k]
            split
            · rfl
            · split <;> rfl, Mo.refl _ _⟩
      rintro ⟨q2, gm2⟩ HL2 hI2 K18 hN18 hE18
      obtain ⟨hgm, hq2, hG2, hlm2⟩ := hI2
      replace hv := hv.upL hlm2 (DL.cons dj17 DL.nil)
      replace hsr := hsr.upL hlm2 (DFL.cons df18 DFL.nil)
      replace va := va.upL hlm2 (DL.cons dj19 DL.nil)
      replace ow16 := ow16.upL hlm2 (DL.cons dj20 DL.nil)
      replace ow17 := ow17.upL hlm2 (DL.cons dj21 DL.nil)
      replace hc := hc.upL hlm2 (DFL.cons df22 DFL.nil)
      replace ha := ha.upL hlm2 (DL.cons dj38.symm DL.nil)
      replace oo := oo.upL hlm2 (DL.cons dj47.symm DL.nil)
      replace vi := vi.upL hlm2 (DL.cons dj57.symm DL.nil)
      replace hm0 := hm0.trL hlm2 (MIL.cons (MI.app MI.z (nx23) (Nat.le_refl _)) MIL.nil)
      replace hlm1 := hlm1.trL hlm2 (MIL.cons (MI.app (MI.root (by simp)) (nx_hlm1_hgm) (Nat.le_refl _)) MIL.nil)
      have hz12 := hlm2.size
      have nx_hlm2_hgm := Nx.refl (H18.size + 1) H7_3.size
      refine CW.seq (fun K19 hK19 hE19 => ?_)
      refine CW.region ?_
      refine LR.v (Y.lss rfl rfl rfl) (Wd.u rfl) rfl rfl ?_
      refine LR.nil ?_
      refine hK19 _ _ ?_
      refine CW.seq (fun K20 hK20 hE20 => ?_)
      refine CW.condp rfl (fun c41 => ?_) (fun c41 => ?_)
      ·
        have hql : q2 < (cpa So.pa (m.map (·.1)) x).length := by omega
        obtain ⟨p, hp⟩ : ∃ p, p = (cpa So.pa (m.map (·.1)) x)[q2] := ⟨_, rfl⟩
        have hpm : p ∈ (cpa So.pa (m.map (·.1)) x) := by rw [hp]; exact List.getElem_mem hql
        have hpt : p ∈ out.take j := hT.par j hjl p (by rw [← hx]; exact hpm) ((hU p).2 (by obtain ⟨i, hi, hu⟩ := (hU x).1 hxm; exact ⟨i, hi, hu.step hpm⟩))
        have hts := List.take_succ_eq_append_getElem hql
        rw [← hp] at hts
        have hgp := hgb p
        have hgxb := hgb x
        have hgt := gmax_take_le (g := g) (ps := (cpa So.pa (m.map (·.1)) x)) (q := q2)
        have hg48 := hG2 x
        rw [if_neg hxn, if_pos rfl] at hg48
        have hg51 := hG2 p
        rw [if_pos hpt] at hg51
        refine CW.skip ?_
        refine hK20 _ _ ?_
        refine CW.seq (fun K21 hK21 hE21 => ?_)
        refine CW.block (fun K22 hK22 hX22 hE22 => ?_)
        refine CW.seq (fun K23 hK23 hE23 => ?_)
        refine CW.region ?_
        refine LR.e (g := fun ad => .pointer (some ad)) (Y.indexAddrF (hc.row x) (q2) rfl Try.runUnderlying28 Try.sizeOf30 rfl rfl (by first | rfl | omega) (by omega)) (Wd.u rfl) rfl rfl (fun ad42 pt42 => ?_)
        have bf_pt42 := bf_hc
        refine LR.v (Y.cast (v2 := vA p) (Y.loadN pt42.pt rfl Try.isAgg30 Try.sizeOf30 (fA_len _) rfl) (by rw [hp]; rfl)) (Wd.u rfl) rfl rfl ?_
        refine LR.z (Z.allocv rfl Try.zeroValue30) (Wd.u rfl) rfl rfl (fun v12 H12 r12 => ?_)
        obtain ⟨rfl, vp, hs12, ob12, hH12⟩ := r12
        have hzs12 : H12.size = HL2.size + 1 := by rw [hH12]; simp
        have dj62 : Dj (sb + 1) (HL2.size + 1) := Dj.new hv.lt
        have df63 := (DF.new (bf_hsr.mono hm0.size) : DF _ (HL2.size + 1))
        have dj64 : Dj (H0.size + 1) (HL2.size + 1) := Dj.new va.lt
        have dj65 : Dj (H3.size + 1) (HL2.size + 1) := Dj.new ow16.le
        have dj66 : Dj (H16.size + 1) (HL2.size + 1) := Dj.new ow17.le
        have df67 := (DF.new (bf_hc.mono (by omega)) : DF _ (HL2.size + 1))
        have dj68 : Dj (H18.size + 1) (HL2.size + 1) := Dj.new hgm.lt
        have dj69 : Dj (ab + 1) (HL2.size + 1) := Dj.new ha.le
        have dj70 : Dj k30 (HL2.size + 1) := Dj.new oo.le
        have dj71 : Dj (HL1.size + 1) (HL2.size + 1) := Dj.new vi.lt
        have df72 := (DF.new (bf_pt42.mono (by omega)) : DF _ (HL2.size + 1))
        have nx73 : Nx 0 H0.size (HL2.size + 1) := Nx.new hm0.size
        have nx74 : Nx 0 H30.size (HL2.size + 1) := Nx.new hlm1.size
        have nx75 : Nx 0 H7_3.size (HL2.size + 1) := Nx.new hlm2.size
        replace hv := hv.nw hs12
        replace hsr := hsr.nw hs12
        replace va := va.nw hs12
        replace ow16 := ow16.nw hs12
        replace ow17 := ow17.nw hs12
        replace hc := hc.nw hs12
        replace hgm := hgm.nw hs12
        replace ha := ha.nw hs12
        replace oo := oo.nw hs12
        replace vi := vi.nw hs12
        replace pt42 := pt42.nw hs12
        replace hm0 := hm0.trN hs12
        replace hlm1 := hlm1.trN hs12
        replace hlm2 := hlm2.trN hs12
        have hz13 := hs12.size
        replace vp : Var 30 H12 HL2.size (fA Zid) := vp
        refine LR.s (S.var vp (_) (fA (p)) rfl rfl rfl rfl (fA_one _) Try.sizeOf30 (fA_len _) (by first | decide | simp [fA_len]) ((splice_all2 (by first | exact (fA_len _).symm | rfl | exact (fA_len _).trans (fA_len _).symm)))) (Wd.u rfl) rfl (fun H10_3 r10_3 => ?_)
        obtain ⟨vp, hs10_3⟩ := r10_3
        replace hs10_3 := hs10_3.md1
        replace hv := hv.upL hs10_3 (DL.cons dj62 DL.nil)
        replace hsr := hsr.upL hs10_3 (DFL.cons df63 DFL.nil)
        replace va := va.upL hs10_3 (DL.cons dj64 DL.nil)
        replace ow16 := ow16.upL hs10_3 (DL.cons dj65 DL.nil)
        replace ow17 := ow17.upL hs10_3 (DL.cons dj66 DL.nil)
        replace hc := hc.upL hs10_3 (DFL.cons df67 DFL.nil)
        replace hgm := hgm.upL hs10_3 (DL.cons dj68 DL.nil)
        replace ha := ha.upL hs10_3 (DL.cons dj69 DL.nil)
        replace oo := oo.upL hs10_3 (DL.cons dj70 DL.nil)
        replace vi := vi.upL hs10_3 (DL.cons dj71 DL.nil)
        replace pt42 := pt42.upL hs10_3 (DFL.cons df72 DFL.nil)
        replace hm0 := hm0.trL hs10_3 (MIL.cons (MI.app MI.z (nx73) (Nat.le_refl _)) MIL.nil)
        replace hlm1 := hlm1.trL hs10_3 (MIL.cons (MI.app MI.z (nx74) (Nat.le_refl _)) MIL.nil)
        replace hlm2 := hlm2.trL hs10_3 (MIL.cons (MI.app MI.z (nx75) (Nat.le_refl _)) MIL.nil)
        have hz14 := hs10_3.size
        refine LR.nil ?_
        refine hK23 _ _ ?_
        refine CW.region_tail 10 rfl (by kernel_rfl) (fun T11 hT11 => ?_)
        refine LR.v (Y.move rfl rfl) (Wd.u rfl) rfl rfl ?_
        refine LR.v (Y.loadN vi.pt rfl Try.isAgg30 Try.sizeOf30 (fA_len _) rfl) (Wd.u rfl) rfl rfl ?_
        refine LR.v (Y.move rfl rfl) (Wd.u rfl) rfl rfl ?_
        refine LR.v (Y.loadN vi.pt rfl Try.isAgg30 Try.sizeOf30 (fA_len _) rfl) (Wd.u rfl) rfl rfl ?_
        refine LR.v (Y.cast (v2 := .int .i64 ((gmax g ((cpa So.pa (m.map (·.1)) x).take q2) : Nat) : Int)) (Y.lookupA hgm.mo keyId rfl Try.runUnderlying72 Try.zeroValue3 rfl rfl) (congrArg (Value.int .i64) hg48)) (Wd.u rfl) rfl rfl ?_
        refine LR.v (Y.move rfl rfl) (Wd.u rfl) rfl rfl ?_
        refine LR.v (Y.loadN vp.pt rfl Try.isAgg30 Try.sizeOf30 (fA_len _) rfl) (Wd.u rfl) rfl rfl ?_
        refine LR.v (Y.cast (v2 := .int .i64 (g p : Int)) (Y.lookupA hgm.mo keyId rfl Try.runUnderlying72 Try.zeroValue3 rfl rfl) (congrArg (Value.int .i64) hg51)) (Wd.u rfl) rfl rfl ?_
        refine LR.v (Y.addi rfl rfl rfl (by omega)) (Wd.u rfl) rfl rfl ?_
        refine LR.v (Y.cast (v2 := .int .i64 ((gmax g ((cpa So.pa (m.map (·.1)) x).take (q2 + 1)) : Nat) : Int)) (Y.maxi rfl rfl rfl) (congrArg (Value.int .i64) (by rw [hts, gmax_snoc]; omega))) (Wd.u rfl) rfl rfl ?_
        refine LR.nil (hT11 _ ?_)
        refine LR.s (S.putA (((gmax g ((cpa So.pa (m.map (·.1)) x).take (q2 + 1)) : Nat) : Int)) hgm keyId rfl Try.runUnderlying72 rfl rfl rfl) (Wd.u rfl) rfl (fun H11_10 r11_10 => ?_)
        obtain ⟨hgm, hs11_10⟩ := r11_10
        replace hs11_10 := hs11_10.md1
        replace hv := hv.upL hs11_10 (DL.cons dj17 DL.nil)
        replace hsr := hsr.upL hs11_10 (DFL.cons df18 DFL.nil)
        replace va := va.upL hs11_10 (DL.cons dj19 DL.nil)
        replace ow16 := ow16.upL hs11_10 (DL.cons dj20 DL.nil)
        replace ow17 := ow17.upL hs11_10 (DL.cons dj21 DL.nil)
        replace hc := hc.upL hs11_10 (DFL.cons df22 DFL.nil)
        replace ha := ha.upL hs11_10 (DL.cons dj38.symm DL.nil)
        replace oo := oo.upL hs11_10 (DL.cons dj47.symm DL.nil)
        replace vi := vi.upL hs11_10 (DL.cons dj57.symm DL.nil)
        replace vp := vp.upL hs11_10 (DL.cons dj68.symm DL.nil)
        replace hm0 := hm0.trL hs11_10 (MIL.cons (MI.app MI.z (nx23) (Nat.le_refl _)) MIL.nil)
        replace hlm1 := hlm1.trL hs11_10 (MIL.cons (MI.app (MI.root (by simp)) (nx_hlm1_hgm) (Nat.le_refl _)) MIL.nil)
        replace hlm2 := hlm2.trL hs11_10 (MIL.cons (MI.app (MI.root (by simp)) (nx_hlm2_hgm) (Nat.le_refl _)) MIL.nil)
        have hz15 := hs11_10.size
        refine LR.nil ?_
        refine hK22 _ _ ?_
        refine hK21 _ _ ?_
        refine CW.region ?_
        refine LR.v (Y.addi rfl rfl rfl (by omega)) (Wd.u rfl) rfl rfl ?_
        refine LR.v (Y.move rfl rfl) (Wd.u rfl) rfl rfl ?_
        refine LR.nil ?_
        refine QN.sub (hN18 (q2 + 1, mput gm2 x ((gmax g ((cpa So.pa (m.map (·.1)) x).take (q2 + 1)) : Nat) : Int)) _ ?_ ?_) ⟨rfl, rfl, rfl, rfl, rfl, (iv (by omega)), (iv (by omega)), rfl, (iv (by omega)), (iv (by omega)), trivial⟩
        · exact ⟨hgm, (by omega), fun k => by
            rw [mget_put]
            by_cases h1 : k = x
            · subst h1; rw [if_pos rfl, if_neg hxn, if_pos rfl]; rfl
            · rw [if_neg h1, hG2 k, if_neg h1, if_neg h1], hlm2⟩
        · first | omega | (simp only; omega) | (simp; omega)
      ·
        have hqe : q2 = (cpa So.pa (m.map (·.1)) x).length := by omega
        rw [hqe] at hG2
        refine CW.exit (hE20 (.exit 2) nofun _ _ (hE18 (.exit 2) nofun _ _ (hX17 _ _ ?_)))
        refine hK14 _ _ ?_
        refine hK13 _ _ ?_
        refine CW.region ?_
        refine LR.v (Y.addi rfl rfl rfl (by omega)) (Wd.u rfl) rfl rfl ?_
        refine LR.v (Y.move rfl rfl) (Wd.u rfl) rfl rfl ?_
        refine LR.nil ?_
        refine QN.sub (hN10 (j + 1, gm2) _ ?_ ?_) ⟨rfl, rfl, rfl, rfl, (iv (by omega)), (iv (by omega)), trivial⟩
        · exact ⟨hgm, (by omega), fun k => by
            rw [hG2 k, List.take_length, List.take_succ_eq_append_getElem hjl, ← hx]
            by_cases h1 : k ∈ out.take j
            · rw [if_pos h1, if_pos (List.mem_append_left _ h1)]
            · rw [if_neg h1]
              by_cases h2 : k = x
              · subst h2; rw [if_pos rfl, if_pos (by simp), hgx]
              · rw [if_neg h2, if_neg (by simp [h1, h2])], hlm1⟩
        · first | omega | (simp only; omega) | (simp; omega)
    ·
      have hje : j = out.length := by omega
      rw [hje, List.take_length] at hG
      have hga := hG a
      rw [if_pos (hT.all a ((hU a).2 ⟨a, by simp, .refl⟩))] at hga
      refine CW.exit (hE12 (.exit 0) nofun _ _ (hE10 (.exit 0) nofun _ _ (hX9 _ _ ?_)))
      refine hK7 _ _ ?_
      refine CW.seq (fun K24 hK24 hE24 => ?_)
      refine CW.region ?_
      refine LR.v (Y.move rfl rfl) (Wd.u rfl) rfl rfl ?_
      refine LR.v (Y.loadN va.pt rfl Try.isAgg30 Try.sizeOf30 (fA_len _) rfl) (Wd.u rfl) rfl rfl ?_
      refine LR.v (Y.cast (v2 := .int .i64 (g a : Int)) (Y.lookupA hgm.mo keyId rfl Try.runUnderlying72 Try.zeroValue3 rfl rfl) (congrArg (Value.int .i64) hga)) (Wd.u rfl) rfl rfl ?_
      refine LR.v (Y.assign rfl rfl) (Wd.u rfl) rfl rfl ?_
      refine LR.v (Y.assign rfl rfl) (Wd.u rfl) rfl rfl ?_
      refine LR.nil ?_
      refine hK24 _ _ ?_
      refine CW.ret (hret .ret (.inr rfl) _ _ _ (res2 rfl rfl rfl) ?_)
      exact ⟨g a, 0, q, rfl, hv, ⟨⟨_, hA, fun _ => by rw [List.length_map]; exact hq.1 rfl⟩, fun _ => rfl, fun h => absurd rfl h⟩, by omega, hm0⟩

set_option maxHeartbeats 4000000 in
theorem ord_ct (So : Sou) (sb n : Nat) (F : Nat → Prop) (s1 s2 : SV) (fr un : List Ide) (rk : Ide → Nat) (w0 : World) (H0 : Heap)
    (hv : Var So.e H0 sb (So.cs n)) (hsr : SRd F H0 So) (bf_hsr : BF F H0.size) (dfs : DF F (sb + 1)) (hok : So.ok) (hn : n ≤ 800000000) (hf : Rd (fun b => b ≠ sb) H0 fA 32 s1.v fr) (hu : Rd (fun b => b ≠ sb) H0 fA 32 s2.v un) (hfl : fr.length + un.length ≤ 1000000) (hac : ∀ k ps, So.pa k = some ps → ∀ p ∈ ps, rk p < rk k) :
    Ct Try.prog w0 13 #[So.v sb, s1.v, s2.v] H0 (fun r H2 => ∃ s : SV, ∃ k : Nat, ∃ out : List Ide, ∃ e : Nat, ∃ q : Nat, r = .tuple #[s.v, eV e] ∧ (Ow k 30 H2 fA 32 s.v out) ∧ (Nx 0 H0.size k) ∧ (Var So.e H2 sb (So.cs q)) ∧ ((e = 0 ∧ Ord So.pa fr un out) ∨ (e ≠ 0 ∧ out = [] ∧ ∃ K, AllR So.pa (fr ++ un) K e)) ∧ (q ≤ n + 5001) ∧ Mo (Ms [(sb + 1)]) H0 H2) := by
  refine Ct.enter (args := [So.v sb, s1.v, s2.v]) Try.func13 rfl rfl rfl ?_
  intro Q0 hret
  have hm0 : Mo (Ms [(sb + 1)]) H0 H0 := Mo.refl _ _
  have nx_hm0_hv := Nx.refl (sb + 1) H0.size
  have hlt_hv := hv.lt
  replace hf := hf.bnd
  have bf_hf := hf.bf
  replace hu := hu.bnd
  have bf_hu := hu.bf
  have df_hf_hv : DF (fun b => b ≠ sb ∧ b < H0.size) (sb + 1) := fun b h => by have h1 := h.1; omega
  have df_hu_hv : DF (fun b => b ≠ sb ∧ b < H0.size) (sb + 1) := fun b h => by have h1 := h.1; omega
  refine CW.seq (fun K1 hK1 hE1 => ?_)
  refine CW.region ?_
  refine LR.v (Y.assign rfl rfl) (Wd.u rfl) rfl rfl ?_
  refine LR.v (Y.assign rfl rfl) (Wd.u rfl) rfl rfl ?_
  refine LR.nil ?_
  refine hK1 _ _ ?_
  refine CW.seq (fun K2 hK2 hE2 => ?_)
  refine CW.region ?_
  refine LR.v (Y.move rfl rfl) (Wd.u rfl) rfl rfl ?_
  refine LR.v (Y.move rfl rfl) (Wd.u rfl) rfl rfl ?_
  refine LR.v (Y.move rfl rfl) (Wd.u rfl) rfl rfl ?_
  refine LR.z (Z.litw _ ([(s1, fr), (s2, un)]) rfl inf92 rfl rfl rfl (by decide) (by decide) fLs_len fLs_one (rfl)) (Wd.u rfl) rfl rfl (fun v16 H16 r16 => ?_)
  obtain ⟨ow16, hs16, ob16, hH16⟩ := r16
  have hzs16 : H16.size = H0.size + 1 := by rw [hH16]; simp
  have dj1 : Dj (sb + 1) (H0.size + 1) := Dj.new hv.lt
  have df2 := (DF.new (bf_hsr.mono hm0.size) : DF _ (H0.size + 1))
  have df3 := (DF.new (bf_hf.mono hm0.size) : DF _ (H0.size + 1))
  have df4 := (DF.new (bf_hu.mono hm0.size) : DF _ (H0.size + 1))
  have nx5 : Nx 0 H0.size (H0.size + 1) := Nx.new hm0.size
  replace hv := hv.nw hs16
  replace hsr := hsr.nw hs16
  replace hf := hf.nw hs16
  replace hu := hu.nw hs16
  replace hm0 := hm0.trN hs16
  have hz1 := hs16.size
  -- call selvage/graph.all
  refine LR.call rfl Try.call27 rfl (Wd.u rfl) rfl rfl (all_ct So sb n _ _ [(s1, fr), (s2, un)] w0 _ hv hsr (bf_hsr.mono hm0.size) dfs hok (by omega) (Ow.ne ow16 (dj1)) (by simp) (fun x hx => by simp only [List.mem_cons, List.not_mem_nil, or_false] at hx; rcases hx with rfl | rfl; exact hf.imp (fun b _ h => h.1); exact hu.imp (fun b _ h => h.1)) (by simp; omega)) (fun v17 H17 r17 => ?_)
  obtain ⟨vc, m, e, q, rfl, hc, hv, hA, hq, hs17⟩ := r17
  replace hsr := hsr.upL hs17 (DFL.cons dfs DFL.nil)
  replace hf := hf.upL hs17 (DFL.cons df_hf_hv DFL.nil)
  replace hu := hu.upL hs17 (DFL.cons df_hu_hv DFL.nil)
  replace ow16 := ow16.upL hs17 (DL.cons dj1.symm DL.nil)
  replace hm0 := hm0.trL hs17 (MIL.cons (MI.app (MI.root (by simp)) (nx_hm0_hv) (Nat.le_refl _)) MIL.nil)
  have hz2 := hs17.size
  replace hc := hc.bnd
  have bf_hc := hc.bf
  have df6 : DF (fun b => H16.size ≤ b ∧ b < H17.size) (sb + 1) := DF.above (fun b h => h.1) (by first | exact hle_hv | exact hlt_hv | omega)
  have df7 : DF (fun b => H16.size ≤ b ∧ b < H17.size) (H0.size + 1) := DF.above (fun b h => h.1) (by first | exact hle_ow16 | exact hlt_ow16 | omega)
  replace hA : AllR So.pa (fr ++ un) (m.map (·.1)) e := by simpa using hA
  refine LR.v (Y.move rfl rfl) (Wd.u rfl) rfl rfl ?_
  refine LR.v (Y.extract rfl rfl rfl) (Wd.u rfl) rfl rfl ?_
  refine LR.v (Y.extract rfl rfl rfl) (Wd.u rfl) rfl rfl ?_
  refine LR.v (Y.assign rfl rfl) (Wd.u rfl) rfl rfl ?_
  refine LR.v (Y.assign rfl rfl) (Wd.u rfl) rfl rfl ?_
  refine LR.nil ?_
  refine hK2 _ _ ?_
  refine CW.seq (fun K3 hK3 hE3 => ?_)
  refine CW.seq (fun K4 hK4 hE4 => ?_)
  refine CW.region ?_
  refine LR.v (Y.move rfl rfl) (Wd.u rfl) rfl rfl ?_
  refine LR.v (Y.ene rfl Try.underlying33 rfl) (Wd.u rfl) rfl rfl ?_
  refine LR.nil ?_
  refine hK4 _ _ ?_
  refine CW.condp rfl (fun c21 => ?_) (fun c21 => ?_)
  ·
    refine CW.seq (fun K5 hK5 hE5 => ?_)
    refine CW.region ?_
    refine LR.v (Y.move rfl rfl) (Wd.u rfl) rfl rfl ?_
    refine LR.v (Y.assign rfl rfl) (Wd.u rfl) rfl rfl ?_
    refine LR.v (Y.assign rfl rfl) (Wd.u rfl) rfl rfl ?_
    refine LR.nil ?_
    refine hK5 _ _ ?_
    refine CW.ret (hE3 .ret nofun _ _ (hret .ret (.inr rfl) _ _ _ (res2 rfl rfl rfl) ?_))
    exact ⟨⟨none, 0, 0⟩, 0, [], e, q, rfl, Ow.nil fA_len fA_one, Nx.refl _ _, hv, .inr ⟨c21, rfl, _, hA⟩, by omega, hm0⟩
  ·
    obtain rfl : e = 0 := by omega
    replace hc := hc.get rfl
    have hco := cok_of hok hA
    obtain ⟨_, _, hstK, _, _⟩ := all0 hA
    have hml := hco.le
    have hfK : ∀ k ∈ fr, k ∈ m.map (·.1) := fun k hk => hstK k (List.mem_append_left _ hk)
    have huK : ∀ k ∈ un, k ∈ m.map (·.1) := fun k hk => hstK k (List.mem_append_right _ hk)
    refine CW.skip ?_
    refine hK3 _ _ ?_
    refine CW.seq (fun K6 hK6 hE6 => ?_)
    refine CW.region ?_
    refine LR.v (Y.move rfl rfl) (Wd.u rfl) rfl rfl ?_
    refine LR.v (Y.move rfl rfl) (Wd.u rfl) rfl rfl ?_
    -- call (selvage/graph.commits).above
    refine LR.call rfl Try.call28 rfl (Wd.u rfl) rfl rfl (above_ct _ _ _ _ _ fr w0 _ hc (bf_hc.mono (by omega)) hco hf.any hfK (by omega)) (fun v25 H25 r25 => ?_)
    obtain ⟨a1, mm, rfl, h1, hk1, hU1, hs25⟩ := r25
    have dj8 : Dj (sb + 1) (a1 + 1) := Dj.app (Dj.z) hv.lt hk1
    have df9 := DF.app (DF.z) (bf_hsr.mono hm0.size) hk1
    have df10 := DF.app (DF.z) (bf_hf.mono hm0.size) hk1
    have df11 := DF.app (DF.z) (bf_hu.mono hm0.size) hk1
    have dj12 : Dj (H0.size + 1) (a1 + 1) := Dj.app (Dj.z) ow16.le hk1
    have df13 := DF.app (DF.z) (bf_hc.mono (by omega)) hk1
    have nx14 : Nx 0 H0.size (a1 + 1) := Nx.tr (Nx.refl 0 _) hk1 hm0.size
    replace hv := hv.nw hs25
    replace hsr := hsr.nw hs25
    replace hf := hf.nw hs25
    replace hu := hu.nw hs25
    replace ow16 := ow16.nw hs25
    replace hc := hc.nw hs25
    replace hm0 := hm0.trN hs25
    have hz3 := hs25.size
    have hle_h1 := h1.le
    refine LR.v (Y.assign rfl rfl) (Wd.u rfl) rfl rfl ?_
    refine LR.nil ?_
    refine hK6 _ _ ?_
    refine CW.seq (fun K7 hK7 hE7 => ?_)
    refine CW.seq (fun K8 hK8 hE8 => ?_)
    refine CW.region ?_
    refine LR.v (Y.move rfl rfl) (Wd.u rfl) rfl rfl ?_
    refine LR.v (Y.move rfl rfl) (Wd.u rfl) rfl rfl ?_
    -- call (selvage/graph.commits).above
    refine LR.call rfl Try.call28 rfl (Wd.u rfl) rfl rfl (above_ct _ _ _ _ _ un w0 _ hc (bf_hc.mono (by omega)) hco hu.any huK (by omega)) (fun v28 H28 r28 => ?_)
    obtain ⟨a2, mu, rfl, h2, hk2, hU2, hs28⟩ := r28
    have dj15 : Dj (sb + 1) (a2 + 1) := Dj.app (Dj.z) hv.lt hk2
    have df16 := DF.app (DF.z) (bf_hsr.mono hm0.size) hk2
    have df17 := DF.app (DF.z) (bf_hf.mono hm0.size) hk2
    have df18 := DF.app (DF.z) (bf_hu.mono hm0.size) hk2
    have dj19 : Dj (H0.size + 1) (a2 + 1) := Dj.app (Dj.z) ow16.le hk2
    have df20 := DF.app (DF.z) (bf_hc.mono (by omega)) hk2
    have dj21 : Dj (a1 + 1) (a2 + 1) := Dj.app (Dj.z) h1.le hk2
    have nx22 : Nx 0 H0.size (a2 + 1) := Nx.tr (Nx.refl 0 _) hk2 hm0.size
    replace hv := hv.nw hs28
    replace hsr := hsr.nw hs28
    replace hf := hf.nw hs28
    replace hu := hu.nw hs28
    replace ow16 := ow16.nw hs28
    replace hc := hc.nw hs28
    replace h1 := h1.nw hs28
    replace hm0 := hm0.trN hs28
    have hz4 := hs28.size
    have hle_h2 := h2.le
    obtain ⟨es, ck, h2⟩ := h2.raw
    refine LR.z (Z.rangeA h2 rfl Try.runUnderlying72 rfl) (Wd.u rfl) rfl rfl (fun v29 H29 r29 => ?_)
    obtain ⟨rfl, it, hs29, ob29, hH29⟩ := r29
    have hzs29 : H29.size = H28.size + 1 := by rw [hH29]; simp
    have dj23 : Dj (sb + 1) (H28.size + 1) := Dj.new hv.lt
    have df24 := (DF.new (bf_hsr.mono hm0.size) : DF _ (H28.size + 1))
    have df25 := (DF.new (bf_hf.mono hm0.size) : DF _ (H28.size + 1))
    have df26 := (DF.new (bf_hu.mono hm0.size) : DF _ (H28.size + 1))
    have dj27 : Dj (H0.size + 1) (H28.size + 1) := Dj.new ow16.le
    have df28 := (DF.new (bf_hc.mono (by omega)) : DF _ (H28.size + 1))
    have dj29 : Dj (a1 + 1) (H28.size + 1) := Dj.new h1.le
    have dj30 : Dj (a2 + 1) (H28.size + 1) := Dj.new h2.le
    have nx31 : Nx 0 H0.size (H28.size + 1) := Nx.new hm0.size
    replace hv := hv.nw hs29
    replace hsr := hsr.nw hs29
    replace hf := hf.nw hs29
    replace hu := hu.nw hs29
    replace ow16 := ow16.nw hs29
    replace hc := hc.nw hs29
    replace h1 := h1.nw hs29
    replace h2 := h2.nw hs29
    replace hm0 := hm0.trN hs29
    have hz5 := hs29.size
    have hlt_it := it.lt
    refine LR.nil ?_
    refine hK8 _ _ ?_
    refine CW.block (fun K9 hK9 hX9 hE9 => ?_)
    refine CW.loop (fun (s_ : (List Ide) × (List (Ide × Int))) => match s_ with | (dn, mk) => [(8, vc), (10, .map (some a1)), (29, .pointer (some ⟨H28.size, 0, none⟩))])
      (fun (s_ : (List Ide) × (List (Ide × Int))) (H : Heap) => match s_ with | (dn, mk) => (Itr H H28.size a2 vA es ck dn) ∧ (Mp H vA (Value.int .i64) a1 mk) ∧ (∀ k, (mget mk k).isSome = true ↔ (mget mm k).isSome = true ∧ k ∉ dn) ∧ (dn.Nodup ∧ ∀ k ∈ dn, k ∈ mu.map (·.1)) ∧ Mo (Ms [(H28.size + 1), (a1 + 1)]) H29 H)
      (fun (s_ : (List Ide) × (List (Ide × Int))) => match s_ with | (dn, mk) => mu.length - dn.length) ([], mm) ⟨rfl, rfl, rfl, trivial⟩ ?_ ?_
    ·
      exact ⟨it, h1, fun k => by simp, ⟨List.nodup_nil, by simp⟩, Mo.refl _ _⟩
    rintro ⟨dn, mk⟩ HL1 hI1 K10 hN10 hE10
    obtain ⟨it, h1, hD, hdn, hlm1⟩ := hI1
    replace hv := hv.upL hlm1 (DL.cons dj23 (DL.cons dj8 DL.nil))
    replace hsr := hsr.upL hlm1 (DFL.cons df24 (DFL.cons df9 DFL.nil))
    replace hf := hf.upL hlm1 (DFL.cons df25 (DFL.cons df10 DFL.nil))
    replace hu := hu.upL hlm1 (DFL.cons df26 (DFL.cons df11 DFL.nil))
    replace ow16 := ow16.upL hlm1 (DL.cons dj27 (DL.cons dj12 DL.nil))
    replace hc := hc.upL hlm1 (DFL.cons df28 (DFL.cons df13 DFL.nil))
    replace h2 := h2.upL hlm1 (DL.cons dj30 (DL.cons dj21.symm DL.nil))
    replace hm0 := hm0.trL hlm1 (MIL.cons (MI.app MI.z (nx31) (Nat.le_refl _)) (MIL.cons (MI.app MI.z (nx14) (Nat.le_refl _)) MIL.nil))
    have hz6 := hlm1.size
    have nx_hlm1_it := Nx.refl (H28.size + 1) H29.size
    have nx_hlm1_h1 := Nx.refl (a1 + 1) H29.size
    refine CW.seq (fun K11 hK11 hE11 => ?_)
    refine CW.region ?_
    refine LR.z (Z.nextA it h2 keyId.inj rfl rfl) (Wd.u rfl) rfl rfl (fun v30 H30 r30 => ?_)
    obtain ⟨qb, x, y, dn2, rfl, it, hT30, hF30, hs30⟩ := r30
    replace hs30 := hs30.md1
    replace hv := hv.upL hs30 (DL.cons dj23 DL.nil)
    replace hsr := hsr.upL hs30 (DFL.cons df24 DFL.nil)
    replace hf := hf.upL hs30 (DFL.cons df25 DFL.nil)
    replace hu := hu.upL hs30 (DFL.cons df26 DFL.nil)
    replace ow16 := ow16.upL hs30 (DL.cons dj27 DL.nil)
    replace hc := hc.upL hs30 (DFL.cons df28 DFL.nil)
    replace h1 := h1.upL hs30 (DL.cons dj29 DL.nil)
    replace h2 := h2.upL hs30 (DL.cons dj30 DL.nil)
    replace hm0 := hm0.trL hs30 (MIL.cons (MI.app MI.z (nx31) (Nat.le_refl _)) MIL.nil)
    replace hlm1 := hlm1.trL hs30 (MIL.cons (MI.app (MI.root (by simp)) (nx_hlm1_it) (Nat.le_refl _)) MIL.nil)
    have hz7 := hs30.size
    refine LR.v (Y.ext0 rfl rfl) (Wd.u rfl) rfl rfl ?_
    refine LR.nil ?_
    refine hK11 _ _ ?_
    refine CW.seq (fun K12 hK12 hE12 => ?_)
    refine CW.cond rfl (fun c31 => ?_) (fun c31 => ?_)
    ·
      obtain ⟨hxy, hnd, hdq⟩ := hT30 c31
      rw [hdq] at it
      refine CW.skip ?_
      refine hK12 _ _ ?_
      refine CW.block (fun K13 hK13 hX13 hE13 => ?_)
      refine CW.seq (fun K14 hK14 hE14 => ?_)
      refine CW.region ?_
      refine LR.v (Y.entryA it h2 keyId.inj hxy rfl rfl) (Wd.u rfl) rfl rfl ?_
      refine LR.v (Y.extract rfl rfl rfl) (Wd.u rfl) rfl rfl ?_
      refine LR.z (Z.allocv rfl Try.zeroValue30) (Wd.u rfl) rfl rfl (fun v11 H11 r11 => ?_)
      obtain ⟨rfl, vi, hs11, ob11, hH11⟩ := r11
      have hzs11 : H11.size = H30.size + 1 := by rw [hH11]; simp
      have dj32 : Dj (sb + 1) (H30.size + 1) := Dj.new hv.lt
      have df33 := (DF.new (bf_hsr.mono hm0.size) : DF _ (H30.size + 1))
      have df34 := (DF.new (bf_hf.mono hm0.size) : DF _ (H30.size + 1))
      have df35 := (DF.new (bf_hu.mono hm0.size) : DF _ (H30.size + 1))
      have dj36 : Dj (H0.size + 1) (H30.size + 1) := Dj.new ow16.le
      have df37 := (DF.new (bf_hc.mono (by omega)) : DF _ (H30.size + 1))
      have dj38 : Dj (a1 + 1) (H30.size + 1) := Dj.new h1.le
      have dj39 : Dj (a2 + 1) (H30.size + 1) := Dj.new h2.le
      have dj40 : Dj (H28.size + 1) (H30.size + 1) := Dj.new it.lt
      have nx41 : Nx 0 H0.size (H30.size + 1) := Nx.new hm0.size
      have nx42 : Nx 0 H29.size (H30.size + 1) := Nx.new hlm1.size
      replace hv := hv.nw hs11
      replace hsr := hsr.nw hs11
      replace hf := hf.nw hs11
      replace hu := hu.nw hs11
      replace ow16 := ow16.nw hs11
      replace hc := hc.nw hs11
      replace h1 := h1.nw hs11
      replace h2 := h2.nw hs11
      replace it := it.nw hs11
      replace hm0 := hm0.trN hs11
      replace hlm1 := hlm1.trN hs11
      have hz8 := hs11.size
      replace vi : Var 30 H11 H30.size (fA Zid) := vi
      refine LR.s (S.var vi (_) (fA (x)) rfl rfl rfl rfl (fA_one _) Try.sizeOf30 (fA_len _) (by first | decide | simp [fA_len]) ((splice_all2 (by first | exact (fA_len _).symm | rfl | exact (fA_len _).trans (fA_len _).symm)))) (Wd.u rfl) rfl (fun H7_3 r7_3 => ?_)
      obtain ⟨vi, hs7_3⟩ := r7_3
      replace hs7_3 := hs7_3.md1
      replace hv := hv.upL hs7_3 (DL.cons dj32 DL.nil)
      replace hsr := hsr.upL hs7_3 (DFL.cons df33 DFL.nil)
      replace hf := hf.upL hs7_3 (DFL.cons df34 DFL.nil)
      replace hu := hu.upL hs7_3 (DFL.cons df35 DFL.nil)
      replace ow16 := ow16.upL hs7_3 (DL.cons dj36 DL.nil)
      replace hc := hc.upL hs7_3 (DFL.cons df37 DFL.nil)
      replace h1 := h1.upL hs7_3 (DL.cons dj38 DL.nil)
      replace h2 := h2.upL hs7_3 (DL.cons dj39 DL.nil)
      replace it := it.upL hs7_3 (DL.cons dj40 DL.nil)
      replace hm0 := hm0.trL hs7_3 (MIL.cons (MI.app MI.z (nx41) (Nat.le_refl _)) MIL.nil)
      replace hlm1 := hlm1.trL hs7_3 (MIL.cons (MI.app MI.z (nx42) (Nat.le_refl _)) MIL.nil)
      have hz9 := hs7_3.size
      refine LR.nil ?_
      refine hK14 _ _ ?_
      refine CW.region ?_
      refine LR.v (Y.move rfl rfl) (Wd.u rfl) rfl rfl ?_
      refine LR.v (Y.loadN vi.pt rfl Try.isAgg30 Try.sizeOf30 (fA_len _) rfl) (Wd.u rfl) rfl rfl ?_
      refine LR.zn (Z.delA h1 keyId rfl Try.runUnderlying72 rfl rfl) (Wd.u rfl) rfl (fun v8_2 H8_2 r8_2 => ?_)
      obtain ⟨rfl, h1, hs8_2⟩ := r8_2
      replace hs8_2 := hs8_2.md1
      replace hv := hv.upL hs8_2 (DL.cons dj8 DL.nil)
      replace hsr := hsr.upL hs8_2 (DFL.cons df9 DFL.nil)
      replace hf := hf.upL hs8_2 (DFL.cons df10 DFL.nil)
      replace hu := hu.upL hs8_2 (DFL.cons df11 DFL.nil)
      replace ow16 := ow16.upL hs8_2 (DL.cons dj12 DL.nil)
      replace hc := hc.upL hs8_2 (DFL.cons df13 DFL.nil)
      replace h2 := h2.upL hs8_2 (DL.cons dj21.symm DL.nil)
      replace it := it.upL hs8_2 (DL.cons dj29.symm DL.nil)
      replace vi := vi.upL hs8_2 (DL.cons dj38.symm DL.nil)
      replace hm0 := hm0.trL hs8_2 (MIL.cons (MI.app MI.z (nx14) (Nat.le_refl _)) MIL.nil)
      replace hlm1 := hlm1.trL hs8_2 (MIL.cons (MI.app (MI.root (by simp)) (nx_hlm1_h1) (Nat.le_refl _)) MIL.nil)
      have hz10 := hs8_2.size
      refine LR.nil ?_
      refine hK13 _ _ ?_
      have hdn2 : (dn ++ [x]).Nodup ∧ ∀ k ∈ dn ++ [x], k ∈ mu.map (·.1) := by
        refine ⟨?_, fun k hk => ?_⟩
        · rw [List.nodup_append]
          exact ⟨hdn.1, by simp, fun a ha b hb e => by simp only [List.mem_singleton] at hb; subst hb; subst e; exact hnd ha⟩
        · rcases List.mem_append.1 hk with hk | hk
          · exact hdn.2 k hk
          · rw [List.mem_singleton.1 hk]; exact List.mem_map.2 ⟨_, hxy, rfl⟩
      have hdl2 := nodup_le hdn2.1 hdn2.2
      rw [List.length_append, List.length_map, List.length_singleton] at hdl2
      refine QN.sub (hN10 (dn ++ [x], mdel mk x) _ ?_ ?_) ⟨rfl, rfl, rfl, trivial⟩
      · exact ⟨it, h1, fun k => by
          rw [mget_del]
          by_cases h1 : k = x
          · subst h1; simp
          · rw [if_neg h1, hD k]; simp [h1], hdn2, hlm1⟩
      · simp <;> omega
    ·
      obtain ⟨hall, hdq⟩ := hF30 c31
      have hkk : ∀ k, k ∈ mk.map (·.1) ↔ (∃ i ∈ fr, UpO So.pa i k) ∧ ¬ ∃ i ∈ un, UpO So.pa i k := fun k => by
        have h9 : k ∈ dn ↔ k ∈ mu.map (·.1) := ⟨hdn.2 k, fun h => by obtain ⟨p, hp, rfl⟩ := List.mem_map.1 h; exact hall p hp⟩
        rw [← isSome_iff_key, hD k, isSome_iff_key, h9, hU1, hU2, up_list hA hfK, up_list hA huK]
      have hmk5 := nodup_le h1.mo.nodup (fun k hk => by obtain ⟨i, hi, hu9⟩ := ((hkk k).1 hk).1; exact up_in hA (hfK i hi) hu9)
      rw [List.length_map, List.length_map] at hmk5
      refine CW.exit (hE12 (.exit 0) nofun _ _ (hE10 (.exit 0) nofun _ _ (hX9 _ _ ?_)))
      refine hK7 _ _ ?_
      refine CW.seq (fun K15 hK15 hE15 => ?_)
      refine CW.region ?_
      refine LR.v (Y.move rfl rfl) (Wd.u rfl) rfl rfl ?_
      refine LR.v (Y.move rfl rfl) (Wd.u rfl) rfl rfl ?_
      -- call (selvage/graph.commits).order
      refine LR.call rfl Try.call29 rfl (Wd.u rfl) rfl rfl (order_ct _ _ _ _ a1 mk rk w0 _ hc (bf_hc.mono (by omega)) hco h1 (by omega) (cpa_ac hac)) (fun v38 H38 r38 => ?_)
      obtain ⟨s38, k38, out, rfl, oo, hk38, hT, hs38⟩ := r38
      have dj43 : Dj (sb + 1) k38 := Dj.app (Dj.z) hv.lt hk38
      have df44 := DF.app (DF.z) (bf_hsr.mono hm0.size) hk38
      have df45 := DF.app (DF.z) (bf_hf.mono hm0.size) hk38
      have df46 := DF.app (DF.z) (bf_hu.mono hm0.size) hk38
      have dj47 : Dj (H0.size + 1) k38 := Dj.app (Dj.z) ow16.le hk38
      have df48 := DF.app (DF.z) (bf_hc.mono (by omega)) hk38
      have dj49 : Dj (a1 + 1) k38 := Dj.app (Dj.z) h1.le hk38
      have dj50 : Dj (a2 + 1) k38 := Dj.app (Dj.z) h2.le hk38
      have dj51 : Dj (H28.size + 1) k38 := Dj.app (Dj.z) it.lt hk38
      have nx52 : Nx 0 H0.size k38 := Nx.tr (Nx.refl 0 _) hk38 hm0.size
      replace hv := hv.nw hs38
      replace hsr := hsr.nw hs38
      replace hf := hf.nw hs38
      replace hu := hu.nw hs38
      replace ow16 := ow16.nw hs38
      replace hc := hc.nw hs38
      replace h1 := h1.nw hs38
      replace h2 := h2.nw hs38
      replace it := it.nw hs38
      replace hm0 := hm0.trN hs38
      have hz11 := hs38.size
      have hle_oo := oo.le
      refine LR.v (Y.assign rfl rfl) (Wd.u rfl) rfl rfl ?_
      refine LR.v (Y.assign rfl rfl) (Wd.u rfl) rfl rfl ?_
      refine LR.nil ?_
      refine hK15 _ _ ?_
      refine CW.ret (hret .ret (.inr rfl) _ _ _ (res2 rfl rfl rfl) ?_)
      exact ⟨s38, k38, out, 0, q, rfl, oo, nx52, hv, .inl ⟨rfl, _, _, hA, hT, hkk⟩, by omega, hm0⟩

end Go.Proofs.Ytepdhokpfecdnaa.GraJ
