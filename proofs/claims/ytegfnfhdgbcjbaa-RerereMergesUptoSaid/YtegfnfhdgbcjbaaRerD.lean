/-
  The contract of RerereMerges.
-/
import Derived.Test.YtegfnfhdgbcjbaaRerC
namespace Go.Proofs.Ytegfnfhdgbcjbaa.RerD
open Go.Proofs.Ytegfnfhdgbcjbaa.E Go.RowKit Go.Proofs.Ytegfnfhdgbcjbaa.LinM Go.Proofs.Ytegfnfhdgbcjbaa.LinA Go.Proofs.Ytegfnfhdgbcjbaa.LinC Go.Proofs.Ytegfnfhdgbcjbaa.LinF Go.Proofs.Ytegfnfhdgbcjbaa.LinL Go.Proofs.Ytegfnfhdgbcjbaa.LinN Go.Proofs.Ytegfnfhdgbcjbaa.MerA Go.Proofs.Ytegfnfhdgbcjbaa.MerB Go.Proofs.Ytegfnfhdgbcjbaa.MerC Go.Proofs.Ytegfnfhdgbcjbaa.MerD Go.Proofs.Ytegfnfhdgbcjbaa.MerE Go.Proofs.Ytegfnfhdgbcjbaa.MerF Go.Proofs.Ytegfnfhdgbcjbaa.MerG Go.Proofs.Ytegfnfhdgbcjbaa.MerH Go.Proofs.Ytegfnfhdgbcjbaa.MerI Go.Proofs.Ytegfnfhdgbcjbaa.MerL Go.Proofs.Ytegfnfhdgbcjbaa.MerM Go.Proofs.Ytegfnfhdgbcjbaa.MerN Go.Proofs.Ytegfnfhdgbcjbaa.MerP Go.Proofs.Ytegfnfhdgbcjbaa.SumA Go.Proofs.Ytegfnfhdgbcjbaa.SumB Go.Proofs.Ytegfnfhdgbcjbaa.SumC Go.Proofs.Ytegfnfhdgbcjbaa.SumD Go.Proofs.Ytegfnfhdgbcjbaa.SumE Go.Proofs.Ytegfnfhdgbcjbaa.SumF Go.Proofs.Ytegfnfhdgbcjbaa.SumG Go.Proofs.Ytegfnfhdgbcjbaa.SumK Go.Proofs.Ytegfnfhdgbcjbaa.SumL Go.Proofs.Ytegfnfhdgbcjbaa.DelA Go.Proofs.Ytegfnfhdgbcjbaa.RerA Go.Proofs.Ytegfnfhdgbcjbaa.RerB Go.Proofs.Ytegfnfhdgbcjbaa.RerC
set_option maxRecDepth 20000
set_option linter.unusedVariables false
set_option linter.unusedSimpArgs false
set_option linter.unusedSectionVars false

theorem mch_len (a o t : List UInt8) : (rendL (mchL a o t)).length ≤ a.length + o.length + t.length + 70 * a.length + 35 := by
  have h := rend_le3 (splitL [] a) (splitL [] o) (splitL [] t)
  rw [flat_split, flat_split, flat_split] at h
  have := splitL_len a []
  simp only [List.length_nil] at this
  unfold mchL
  omega
theorem split_le {b : List UInt8} (h : b.length ≤ 2400) : (splitL [] b).length ≤ 4000 := by
  have := splitL_len b []
  simp only [List.length_nil] at this
  omega

set_option maxHeartbeats 16000000 in
theorem rerereMerges_ct (v1 v2 v3 : Value) (a o t : LL) (w0 : World) (H0 : Heap)
    (ha : RdT H0 fS 1 v1 a) (ho : RdT H0 fS 1 v2 o) (ht : RdT H0 fS 1 v3 t) (hal : (∀ s ∈ a, s.length ≤ 1048576) ∧ a.length ≤ 1048576) (hol : (∀ s ∈ o, s.length ≤ 1048576) ∧ o.length ≤ 1048576) (htl : (∀ s ∈ t, s.length ≤ 1048576) ∧ t.length ≤ 1048576) :
    Ct Try.prog w0 4 #[v1, v2, v3] H0 (fun r H2 => r = .bool true ∧ Nw H0 H2) := by
  refine Ct.enter (args := [v1, v2, v3]) Try.func4 rfl rfl rfl ?_
  intro Q0 hret
  have hm0 : Nw H0 H0 := Mo.refl _ _
  replace ha := ha.bnd
  have bf_ha := Rd.bf ha
  replace ho := ho.bnd
  have bf_ho := Rd.bf ho
  replace ht := ht.bnd
  have bf_ht := Rd.bf ht
  refine CW.seq (fun K1 hK1 hE1 => ?_)
  refine CW.region ?_
  refine LR.v (Y.assign rfl rfl) (Wd.u rfl) rfl rfl ?_
  refine LR.nil ?_
  refine hK1 _ _ ?_
  refine CW.seq (fun K2 hK2 hE2 => ?_)
  refine CW.seq (fun K3 hK3 hE3 => ?_)
  refine CW.region ?_
  -- call selvage/selvagelaw19.known
  refine LR.call rfl Try.call7 rfl (Wd.u rfl) rfl rfl (known_ct w0 _) (fun v17 H17 r17 => ?_)
  obtain ⟨rfl, hs17⟩ := r17
  replace ha := ha.nw hs17
  replace ho := ho.nw hs17
  replace ht := ht.nw hs17
  replace hm0 := hm0.tr hs17
  have hz1 := hs17.size
  refine LR.v (Y.not rfl rfl) (Wd.u rfl) rfl rfl ?_
  refine LR.nil ?_
  refine hK3 _ _ ?_
  refine CW.cond_f rfl ?_
  refine CW.skip ?_
  refine hK2 _ _ ?_
  refine CW.seq (fun K4 hK4 hE4 => ?_)
  refine CW.seq (fun K5 hK5 hE5 => ?_)
  refine CW.region ?_
  refine LR.v (Y.move rfl rfl) (Wd.u rfl) rfl rfl ?_
  -- call selvage/selvagelaw12.Few
  refine LR.call rfl Try.call10 rfl (Wd.u rfl) rfl rfl (few3 _ _ w0 _ ha.any hal.1 hal.2) (fun v20 H20 r20 => ?_)
  obtain ⟨rfl, hs20⟩ := r20
  replace ha := ha.nw hs20
  replace ho := ho.nw hs20
  replace ht := ht.nw hs20
  replace hm0 := hm0.tr hs20
  have hz2 := hs20.size
  refine LR.v (Y.notp rfl rfl) (Wd.u rfl) rfl rfl ?_
  refine LR.v (Y.move rfl rfl) (Wd.u rfl) rfl rfl ?_
  refine LR.splitp (d := 22) rfl (fun g22 => ?_) (fun g22 => ?_)
  ·
    refine LR.gs rfl rfl rfl rfl rfl rfl ?_
    refine LR.gs rfl rfl rfl rfl rfl rfl ?_
    refine LR.gs rfl rfl rfl rfl rfl rfl ?_
    refine LR.v (Y.pick_t rfl rfl rfl) (Wd.u rfl) rfl rfl ?_
    refine LR.v (Y.move rfl rfl) (Wd.u rfl) rfl rfl ?_
    refine LR.gs rfl rfl rfl rfl rfl rfl ?_
    refine LR.gs rfl rfl rfl rfl rfl rfl ?_
    refine LR.gs rfl rfl rfl rfl rfl rfl ?_
    refine LR.v (Y.pick_t rfl rfl rfl) (Wd.u rfl) rfl rfl ?_
    refine LR.nil ?_
    refine hK5 _ _ ?_
    refine CW.cond_t rfl ?_
    refine CW.seq (fun K6 hK6 hE6 => ?_)
    refine CW.region ?_
    refine LR.v (Y.assign rfl rfl) (Wd.u rfl) rfl rfl ?_
    refine LR.nil ?_
    refine hK6 _ _ ?_
    refine CW.ret (hE4 .ret nofun _ _ (hret .ret (.inr rfl) _ _ _ (res1 rfl rfl) ?_))
    exact ⟨rfl, hm0⟩
  ·
    refine LR.v (Y.move rfl rfl) (Wd.g rfl rfl rfl) rfl rfl ?_
    -- call selvage/selvagelaw12.Few
    refine LR.call rfl Try.call10 rfl (Wd.g rfl rfl rfl) rfl rfl (few3 _ _ w0 _ ho.any hol.1 hol.2) (fun v24 H24 r24 => ?_)
    obtain ⟨rfl, hs24⟩ := r24
    replace ha := ha.nw hs24
    replace ho := ho.nw hs24
    replace ht := ht.nw hs24
    replace hm0 := hm0.tr hs24
    have hz3 := hs24.size
    refine LR.v (Y.notp rfl rfl) (Wd.g rfl rfl rfl) rfl rfl ?_
    refine LR.v (Y.pick_f rfl rfl rfl) (Wd.u rfl) rfl rfl ?_
    refine LR.v (Y.move rfl rfl) (Wd.u rfl) rfl rfl ?_
    refine LR.splitp (d := 27) rfl (fun g27 => ?_) (fun g27 => ?_)
    ·
      refine LR.gs rfl rfl rfl rfl rfl rfl ?_
      refine LR.gs rfl rfl rfl rfl rfl rfl ?_
      refine LR.gs rfl rfl rfl rfl rfl rfl ?_
      refine LR.v (Y.pick_t rfl rfl rfl) (Wd.u rfl) rfl rfl ?_
      refine LR.nil ?_
      refine hK5 _ _ ?_
      refine CW.cond_t rfl ?_
      refine CW.seq (fun K7 hK7 hE7 => ?_)
      refine CW.region ?_
      refine LR.v (Y.assign rfl rfl) (Wd.u rfl) rfl rfl ?_
      refine LR.nil ?_
      refine hK7 _ _ ?_
      refine CW.ret (hE4 .ret nofun _ _ (hret .ret (.inr rfl) _ _ _ (res1 rfl rfl) ?_))
      exact ⟨rfl, hm0⟩
    ·
      refine LR.v (Y.move rfl rfl) (Wd.g rfl rfl rfl) rfl rfl ?_
      -- call selvage/selvagelaw12.Few
      refine LR.call rfl Try.call10 rfl (Wd.g rfl rfl rfl) rfl rfl (few3 _ _ w0 _ ht.any htl.1 htl.2) (fun v29 H29 r29 => ?_)
      obtain ⟨rfl, hs29⟩ := r29
      replace ha := ha.nw hs29
      replace ho := ho.nw hs29
      replace ht := ht.nw hs29
      replace hm0 := hm0.tr hs29
      have hz4 := hs29.size
      refine LR.v (Y.notp rfl rfl) (Wd.g rfl rfl rfl) rfl rfl ?_
      refine LR.v (Y.pick_f rfl rfl rfl) (Wd.u rfl) rfl rfl ?_
      refine LR.nil ?_
      refine hK5 _ _ ?_
      refine CW.condp rfl (fun c31 => ?_) (fun c31 => ?_)
      ·
        refine CW.seq (fun K8 hK8 hE8 => ?_)
        refine CW.region ?_
        refine LR.v (Y.assign rfl rfl) (Wd.u rfl) rfl rfl ?_
        refine LR.nil ?_
        refine hK8 _ _ ?_
        refine CW.ret (hE4 .ret nofun _ _ (hret .ret (.inr rfl) _ _ _ (res1 rfl rfl) ?_))
        exact ⟨rfl, hm0⟩
      ·
        obtain ⟨fa1, fa2⟩ := Few.flat (by first | assumption | (apply Decidable.not_not.1; assumption) : Few a)
        obtain ⟨fo1, fo2⟩ := Few.flat (by first | assumption | (apply Decidable.not_not.1; assumption) : Few o)
        obtain ⟨ft1, ft2⟩ := Few.flat (by first | assumption | (apply Decidable.not_not.1; assumption) : Few t)
        have hXl := mch_len a.flatten o.flatten t.flatten
        have hYl := mch_len a.flatten t.flatten o.flatten
        refine CW.skip ?_
        refine hK4 _ _ ?_
        refine CW.seq (fun K9 hK9 hE9 => ?_)
        refine CW.region ?_
        refine LR.v (Y.move rfl rfl) (Wd.u rfl) rfl rfl ?_
        -- call selvage/selvageref12.Join
        refine LR.call rfl Try.call12 rfl (Wd.u rfl) rfl rfl (rjoin3 _ a w0 _ ha.any (by omega)) (fun v34 H34 r34 => ?_)
        obtain ⟨v34, kj34, rfl, j34, hk34, hs34⟩ := r34
        have df1 := DF.app (DF.z) (bf_ha.mono hm0.size) hk34
        have df2 := DF.app (DF.z) (bf_ho.mono hm0.size) hk34
        have df3 := DF.app (DF.z) (bf_ht.mono hm0.size) hk34
        have nx4 : Nx 0 H0.size kj34 := Nx.tr (Nx.refl 0 _) hk34 hm0.size
        replace ha := ha.nw hs34
        replace ho := ho.nw hs34
        replace ht := ht.nw hs34
        replace hm0 := hm0.tr hs34
        have hz5 := hs34.size
        have hle_j34 := j34.le
        refine LR.v (Y.move rfl rfl) (Wd.u rfl) rfl rfl ?_
        -- call selvage/selvageref12.Join
        refine LR.call rfl Try.call12 rfl (Wd.u rfl) rfl rfl (rjoin3 _ o w0 _ ho.any (by omega)) (fun v36 H36 r36 => ?_)
        obtain ⟨v36, kj36, rfl, j36, hk36, hs36⟩ := r36
        have df5 := DF.app (DF.z) (bf_ha.mono hm0.size) hk36
        have df6 := DF.app (DF.z) (bf_ho.mono hm0.size) hk36
        have df7 := DF.app (DF.z) (bf_ht.mono hm0.size) hk36
        have dj8 : Dj kj34 kj36 := Dj.app (Dj.z) j34.le hk36
        have nx9 : Nx 0 H0.size kj36 := Nx.tr (Nx.refl 0 _) hk36 hm0.size
        replace ha := ha.nw hs36
        replace ho := ho.nw hs36
        replace ht := ht.nw hs36
        replace j34 := j34.nw hs36
        replace hm0 := hm0.tr hs36
        have hz6 := hs36.size
        have hle_j36 := j36.le
        refine LR.v (Y.move rfl rfl) (Wd.u rfl) rfl rfl ?_
        -- call selvage/selvageref12.Join
        refine LR.call rfl Try.call12 rfl (Wd.u rfl) rfl rfl (rjoin3 _ t w0 _ ht.any (by omega)) (fun v38 H38 r38 => ?_)
        obtain ⟨v38, kj38, rfl, j38, hk38, hs38⟩ := r38
        have df10 := DF.app (DF.z) (bf_ha.mono hm0.size) hk38
        have df11 := DF.app (DF.z) (bf_ho.mono hm0.size) hk38
        have df12 := DF.app (DF.z) (bf_ht.mono hm0.size) hk38
        have dj13 : Dj kj34 kj38 := Dj.app (Dj.z) j34.le hk38
        have dj14 : Dj kj36 kj38 := Dj.app (Dj.z) j36.le hk38
        have nx15 : Nx 0 H0.size kj38 := Nx.tr (Nx.refl 0 _) hk38 hm0.size
        replace ha := ha.nw hs38
        replace ho := ho.nw hs38
        replace ht := ht.nw hs38
        replace j34 := j34.nw hs38
        replace j36 := j36.nw hs38
        replace hm0 := hm0.tr hs38
        have hz7 := hs38.size
        have hle_j38 := j38.le
        -- call selvage/selvageref14.Merge
        refine LR.call rfl Try.call11 rfl (Wd.u rfl) rfl rfl (rmerge_ct _ _ _ a.flatten o.flatten t.flatten w0 _ j34.rd.any j36.rd.any j38.rd.any (by omega) (by omega) (by omega) (split_le (by omega)) (split_le (by omega)) (split_le (by omega))) (fun v39 H39 r39 => ?_)
        obtain ⟨vom, kom, rfl, om, hk39, hs39⟩ := r39
        have df16 := DF.app (DF.z) (bf_ha.mono hm0.size) hk39
        have df17 := DF.app (DF.z) (bf_ho.mono hm0.size) hk39
        have df18 := DF.app (DF.z) (bf_ht.mono hm0.size) hk39
        have dj19 : Dj kj34 kom := Dj.app (Dj.z) j34.le hk39
        have dj20 : Dj kj36 kom := Dj.app (Dj.z) j36.le hk39
        have dj21 : Dj kj38 kom := Dj.app (Dj.z) j38.le hk39
        have nx22 : Nx 0 H0.size kom := Nx.tr (Nx.refl 0 _) hk39 hm0.size
        replace ha := ha.nw hs39
        replace ho := ho.nw hs39
        replace ht := ht.nw hs39
        replace j34 := j34.nw hs39
        replace j36 := j36.nw hs39
        replace j38 := j38.nw hs39
        replace hm0 := hm0.tr hs39
        have hz8 := hs39.size
        have hle_om := om.le
        refine LR.v (Y.move rfl rfl) (Wd.u rfl) rfl rfl ?_
        refine LR.v (Y.extract rfl rfl rfl) (Wd.u rfl) rfl rfl ?_
        refine LR.v (Y.extract rfl rfl rfl) (Wd.u rfl) rfl rfl ?_
        refine LR.v (Y.extract rfl rfl rfl) (Wd.u rfl) rfl rfl ?_
        refine LR.v (Y.assign rfl rfl) (Wd.u rfl) rfl rfl ?_
        refine LR.v (Y.assign rfl rfl) (Wd.u rfl) rfl rfl ?_
        refine LR.v (Y.assign rfl rfl) (Wd.u rfl) rfl rfl ?_
        refine LR.nil ?_
        refine hK9 _ _ ?_
        refine CW.seq (fun K10 hK10 hE10 => ?_)
        refine CW.region ?_
        refine LR.v (Y.move rfl rfl) (Wd.u rfl) rfl rfl ?_
        -- call selvage/selvageref12.Join
        refine LR.call rfl Try.call12 rfl (Wd.u rfl) rfl rfl (rjoin3 _ a w0 _ ha.any (by omega)) (fun v45 H45 r45 => ?_)
        obtain ⟨v45, kj45, rfl, j45, hk45, hs45⟩ := r45
        have df23 := DF.app (DF.z) (bf_ha.mono hm0.size) hk45
        have df24 := DF.app (DF.z) (bf_ho.mono hm0.size) hk45
        have df25 := DF.app (DF.z) (bf_ht.mono hm0.size) hk45
        have dj26 : Dj kj34 kj45 := Dj.app (Dj.z) j34.le hk45
        have dj27 : Dj kj36 kj45 := Dj.app (Dj.z) j36.le hk45
        have dj28 : Dj kj38 kj45 := Dj.app (Dj.z) j38.le hk45
        have dj29 : Dj kom kj45 := Dj.app (Dj.z) om.le hk45
        have nx30 : Nx 0 H0.size kj45 := Nx.tr (Nx.refl 0 _) hk45 hm0.size
        replace ha := ha.nw hs45
        replace ho := ho.nw hs45
        replace ht := ht.nw hs45
        replace j34 := j34.nw hs45
        replace j36 := j36.nw hs45
        replace j38 := j38.nw hs45
        replace om := om.nw hs45
        replace hm0 := hm0.tr hs45
        have hz9 := hs45.size
        have hle_j45 := j45.le
        refine LR.v (Y.move rfl rfl) (Wd.u rfl) rfl rfl ?_
        -- call selvage/selvageref12.Join
        refine LR.call rfl Try.call12 rfl (Wd.u rfl) rfl rfl (rjoin3 _ t w0 _ ht.any (by omega)) (fun v47 H47 r47 => ?_)
        obtain ⟨v47, kj47, rfl, j47, hk47, hs47⟩ := r47
        have df31 := DF.app (DF.z) (bf_ha.mono hm0.size) hk47
        have df32 := DF.app (DF.z) (bf_ho.mono hm0.size) hk47
        have df33 := DF.app (DF.z) (bf_ht.mono hm0.size) hk47
        have dj34 : Dj kj34 kj47 := Dj.app (Dj.z) j34.le hk47
        have dj35 : Dj kj36 kj47 := Dj.app (Dj.z) j36.le hk47
        have dj36 : Dj kj38 kj47 := Dj.app (Dj.z) j38.le hk47
        have dj37 : Dj kom kj47 := Dj.app (Dj.z) om.le hk47
        have dj38 : Dj kj45 kj47 := Dj.app (Dj.z) j45.le hk47
        have nx39 : Nx 0 H0.size kj47 := Nx.tr (Nx.refl 0 _) hk47 hm0.size
        replace ha := ha.nw hs47
        replace ho := ho.nw hs47
        replace ht := ht.nw hs47
        replace j34 := j34.nw hs47
        replace j36 := j36.nw hs47
        replace j38 := j38.nw hs47
        replace om := om.nw hs47
        replace j45 := j45.nw hs47
        replace hm0 := hm0.tr hs47
        have hz10 := hs47.size
        have hle_j47 := j47.le
        refine LR.v (Y.move rfl rfl) (Wd.u rfl) rfl rfl ?_
        -- call selvage/selvageref12.Join
        refine LR.call rfl Try.call12 rfl (Wd.u rfl) rfl rfl (rjoin3 _ o w0 _ ho.any (by omega)) (fun v49 H49 r49 => ?_)
        obtain ⟨v49, kj49, rfl, j49, hk49, hs49⟩ := r49
        have df40 := DF.app (DF.z) (bf_ha.mono hm0.size) hk49
        have df41 := DF.app (DF.z) (bf_ho.mono hm0.size) hk49
        have df42 := DF.app (DF.z) (bf_ht.mono hm0.size) hk49
        have dj43 : Dj kj34 kj49 := Dj.app (Dj.z) j34.le hk49
        have dj44 : Dj kj36 kj49 := Dj.app (Dj.z) j36.le hk49
        have dj45 : Dj kj38 kj49 := Dj.app (Dj.z) j38.le hk49
        have dj46 : Dj kom kj49 := Dj.app (Dj.z) om.le hk49
        have dj47 : Dj kj45 kj49 := Dj.app (Dj.z) j45.le hk49
        have dj48 : Dj kj47 kj49 := Dj.app (Dj.z) j47.le hk49
        have nx49 : Nx 0 H0.size kj49 := Nx.tr (Nx.refl 0 _) hk49 hm0.size
        replace ha := ha.nw hs49
        replace ho := ho.nw hs49
        replace ht := ht.nw hs49
        replace j34 := j34.nw hs49
        replace j36 := j36.nw hs49
        replace j38 := j38.nw hs49
        replace om := om.nw hs49
        replace j45 := j45.nw hs49
        replace j47 := j47.nw hs49
        replace hm0 := hm0.tr hs49
        have hz11 := hs49.size
        have hle_j49 := j49.le
        -- call selvage/selvageref14.Merge
        refine LR.call rfl Try.call11 rfl (Wd.u rfl) rfl rfl (rmerge_ct _ _ _ a.flatten t.flatten o.flatten w0 _ j45.rd.any j47.rd.any j49.rd.any (by omega) (by omega) (by omega) (split_le (by omega)) (split_le (by omega)) (split_le (by omega))) (fun v50 H50 r50 => ?_)
        obtain ⟨von, kon, rfl, on, hk50, hs50⟩ := r50
        have df50 := DF.app (DF.z) (bf_ha.mono hm0.size) hk50
        have df51 := DF.app (DF.z) (bf_ho.mono hm0.size) hk50
        have df52 := DF.app (DF.z) (bf_ht.mono hm0.size) hk50
        have dj53 : Dj kj34 kon := Dj.app (Dj.z) j34.le hk50
        have dj54 : Dj kj36 kon := Dj.app (Dj.z) j36.le hk50
        have dj55 : Dj kj38 kon := Dj.app (Dj.z) j38.le hk50
        have dj56 : Dj kom kon := Dj.app (Dj.z) om.le hk50
        have dj57 : Dj kj45 kon := Dj.app (Dj.z) j45.le hk50
        have dj58 : Dj kj47 kon := Dj.app (Dj.z) j47.le hk50
        have dj59 : Dj kj49 kon := Dj.app (Dj.z) j49.le hk50
        have nx60 : Nx 0 H0.size kon := Nx.tr (Nx.refl 0 _) hk50 hm0.size
        replace ha := ha.nw hs50
        replace ho := ho.nw hs50
        replace ht := ht.nw hs50
        replace j34 := j34.nw hs50
        replace j36 := j36.nw hs50
        replace j38 := j38.nw hs50
        replace om := om.nw hs50
        replace j45 := j45.nw hs50
        replace j47 := j47.nw hs50
        replace j49 := j49.nw hs50
        replace hm0 := hm0.tr hs50
        have hz12 := hs50.size
        have hle_on := on.le
        refine LR.v (Y.move rfl rfl) (Wd.u rfl) rfl rfl ?_
        refine LR.v (Y.extract rfl rfl rfl) (Wd.u rfl) rfl rfl ?_
        refine LR.v (Y.extract rfl rfl rfl) (Wd.u rfl) rfl rfl ?_
        refine LR.v (Y.extract rfl rfl rfl) (Wd.u rfl) rfl rfl ?_
        refine LR.v (Y.assign rfl rfl) (Wd.u rfl) rfl rfl ?_
        refine LR.v (Y.assign rfl rfl) (Wd.u rfl) rfl rfl ?_
        refine LR.v (Y.assign rfl rfl) (Wd.u rfl) rfl rfl ?_
        refine LR.nil ?_
        refine hK10 _ _ ?_
        refine CW.seq (fun K11 hK11 hE11 => ?_)
        refine CW.seq (fun K12 hK12 hE12 => ?_)
        refine CW.region ?_
        refine LR.v (Y.move rfl rfl) (Wd.u rfl) rfl rfl ?_
        refine LR.v ((Y.neq rfl rfl rfl).isF (fun h => h rfl)) (Wd.u rfl) rfl rfl ?_
        refine LR.v (Y.move rfl rfl) (Wd.u rfl) rfl rfl ?_
        refine LR.v (Y.move rfl rfl) (Wd.g rfl rfl rfl) rfl rfl ?_
        refine LR.v ((Y.neq rfl rfl rfl).isF (fun h => h rfl)) (Wd.g rfl rfl rfl) rfl rfl ?_
        refine LR.v (Y.pick_f rfl rfl rfl) (Wd.u rfl) rfl rfl ?_
        refine LR.v (Y.move rfl rfl) (Wd.u rfl) rfl rfl ?_
        refine LR.v (Y.move rfl rfl) (Wd.g rfl rfl rfl) rfl rfl ?_
        -- call selvage/selvageref12.Join
        refine LR.call rfl Try.call12 rfl (Wd.g rfl rfl rfl) rfl rfl (rjoin3 _ a w0 _ ha.any (by omega)) (fun v62 H62 r62 => ?_)
        obtain ⟨v62, kj62, rfl, j62, hk62, hs62⟩ := r62
        have df61 := DF.app (DF.z) (bf_ha.mono hm0.size) hk62
        have df62 := DF.app (DF.z) (bf_ho.mono hm0.size) hk62
        have df63 := DF.app (DF.z) (bf_ht.mono hm0.size) hk62
        have dj64 : Dj kj34 kj62 := Dj.app (Dj.z) j34.le hk62
        have dj65 : Dj kj36 kj62 := Dj.app (Dj.z) j36.le hk62
        have dj66 : Dj kj38 kj62 := Dj.app (Dj.z) j38.le hk62
        have dj67 : Dj kom kj62 := Dj.app (Dj.z) om.le hk62
        have dj68 : Dj kj45 kj62 := Dj.app (Dj.z) j45.le hk62
        have dj69 : Dj kj47 kj62 := Dj.app (Dj.z) j47.le hk62
        have dj70 : Dj kj49 kj62 := Dj.app (Dj.z) j49.le hk62
        have dj71 : Dj kon kj62 := Dj.app (Dj.z) on.le hk62
        have nx72 : Nx 0 H0.size kj62 := Nx.tr (Nx.refl 0 _) hk62 hm0.size
        replace ha := ha.nw hs62
        replace ho := ho.nw hs62
        replace ht := ht.nw hs62
        replace j34 := j34.nw hs62
        replace j36 := j36.nw hs62
        replace j38 := j38.nw hs62
        replace om := om.nw hs62
        replace j45 := j45.nw hs62
        replace j47 := j47.nw hs62
        replace j49 := j49.nw hs62
        replace on := on.nw hs62
        replace hm0 := hm0.tr hs62
        have hz13 := hs62.size
        have hle_j62 := j62.le
        -- call selvage/selvageref14.Marks
        refine LR.call rfl Try.call13 rfl (Wd.g rfl rfl rfl) rfl rfl (rmarks_ct _ a.flatten w0 _ j62.rd.any (by omega)) (fun v63 H63 r63 => ?_)
        obtain ⟨rfl, hs63⟩ := r63
        replace ha := ha.nw hs63
        replace ho := ho.nw hs63
        replace ht := ht.nw hs63
        replace j34 := j34.nw hs63
        replace j36 := j36.nw hs63
        replace j38 := j38.nw hs63
        replace om := om.nw hs63
        replace j45 := j45.nw hs63
        replace j47 := j47.nw hs63
        replace j49 := j49.nw hs63
        replace on := on.nw hs63
        replace j62 := j62.nw hs63
        replace hm0 := hm0.tr hs63
        have hz14 := hs63.size
        refine LR.v (Y.pick_f rfl rfl rfl) (Wd.u rfl) rfl rfl ?_
        refine LR.v (Y.move rfl rfl) (Wd.u rfl) rfl rfl ?_
        refine LR.split (d := 65) rfl (fun g65 => ?_) (fun g65 => ?_)
        ·
          refine LR.gs rfl rfl rfl rfl rfl rfl ?_
          refine LR.gs rfl rfl rfl rfl rfl rfl ?_
          refine LR.gs rfl rfl rfl rfl rfl rfl ?_
          refine LR.v (Y.pick_t rfl rfl rfl) (Wd.u rfl) rfl rfl ?_
          refine LR.v (Y.move rfl rfl) (Wd.u rfl) rfl rfl ?_
          refine LR.gs rfl rfl rfl rfl rfl rfl ?_
          refine LR.gs rfl rfl rfl rfl rfl rfl ?_
          refine LR.gs rfl rfl rfl rfl rfl rfl ?_
          refine LR.v (Y.pick_t rfl rfl rfl) (Wd.u rfl) rfl rfl ?_
          refine LR.nil ?_
          refine hK12 _ _ ?_
          refine CW.cond_t rfl ?_
          refine CW.seq (fun K13 hK13 hE13 => ?_)
          refine CW.region ?_
          refine LR.v (Y.assign rfl rfl) (Wd.u rfl) rfl rfl ?_
          refine LR.nil ?_
          refine hK13 _ _ ?_
          refine CW.ret (hE11 .ret nofun _ _ (hret .ret (.inr rfl) _ _ _ (res1 rfl rfl) ?_))
          exact ⟨rfl, hm0⟩
        ·
          refine LR.v (Y.move rfl rfl) (Wd.g rfl rfl rfl) rfl rfl ?_
          -- call selvage/selvageref12.Join
          refine LR.call rfl Try.call12 rfl (Wd.g rfl rfl rfl) rfl rfl (rjoin3 _ o w0 _ ho.any (by omega)) (fun v67 H67 r67 => ?_)
          obtain ⟨v67, kj67, rfl, j67, hk67, hs67⟩ := r67
          have df73 := DF.app (DF.z) (bf_ha.mono hm0.size) hk67
          have df74 := DF.app (DF.z) (bf_ho.mono hm0.size) hk67
          have df75 := DF.app (DF.z) (bf_ht.mono hm0.size) hk67
          have dj76 : Dj kj34 kj67 := Dj.app (Dj.z) j34.le hk67
          have dj77 : Dj kj36 kj67 := Dj.app (Dj.z) j36.le hk67
          have dj78 : Dj kj38 kj67 := Dj.app (Dj.z) j38.le hk67
          have dj79 : Dj kom kj67 := Dj.app (Dj.z) om.le hk67
          have dj80 : Dj kj45 kj67 := Dj.app (Dj.z) j45.le hk67
          have dj81 : Dj kj47 kj67 := Dj.app (Dj.z) j47.le hk67
          have dj82 : Dj kj49 kj67 := Dj.app (Dj.z) j49.le hk67
          have dj83 : Dj kon kj67 := Dj.app (Dj.z) on.le hk67
          have dj84 : Dj kj62 kj67 := Dj.app (Dj.z) j62.le hk67
          have nx85 : Nx 0 H0.size kj67 := Nx.tr (Nx.refl 0 _) hk67 hm0.size
          replace ha := ha.nw hs67
          replace ho := ho.nw hs67
          replace ht := ht.nw hs67
          replace j34 := j34.nw hs67
          replace j36 := j36.nw hs67
          replace j38 := j38.nw hs67
          replace om := om.nw hs67
          replace j45 := j45.nw hs67
          replace j47 := j47.nw hs67
          replace j49 := j49.nw hs67
          replace on := on.nw hs67
          replace j62 := j62.nw hs67
          replace hm0 := hm0.tr hs67
          have hz15 := hs67.size
          have hle_j67 := j67.le
          -- call selvage/selvageref14.Marks
          refine LR.call rfl Try.call13 rfl (Wd.g rfl rfl rfl) rfl rfl (rmarks_ct _ o.flatten w0 _ j67.rd.any (by omega)) (fun v68 H68 r68 => ?_)
          obtain ⟨rfl, hs68⟩ := r68
          replace ha := ha.nw hs68
          replace ho := ho.nw hs68
          replace ht := ht.nw hs68
          replace j34 := j34.nw hs68
          replace j36 := j36.nw hs68
          replace j38 := j38.nw hs68
          replace om := om.nw hs68
          replace j45 := j45.nw hs68
          replace j47 := j47.nw hs68
          replace j49 := j49.nw hs68
          replace on := on.nw hs68
          replace j62 := j62.nw hs68
          replace j67 := j67.nw hs68
          replace hm0 := hm0.tr hs68
          have hz16 := hs68.size
          refine LR.v (Y.pick_f rfl rfl rfl) (Wd.u rfl) rfl rfl ?_
          refine LR.v (Y.move rfl rfl) (Wd.u rfl) rfl rfl ?_
          refine LR.split (d := 70) rfl (fun g70 => ?_) (fun g70 => ?_)
          ·
            refine LR.gs rfl rfl rfl rfl rfl rfl ?_
            refine LR.gs rfl rfl rfl rfl rfl rfl ?_
            refine LR.gs rfl rfl rfl rfl rfl rfl ?_
            refine LR.v (Y.pick_t rfl rfl rfl) (Wd.u rfl) rfl rfl ?_
            refine LR.nil ?_
            refine hK12 _ _ ?_
            refine CW.cond_t rfl ?_
            refine CW.seq (fun K14 hK14 hE14 => ?_)
            refine CW.region ?_
            refine LR.v (Y.assign rfl rfl) (Wd.u rfl) rfl rfl ?_
            refine LR.nil ?_
            refine hK14 _ _ ?_
            refine CW.ret (hE11 .ret nofun _ _ (hret .ret (.inr rfl) _ _ _ (res1 rfl rfl) ?_))
            exact ⟨rfl, hm0⟩
          ·
            refine LR.v (Y.move rfl rfl) (Wd.g rfl rfl rfl) rfl rfl ?_
            -- call selvage/selvageref12.Join
            refine LR.call rfl Try.call12 rfl (Wd.g rfl rfl rfl) rfl rfl (rjoin3 _ t w0 _ ht.any (by omega)) (fun v72 H72 r72 => ?_)
            obtain ⟨v72, kj72, rfl, j72, hk72, hs72⟩ := r72
            have df86 := DF.app (DF.z) (bf_ha.mono hm0.size) hk72
            have df87 := DF.app (DF.z) (bf_ho.mono hm0.size) hk72
            have df88 := DF.app (DF.z) (bf_ht.mono hm0.size) hk72
            have dj89 : Dj kj34 kj72 := Dj.app (Dj.z) j34.le hk72
            have dj90 : Dj kj36 kj72 := Dj.app (Dj.z) j36.le hk72
            have dj91 : Dj kj38 kj72 := Dj.app (Dj.z) j38.le hk72
            have dj92 : Dj kom kj72 := Dj.app (Dj.z) om.le hk72
            have dj93 : Dj kj45 kj72 := Dj.app (Dj.z) j45.le hk72
            have dj94 : Dj kj47 kj72 := Dj.app (Dj.z) j47.le hk72
            have dj95 : Dj kj49 kj72 := Dj.app (Dj.z) j49.le hk72
            have dj96 : Dj kon kj72 := Dj.app (Dj.z) on.le hk72
            have dj97 : Dj kj62 kj72 := Dj.app (Dj.z) j62.le hk72
            have dj98 : Dj kj67 kj72 := Dj.app (Dj.z) j67.le hk72
            have nx99 : Nx 0 H0.size kj72 := Nx.tr (Nx.refl 0 _) hk72 hm0.size
            replace ha := ha.nw hs72
            replace ho := ho.nw hs72
            replace ht := ht.nw hs72
            replace j34 := j34.nw hs72
            replace j36 := j36.nw hs72
            replace j38 := j38.nw hs72
            replace om := om.nw hs72
            replace j45 := j45.nw hs72
            replace j47 := j47.nw hs72
            replace j49 := j49.nw hs72
            replace on := on.nw hs72
            replace j62 := j62.nw hs72
            replace j67 := j67.nw hs72
            replace hm0 := hm0.tr hs72
            have hz17 := hs72.size
            have hle_j72 := j72.le
            -- call selvage/selvageref14.Marks
            refine LR.call rfl Try.call13 rfl (Wd.g rfl rfl rfl) rfl rfl (rmarks_ct _ t.flatten w0 _ j72.rd.any (by omega)) (fun v73 H73 r73 => ?_)
            obtain ⟨rfl, hs73⟩ := r73
            replace ha := ha.nw hs73
            replace ho := ho.nw hs73
            replace ht := ht.nw hs73
            replace j34 := j34.nw hs73
            replace j36 := j36.nw hs73
            replace j38 := j38.nw hs73
            replace om := om.nw hs73
            replace j45 := j45.nw hs73
            replace j47 := j47.nw hs73
            replace j49 := j49.nw hs73
            replace on := on.nw hs73
            replace j62 := j62.nw hs73
            replace j67 := j67.nw hs73
            replace j72 := j72.nw hs73
            replace hm0 := hm0.tr hs73
            have hz18 := hs73.size
            refine LR.v (Y.pick_f rfl rfl rfl) (Wd.u rfl) rfl rfl ?_
            refine LR.nil ?_
            refine hK12 _ _ ?_
            refine CW.cond rfl (fun c74 => ?_) (fun c74 => ?_)
            ·
              refine CW.seq (fun K15 hK15 hE15 => ?_)
              refine CW.region ?_
              refine LR.v (Y.assign rfl rfl) (Wd.u rfl) rfl rfl ?_
              refine LR.nil ?_
              refine hK15 _ _ ?_
              refine CW.ret (hE11 .ret nofun _ _ (hret .ret (.inr rfl) _ _ _ (res1 rfl rfl) ?_))
              exact ⟨rfl, hm0⟩
            ·
              obtain ⟨mk1, mk2, mk3⟩ := merge_keys (a := a.flatten) (o := o.flatten) (t := t.flatten) (by assumption) (by assumption) (by assumption)
              refine CW.skip ?_
              refine hK11 _ _ ?_
              refine CW.seq (fun K16 hK16 hE16 => ?_)
              refine CW.region ?_
              refine LR.v (Y.move rfl rfl) (Wd.u rfl) rfl rfl ?_
              -- call selvage/rerere.Key
              refine LR.call rfl Try.call8 rfl (Wd.u rfl) rfl rfl (key_ct _ (rendL (mchL a.flatten o.flatten t.flatten)) w0 _ om.rd.any (by omega)) (fun v77 H77 r77 => ?_)
              obtain ⟨rfl, hs77⟩ := r77
              replace ha := ha.nw hs77
              replace ho := ho.nw hs77
              replace ht := ht.nw hs77
              replace j34 := j34.nw hs77
              replace j36 := j36.nw hs77
              replace j38 := j38.nw hs77
              replace om := om.nw hs77
              replace j45 := j45.nw hs77
              replace j47 := j47.nw hs77
              replace j49 := j49.nw hs77
              replace on := on.nw hs77
              replace j62 := j62.nw hs77
              replace j67 := j67.nw hs77
              replace j72 := j72.nw hs77
              replace hm0 := hm0.tr hs77
              have hz19 := hs77.size
              refine LR.v (Y.move rfl rfl) (Wd.u rfl) rfl rfl ?_
              refine LR.v (Y.extract rfl rfl rfl) (Wd.u rfl) rfl rfl ?_
              refine LR.v (Y.extract rfl rfl rfl) (Wd.u rfl) rfl rfl ?_
              refine LR.z (Z.allocv rfl Try.zeroValue25) (Wd.u rfl) rfl rfl (fun v13 H13 r13 => ?_)
              obtain ⟨rfl, hv13, hs13, ob13, hH13⟩ := r13
              have hzs13 : H13.size = H77.size + 1 := by rw [hH13]; simp
              have df100 := (DF.new (bf_ha.mono hm0.size) : DF _ (H77.size + 1))
              have df101 := (DF.new (bf_ho.mono hm0.size) : DF _ (H77.size + 1))
              have df102 := (DF.new (bf_ht.mono hm0.size) : DF _ (H77.size + 1))
              have dj103 : Dj kj34 (H77.size + 1) := Dj.new j34.le
              have dj104 : Dj kj36 (H77.size + 1) := Dj.new j36.le
              have dj105 : Dj kj38 (H77.size + 1) := Dj.new j38.le
              have dj106 : Dj kom (H77.size + 1) := Dj.new om.le
              have dj107 : Dj kj45 (H77.size + 1) := Dj.new j45.le
              have dj108 : Dj kj47 (H77.size + 1) := Dj.new j47.le
              have dj109 : Dj kj49 (H77.size + 1) := Dj.new j49.le
              have dj110 : Dj kon (H77.size + 1) := Dj.new on.le
              have dj111 : Dj kj62 (H77.size + 1) := Dj.new j62.le
              have dj112 : Dj kj67 (H77.size + 1) := Dj.new j67.le
              have dj113 : Dj kj72 (H77.size + 1) := Dj.new j72.le
              have nx114 : Nx 0 H0.size (H77.size + 1) := Nx.new hm0.size
              replace ha := ha.nw hs13
              replace ho := ho.nw hs13
              replace ht := ht.nw hs13
              replace j34 := j34.nw hs13
              replace j36 := j36.nw hs13
              replace j38 := j38.nw hs13
              replace om := om.nw hs13
              replace j45 := j45.nw hs13
              replace j47 := j47.nw hs13
              replace j49 := j49.nw hs13
              replace on := on.nw hs13
              replace j62 := j62.nw hs13
              replace j67 := j67.nw hs13
              replace j72 := j72.nw hs13
              replace hm0 := hm0.tr hs13
              have hz20 := hs13.size
              replace hv13 : Var 25 H13 H77.size (Z32.map V8) := hv13
              refine LR.s (S.var hv13 (((keyL (rendL (mchL a.flatten o.flatten t.flatten))).1).map V8) (((keyL (rendL (mchL a.flatten o.flatten t.flatten))).1).map V8) rfl rfl rfl rfl (by intro u hu; obtain ⟨x, _, rfl⟩ := List.mem_map.1 hu; rfl) Try.sizeOf25 (by simp [keyL_len, Z32_len]) (by simp [keyL_len, Z32_len]) (splice_all2 (by simp [keyL_len, Z32_len]))) (Wd.u rfl) rfl (fun H9_6 r9_6 => ?_)
              obtain ⟨hv13, hs9_6⟩ := r9_6
              replace hs9_6 := hs9_6.md1
              replace ha := ha.upL hs9_6 (DFL.cons df100 DFL.nil)
              replace ho := ho.upL hs9_6 (DFL.cons df101 DFL.nil)
              replace ht := ht.upL hs9_6 (DFL.cons df102 DFL.nil)
              replace j34 := j34.upL hs9_6 (DL.cons dj103 DL.nil)
              replace j36 := j36.upL hs9_6 (DL.cons dj104 DL.nil)
              replace j38 := j38.upL hs9_6 (DL.cons dj105 DL.nil)
              replace om := om.upL hs9_6 (DL.cons dj106 DL.nil)
              replace j45 := j45.upL hs9_6 (DL.cons dj107 DL.nil)
              replace j47 := j47.upL hs9_6 (DL.cons dj108 DL.nil)
              replace j49 := j49.upL hs9_6 (DL.cons dj109 DL.nil)
              replace on := on.upL hs9_6 (DL.cons dj110 DL.nil)
              replace j62 := j62.upL hs9_6 (DL.cons dj111 DL.nil)
              replace j67 := j67.upL hs9_6 (DL.cons dj112 DL.nil)
              replace j72 := j72.upL hs9_6 (DL.cons dj113 DL.nil)
              replace hm0 := (Mo.trL (ks := []) (hm0.mdn []) hs9_6 (MIL.cons (MI.app MI.z (nx114) (Nat.le_refl _)) MIL.nil)).nil
              have hz21 := hs9_6.size
              refine LR.v (Y.assign rfl rfl) (Wd.u rfl) rfl rfl ?_
              refine LR.nil ?_
              refine hK16 _ _ ?_
              refine CW.seq (fun K17 hK17 hE17 => ?_)
              refine CW.region ?_
              refine LR.v (Y.move rfl rfl) (Wd.u rfl) rfl rfl ?_
              -- call selvage/rerere.Key
              refine LR.call rfl Try.call8 rfl (Wd.u rfl) rfl rfl (key_ct _ (rendL (mchL a.flatten t.flatten o.flatten)) w0 _ on.rd.any (by omega)) (fun v82 H82 r82 => ?_)
              obtain ⟨rfl, hs82⟩ := r82
              replace ha := ha.nw hs82
              replace ho := ho.nw hs82
              replace ht := ht.nw hs82
              replace j34 := j34.nw hs82
              replace j36 := j36.nw hs82
              replace j38 := j38.nw hs82
              replace om := om.nw hs82
              replace j45 := j45.nw hs82
              replace j47 := j47.nw hs82
              replace j49 := j49.nw hs82
              replace on := on.nw hs82
              replace j62 := j62.nw hs82
              replace j67 := j67.nw hs82
              replace j72 := j72.nw hs82
              replace hv13 := hv13.nw hs82
              replace hm0 := hm0.tr hs82
              have hz22 := hs82.size
              refine LR.v (Y.move rfl rfl) (Wd.u rfl) rfl rfl ?_
              refine LR.v (Y.extract rfl rfl rfl) (Wd.u rfl) rfl rfl ?_
              refine LR.v (Y.extract rfl rfl rfl) (Wd.u rfl) rfl rfl ?_
              refine LR.z (Z.allocv rfl Try.zeroValue25) (Wd.u rfl) rfl rfl (fun v15 H15 r15 => ?_)
              obtain ⟨rfl, hv15, hs15, ob15, hH15⟩ := r15
              have hzs15 : H15.size = H82.size + 1 := by rw [hH15]; simp
              have df115 := (DF.new (bf_ha.mono hm0.size) : DF _ (H82.size + 1))
              have df116 := (DF.new (bf_ho.mono hm0.size) : DF _ (H82.size + 1))
              have df117 := (DF.new (bf_ht.mono hm0.size) : DF _ (H82.size + 1))
              have dj118 : Dj kj34 (H82.size + 1) := Dj.new j34.le
              have dj119 : Dj kj36 (H82.size + 1) := Dj.new j36.le
              have dj120 : Dj kj38 (H82.size + 1) := Dj.new j38.le
              have dj121 : Dj kom (H82.size + 1) := Dj.new om.le
              have dj122 : Dj kj45 (H82.size + 1) := Dj.new j45.le
              have dj123 : Dj kj47 (H82.size + 1) := Dj.new j47.le
              have dj124 : Dj kj49 (H82.size + 1) := Dj.new j49.le
              have dj125 : Dj kon (H82.size + 1) := Dj.new on.le
              have dj126 : Dj kj62 (H82.size + 1) := Dj.new j62.le
              have dj127 : Dj kj67 (H82.size + 1) := Dj.new j67.le
              have dj128 : Dj kj72 (H82.size + 1) := Dj.new j72.le
              have dj129 : Dj (H77.size + 1) (H82.size + 1) := Dj.new hv13.lt
              have nx130 : Nx 0 H0.size (H82.size + 1) := Nx.new hm0.size
              replace ha := ha.nw hs15
              replace ho := ho.nw hs15
              replace ht := ht.nw hs15
              replace j34 := j34.nw hs15
              replace j36 := j36.nw hs15
              replace j38 := j38.nw hs15
              replace om := om.nw hs15
              replace j45 := j45.nw hs15
              replace j47 := j47.nw hs15
              replace j49 := j49.nw hs15
              replace on := on.nw hs15
              replace j62 := j62.nw hs15
              replace j67 := j67.nw hs15
              replace j72 := j72.nw hs15
              replace hv13 := hv13.nw hs15
              replace hm0 := hm0.tr hs15
              have hz23 := hs15.size
              replace hv15 : Var 25 H15 H82.size (Z32.map V8) := hv15
              refine LR.s (S.var hv15 (((keyL (rendL (mchL a.flatten t.flatten o.flatten))).1).map V8) (((keyL (rendL (mchL a.flatten t.flatten o.flatten))).1).map V8) rfl rfl rfl rfl (by intro u hu; obtain ⟨x, _, rfl⟩ := List.mem_map.1 hu; rfl) Try.sizeOf25 (by simp [keyL_len, Z32_len]) (by simp [keyL_len, Z32_len]) (splice_all2 (by simp [keyL_len, Z32_len]))) (Wd.u rfl) rfl (fun H10_6 r10_6 => ?_)
              obtain ⟨hv15, hs10_6⟩ := r10_6
              replace hs10_6 := hs10_6.md1
              replace ha := ha.upL hs10_6 (DFL.cons df115 DFL.nil)
              replace ho := ho.upL hs10_6 (DFL.cons df116 DFL.nil)
              replace ht := ht.upL hs10_6 (DFL.cons df117 DFL.nil)
              replace j34 := j34.upL hs10_6 (DL.cons dj118 DL.nil)
              replace j36 := j36.upL hs10_6 (DL.cons dj119 DL.nil)
              replace j38 := j38.upL hs10_6 (DL.cons dj120 DL.nil)
              replace om := om.upL hs10_6 (DL.cons dj121 DL.nil)
              replace j45 := j45.upL hs10_6 (DL.cons dj122 DL.nil)
              replace j47 := j47.upL hs10_6 (DL.cons dj123 DL.nil)
              replace j49 := j49.upL hs10_6 (DL.cons dj124 DL.nil)
              replace on := on.upL hs10_6 (DL.cons dj125 DL.nil)
              replace j62 := j62.upL hs10_6 (DL.cons dj126 DL.nil)
              replace j67 := j67.upL hs10_6 (DL.cons dj127 DL.nil)
              replace j72 := j72.upL hs10_6 (DL.cons dj128 DL.nil)
              replace hv13 := hv13.upL hs10_6 (DL.cons dj129 DL.nil)
              replace hm0 := (Mo.trL (ks := []) (hm0.mdn []) hs10_6 (MIL.cons (MI.app MI.z (nx130) (Nat.le_refl _)) MIL.nil)).nil
              have hz24 := hs10_6.size
              refine LR.v (Y.assign rfl rfl) (Wd.u rfl) rfl rfl ?_
              refine LR.nil ?_
              refine hK17 _ _ ?_
              refine CW.seq (fun K18 hK18 hE18 => ?_)
              refine CW.seq (fun K19 hK19 hE19 => ?_)
              refine CW.region ?_
              refine LR.v (Y.move rfl rfl) (Wd.u rfl) rfl rfl ?_
              refine LR.nil ?_
              refine hK19 _ _ ?_
              refine CW.cond rfl (fun c85 => ?_) (fun c85 => ?_)
              ·
                refine CW.seq (fun K20 hK20 hE20 => ?_)
                refine CW.region ?_
                refine LR.v (Y.move rfl rfl) (Wd.u rfl) rfl rfl ?_
                refine LR.v ((Y.eql rfl rfl rfl).isT (by rw [mk1 c85])) (Wd.u rfl) rfl rfl ?_
                refine LR.v (Y.move rfl rfl) (Wd.u rfl) rfl rfl ?_
                refine LR.v (Y.move rfl rfl) (Wd.g rfl rfl rfl) rfl rfl ?_
                refine LR.v ((Y.eql rfl rfl rfl).isT (by rw [mk3, mk1 c85])) (Wd.g rfl rfl rfl) rfl rfl ?_
                refine LR.v (Y.pick_t rfl rfl rfl) (Wd.u rfl) rfl rfl ?_
                refine LR.v (Y.assign rfl rfl) (Wd.u rfl) rfl rfl ?_
                refine LR.nil ?_
                refine hK20 _ _ ?_
                refine CW.ret (hE18 .ret nofun _ _ (hret .ret (.inr rfl) _ _ _ (res1 rfl rfl) ?_))
                exact ⟨rfl, hm0⟩
              ·
                refine CW.skip ?_
                refine hK18 _ _ ?_
                refine CW.seq (fun K21 hK21 hE21 => ?_)
                refine CW.region ?_
                refine LR.v (Y.move rfl rfl) (Wd.u rfl) rfl rfl ?_
                refine LR.v ((Y.eql rfl rfl rfl).isT (mk2 c85)) (Wd.u rfl) rfl rfl ?_
                refine LR.v (Y.move rfl rfl) (Wd.u rfl) rfl rfl ?_
                refine LR.v (Y.move rfl rfl) (Wd.g rfl rfl rfl) rfl rfl ?_
                refine LR.v ((Y.eql rfl rfl rfl).isT (by rw [mk3]; exact mk2 c85)) (Wd.g rfl rfl rfl) rfl rfl ?_
                refine LR.v (Y.pick_t rfl rfl rfl) (Wd.u rfl) rfl rfl ?_
                refine LR.v (Y.move rfl rfl) (Wd.u rfl) rfl rfl ?_
                refine LR.v (Y.cast (v2 := idV (keyL (rendL (mchL a.flatten o.flatten t.flatten))).1) (Y.loadN hv13.pt rfl Try.isAgg25 Try.sizeOf25 (by simp [keyL_len]) rfl) (rfl)) (Wd.g rfl rfl rfl) rfl rfl ?_
                refine LR.v (Y.cast (v2 := idV (keyL (rendL (mchL a.flatten t.flatten o.flatten))).1) (Y.loadN hv15.pt rfl Try.isAgg25 Try.sizeOf25 (by simp [keyL_len]) rfl) (rfl)) (Wd.g rfl rfl rfl) rfl rfl ?_
                refine LR.v ((Y.aeql rfl Try.eqGuardType25 (fun w => run_equalIn_id 9998 Try.underlying25 Try.underlying5 Try.sizeOf5 Try.isAgg5 (keyL_len _) (keyL_len _) w) rfl rfl).isT (by rw [mk3])) (Wd.g rfl rfl rfl) rfl rfl ?_
                refine LR.v (Y.pick_t rfl rfl rfl) (Wd.u rfl) rfl rfl ?_
                refine LR.v (Y.move rfl rfl) (Wd.u rfl) rfl rfl ?_
                refine LR.v (Y.move rfl rfl) (Wd.g rfl rfl rfl) rfl rfl ?_
                -- call selvage/selvagelaw19.RerereKeys
                refine LR.call rfl Try.call3 rfl (Wd.g rfl rfl rfl) rfl rfl (rerereKeys_ct _ (rendL (mchL a.flatten o.flatten t.flatten)) w0 _ om.rd.any) (fun v105 H105 r105 => ?_)
                obtain ⟨rfl, hs105⟩ := r105
                replace ha := ha.nw hs105
                replace ho := ho.nw hs105
                replace ht := ht.nw hs105
                replace j34 := j34.nw hs105
                replace j36 := j36.nw hs105
                replace j38 := j38.nw hs105
                replace om := om.nw hs105
                replace j45 := j45.nw hs105
                replace j47 := j47.nw hs105
                replace j49 := j49.nw hs105
                replace on := on.nw hs105
                replace j62 := j62.nw hs105
                replace j67 := j67.nw hs105
                replace j72 := j72.nw hs105
                replace hv13 := hv13.nw hs105
                replace hv15 := hv15.nw hs105
                replace hm0 := hm0.tr hs105
                have hz25 := hs105.size
                refine LR.v (Y.pick_t rfl rfl rfl) (Wd.u rfl) rfl rfl ?_
                refine LR.v (Y.assign rfl rfl) (Wd.u rfl) rfl rfl ?_
                refine LR.nil ?_
                refine hK21 _ _ ?_
                refine CW.ret (hret .ret (.inr rfl) _ _ _ (res1 rfl rfl) ?_)
                exact ⟨rfl, hm0⟩

end Go.Proofs.Ytegfnfhdgbcjbaa.RerD
