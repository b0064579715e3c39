/-
  The contract of MergeParts.
-/
import Derived.Test.YtadgeooceeilpaaMerJ
namespace Go.Proofs.Ytadgeooceeilpaa.MerK
open Go.Proofs.Ytadgeooceeilpaa.E Go.RowKit Go.Proofs.Ytadgeooceeilpaa.LinM Go.Proofs.Ytadgeooceeilpaa.LinA Go.Proofs.Ytadgeooceeilpaa.LinC Go.Proofs.Ytadgeooceeilpaa.LinF Go.Proofs.Ytadgeooceeilpaa.LinL Go.Proofs.Ytadgeooceeilpaa.LinN Go.Proofs.Ytadgeooceeilpaa.MerA Go.Proofs.Ytadgeooceeilpaa.MerB Go.Proofs.Ytadgeooceeilpaa.MerC Go.Proofs.Ytadgeooceeilpaa.MerD Go.Proofs.Ytadgeooceeilpaa.MerE Go.Proofs.Ytadgeooceeilpaa.MerF Go.Proofs.Ytadgeooceeilpaa.MerG Go.Proofs.Ytadgeooceeilpaa.MerH Go.Proofs.Ytadgeooceeilpaa.MerI Go.Proofs.Ytadgeooceeilpaa.MerJ
set_option linter.unusedVariables false
set_option linter.unusedSimpArgs false
set_option linter.unusedSectionVars false
set_option maxRecDepth 100000 in
theorem inf22 : Inf Try.prog 22 9 1 16 := ⟨Try.underlying22, _, _, rfl, rfl, rfl, rfl, rfl⟩

/-- no two chunks of kind 0 stand beside one another -/
def AdjK (ks : List Int) : Prop := ∀ i : Nat, ks[i]? = some 0 → ks[i + 1]? = some 0 → False
theorem adj_snoc {ks : List Int} {k : Int} (h : AdjK ks) (hk : ks = [] ∨ k ≠ 0 ∨ ks.getLastD 0 ≠ 0) : AdjK (ks ++ [k]) := by
  intro i h1 h2
  by_cases hi : i + 1 < ks.length
  · rw [List.getElem?_append_left (by omega)] at h1
    rw [List.getElem?_append_left hi] at h2
    exact h i h1 h2
  · by_cases hi2 : i + 1 = ks.length
    · rw [List.getElem?_append_left (by omega)] at h1
      rw [List.getElem?_append_right (by omega), hi2] at h2
      simp at h2
      rcases hk with rfl | hk | hk
      · simp at h1
      · exact hk h2
      · rcases List.eq_nil_or_concat ks with rfl | ⟨l0, y, rfl⟩
        · simp at h1
        · rw [List.concat_eq_append] at h1 hk hi2
          simp at h1 hk hi2
          subst hi2
          simp at h1
          exact hk h1
    · rw [List.getElem?_append_right (by omega)] at h2
      have h3 := (List.getElem?_eq_some_iff.1 h2).1
      simp at h3
      omega
theorem addG_adj {cs : List Cn} {b o t : List (List UInt8)} (h : AdjK (cs.map (fun c => c.1))) : AdjK ((addG cs b o t).map (fun c => c.1)) := by
  unfold addG addC
  split
  · exact h
  · split
    · rename_i hh
      rw [List.map_append]
      refine adj_snoc h ?_
      rcases hh with hh | hh | hh
      · left; rw [List.eq_nil_of_length_eq_zero hh]; rfl
      · exact .inr (.inl hh)
      · right; right
        rcases List.eq_nil_or_concat cs with rfl | ⟨l0, y, rfl⟩
        · exact absurd rfl hh
        · rw [List.concat_eq_append] at hh ⊢
          simpa [lastC] using hh
    · rename_i hh
      have e : (cs.dropLast ++ [((lastC cs).1, (lastC cs).2.1 ++ b, (lastC cs).2.2.1 ++ o, (lastC cs).2.2.2 ++ t)]).map (fun c => c.1) = cs.map (fun c => c.1) := by
        have e2 := congrArg (List.map (fun c : Cn => c.1)) (snocC (cs := cs) (by omega))
        simp only [List.map_append, List.map_cons, List.map_nil] at e2 ⊢
        exact e2
      rw [e]; exact h
theorem chunks_adj (a o t : List (List UInt8)) : AdjK ((chunksL a o t).map (fun c => c.1)) := by
  have key : ∀ k, AdjK ((chS a o t (parts a o) (parts a t) k).1.map (fun c => c.1)) := by
    intro k
    induction k with
    | zero => intro i h; simp [chS] at h
    | succ k ih =>
      rw [chS]
      split
      · exact ih
      · exact addG_adj (addG_adj ih)
  rw [chunksL, chF]
  exact addG_adj (key _)
theorem kc {k : Int} {b o t : List (List UInt8)} (h : k = kindL b o t) : (k = 0 → o = b ∧ t = b) ∧ (k = 1 → ¬ o = b ∧ t = b) ∧ (k = 2 → o = b ∧ ¬ t = b) ∧ (k = 3 → o = t ∧ ¬ o = b) ∧ (k = 4 → ¬ o = b ∧ ¬ t = b ∧ ¬ o = t) ∧ 0 ≤ k ∧ k ≤ 4 := by
  subst h
  by_cases h1 : o = b
  · by_cases h2 : t = b
    · rw [kd0 h1 h2]; simp [h1, h2]
    · by_cases h3 : o = t
      · exact absurd (h3.symm.trans h1) h2
      · rw [kd2 h3 h2 h1]; simp [h1, h2]
  · by_cases h3 : o = t
    · rw [kd3 (fun e => h1 e.1) h3]; simp [h1, h3]; exact fun e => h1 (h3.trans e)
    · by_cases h2 : t = b
      · rw [kd1 h3 h2]; simp [h1, h2]
      · rw [kd4 h3 h2 h1]; simp [h1, h2, h3]
theorem sameST (va vb : Value) (a b : List (List UInt8)) (w0 : World) (H0 : Heap) (ha : RdT H0 fS 1 va a) (hb : RdT H0 fS 1 vb b) (e : a = b) : Ct Try.prog w0 21 #[va, vb] H0 (fun r H2 => r = .bool true ∧ Nw H0 H2) :=
  (same3 va vb a b w0 H0 ha hb).mono (fun r H2 ⟨h1, h2⟩ => ⟨by rw [h1, decide_eq_true e], h2⟩)
theorem cat_snoc {g : Ck → List (List UInt8)} {l : List Ck} {i : Nat} (h : i < l.length) : ((l.take (i + 1)).map g).flatten = ((l.take i).map g).flatten ++ g l[i] := by
  rw [List.take_succ_eq_append_getElem h, List.map_append, List.flatten_append]; simp
theorem cat_len {g : Ck → List (List UInt8)} {l : List Ck} {i : Nat} (h : i ≤ l.length) : ((l.take i).map g).flatten.length ≤ ((l.map g).flatten).length := by
  conv => rhs; rw [← List.take_append_drop i l]
  rw [List.map_append, List.flatten_append, List.length_append]; omega
theorem adj_ne {l : List Ck} {i : Nat} (h : AdjK ((l.map Ck.c).map (fun c => c.1))) (hi : i + 1 < l.length) (h0 : l[i + 1].k = 0) : l[i].k ≠ 0 := fun h1 => h i (by rw [List.getElem?_map, List.getElem?_map, List.getElem?_eq_getElem (by omega)]; simp [h1]) (by rw [List.getElem?_map, List.getElem?_map, List.getElem?_eq_getElem (by omega)]; simp [h0])
theorem adj_ne2 {l : List Ck} {i : Nat} (h : AdjK ((l.map Ck.c).map (fun c => c.1))) (h1 : 0 < i) (hi : i < l.length) (h0 : l[i].k = 0) : l[i - 1].k ≠ 0 := by
  obtain ⟨j, rfl⟩ : ∃ j, i = j + 1 := ⟨i - 1, by omega⟩
  exact adj_ne h hi h0
theorem part_len {g : Ck → List (List UInt8)} {l : List Ck} {i : Nat} (h : i < l.length) : (g l[i]).length ≤ ((l.map g).flatten).length := by
  have h1 := cat_snoc (g := g) h
  have h2 := cat_len (g := g) (l := l) (i := i + 1) (by omega)
  rw [h1, List.length_append] at h2; omega

set_option maxHeartbeats 16000000 in
theorem mergeParts_ct (v1 v2 v3 : Value) (a o t : List (List UInt8)) (w0 : World) (H0 : Heap)
    (ha : RdT H0 fS 1 v1 a) (ho : RdT H0 fS 1 v2 o) (ht : RdT H0 fS 1 v3 t) (hal : (∀ s ∈ a, s.length ≤ 1048576) ∧ a.length ≤ 1048576) (hol : (∀ s ∈ o, s.length ≤ 1048576) ∧ o.length ≤ 1048576) (htl : (∀ s ∈ t, s.length ≤ 1048576) ∧ t.length ≤ 1048576) :
    Ct Try.prog w0 6 #[v1, v2, v3] H0 (fun r H2 => r = .bool true ∧ Nw H0 H2) := by
  refine Ct.enter (args := [v1, v2, v3]) Try.func6 rfl rfl rfl ?_
  intro Q0 hret
  have hm0 : Nw H0 H0 := Mo.refl _ _
  replace ha := ha.bnd
  have bf_ha := Rd.bf ha
  replace ho := ho.bnd
  have bf_ho := Rd.bf ho
  replace ht := ht.bnd
  have bf_ht := Rd.bf ht
  refine CW.seq (fun K1 hK1 hE1 => ?_)
  refine CW.region ?_
  refine LR.v (Y.assign rfl rfl) (Wd.u rfl) rfl rfl ?_
  refine LR.nil ?_
  refine hK1 _ _ ?_
  refine CW.seq (fun K2 hK2 hE2 => ?_)
  refine CW.seq (fun K3 hK3 hE3 => ?_)
  refine CW.region ?_
  -- call selvage/selvagelaw14.known
  refine LR.call rfl Try.call10 rfl (Wd.u rfl) rfl rfl (known_ct w0 _) (fun v18 H18 r18 => ?_)
  obtain ⟨rfl, hs18⟩ := r18
  replace ha := ha.nw hs18
  replace ho := ho.nw hs18
  replace ht := ht.nw hs18
  replace hm0 := hm0.tr hs18
  have hz1 := hs18.size
  refine LR.v (Y.not rfl rfl) (Wd.u rfl) rfl rfl ?_
  refine LR.nil ?_
  refine hK3 _ _ ?_
  refine CW.cond_f rfl ?_
  refine CW.skip ?_
  refine hK2 _ _ ?_
  refine CW.seq (fun K4 hK4 hE4 => ?_)
  refine CW.seq (fun K5 hK5 hE5 => ?_)
  refine CW.region ?_
  refine LR.v (Y.move rfl rfl) (Wd.u rfl) rfl rfl ?_
  refine LR.v (Y.move rfl rfl) (Wd.u rfl) rfl rfl ?_
  refine LR.v (Y.move rfl rfl) (Wd.u rfl) rfl rfl ?_
  -- call selvage/selvagelaw14.few
  refine LR.call rfl Try.call11 rfl (Wd.u rfl) rfl rfl (few_ct3 _ _ _ a o t w0 _ ha.any ho.any ht.any hal hol htl) (fun v23 H23 r23 => ?_)
  obtain ⟨rfl, hs23⟩ := r23
  replace ha := ha.nw hs23
  replace ho := ho.nw hs23
  replace ht := ht.nw hs23
  replace hm0 := hm0.tr hs23
  have hz2 := hs23.size
  refine LR.v (Y.notp rfl rfl) (Wd.u rfl) rfl rfl ?_
  refine LR.nil ?_
  refine hK5 _ _ ?_
  refine CW.condp rfl (fun c24 => ?_) (fun c24 => ?_)
  ·
    refine CW.seq (fun K6 hK6 hE6 => ?_)
    refine CW.region ?_
    refine LR.v (Y.assign rfl rfl) (Wd.u rfl) rfl rfl ?_
    refine LR.nil ?_
    refine hK6 _ _ ?_
    refine CW.ret (hE4 .ret nofun _ _ (hret .ret (.inr rfl) _ _ _ (res1 rfl rfl) ?_))
    exact ⟨rfl, hm0⟩
  ·
    obtain ⟨fa, fo, ft⟩ := Decidable.not_not.1 c24
    obtain ⟨fa1, fa2⟩ := Few.flat fa
    obtain ⟨fo1, fo2⟩ := Few.flat fo
    obtain ⟨ft1, ft2⟩ := Few.flat ft
    refine CW.skip ?_
    refine hK4 _ _ ?_
    refine CW.seq (fun K7 hK7 hE7 => ?_)
    refine CW.region ?_
    refine LR.v (Y.move rfl rfl) (Wd.u rfl) rfl rfl ?_
    refine LR.v (Y.move rfl rfl) (Wd.u rfl) rfl rfl ?_
    refine LR.v (Y.move rfl rfl) (Wd.u rfl) rfl rfl ?_
    -- call selvage/merge3.Chunks
    refine LR.call rfl Try.call12 rfl (Wd.u rfl) rfl rfl (chunks_ct _ _ _ a o t w0 _ ha.any ho.any ht.any (by omega) (by omega) (by omega)) (fun v29 H29 r29 => ?_)
    obtain ⟨vl, l, rfl, hll, hrl, hxl, hs29⟩ := r29
    replace ha := ha.nw hs29
    replace ho := ho.nw hs29
    replace ht := ht.nw hs29
    replace hm0 := hm0.tr hs29
    have hz3 := hs29.size
    replace hrl := hrl.bnd
    have bf_hrl := Rd.bf hrl
    replace hxl := fun x hx_ => (hxl x hx_).bnd
    have bf_hxl : BF (fun b => H23.size ≤ b ∧ b < H29.size) H29.size := fun b h => h.2
    have hg := chunks_good a o t
    have hadj := chunks_adj a o t
    obtain ⟨eb, eo, et⟩ := chunks_cat a o t
    have hlen := len_of hll (by omega)
    rw [← hll] at hg hadj eb eo et
    simp only [List.map_map, Function.comp_def] at eb eo et
    have hgk : ∀ i (h : i < l.length), GoodC l[i].c := fun i h => hg _ (List.mem_map.2 ⟨l[i], List.getElem_mem h, rfl⟩)
    refine LR.v (Y.move rfl rfl) (Wd.u rfl) rfl rfl ?_
    refine LR.v (Y.extract rfl rfl rfl) (Wd.u rfl) rfl rfl ?_
    refine LR.v (Y.extract rfl rfl rfl) (Wd.u rfl) rfl rfl ?_
    refine LR.v (Y.assign rfl rfl) (Wd.u rfl) rfl rfl ?_
    refine LR.v (Y.assign rfl rfl) (Wd.u rfl) rfl rfl ?_
    refine LR.nil ?_
    refine hK7 _ _ ?_
    refine CW.seq (fun K8 hK8 hE8 => ?_)
    refine CW.seq (fun K9 hK9 hE9 => ?_)
    refine CW.region ?_
    refine LR.v (Y.move rfl rfl) (Wd.u rfl) rfl rfl ?_
    refine LR.v ((Y.neq rfl rfl rfl).isF (fun h => h rfl)) (Wd.u rfl) rfl rfl ?_
    refine LR.nil ?_
    refine hK9 _ _ ?_
    refine CW.cond_f rfl ?_
    refine CW.skip ?_
    refine hK8 _ _ ?_
    refine CW.seq (fun K10 hK10 hE10 => ?_)
    refine CW.region ?_
    refine LR.v (Y.assign rfl rfl) (Wd.u rfl) rfl rfl ?_
    refine LR.v (Y.assign rfl rfl) (Wd.u rfl) rfl rfl ?_
    refine LR.v (Y.assign rfl rfl) (Wd.u rfl) rfl rfl ?_
    refine LR.nil ?_
    refine hK10 _ _ ?_
    refine CW.seq (fun K11 hK11 hE11 => ?_)
    refine CW.seq (fun K12 hK12 hE12 => ?_)
    refine CW.region ?_
    refine LR.v (Y.assign rfl rfl) (Wd.u rfl) rfl rfl ?_
    refine LR.nil ?_
    refine hK12 _ _ ?_
    refine CW.block (fun K13 hK13 hX13 hE13 => ?_)
    refine CW.loop (fun (s_ : (Nat) × (Value) × (Nat) × (Value) × (Nat) × (Value) × (Nat)) => match s_ with | (i, va, ka, vb, kb, vc, kc_) => [(0, v1), (1, v2), (2, v3), (7, vl), (9, va), (10, vb), (11, vc), (12, .int .i64 i)])
      (fun (s_ : (Nat) × (Value) × (Nat) × (Value) × (Nat) × (Value) × (Nat)) (H : Heap) => match s_ with | (i, va, ka, vb, kb, vc, kc_) => (i ≤ l.length) ∧ (Ow ka 9 H fS 1 va ((l.take i).map (fun x => x.b)).flatten) ∧ (Ow kb 9 H fS 1 vb ((l.take i).map (fun x => x.o)).flatten) ∧ (Ow kc_ 9 H fS 1 vc ((l.take i).map (fun x => x.t)).flatten) ∧ (Nx 0 H29.size ka) ∧ (Nx 0 H29.size kb) ∧ (Nx 0 H29.size kc_) ∧ (Dj ka kb) ∧ (Dj ka kc_) ∧ (Dj kb kc_) ∧ Nw H29 H)
      (fun (s_ : (Nat) × (Value) × (Nat) × (Value) × (Nat) × (Value) × (Nat)) => match s_ with | (i, va, ka, vb, kb, vc, kc_) => l.length - i) (0, .slice none 0 0, 0, .slice none 0 0, 0, .slice none 0 0, 0) ⟨rfl, rfl, rfl, rfl, rfl, rfl, rfl, rfl, trivial⟩ ?_ ?_
    ·
      exact ⟨(by omega), Ow.nil fS_len fS_one, Ow.nil fS_len fS_one, Ow.nil fS_len fS_one, Nx.refl _ _, Nx.refl _ _, Nx.refl _ _, Dj.z, Dj.z, Dj.z, Mo.refl _ _⟩
    rintro ⟨i, va, ka, vb, kb, vc, kc_⟩ HL1 hI1 K14 hN14 hE14
    obtain ⟨hi, oa, ob, oc, nxl_oa, nxl_ob, nxl_oc, dj_oa_ob, dj_oa_oc, dj_ob_oc, hlm1⟩ := hI1
    have df1 := DF.app (DF.z) (bf_ha.mono hm0.size) nxl_oa
    have df2 := DF.app (DF.z) (bf_ho.mono hm0.size) nxl_oa
    have df3 := DF.app (DF.z) (bf_ht.mono hm0.size) nxl_oa
    have df4 := DF.app (DF.z) (bf_hrl.mono (by omega)) nxl_oa
    have df5 := DF.app (DF.z) (bf_hxl.mono (by omega)) nxl_oa
    have nx6 : Nx 0 H0.size ka := Nx.tr (Nx.refl 0 _) nxl_oa hm0.size
    have df7 := DF.app (DF.z) (bf_ha.mono hm0.size) nxl_ob
    have df8 := DF.app (DF.z) (bf_ho.mono hm0.size) nxl_ob
    have df9 := DF.app (DF.z) (bf_ht.mono hm0.size) nxl_ob
    have df10 := DF.app (DF.z) (bf_hrl.mono (by omega)) nxl_ob
    have df11 := DF.app (DF.z) (bf_hxl.mono (by omega)) nxl_ob
    have nx12 : Nx 0 H0.size kb := Nx.tr (Nx.refl 0 _) nxl_ob hm0.size
    have df13 := DF.app (DF.z) (bf_ha.mono hm0.size) nxl_oc
    have df14 := DF.app (DF.z) (bf_ho.mono hm0.size) nxl_oc
    have df15 := DF.app (DF.z) (bf_ht.mono hm0.size) nxl_oc
    have df16 := DF.app (DF.z) (bf_hrl.mono (by omega)) nxl_oc
    have df17 := DF.app (DF.z) (bf_hxl.mono (by omega)) nxl_oc
    have nx18 : Nx 0 H0.size kc_ := Nx.tr (Nx.refl 0 _) nxl_oc hm0.size
    replace ha := ha.nw hlm1
    replace ho := ho.nw hlm1
    replace ht := ht.nw hlm1
    replace hrl := hrl.nw hlm1
    replace hxl := fun x hx_ => (hxl x hx_).nw hlm1
    replace hm0 := hm0.tr hlm1
    have hz4 := hlm1.size
    have hle_oa := oa.le
    have hle_ob := ob.le
    have hle_oc := oc.le
    have dj19 := dj_oa_ob
    have dj20 := dj_oa_oc
    have dj21 := dj_ob_oc
    have nx22 := nxl_oa
    have nx23 := nxl_ob
    have nx24 := nxl_oc
    refine CW.seq (fun K15 hK15 hE15 => ?_)
    refine CW.seq (fun K16 hK16 hE16 => ?_)
    refine CW.region ?_
    refine LR.v (Y.move rfl rfl) (Wd.u rfl) rfl rfl ?_
    refine LR.v (Y.move rfl rfl) (Wd.u rfl) rfl rfl ?_
    refine LR.v (Y.len hrl rfl Try.runUnderlying25 rfl) (Wd.u rfl) rfl rfl ?_
    refine LR.v (Y.lss rfl rfl rfl) (Wd.u rfl) rfl rfl ?_
    refine LR.nil ?_
    refine hK16 _ _ ?_
    refine CW.condp rfl (fun c37 => ?_) (fun c37 => ?_)
    ·
      refine CW.skip ?_
      refine hK15 _ _ ?_
      refine CW.seq (fun K17 hK17 hE17 => ?_)
      refine CW.block (fun K18 hK18 hX18 hE18 => ?_)
      refine CW.seq (fun K19 hK19 hE19 => ?_)
      refine CW.region ?_
      refine LR.v (Y.move rfl rfl) (Wd.u rfl) rfl rfl ?_
      refine LR.v (Y.move rfl rfl) (Wd.u rfl) rfl rfl ?_
      refine LR.e (g := fun ad => .pointer (some ad)) (Y.indexAddrF hrl (i) rfl Try.runUnderlying25 Try.sizeOf42 rfl rfl (by first | rfl | omega) (by first | omega | (simp; omega) | (simp; done))) (Wd.u rfl) rfl rfl (fun ad42 pt42 => ?_)
      have bf_pt42 := bf_hrl
      refine LR.v (Y.loadN pt42.pt rfl Try.isAgg42 Try.sizeOf42 (rfl) rfl) (Wd.u rfl) rfl rfl ?_
      refine LR.z (Z.allocv rfl Try.zeroValue42) (Wd.u rfl) rfl rfl (fun v13 H13 r13 => ?_)
      obtain ⟨rfl, hc, hs13, ob13, hH13⟩ := r13
      have hzs13 : H13.size = HL1.size + 1 := by rw [hH13]; simp
      have df25 := (DF.new (bf_ha.mono hm0.size) : DF _ (HL1.size + 1))
      have df26 := (DF.new (bf_ho.mono hm0.size) : DF _ (HL1.size + 1))
      have df27 := (DF.new (bf_ht.mono hm0.size) : DF _ (HL1.size + 1))
      have df28 := (DF.new (bf_hrl.mono (by omega)) : DF _ (HL1.size + 1))
      have df29 := (DF.new (bf_hxl.mono (by omega)) : DF _ (HL1.size + 1))
      have dj30 : Dj ka (HL1.size + 1) := Dj.new oa.le
      have dj31 : Dj kb (HL1.size + 1) := Dj.new ob.le
      have dj32 : Dj kc_ (HL1.size + 1) := Dj.new oc.le
      have df33 := (DF.new (bf_pt42.mono (by omega)) : DF _ (HL1.size + 1))
      have nx34 : Nx 0 H0.size (HL1.size + 1) := Nx.new hm0.size
      have nx35 : Nx 0 H29.size (HL1.size + 1) := Nx.new hlm1.size
      replace ha := ha.nw hs13
      replace ho := ho.nw hs13
      replace ht := ht.nw hs13
      replace hrl := hrl.nw hs13
      replace hxl := fun x hx_ => (hxl x hx_).nw hs13
      replace oa := oa.nw hs13
      replace ob := ob.nw hs13
      replace oc := oc.nw hs13
      replace pt42 := pt42.nw hs13
      replace hm0 := hm0.tr hs13
      replace hlm1 := hlm1.tr hs13
      have hz5 := hs13.size
      refine LR.s (S.var hc (_) (fK l[i]) rfl rfl rfl rfl (fK_one l[i]) Try.sizeOf42 (rfl) (Nat.le_of_ble_eq_true rfl) (rfl)) (Wd.u rfl) rfl (fun H12_5 r12_5 => ?_)
      obtain ⟨hc, hs12_5⟩ := r12_5
      replace hs12_5 := hs12_5.md1
      replace ha := ha.upL hs12_5 (DFL.cons df25 DFL.nil)
      replace ho := ho.upL hs12_5 (DFL.cons df26 DFL.nil)
      replace ht := ht.upL hs12_5 (DFL.cons df27 DFL.nil)
      replace hrl := hrl.upL hs12_5 (DFL.cons df28 DFL.nil)
      replace hxl := fun x hx_ => (hxl x hx_).upL hs12_5 (DFL.cons df29 DFL.nil)
      replace oa := oa.upL hs12_5 (DL.cons dj30 DL.nil)
      replace ob := ob.upL hs12_5 (DL.cons dj31 DL.nil)
      replace oc := oc.upL hs12_5 (DL.cons dj32 DL.nil)
      replace pt42 := pt42.upL hs12_5 (DFL.cons df33 DFL.nil)
      replace hm0 := (Mo.trL (ks := []) (hm0.mdn []) hs12_5 (MIL.cons (MI.app MI.z (nx34) (Nat.le_refl _)) MIL.nil)).nil
      replace hlm1 := (Mo.trL (ks := []) (hlm1.mdn []) hs12_5 (MIL.cons (MI.app MI.z (nx35) (Nat.le_refl _)) MIL.nil)).nil
      have hz6 := hs12_5.size
      obtain ⟨hk0, hz0⟩ := hgk i (by omega)
      simp only [Ck.c] at hk0 hz0
      obtain ⟨q0, q1, q2, q3, q4, q5, q6⟩ := kc hk0
      have w1 := part_len (g := fun x => x.b) (show i < l.length by omega)
      have w2 := part_len (g := fun x => x.o) (show i < l.length by omega)
      have w3 := part_len (g := fun x => x.t) (show i < l.length by omega)
      rw [eb] at w1
      rw [eo] at w2
      rw [et] at w3
      refine LR.nil ?_
      refine hK19 _ _ ?_
      refine CW.seq (fun K20 hK20 hE20 => ?_)
      refine CW.region_any (fun Hq => Mo (Ms [ka, kb, kc_]) H12_5 Hq) [] rfl ?_
      have hq13 : Mo (Ms [ka, kb, kc_]) H12_5 H12_5 := Mo.refl _ _
      have nx36 := Nx.refl ka H12_5.size
      have nx37 := Nx.refl kb H12_5.size
      have nx38 := Nx.refl kc_ H12_5.size
      refine LH.take 0 (by kernel_rfl) rfl (by kernel_rfl) (by kernel_rfl) (by kernel_rfl) (fun Hq hq => Y.move rfl rfl) (Wd.u rfl) rfl rfl hq13 ?_
      refine LH.take 1 (by kernel_rfl) rfl (by kernel_rfl) (by kernel_rfl) (by kernel_rfl) (fun Hq hq => Y.fieldAddr (hc.upL hq (DL.cons dj30.symm (DL.cons dj31.symm (DL.cons dj32.symm DL.nil)))).pt rfl Try.runUnderlying42 rfl rfl Try.sizeOf22 (by decide) rfl) (Wd.u rfl) rfl rfl hq13 ?_
      refine LH.take 2 (by kernel_rfl) rfl (by kernel_rfl) (by kernel_rfl) (by kernel_rfl) (fun Hq hq => Y.load1 ((hc.upL hq (DL.cons dj30.symm (DL.cons dj31.symm (DL.cons dj32.symm DL.nil)))).pt.drop 1) rfl Try.isAgg22 rfl) (Wd.u rfl) rfl rfl hq13 ?_
      refine LH.take 4 (by kernel_rfl) rfl (by kernel_rfl) (by kernel_rfl) (by kernel_rfl) (fun Hq hq => Y.move rfl rfl) (Wd.u rfl) rfl rfl hq13 ?_
      refine LH.take 5 (by kernel_rfl) rfl (by kernel_rfl) (by kernel_rfl) (by kernel_rfl) (fun Hq hq => Y.fieldAddr (hc.upL hq (DL.cons dj30.symm (DL.cons dj31.symm (DL.cons dj32.symm DL.nil)))).pt rfl Try.runUnderlying42 rfl rfl Try.sizeOf22 (by decide) rfl) (Wd.u rfl) rfl rfl hq13 ?_
      refine LH.take 6 (by kernel_rfl) rfl (by kernel_rfl) (by kernel_rfl) (by kernel_rfl) (fun Hq hq => Y.load1 ((hc.upL hq (DL.cons dj30.symm (DL.cons dj31.symm (DL.cons dj32.symm DL.nil)))).pt.drop 2) rfl Try.isAgg22 rfl) (Wd.u rfl) rfl rfl hq13 ?_
      refine LH.take 8 (by kernel_rfl) rfl (by kernel_rfl) (by kernel_rfl) (by kernel_rfl) (fun Hq hq => Y.move rfl rfl) (Wd.u rfl) rfl rfl hq13 ?_
      refine LH.take 9 (by kernel_rfl) rfl (by kernel_rfl) (by kernel_rfl) (by kernel_rfl) (fun Hq hq => Y.fieldAddr (hc.upL hq (DL.cons dj30.symm (DL.cons dj31.symm (DL.cons dj32.symm DL.nil)))).pt rfl Try.runUnderlying42 rfl rfl Try.sizeOf22 (by decide) rfl) (Wd.u rfl) rfl rfl hq13 ?_
      refine LH.take 10 (by kernel_rfl) rfl (by kernel_rfl) (by kernel_rfl) (by kernel_rfl) (fun Hq hq => Y.load1 ((hc.upL hq (DL.cons dj30.symm (DL.cons dj31.symm (DL.cons dj32.symm DL.nil)))).pt.drop 3) rfl Try.isAgg22 rfl) (Wd.u rfl) rfl rfl hq13 ?_
      refine LH.one (i := 3) (by kernel_rfl) ?_
      refine LO.z rfl (Z.apnd oa (hxl l[i] (List.getElem_mem (by omega))).b rfl inf22 rfl rfl (by have h := cat_snoc (g := fun x => x.b) (show i < l.length by omega); have h2 := cat_len (g := fun x => x.b) (show i + 1 ≤ l.length by omega); rw [h, List.length_append] at h2; rw [eb] at h2; omega) (by have h := cat_snoc (g := fun x => x.b) (show i < l.length by omega); have h2 := cat_len (g := fun x => x.b) (show i + 1 ≤ l.length by omega); rw [h, List.length_append] at h2; rw [eb] at h2; omega)) (Wd.u rfl) rfl rfl (fun v47 H47 r47 => ?_)
      obtain ⟨k47, oa, hk47, hs47⟩ := r47
      replace hk47 : Nx ka H12_5.size k47 := hk47
      replace hs47 := hs47.md
      have df39 := DF.app (df1) (bf_ha.mono hm0.size) hk47
      have df40 := DF.app (df2) (bf_ho.mono hm0.size) hk47
      have df41 := DF.app (df3) (bf_ht.mono hm0.size) hk47
      have df42 := DF.app (df4) (bf_hrl.mono (by omega)) hk47
      have df43 := DF.app (df5) (bf_hxl.mono (by omega)) hk47
      have dj44 : Dj kb k47 := Dj.app (dj19.symm) ob.le hk47
      have dj45 : Dj kc_ k47 := Dj.app (dj20.symm) oc.le hk47
      have dj46 : Dj (HL1.size + 1) k47 := Dj.app (dj30.symm) hc.lt hk47
      have nx47 : Nx 0 H0.size k47 := Nx.tr (nx6) hk47 hm0.size
      have nx48 : Nx 0 H29.size k47 := Nx.tr (nx22) hk47 hlm1.size
      have nx49 : Nx ka H12_5.size k47 := Nx.tr (nx36) hk47 hq13.size
      replace ha := ha.upL hs47 (DFL.cons df1 DFL.nil)
      replace ho := ho.upL hs47 (DFL.cons df2 DFL.nil)
      replace ht := ht.upL hs47 (DFL.cons df3 DFL.nil)
      replace hrl := hrl.upL hs47 (DFL.cons df4 DFL.nil)
      replace hxl := fun x hx_ => (hxl x hx_).upL hs47 (DFL.cons df5 DFL.nil)
      replace ob := ob.upL hs47 (DL.cons dj19.symm DL.nil)
      replace oc := oc.upL hs47 (DL.cons dj20.symm DL.nil)
      replace hc := hc.upL hs47 (DL.cons dj30.symm DL.nil)
      replace hm0 := (Mo.trL (ks := []) (hm0.mdn []) hs47 (MIL.cons (MI.app MI.z (nx6) (Nat.le_refl _)) MIL.nil)).nil
      replace hlm1 := (Mo.trL (ks := []) (hlm1.mdn []) hs47 (MIL.cons (MI.app MI.z (nx22) (Nat.le_refl _)) MIL.nil)).nil
      replace hq13 := hq13.trL hs47 (MIL.cons (MI.app (MI.root (by simp)) (nx36) (Nat.le_refl _)) MIL.nil)
      have hz7 := hs47.size
      have hle_oa := oa.le
      refine ⟨.inr hq13, LH.narrow (SH2 := fun Hq => Mo (Ms [k47, kb, kc_]) H47 Hq) (fun Hq hq => hq13.trL hq (MIL.cons (MI.app (MI.root (by simp)) (nx49) (Nat.le_refl _)) (MIL.cons (MI.app (MI.root (by simp)) (nx37) (Nat.le_refl _)) (MIL.cons (MI.app (MI.root (by simp)) (nx38) (Nat.le_refl _)) MIL.nil)))) ?_⟩
      have hq13 : Mo (Ms [k47, kb, kc_]) H47 H47 := Mo.refl _ _
      have nx50 := Nx.refl k47 H47.size
      have nx51 := Nx.refl kb H47.size
      have nx52 := Nx.refl kc_ H47.size
      refine LH.one (i := 7) (by kernel_rfl) ?_
      refine LO.z rfl (Z.apnd ob (hxl l[i] (List.getElem_mem (by omega))).o rfl inf22 rfl rfl (by have h := cat_snoc (g := fun x => x.o) (show i < l.length by omega); have h2 := cat_len (g := fun x => x.o) (show i + 1 ≤ l.length by omega); rw [h, List.length_append] at h2; rw [eo] at h2; omega) (by have h := cat_snoc (g := fun x => x.o) (show i < l.length by omega); have h2 := cat_len (g := fun x => x.o) (show i + 1 ≤ l.length by omega); rw [h, List.length_append] at h2; rw [eo] at h2; omega)) (Wd.u rfl) rfl rfl (fun v51 H51 r51 => ?_)
      obtain ⟨k51, ob, hk51, hs51⟩ := r51
      replace hk51 : Nx kb H47.size k51 := hk51
      replace hs51 := hs51.md
      have df53 := DF.app (df7) (bf_ha.mono hm0.size) hk51
      have df54 := DF.app (df8) (bf_ho.mono hm0.size) hk51
      have df55 := DF.app (df9) (bf_ht.mono hm0.size) hk51
      have df56 := DF.app (df10) (bf_hrl.mono (by omega)) hk51
      have df57 := DF.app (df11) (bf_hxl.mono (by omega)) hk51
      have dj58 : Dj k47 k51 := Dj.app (dj44.symm) oa.le hk51
      have dj59 : Dj kc_ k51 := Dj.app (dj21.symm) oc.le hk51
      have dj60 : Dj (HL1.size + 1) k51 := Dj.app (dj31.symm) hc.lt hk51
      have nx61 : Nx 0 H0.size k51 := Nx.tr (nx12) hk51 hm0.size
      have nx62 : Nx 0 H29.size k51 := Nx.tr (nx23) hk51 hlm1.size
      have nx63 : Nx kb H47.size k51 := Nx.tr (nx51) hk51 hq13.size
      replace ha := ha.upL hs51 (DFL.cons df7 DFL.nil)
      replace ho := ho.upL hs51 (DFL.cons df8 DFL.nil)
      replace ht := ht.upL hs51 (DFL.cons df9 DFL.nil)
      replace hrl := hrl.upL hs51 (DFL.cons df10 DFL.nil)
      replace hxl := fun x hx_ => (hxl x hx_).upL hs51 (DFL.cons df11 DFL.nil)
      replace oa := oa.upL hs51 (DL.cons dj44.symm DL.nil)
      replace oc := oc.upL hs51 (DL.cons dj21.symm DL.nil)
      replace hc := hc.upL hs51 (DL.cons dj31.symm DL.nil)
      replace hm0 := (Mo.trL (ks := []) (hm0.mdn []) hs51 (MIL.cons (MI.app MI.z (nx12) (Nat.le_refl _)) MIL.nil)).nil
      replace hlm1 := (Mo.trL (ks := []) (hlm1.mdn []) hs51 (MIL.cons (MI.app MI.z (nx23) (Nat.le_refl _)) MIL.nil)).nil
      replace hq13 := hq13.trL hs51 (MIL.cons (MI.app (MI.root (by simp)) (nx51) (Nat.le_refl _)) MIL.nil)
      have hz8 := hs51.size
      have hle_ob := ob.le
      refine ⟨.inr hq13, LH.narrow (SH2 := fun Hq => Mo (Ms [k47, k51, kc_]) H51 Hq) (fun Hq hq => hq13.trL hq (MIL.cons (MI.app (MI.root (by simp)) (nx50) (Nat.le_refl _)) (MIL.cons (MI.app (MI.root (by simp)) (nx63) (Nat.le_refl _)) (MIL.cons (MI.app (MI.root (by simp)) (nx52) (Nat.le_refl _)) MIL.nil)))) ?_⟩
      have hq13 : Mo (Ms [k47, k51, kc_]) H51 H51 := Mo.refl _ _
      have nx64 := Nx.refl k47 H51.size
      have nx65 := Nx.refl k51 H51.size
      have nx66 := Nx.refl kc_ H51.size
      refine LH.one (i := 11) (by kernel_rfl) ?_
      refine LO.z rfl (Z.apnd oc (hxl l[i] (List.getElem_mem (by omega))).t rfl inf22 rfl rfl (by have h := cat_snoc (g := fun x => x.t) (show i < l.length by omega); have h2 := cat_len (g := fun x => x.t) (show i + 1 ≤ l.length by omega); rw [h, List.length_append] at h2; rw [et] at h2; omega) (by have h := cat_snoc (g := fun x => x.t) (show i < l.length by omega); have h2 := cat_len (g := fun x => x.t) (show i + 1 ≤ l.length by omega); rw [h, List.length_append] at h2; rw [et] at h2; omega)) (Wd.u rfl) rfl rfl (fun v55 H55 r55 => ?_)
      obtain ⟨k55, oc, hk55, hs55⟩ := r55
      replace hk55 : Nx kc_ H51.size k55 := hk55
      replace hs55 := hs55.md
      have df67 := DF.app (df13) (bf_ha.mono hm0.size) hk55
      have df68 := DF.app (df14) (bf_ho.mono hm0.size) hk55
      have df69 := DF.app (df15) (bf_ht.mono hm0.size) hk55
      have df70 := DF.app (df16) (bf_hrl.mono (by omega)) hk55
      have df71 := DF.app (df17) (bf_hxl.mono (by omega)) hk55
      have dj72 : Dj k47 k55 := Dj.app (dj45.symm) oa.le hk55
      have dj73 : Dj k51 k55 := Dj.app (dj59.symm) ob.le hk55
      have dj74 : Dj (HL1.size + 1) k55 := Dj.app (dj32.symm) hc.lt hk55
      have nx75 : Nx 0 H0.size k55 := Nx.tr (nx18) hk55 hm0.size
      have nx76 : Nx 0 H29.size k55 := Nx.tr (nx24) hk55 hlm1.size
      have nx77 : Nx kc_ H51.size k55 := Nx.tr (nx66) hk55 hq13.size
      replace ha := ha.upL hs55 (DFL.cons df13 DFL.nil)
      replace ho := ho.upL hs55 (DFL.cons df14 DFL.nil)
      replace ht := ht.upL hs55 (DFL.cons df15 DFL.nil)
      replace hrl := hrl.upL hs55 (DFL.cons df16 DFL.nil)
      replace hxl := fun x hx_ => (hxl x hx_).upL hs55 (DFL.cons df17 DFL.nil)
      replace oa := oa.upL hs55 (DL.cons dj45.symm DL.nil)
      replace ob := ob.upL hs55 (DL.cons dj59.symm DL.nil)
      replace hc := hc.upL hs55 (DL.cons dj32.symm DL.nil)
      replace hm0 := (Mo.trL (ks := []) (hm0.mdn []) hs55 (MIL.cons (MI.app MI.z (nx18) (Nat.le_refl _)) MIL.nil)).nil
      replace hlm1 := (Mo.trL (ks := []) (hlm1.mdn []) hs55 (MIL.cons (MI.app MI.z (nx24) (Nat.le_refl _)) MIL.nil)).nil
      replace hq13 := hq13.trL hs55 (MIL.cons (MI.app (MI.root (by simp)) (nx66) (Nat.le_refl _)) MIL.nil)
      have hz9 := hs55.size
      have hle_oc := oc.le
      refine ⟨.inr hq13, LH.narrow (SH2 := fun Hq => Mo (Ms [k47, k51, k55]) H55 Hq) (fun Hq hq => hq13.trL hq (MIL.cons (MI.app (MI.root (by simp)) (nx64) (Nat.le_refl _)) (MIL.cons (MI.app (MI.root (by simp)) (nx65) (Nat.le_refl _)) (MIL.cons (MI.app (MI.root (by simp)) (nx77) (Nat.le_refl _)) MIL.nil)))) ?_⟩
      have hq13 : Mo (Ms [k47, k51, k55]) H55 H55 := Mo.refl _ _
      have nx78 := Nx.refl k47 H55.size
      have nx79 := Nx.refl k51 H55.size
      have nx80 := Nx.refl k55 H55.size
      refine LH.take 12 (by kernel_rfl) rfl (by kernel_rfl) (by kernel_rfl) (by kernel_rfl) (fun Hq hq => Y.assign rfl rfl) (Wd.u rfl) rfl rfl hq13 ?_
      refine LH.take 13 (by kernel_rfl) rfl (by kernel_rfl) (by kernel_rfl) (by kernel_rfl) (fun Hq hq => Y.assign rfl rfl) (Wd.u rfl) rfl rfl hq13 ?_
      refine LH.take 14 (by kernel_rfl) rfl (by kernel_rfl) (by kernel_rfl) (by kernel_rfl) (fun Hq hq => Y.assign rfl rfl) (Wd.u rfl) rfl rfl hq13 ?_
      refine LH.done (by kernel_rfl) ?_
      refine hK20 _ _ ?_
      refine CW.seq (fun K21 hK21 hE21 => ?_)
      refine CW.region_any (fun Hq => Nw H55 Hq) [] rfl ?_
      have hqs := Nw.refl H55
      refine LH.take 0 (by kernel_rfl) rfl (by kernel_rfl) (by kernel_rfl) (by kernel_rfl) (fun Hq hq => Y.fieldAddr (hc.pt.nw hq) rfl Try.runUnderlying42 rfl rfl Try.sizeOf22 (by decide) rfl) (Wd.u rfl) rfl rfl hqs ?_
      refine LH.take 1 (by kernel_rfl) rfl (by kernel_rfl) (by kernel_rfl) (by kernel_rfl) (fun Hq hq => Y.load1 ((hc.pt.drop 2).nw hq) rfl Try.isAgg22 rfl) (Wd.u rfl) rfl rfl hqs ?_
      refine LH.take 2 (by kernel_rfl) rfl (by kernel_rfl) (by kernel_rfl) (by kernel_rfl) (fun Hq hq => Y.fieldAddr (hc.pt.nw hq) rfl Try.runUnderlying42 rfl rfl Try.sizeOf22 (by decide) rfl) (Wd.u rfl) rfl rfl hqs ?_
      refine LH.take 3 (by kernel_rfl) rfl (by kernel_rfl) (by kernel_rfl) (by kernel_rfl) (fun Hq hq => Y.load1 ((hc.pt.drop 1).nw hq) rfl Try.isAgg22 rfl) (Wd.u rfl) rfl rfl hqs ?_
      refine LH.take 5 (by kernel_rfl) rfl (by kernel_rfl) (by kernel_rfl) (by kernel_rfl) (fun Hq hq => Y.fieldAddr (hc.pt.nw hq) rfl Try.runUnderlying42 rfl rfl Try.sizeOf22 (by decide) rfl) (Wd.u rfl) rfl rfl hqs ?_
      refine LH.take 6 (by kernel_rfl) rfl (by kernel_rfl) (by kernel_rfl) (by kernel_rfl) (fun Hq hq => Y.load1 ((hc.pt.drop 3).nw hq) rfl Try.isAgg22 rfl) (Wd.u rfl) rfl rfl hqs ?_
      refine LH.take 7 (by kernel_rfl) rfl (by kernel_rfl) (by kernel_rfl) (by kernel_rfl) (fun Hq hq => Y.fieldAddr (hc.pt.nw hq) rfl Try.runUnderlying42 rfl rfl Try.sizeOf22 (by decide) rfl) (Wd.u rfl) rfl rfl hqs ?_
      refine LH.take 8 (by kernel_rfl) rfl (by kernel_rfl) (by kernel_rfl) (by kernel_rfl) (fun Hq hq => Y.load1 ((hc.pt.drop 1).nw hq) rfl Try.isAgg22 rfl) (Wd.u rfl) rfl rfl hqs ?_
      refine LH.take 10 (by kernel_rfl) rfl (by kernel_rfl) (by kernel_rfl) (by kernel_rfl) (fun Hq hq => Y.fieldAddr (hc.pt.nw hq) rfl Try.runUnderlying42 rfl rfl Try.sizeOf22 (by decide) rfl) (Wd.u rfl) rfl rfl hqs ?_
      refine LH.take 11 (by kernel_rfl) rfl (by kernel_rfl) (by kernel_rfl) (by kernel_rfl) (fun Hq hq => Y.load1 ((hc.pt.drop 2).nw hq) rfl Try.isAgg22 rfl) (Wd.u rfl) rfl rfl hqs ?_
      refine LH.take 12 (by kernel_rfl) rfl (by kernel_rfl) (by kernel_rfl) (by kernel_rfl) (fun Hq hq => Y.fieldAddr (hc.pt.nw hq) rfl Try.runUnderlying42 rfl rfl Try.sizeOf22 (by decide) rfl) (Wd.u rfl) rfl rfl hqs ?_
      refine LH.take 13 (by kernel_rfl) rfl (by kernel_rfl) (by kernel_rfl) (by kernel_rfl) (fun Hq hq => Y.load1 ((hc.pt.drop 3).nw hq) rfl Try.isAgg22 rfl) (Wd.u rfl) rfl rfl hqs ?_
      refine LH.one (i := 4) (by kernel_rfl) ?_
      -- call selvage/selvageref12.Same
      refine LO.call rfl rfl Try.call21 rfl (Wd.u rfl) rfl rfl (same3 _ _ l[i].o l[i].b w0 _ (hxl l[i] (List.getElem_mem (by omega))).o.any (hxl l[i] (List.getElem_mem (by omega))).b.any) (fun v60 H60 r60 => ?_)
      obtain ⟨rfl, hs60⟩ := r60
      replace ha := ha.nw hs60
      replace ho := ho.nw hs60
      replace ht := ht.nw hs60
      replace hrl := hrl.nw hs60
      replace hxl := fun x hx_ => (hxl x hx_).nw hs60
      replace oa := oa.nw hs60
      replace ob := ob.nw hs60
      replace oc := oc.nw hs60
      replace hc := hc.nw hs60
      replace hm0 := hm0.tr hs60
      replace hlm1 := hlm1.tr hs60
      have hz10 := hs60.size
      have hq60 := hqs.tr hs60
      refine ⟨.inr hq60, LH.narrow (SH2 := fun Hq => Nw H60 Hq) (fun Hq hq => hq60.tr hq) ?_⟩
      have hqn60 := Nw.refl H60
      refine LH.one (i := 9) (by kernel_rfl) ?_
      -- call selvage/selvageref12.Same
      refine LO.call rfl rfl Try.call21 rfl (Wd.u rfl) rfl rfl (same3 _ _ l[i].t l[i].b w0 _ (hxl l[i] (List.getElem_mem (by omega))).t.any (hxl l[i] (List.getElem_mem (by omega))).b.any) (fun v65 H65 r65 => ?_)
      obtain ⟨rfl, hs65⟩ := r65
      replace ha := ha.nw hs65
      replace ho := ho.nw hs65
      replace ht := ht.nw hs65
      replace hrl := hrl.nw hs65
      replace hxl := fun x hx_ => (hxl x hx_).nw hs65
      replace oa := oa.nw hs65
      replace ob := ob.nw hs65
      replace oc := oc.nw hs65
      replace hc := hc.nw hs65
      replace hm0 := hm0.tr hs65
      replace hlm1 := hlm1.tr hs65
      have hz11 := hs65.size
      have hq65 := hqn60.tr hs65
      refine ⟨.inr hq65, LH.narrow (SH2 := fun Hq => Nw H65 Hq) (fun Hq hq => hq65.tr hq) ?_⟩
      have hqn65 := Nw.refl H65
      refine LH.one (i := 14) (by kernel_rfl) ?_
      -- call selvage/selvageref12.Same
      refine LO.call rfl rfl Try.call21 rfl (Wd.u rfl) rfl rfl (same3 _ _ l[i].o l[i].t w0 _ (hxl l[i] (List.getElem_mem (by omega))).o.any (hxl l[i] (List.getElem_mem (by omega))).t.any) (fun v70 H70 r70 => ?_)
      obtain ⟨rfl, hs70⟩ := r70
      replace ha := ha.nw hs70
      replace ho := ho.nw hs70
      replace ht := ht.nw hs70
      replace hrl := hrl.nw hs70
      replace hxl := fun x hx_ => (hxl x hx_).nw hs70
      replace oa := oa.nw hs70
      replace ob := ob.nw hs70
      replace oc := oc.nw hs70
      replace hc := hc.nw hs70
      replace hm0 := hm0.tr hs70
      replace hlm1 := hlm1.tr hs70
      have hz12 := hs70.size
      have hq70 := hqn65.tr hs70
      refine ⟨.inr hq70, LH.narrow (SH2 := fun Hq => Nw H70 Hq) (fun Hq hq => hq70.tr hq) ?_⟩
      have hqn70 := Nw.refl H70
      refine LH.take 15 (by kernel_rfl) rfl (by kernel_rfl) (by kernel_rfl) (by kernel_rfl) (fun Hq hq => Y.assign rfl rfl) (Wd.u rfl) rfl rfl hqn70 ?_
      refine LH.take 16 (by kernel_rfl) rfl (by kernel_rfl) (by kernel_rfl) (by kernel_rfl) (fun Hq hq => Y.assign rfl rfl) (Wd.u rfl) rfl rfl hqn70 ?_
      refine LH.take 17 (by kernel_rfl) rfl (by kernel_rfl) (by kernel_rfl) (by kernel_rfl) (fun Hq hq => Y.assign rfl rfl) (Wd.u rfl) rfl rfl hqn70 ?_
      refine LH.done (by kernel_rfl) ?_
      have hqe := hqn70
      refine hK21 _ _ ?_
      refine CW.seq (fun K22 hK22 hE22 => ?_)
      refine CW.region ?_
      refine LR.v (Y.assign rfl rfl) (Wd.u rfl) rfl rfl ?_
      refine LR.nil ?_
      refine hK22 _ _ ?_
      refine CW.seq (fun K23 hK23 hE23 => ?_)
      refine CW.seq (fun K24 hK24 hE24 => ?_)
      refine CW.region ?_
      refine LR.v (Y.fieldAddr hc.pt rfl Try.runUnderlying42 rfl rfl Try.sizeOf3 (by decide) rfl) (Wd.u rfl) rfl rfl ?_
      refine LR.v (Y.cast (v2 := .int .i64 l[i].k) (Y.load1 hc.pt rfl Try.isAgg3 rfl) (rfl)) (Wd.u rfl) rfl rfl ?_
      refine LR.nil ?_
      refine hK24 _ _ ?_
      refine CW.block (fun K25 hK25 hX25 hE25 => ?_)
      refine CW.seq (fun K26 hK26 hE26 => ?_)
      refine CW.region ?_
      refine LR.v (Y.eql rfl rfl rfl) (Wd.u rfl) rfl rfl ?_
      refine LR.v (Y.assign rfl rfl) (Wd.u rfl) rfl rfl ?_
      refine LR.nil ?_
      refine hK26 _ _ ?_
      refine CW.condp rfl (fun c73 => ?_) (fun c73 => ?_)
      ·
        obtain ⟨p1, p2⟩ := q0 c73
        refine CW.region ?_
        refine LR.v (Y.move rfl rfl) (Wd.u rfl) rfl rfl ?_
        refine LR.v (Y.move rfl rfl) (Wd.u rfl) rfl rfl ?_
        refine LR.splitp (d := 76) rfl (fun g76 => ?_) (fun g76 => ?_)
        ·
          first
          | contradiction
          | skip
            refine LR.v (Y.move rfl rfl) (Wd.g rfl rfl rfl) rfl rfl ?_
            refine LR.v (Y.pick_t rfl rfl rfl) (Wd.u rfl) rfl rfl ?_
            refine LR.v (Y.move rfl rfl) (Wd.u rfl) rfl rfl ?_
            refine LR.splitp (d := 79) rfl (fun g79 => ?_) (fun g79 => ?_)
            ·
              first
              | contradiction
              | skip
                refine LR.v (Y.move rfl rfl) (Wd.g rfl rfl rfl) rfl rfl ?_
                refine LR.v (Y.eql rfl rfl rfl) (Wd.g rfl rfl rfl) rfl rfl ?_
                refine LR.v (Y.move rfl rfl) (Wd.g rfl rfl rfl) rfl rfl ?_
                refine LR.splitp (d := 82) rfl (fun g82 => ?_) (fun g82 => ?_)
                ·
                  refine LR.gs rfl rfl rfl rfl rfl rfl ?_
                  refine LR.gs rfl rfl rfl rfl rfl rfl ?_
                  refine LR.gs rfl rfl rfl rfl rfl rfl ?_
                  refine LR.gs rfl rfl rfl rfl rfl rfl ?_
                  refine LR.gs rfl rfl rfl rfl rfl rfl ?_
                  refine LR.gs rfl rfl rfl rfl rfl rfl ?_
                  refine LR.gs rfl rfl rfl rfl rfl rfl ?_
                  refine LR.v (Y.pick_t rfl rfl rfl) (Wd.g rfl rfl rfl) rfl rfl ?_
                  refine LR.v (Y.pick_t rfl rfl rfl) (Wd.u rfl) rfl rfl ?_
                  refine LR.v (Y.assign rfl rfl) (Wd.u rfl) rfl rfl ?_
                  refine LR.nil ?_
                  refine hK25 _ _ ?_
                  refine hK23 _ _ ?_
                  refine CW.seq (fun K27 hK27 hE27 => ?_)
                  refine CW.region ?_
                  refine LR.v (Y.move rfl rfl) (Wd.u rfl) rfl rfl ?_
                  refine LR.v (Y.not rfl rfl) (Wd.u rfl) rfl rfl ?_
                  refine LR.v (Y.move rfl rfl) (Wd.u rfl) rfl rfl ?_
                  refine LR.v (Y.fieldAddr hc.pt rfl Try.runUnderlying42 rfl rfl Try.sizeOf22 (by decide) rfl) (Wd.g rfl rfl rfl) rfl rfl ?_
                  refine LR.v (Y.load1 (hc.pt.drop 1) rfl Try.isAgg22 rfl) (Wd.g rfl rfl rfl) rfl rfl ?_
                  refine LR.v (Y.len (hxl l[i] (List.getElem_mem (by omega))).b rfl Try.runUnderlying22 rfl) (Wd.g rfl rfl rfl) rfl rfl ?_
                  refine LR.v (Y.fieldAddr hc.pt rfl Try.runUnderlying42 rfl rfl Try.sizeOf22 (by decide) rfl) (Wd.g rfl rfl rfl) rfl rfl ?_
                  refine LR.v (Y.load1 (hc.pt.drop 2) rfl Try.isAgg22 rfl) (Wd.g rfl rfl rfl) rfl rfl ?_
                  refine LR.v (Y.len (hxl l[i] (List.getElem_mem (by omega))).o rfl Try.runUnderlying22 rfl) (Wd.g rfl rfl rfl) rfl rfl ?_
                  refine LR.v (Y.addi rfl rfl rfl (by omega)) (Wd.g rfl rfl rfl) rfl rfl ?_
                  refine LR.v (Y.fieldAddr hc.pt rfl Try.runUnderlying42 rfl rfl Try.sizeOf22 (by decide) rfl) (Wd.g rfl rfl rfl) rfl rfl ?_
                  refine LR.v (Y.load1 (hc.pt.drop 3) rfl Try.isAgg22 rfl) (Wd.g rfl rfl rfl) rfl rfl ?_
                  refine LR.v (Y.len (hxl l[i] (List.getElem_mem (by omega))).t rfl Try.runUnderlying22 rfl) (Wd.g rfl rfl rfl) rfl rfl ?_
                  refine LR.v (Y.addi rfl rfl rfl (by omega)) (Wd.g rfl rfl rfl) rfl rfl ?_
                  refine LR.v (Y.eql rfl rfl rfl) (Wd.g rfl rfl rfl) rfl rfl ?_
                  refine LR.v (Y.pick_f rfl rfl rfl) (Wd.u rfl) rfl rfl ?_
                  refine LR.nil ?_
                  refine hK27 _ _ ?_
                  refine CW.condp rfl (fun c140 => ?_) (fun c140 => ?_)
                  ·
                    exfalso; omega
                  ·
                    refine CW.skip ?_
                    refine hK18 _ _ ?_
                    refine hK17 _ _ ?_
                    refine CW.region ?_
                    refine LR.v (Y.move rfl rfl) (Wd.u rfl) rfl rfl ?_
                    refine LR.v (Y.addi rfl rfl rfl (by omega)) (Wd.u rfl) rfl rfl ?_
                    refine LR.v (Y.assign rfl rfl) (Wd.u rfl) rfl rfl ?_
                    refine LR.nil ?_
                    refine QN.sub (hN14 (i + 1, v47, k47, v51, k51, v55, k55) _ ?_ ?_) ⟨rfl, rfl, rfl, rfl, rfl, rfl, rfl, (iv (by omega)), trivial⟩
                    · exact ⟨(by omega), by rw [cat_snoc (by omega)]; exact oa, by rw [cat_snoc (by omega)]; exact ob, by rw [cat_snoc (by omega)]; exact oc, nx48, nx62, nx76, dj58, dj72, dj73, hlm1⟩
                    · first | omega | (simp only; omega) | (simp; omega)
                ·
                  refine LR.v (Y.move rfl rfl) (Wd.g rfl rfl rfl) rfl rfl ?_
                  refine LR.v (Y.move rfl rfl) (Wd.g rfl rfl rfl) rfl rfl ?_
                  refine LR.v (Y.subi rfl rfl rfl (by omega)) (Wd.g rfl rfl rfl) rfl rfl ?_
                  refine LR.e (g := fun ad => .pointer (some ad)) (Y.indexAddrF hrl (i - 1) rfl Try.runUnderlying25 Try.sizeOf42 rfl rfl (by first | rfl | omega) (by first | omega | (simp; omega) | (simp; done))) (Wd.g rfl rfl rfl) rfl rfl (fun ad86 pt86 => ?_)
                  have bf_pt86 := bf_hrl
                  refine LR.v (Y.fieldAddr pt86.pt rfl Try.runUnderlying42 rfl rfl Try.sizeOf3 (by decide) rfl) (Wd.g rfl rfl rfl) rfl rfl ?_
                  refine LR.v (Y.cast (v2 := .int .i64 l[i - 1].k) (Y.load1 (pt86.pt.drop 0) rfl Try.isAgg3 rfl) (rfl)) (Wd.g rfl rfl rfl) rfl rfl ?_
                  refine LR.v (Y.neq rfl rfl rfl) (Wd.g rfl rfl rfl) rfl rfl ?_
                  refine LR.v (Y.pick_f rfl rfl rfl) (Wd.g rfl rfl rfl) rfl rfl ?_
                  refine LR.v (Y.pick_t rfl rfl rfl) (Wd.u rfl) rfl rfl ?_
                  refine LR.v (Y.assign rfl rfl) (Wd.u rfl) rfl rfl ?_
                  refine LR.nil ?_
                  refine hK25 _ _ ?_
                  refine hK23 _ _ ?_
                  refine CW.seq (fun K28 hK28 hE28 => ?_)
                  refine CW.region ?_
                  refine LR.v (Y.move rfl rfl) (Wd.u rfl) rfl rfl ?_
                  refine LR.v (Y.notp rfl rfl) (Wd.u rfl) rfl rfl ?_
                  refine LR.v (Y.move rfl rfl) (Wd.u rfl) rfl rfl ?_
                  refine LR.splitp (d := 127) rfl (fun g127 => ?_) (fun g127 => ?_)
                  ·
                    exfalso; first | contradiction | exact absurd (adj_ne2 hadj (by omega) (by omega) c73) g127
                  ·
                    refine LR.v (Y.fieldAddr hc.pt rfl Try.runUnderlying42 rfl rfl Try.sizeOf22 (by decide) rfl) (Wd.g rfl rfl rfl) rfl rfl ?_
                    refine LR.v (Y.load1 (hc.pt.drop 1) rfl Try.isAgg22 rfl) (Wd.g rfl rfl rfl) rfl rfl ?_
                    refine LR.v (Y.len (hxl l[i] (List.getElem_mem (by omega))).b rfl Try.runUnderlying22 rfl) (Wd.g rfl rfl rfl) rfl rfl ?_
                    refine LR.v (Y.fieldAddr hc.pt rfl Try.runUnderlying42 rfl rfl Try.sizeOf22 (by decide) rfl) (Wd.g rfl rfl rfl) rfl rfl ?_
                    refine LR.v (Y.load1 (hc.pt.drop 2) rfl Try.isAgg22 rfl) (Wd.g rfl rfl rfl) rfl rfl ?_
                    refine LR.v (Y.len (hxl l[i] (List.getElem_mem (by omega))).o rfl Try.runUnderlying22 rfl) (Wd.g rfl rfl rfl) rfl rfl ?_
                    refine LR.v (Y.addi rfl rfl rfl (by omega)) (Wd.g rfl rfl rfl) rfl rfl ?_
                    refine LR.v (Y.fieldAddr hc.pt rfl Try.runUnderlying42 rfl rfl Try.sizeOf22 (by decide) rfl) (Wd.g rfl rfl rfl) rfl rfl ?_
                    refine LR.v (Y.load1 (hc.pt.drop 3) rfl Try.isAgg22 rfl) (Wd.g rfl rfl rfl) rfl rfl ?_
                    refine LR.v (Y.len (hxl l[i] (List.getElem_mem (by omega))).t rfl Try.runUnderlying22 rfl) (Wd.g rfl rfl rfl) rfl rfl ?_
                    refine LR.v (Y.addi rfl rfl rfl (by omega)) (Wd.g rfl rfl rfl) rfl rfl ?_
                    refine LR.v (Y.eql rfl rfl rfl) (Wd.g rfl rfl rfl) rfl rfl ?_
                    refine LR.v (Y.pick_f rfl rfl rfl) (Wd.u rfl) rfl rfl ?_
                    refine LR.nil ?_
                    refine hK28 _ _ ?_
                    refine CW.condp rfl (fun c140 => ?_) (fun c140 => ?_)
                    ·
                      exfalso; omega
                    ·
                      refine CW.skip ?_
                      refine hK18 _ _ ?_
                      refine hK17 _ _ ?_
                      refine CW.region ?_
                      refine LR.v (Y.move rfl rfl) (Wd.u rfl) rfl rfl ?_
                      refine LR.v (Y.addi rfl rfl rfl (by omega)) (Wd.u rfl) rfl rfl ?_
                      refine LR.v (Y.assign rfl rfl) (Wd.u rfl) rfl rfl ?_
                      refine LR.nil ?_
                      refine QN.sub (hN14 (i + 1, v47, k47, v51, k51, v55, k55) _ ?_ ?_) ⟨rfl, rfl, rfl, rfl, rfl, rfl, rfl, (iv (by omega)), trivial⟩
                      · exact ⟨(by omega), by rw [cat_snoc (by omega)]; exact oa, by rw [cat_snoc (by omega)]; exact ob, by rw [cat_snoc (by omega)]; exact oc, nx48, nx62, nx76, dj58, dj72, dj73, hlm1⟩
                      · first | omega | (simp only; omega) | (simp; omega)
            ·
              first
              | contradiction
              | skip
                refine LR.gs rfl rfl rfl rfl rfl rfl ?_
                refine LR.gs rfl rfl rfl rfl rfl rfl ?_
                refine LR.gs rfl rfl rfl rfl rfl rfl ?_
                refine LR.gsu rfl rfl rfl rfl rfl ?_
                refine LR.gsu rfl rfl rfl rfl rfl ?_
                refine LR.gsu rfl rfl rfl rfl rfl ?_
                refine LR.gsu rfl rfl rfl rfl rfl ?_
                refine LR.gsu rfl rfl rfl rfl rfl ?_
                refine LR.gsu rfl rfl rfl rfl rfl ?_
                refine LR.gsu rfl rfl rfl rfl rfl ?_
                refine LR.gs rfl rfl rfl rfl rfl rfl ?_
                refine LR.v (Y.pick_f rfl rfl rfl) (Wd.u rfl) rfl rfl ?_
                refine LR.v (Y.assign rfl rfl) (Wd.u rfl) rfl rfl ?_
                refine LR.nil ?_
                refine hK25 _ _ ?_
                refine hK23 _ _ ?_
                refine CW.seq (fun K29 hK29 hE29 => ?_)
                refine CW.region ?_
                refine LR.v (Y.move rfl rfl) (Wd.u rfl) rfl rfl ?_
                refine LR.v (Y.not rfl rfl) (Wd.u rfl) rfl rfl ?_
                refine LR.v (Y.move rfl rfl) (Wd.u rfl) rfl rfl ?_
                refine LR.gs rfl rfl rfl rfl rfl rfl ?_
                refine LR.gs rfl rfl rfl rfl rfl rfl ?_
                refine LR.gs rfl rfl rfl rfl rfl rfl ?_
                refine LR.gs rfl rfl rfl rfl rfl rfl ?_
                refine LR.gs rfl rfl rfl rfl rfl rfl ?_
                refine LR.gs rfl rfl rfl rfl rfl rfl ?_
                refine LR.gs rfl rfl rfl rfl rfl rfl ?_
                refine LR.gs rfl rfl rfl rfl rfl rfl ?_
                refine LR.gs rfl rfl rfl rfl rfl rfl ?_
                refine LR.gs rfl rfl rfl rfl rfl rfl ?_
                refine LR.gs rfl rfl rfl rfl rfl rfl ?_
                refine LR.gs rfl rfl rfl rfl rfl rfl ?_
                refine LR.v (Y.pick_t rfl rfl rfl) (Wd.u rfl) rfl rfl ?_
                refine LR.nil ?_
                refine hK29 _ _ ?_
                refine CW.cond_t rfl ?_
                refine CW.seq (fun K30 hK30 hE30 => ?_)
                refine CW.region ?_
                refine LR.v (Y.assign rfl rfl) (Wd.u rfl) rfl rfl ?_
                refine LR.nil ?_
                refine hK30 _ _ ?_
                refine CW.ret (hE18 .ret nofun (by simp) _ _ (hE17 .ret nofun _ _ (hE14 .ret nofun _ _ (hE13 .ret nofun (by simp) _ _ (hE11 .ret nofun _ _ (hret .ret (.inr rfl) _ _ _ (res1 rfl rfl) ?_))))))
                exact ⟨rfl, hm0⟩
        ·
          first
          | contradiction
          | skip
            refine LR.gs rfl rfl rfl rfl rfl rfl ?_
            refine LR.v (Y.pick_f rfl rfl rfl) (Wd.u rfl) rfl rfl ?_
            refine LR.v (Y.move rfl rfl) (Wd.u rfl) rfl rfl ?_
            refine LR.gs rfl rfl rfl rfl rfl rfl ?_
            refine LR.gs rfl rfl rfl rfl rfl rfl ?_
            refine LR.gs rfl rfl rfl rfl rfl rfl ?_
            refine LR.gsu rfl rfl rfl rfl rfl ?_
            refine LR.gsu rfl rfl rfl rfl rfl ?_
            refine LR.gsu rfl rfl rfl rfl rfl ?_
            refine LR.gsu rfl rfl rfl rfl rfl ?_
            refine LR.gsu rfl rfl rfl rfl rfl ?_
            refine LR.gsu rfl rfl rfl rfl rfl ?_
            refine LR.gsu rfl rfl rfl rfl rfl ?_
            refine LR.gs rfl rfl rfl rfl rfl rfl ?_
            refine LR.v (Y.pick_f rfl rfl rfl) (Wd.u rfl) rfl rfl ?_
            refine LR.v (Y.assign rfl rfl) (Wd.u rfl) rfl rfl ?_
            refine LR.nil ?_
            refine hK25 _ _ ?_
            refine hK23 _ _ ?_
            refine CW.seq (fun K31 hK31 hE31 => ?_)
            refine CW.region ?_
            refine LR.v (Y.move rfl rfl) (Wd.u rfl) rfl rfl ?_
            refine LR.v (Y.not rfl rfl) (Wd.u rfl) rfl rfl ?_
            refine LR.v (Y.move rfl rfl) (Wd.u rfl) rfl rfl ?_
            refine LR.gs rfl rfl rfl rfl rfl rfl ?_
            refine LR.gs rfl rfl rfl rfl rfl rfl ?_
            refine LR.gs rfl rfl rfl rfl rfl rfl ?_
            refine LR.gs rfl rfl rfl rfl rfl rfl ?_
            refine LR.gs rfl rfl rfl rfl rfl rfl ?_
            refine LR.gs rfl rfl rfl rfl rfl rfl ?_
            refine LR.gs rfl rfl rfl rfl rfl rfl ?_
            refine LR.gs rfl rfl rfl rfl rfl rfl ?_
            refine LR.gs rfl rfl rfl rfl rfl rfl ?_
            refine LR.gs rfl rfl rfl rfl rfl rfl ?_
            refine LR.gs rfl rfl rfl rfl rfl rfl ?_
            refine LR.gs rfl rfl rfl rfl rfl rfl ?_
            refine LR.v (Y.pick_t rfl rfl rfl) (Wd.u rfl) rfl rfl ?_
            refine LR.nil ?_
            refine hK31 _ _ ?_
            refine CW.cond_t rfl ?_
            refine CW.seq (fun K32 hK32 hE32 => ?_)
            refine CW.region ?_
            refine LR.v (Y.assign rfl rfl) (Wd.u rfl) rfl rfl ?_
            refine LR.nil ?_
            refine hK32 _ _ ?_
            refine CW.ret (hE18 .ret nofun (by simp) _ _ (hE17 .ret nofun _ _ (hE14 .ret nofun _ _ (hE13 .ret nofun (by simp) _ _ (hE11 .ret nofun _ _ (hret .ret (.inr rfl) _ _ _ (res1 rfl rfl) ?_))))))
            exact ⟨rfl, hm0⟩
      ·
        refine CW.seq (fun K33 hK33 hE33 => ?_)
        refine CW.region ?_
        refine LR.v (Y.eql rfl rfl rfl) (Wd.u rfl) rfl rfl ?_
        refine LR.v (Y.assign rfl rfl) (Wd.u rfl) rfl rfl ?_
        refine LR.nil ?_
        refine hK33 _ _ ?_
        refine CW.condp rfl (fun c92 => ?_) (fun c92 => ?_)
        ·
          obtain ⟨p1, p2⟩ := q1 c92
          refine CW.region ?_
          refine LR.v (Y.move rfl rfl) (Wd.u rfl) rfl rfl ?_
          refine LR.v (Y.notp rfl rfl) (Wd.u rfl) rfl rfl ?_
          refine LR.v (Y.move rfl rfl) (Wd.u rfl) rfl rfl ?_
          refine LR.splitp (d := 96) rfl (fun g96 => ?_) (fun g96 => ?_)
          ·
            first
            | contradiction
            | skip
              refine LR.v (Y.move rfl rfl) (Wd.g rfl rfl rfl) rfl rfl ?_
              refine LR.v (Y.pick_t rfl rfl rfl) (Wd.u rfl) rfl rfl ?_
              refine LR.v (Y.assign rfl rfl) (Wd.u rfl) rfl rfl ?_
              refine LR.nil ?_
              refine hK25 _ _ ?_
              refine hK23 _ _ ?_
              refine CW.seq (fun K34 hK34 hE34 => ?_)
              refine CW.region ?_
              refine LR.v (Y.move rfl rfl) (Wd.u rfl) rfl rfl ?_
              refine LR.v (Y.notp rfl rfl) (Wd.u rfl) rfl rfl ?_
              refine LR.v (Y.move rfl rfl) (Wd.u rfl) rfl rfl ?_
              refine LR.splitp (d := 127) rfl (fun g127 => ?_) (fun g127 => ?_)
              ·
                exfalso; first | contradiction | exact absurd (adj_ne2 hadj (by omega) (by omega) c73) g127
              ·
                refine LR.v (Y.fieldAddr hc.pt rfl Try.runUnderlying42 rfl rfl Try.sizeOf22 (by decide) rfl) (Wd.g rfl rfl rfl) rfl rfl ?_
                refine LR.v (Y.load1 (hc.pt.drop 1) rfl Try.isAgg22 rfl) (Wd.g rfl rfl rfl) rfl rfl ?_
                refine LR.v (Y.len (hxl l[i] (List.getElem_mem (by omega))).b rfl Try.runUnderlying22 rfl) (Wd.g rfl rfl rfl) rfl rfl ?_
                refine LR.v (Y.fieldAddr hc.pt rfl Try.runUnderlying42 rfl rfl Try.sizeOf22 (by decide) rfl) (Wd.g rfl rfl rfl) rfl rfl ?_
                refine LR.v (Y.load1 (hc.pt.drop 2) rfl Try.isAgg22 rfl) (Wd.g rfl rfl rfl) rfl rfl ?_
                refine LR.v (Y.len (hxl l[i] (List.getElem_mem (by omega))).o rfl Try.runUnderlying22 rfl) (Wd.g rfl rfl rfl) rfl rfl ?_
                refine LR.v (Y.addi rfl rfl rfl (by omega)) (Wd.g rfl rfl rfl) rfl rfl ?_
                refine LR.v (Y.fieldAddr hc.pt rfl Try.runUnderlying42 rfl rfl Try.sizeOf22 (by decide) rfl) (Wd.g rfl rfl rfl) rfl rfl ?_
                refine LR.v (Y.load1 (hc.pt.drop 3) rfl Try.isAgg22 rfl) (Wd.g rfl rfl rfl) rfl rfl ?_
                refine LR.v (Y.len (hxl l[i] (List.getElem_mem (by omega))).t rfl Try.runUnderlying22 rfl) (Wd.g rfl rfl rfl) rfl rfl ?_
                refine LR.v (Y.addi rfl rfl rfl (by omega)) (Wd.g rfl rfl rfl) rfl rfl ?_
                refine LR.v (Y.eql rfl rfl rfl) (Wd.g rfl rfl rfl) rfl rfl ?_
                refine LR.v (Y.pick_f rfl rfl rfl) (Wd.u rfl) rfl rfl ?_
                refine LR.nil ?_
                refine hK34 _ _ ?_
                refine CW.condp rfl (fun c140 => ?_) (fun c140 => ?_)
                ·
                  exfalso; omega
                ·
                  refine CW.skip ?_
                  refine hK18 _ _ ?_
                  refine hK17 _ _ ?_
                  refine CW.region ?_
                  refine LR.v (Y.move rfl rfl) (Wd.u rfl) rfl rfl ?_
                  refine LR.v (Y.addi rfl rfl rfl (by omega)) (Wd.u rfl) rfl rfl ?_
                  refine LR.v (Y.assign rfl rfl) (Wd.u rfl) rfl rfl ?_
                  refine LR.nil ?_
                  refine QN.sub (hN14 (i + 1, v47, k47, v51, k51, v55, k55) _ ?_ ?_) ⟨rfl, rfl, rfl, rfl, rfl, rfl, rfl, (iv (by omega)), trivial⟩
                  · exact ⟨(by omega), by rw [cat_snoc (by omega)]; exact oa, by rw [cat_snoc (by omega)]; exact ob, by rw [cat_snoc (by omega)]; exact oc, nx48, nx62, nx76, dj58, dj72, dj73, hlm1⟩
                  · first | omega | (simp only; omega) | (simp; omega)
          ·
            first
            | contradiction
            | skip
              refine LR.gs rfl rfl rfl rfl rfl rfl ?_
              refine LR.v (Y.pick_f rfl rfl rfl) (Wd.u rfl) rfl rfl ?_
              refine LR.v (Y.assign rfl rfl) (Wd.u rfl) rfl rfl ?_
              refine LR.nil ?_
              refine hK25 _ _ ?_
              refine hK23 _ _ ?_
              refine CW.seq (fun K35 hK35 hE35 => ?_)
              refine CW.region ?_
              refine LR.v (Y.move rfl rfl) (Wd.u rfl) rfl rfl ?_
              refine LR.v (Y.not rfl rfl) (Wd.u rfl) rfl rfl ?_
              refine LR.v (Y.move rfl rfl) (Wd.u rfl) rfl rfl ?_
              refine LR.gs rfl rfl rfl rfl rfl rfl ?_
              refine LR.gs rfl rfl rfl rfl rfl rfl ?_
              refine LR.gs rfl rfl rfl rfl rfl rfl ?_
              refine LR.gs rfl rfl rfl rfl rfl rfl ?_
              refine LR.gs rfl rfl rfl rfl rfl rfl ?_
              refine LR.gs rfl rfl rfl rfl rfl rfl ?_
              refine LR.gs rfl rfl rfl rfl rfl rfl ?_
              refine LR.gs rfl rfl rfl rfl rfl rfl ?_
              refine LR.gs rfl rfl rfl rfl rfl rfl ?_
              refine LR.gs rfl rfl rfl rfl rfl rfl ?_
              refine LR.gs rfl rfl rfl rfl rfl rfl ?_
              refine LR.gs rfl rfl rfl rfl rfl rfl ?_
              refine LR.v (Y.pick_t rfl rfl rfl) (Wd.u rfl) rfl rfl ?_
              refine LR.nil ?_
              refine hK35 _ _ ?_
              refine CW.cond_t rfl ?_
              refine CW.seq (fun K36 hK36 hE36 => ?_)
              refine CW.region ?_
              refine LR.v (Y.assign rfl rfl) (Wd.u rfl) rfl rfl ?_
              refine LR.nil ?_
              refine hK36 _ _ ?_
              refine CW.ret (hE18 .ret nofun (by simp) _ _ (hE17 .ret nofun _ _ (hE14 .ret nofun _ _ (hE13 .ret nofun (by simp) _ _ (hE11 .ret nofun _ _ (hret .ret (.inr rfl) _ _ _ (res1 rfl rfl) ?_))))))
              exact ⟨rfl, hm0⟩
        ·
          refine CW.seq (fun K37 hK37 hE37 => ?_)
          refine CW.region ?_
          refine LR.v (Y.eql rfl rfl rfl) (Wd.u rfl) rfl rfl ?_
          refine LR.v (Y.assign rfl rfl) (Wd.u rfl) rfl rfl ?_
          refine LR.nil ?_
          refine hK37 _ _ ?_
          refine CW.condp rfl (fun c99 => ?_) (fun c99 => ?_)
          ·
            obtain ⟨p1, p2⟩ := q2 c99
            refine CW.region ?_
            refine LR.v (Y.move rfl rfl) (Wd.u rfl) rfl rfl ?_
            refine LR.v (Y.move rfl rfl) (Wd.u rfl) rfl rfl ?_
            refine LR.splitp (d := 102) rfl (fun g102 => ?_) (fun g102 => ?_)
            ·
              first
              | contradiction
              | skip
                refine LR.v (Y.move rfl rfl) (Wd.g rfl rfl rfl) rfl rfl ?_
                refine LR.v (Y.notp rfl rfl) (Wd.g rfl rfl rfl) rfl rfl ?_
                refine LR.v (Y.pick_t rfl rfl rfl) (Wd.u rfl) rfl rfl ?_
                refine LR.v (Y.assign rfl rfl) (Wd.u rfl) rfl rfl ?_
                refine LR.nil ?_
                refine hK25 _ _ ?_
                refine hK23 _ _ ?_
                refine CW.seq (fun K38 hK38 hE38 => ?_)
                refine CW.region ?_
                refine LR.v (Y.move rfl rfl) (Wd.u rfl) rfl rfl ?_
                refine LR.v (Y.notp rfl rfl) (Wd.u rfl) rfl rfl ?_
                refine LR.v (Y.move rfl rfl) (Wd.u rfl) rfl rfl ?_
                refine LR.splitp (d := 127) rfl (fun g127 => ?_) (fun g127 => ?_)
                ·
                  exfalso; first | contradiction | exact absurd (adj_ne2 hadj (by omega) (by omega) c73) g127
                ·
                  refine LR.v (Y.fieldAddr hc.pt rfl Try.runUnderlying42 rfl rfl Try.sizeOf22 (by decide) rfl) (Wd.g rfl rfl rfl) rfl rfl ?_
                  refine LR.v (Y.load1 (hc.pt.drop 1) rfl Try.isAgg22 rfl) (Wd.g rfl rfl rfl) rfl rfl ?_
                  refine LR.v (Y.len (hxl l[i] (List.getElem_mem (by omega))).b rfl Try.runUnderlying22 rfl) (Wd.g rfl rfl rfl) rfl rfl ?_
                  refine LR.v (Y.fieldAddr hc.pt rfl Try.runUnderlying42 rfl rfl Try.sizeOf22 (by decide) rfl) (Wd.g rfl rfl rfl) rfl rfl ?_
                  refine LR.v (Y.load1 (hc.pt.drop 2) rfl Try.isAgg22 rfl) (Wd.g rfl rfl rfl) rfl rfl ?_
                  refine LR.v (Y.len (hxl l[i] (List.getElem_mem (by omega))).o rfl Try.runUnderlying22 rfl) (Wd.g rfl rfl rfl) rfl rfl ?_
                  refine LR.v (Y.addi rfl rfl rfl (by omega)) (Wd.g rfl rfl rfl) rfl rfl ?_
                  refine LR.v (Y.fieldAddr hc.pt rfl Try.runUnderlying42 rfl rfl Try.sizeOf22 (by decide) rfl) (Wd.g rfl rfl rfl) rfl rfl ?_
                  refine LR.v (Y.load1 (hc.pt.drop 3) rfl Try.isAgg22 rfl) (Wd.g rfl rfl rfl) rfl rfl ?_
                  refine LR.v (Y.len (hxl l[i] (List.getElem_mem (by omega))).t rfl Try.runUnderlying22 rfl) (Wd.g rfl rfl rfl) rfl rfl ?_
                  refine LR.v (Y.addi rfl rfl rfl (by omega)) (Wd.g rfl rfl rfl) rfl rfl ?_
                  refine LR.v (Y.eql rfl rfl rfl) (Wd.g rfl rfl rfl) rfl rfl ?_
                  refine LR.v (Y.pick_f rfl rfl rfl) (Wd.u rfl) rfl rfl ?_
                  refine LR.nil ?_
                  refine hK38 _ _ ?_
                  refine CW.condp rfl (fun c140 => ?_) (fun c140 => ?_)
                  ·
                    exfalso; omega
                  ·
                    refine CW.skip ?_
                    refine hK18 _ _ ?_
                    refine hK17 _ _ ?_
                    refine CW.region ?_
                    refine LR.v (Y.move rfl rfl) (Wd.u rfl) rfl rfl ?_
                    refine LR.v (Y.addi rfl rfl rfl (by omega)) (Wd.u rfl) rfl rfl ?_
                    refine LR.v (Y.assign rfl rfl) (Wd.u rfl) rfl rfl ?_
                    refine LR.nil ?_
                    refine QN.sub (hN14 (i + 1, v47, k47, v51, k51, v55, k55) _ ?_ ?_) ⟨rfl, rfl, rfl, rfl, rfl, rfl, rfl, (iv (by omega)), trivial⟩
                    · exact ⟨(by omega), by rw [cat_snoc (by omega)]; exact oa, by rw [cat_snoc (by omega)]; exact ob, by rw [cat_snoc (by omega)]; exact oc, nx48, nx62, nx76, dj58, dj72, dj73, hlm1⟩
                    · first | omega | (simp only; omega) | (simp; omega)
            ·
              first
              | contradiction
              | skip
                refine LR.gs rfl rfl rfl rfl rfl rfl ?_
                refine LR.gs rfl rfl rfl rfl rfl rfl ?_
                refine LR.v (Y.pick_f rfl rfl rfl) (Wd.u rfl) rfl rfl ?_
                refine LR.v (Y.assign rfl rfl) (Wd.u rfl) rfl rfl ?_
                refine LR.nil ?_
                refine hK25 _ _ ?_
                refine hK23 _ _ ?_
                refine CW.seq (fun K39 hK39 hE39 => ?_)
                refine CW.region ?_
                refine LR.v (Y.move rfl rfl) (Wd.u rfl) rfl rfl ?_
                refine LR.v (Y.not rfl rfl) (Wd.u rfl) rfl rfl ?_
                refine LR.v (Y.move rfl rfl) (Wd.u rfl) rfl rfl ?_
                refine LR.gs rfl rfl rfl rfl rfl rfl ?_
                refine LR.gs rfl rfl rfl rfl rfl rfl ?_
                refine LR.gs rfl rfl rfl rfl rfl rfl ?_
                refine LR.gs rfl rfl rfl rfl rfl rfl ?_
                refine LR.gs rfl rfl rfl rfl rfl rfl ?_
                refine LR.gs rfl rfl rfl rfl rfl rfl ?_
                refine LR.gs rfl rfl rfl rfl rfl rfl ?_
                refine LR.gs rfl rfl rfl rfl rfl rfl ?_
                refine LR.gs rfl rfl rfl rfl rfl rfl ?_
                refine LR.gs rfl rfl rfl rfl rfl rfl ?_
                refine LR.gs rfl rfl rfl rfl rfl rfl ?_
                refine LR.gs rfl rfl rfl rfl rfl rfl ?_
                refine LR.v (Y.pick_t rfl rfl rfl) (Wd.u rfl) rfl rfl ?_
                refine LR.nil ?_
                refine hK39 _ _ ?_
                refine CW.cond_t rfl ?_
                refine CW.seq (fun K40 hK40 hE40 => ?_)
                refine CW.region ?_
                refine LR.v (Y.assign rfl rfl) (Wd.u rfl) rfl rfl ?_
                refine LR.nil ?_
                refine hK40 _ _ ?_
                refine CW.ret (hE18 .ret nofun (by simp) _ _ (hE17 .ret nofun _ _ (hE14 .ret nofun _ _ (hE13 .ret nofun (by simp) _ _ (hE11 .ret nofun _ _ (hret .ret (.inr rfl) _ _ _ (res1 rfl rfl) ?_))))))
                exact ⟨rfl, hm0⟩
          ·
            refine CW.seq (fun K41 hK41 hE41 => ?_)
            refine CW.region ?_
            refine LR.v (Y.eql rfl rfl rfl) (Wd.u rfl) rfl rfl ?_
            refine LR.v (Y.assign rfl rfl) (Wd.u rfl) rfl rfl ?_
            refine LR.nil ?_
            refine hK41 _ _ ?_
            refine CW.condp rfl (fun c106 => ?_) (fun c106 => ?_)
            ·
              obtain ⟨p1, p2⟩ := q3 c106
              refine CW.region ?_
              refine LR.v (Y.move rfl rfl) (Wd.u rfl) rfl rfl ?_
              refine LR.v (Y.move rfl rfl) (Wd.u rfl) rfl rfl ?_
              refine LR.splitp (d := 109) rfl (fun g109 => ?_) (fun g109 => ?_)
              ·
                first
                | contradiction
                | skip
                  refine LR.v (Y.move rfl rfl) (Wd.g rfl rfl rfl) rfl rfl ?_
                  refine LR.v (Y.notp rfl rfl) (Wd.g rfl rfl rfl) rfl rfl ?_
                  refine LR.v (Y.pick_t rfl rfl rfl) (Wd.u rfl) rfl rfl ?_
                  refine LR.v (Y.assign rfl rfl) (Wd.u rfl) rfl rfl ?_
                  refine LR.nil ?_
                  refine hK25 _ _ ?_
                  refine hK23 _ _ ?_
                  refine CW.seq (fun K42 hK42 hE42 => ?_)
                  refine CW.region ?_
                  refine LR.v (Y.move rfl rfl) (Wd.u rfl) rfl rfl ?_
                  refine LR.v (Y.notp rfl rfl) (Wd.u rfl) rfl rfl ?_
                  refine LR.v (Y.move rfl rfl) (Wd.u rfl) rfl rfl ?_
                  refine LR.splitp (d := 127) rfl (fun g127 => ?_) (fun g127 => ?_)
                  ·
                    exfalso; first | contradiction | exact absurd (adj_ne2 hadj (by omega) (by omega) c73) g127
                  ·
                    refine LR.v (Y.fieldAddr hc.pt rfl Try.runUnderlying42 rfl rfl Try.sizeOf22 (by decide) rfl) (Wd.g rfl rfl rfl) rfl rfl ?_
                    refine LR.v (Y.load1 (hc.pt.drop 1) rfl Try.isAgg22 rfl) (Wd.g rfl rfl rfl) rfl rfl ?_
                    refine LR.v (Y.len (hxl l[i] (List.getElem_mem (by omega))).b rfl Try.runUnderlying22 rfl) (Wd.g rfl rfl rfl) rfl rfl ?_
                    refine LR.v (Y.fieldAddr hc.pt rfl Try.runUnderlying42 rfl rfl Try.sizeOf22 (by decide) rfl) (Wd.g rfl rfl rfl) rfl rfl ?_
                    refine LR.v (Y.load1 (hc.pt.drop 2) rfl Try.isAgg22 rfl) (Wd.g rfl rfl rfl) rfl rfl ?_
                    refine LR.v (Y.len (hxl l[i] (List.getElem_mem (by omega))).o rfl Try.runUnderlying22 rfl) (Wd.g rfl rfl rfl) rfl rfl ?_
                    refine LR.v (Y.addi rfl rfl rfl (by omega)) (Wd.g rfl rfl rfl) rfl rfl ?_
                    refine LR.v (Y.fieldAddr hc.pt rfl Try.runUnderlying42 rfl rfl Try.sizeOf22 (by decide) rfl) (Wd.g rfl rfl rfl) rfl rfl ?_
                    refine LR.v (Y.load1 (hc.pt.drop 3) rfl Try.isAgg22 rfl) (Wd.g rfl rfl rfl) rfl rfl ?_
                    refine LR.v (Y.len (hxl l[i] (List.getElem_mem (by omega))).t rfl Try.runUnderlying22 rfl) (Wd.g rfl rfl rfl) rfl rfl ?_
                    refine LR.v (Y.addi rfl rfl rfl (by omega)) (Wd.g rfl rfl rfl) rfl rfl ?_
                    refine LR.v (Y.eql rfl rfl rfl) (Wd.g rfl rfl rfl) rfl rfl ?_
                    refine LR.v (Y.pick_f rfl rfl rfl) (Wd.u rfl) rfl rfl ?_
                    refine LR.nil ?_
                    refine hK42 _ _ ?_
                    refine CW.condp rfl (fun c140 => ?_) (fun c140 => ?_)
                    ·
                      exfalso; omega
                    ·
                      refine CW.skip ?_
                      refine hK18 _ _ ?_
                      refine hK17 _ _ ?_
                      refine CW.region ?_
                      refine LR.v (Y.move rfl rfl) (Wd.u rfl) rfl rfl ?_
                      refine LR.v (Y.addi rfl rfl rfl (by omega)) (Wd.u rfl) rfl rfl ?_
                      refine LR.v (Y.assign rfl rfl) (Wd.u rfl) rfl rfl ?_
                      refine LR.nil ?_
                      refine QN.sub (hN14 (i + 1, v47, k47, v51, k51, v55, k55) _ ?_ ?_) ⟨rfl, rfl, rfl, rfl, rfl, rfl, rfl, (iv (by omega)), trivial⟩
                      · exact ⟨(by omega), by rw [cat_snoc (by omega)]; exact oa, by rw [cat_snoc (by omega)]; exact ob, by rw [cat_snoc (by omega)]; exact oc, nx48, nx62, nx76, dj58, dj72, dj73, hlm1⟩
                      · first | omega | (simp only; omega) | (simp; omega)
              ·
                first
                | contradiction
                | skip
                  refine LR.gs rfl rfl rfl rfl rfl rfl ?_
                  refine LR.gs rfl rfl rfl rfl rfl rfl ?_
                  refine LR.v (Y.pick_f rfl rfl rfl) (Wd.u rfl) rfl rfl ?_
                  refine LR.v (Y.assign rfl rfl) (Wd.u rfl) rfl rfl ?_
                  refine LR.nil ?_
                  refine hK25 _ _ ?_
                  refine hK23 _ _ ?_
                  refine CW.seq (fun K43 hK43 hE43 => ?_)
                  refine CW.region ?_
                  refine LR.v (Y.move rfl rfl) (Wd.u rfl) rfl rfl ?_
                  refine LR.v (Y.not rfl rfl) (Wd.u rfl) rfl rfl ?_
                  refine LR.v (Y.move rfl rfl) (Wd.u rfl) rfl rfl ?_
                  refine LR.gs rfl rfl rfl rfl rfl rfl ?_
                  refine LR.gs rfl rfl rfl rfl rfl rfl ?_
                  refine LR.gs rfl rfl rfl rfl rfl rfl ?_
                  refine LR.gs rfl rfl rfl rfl rfl rfl ?_
                  refine LR.gs rfl rfl rfl rfl rfl rfl ?_
                  refine LR.gs rfl rfl rfl rfl rfl rfl ?_
                  refine LR.gs rfl rfl rfl rfl rfl rfl ?_
                  refine LR.gs rfl rfl rfl rfl rfl rfl ?_
                  refine LR.gs rfl rfl rfl rfl rfl rfl ?_
                  refine LR.gs rfl rfl rfl rfl rfl rfl ?_
                  refine LR.gs rfl rfl rfl rfl rfl rfl ?_
                  refine LR.gs rfl rfl rfl rfl rfl rfl ?_
                  refine LR.v (Y.pick_t rfl rfl rfl) (Wd.u rfl) rfl rfl ?_
                  refine LR.nil ?_
                  refine hK43 _ _ ?_
                  refine CW.cond_t rfl ?_
                  refine CW.seq (fun K44 hK44 hE44 => ?_)
                  refine CW.region ?_
                  refine LR.v (Y.assign rfl rfl) (Wd.u rfl) rfl rfl ?_
                  refine LR.nil ?_
                  refine hK44 _ _ ?_
                  refine CW.ret (hE18 .ret nofun (by simp) _ _ (hE17 .ret nofun _ _ (hE14 .ret nofun _ _ (hE13 .ret nofun (by simp) _ _ (hE11 .ret nofun _ _ (hret .ret (.inr rfl) _ _ _ (res1 rfl rfl) ?_))))))
                  exact ⟨rfl, hm0⟩
            ·
              refine CW.seq (fun K45 hK45 hE45 => ?_)
              refine CW.region ?_
              refine LR.v (Y.eql rfl rfl rfl) (Wd.u rfl) rfl rfl ?_
              refine LR.v (Y.assign rfl rfl) (Wd.u rfl) rfl rfl ?_
              refine LR.nil ?_
              refine hK45 _ _ ?_
              refine CW.condp rfl (fun c113 => ?_) (fun c113 => ?_)
              ·
                obtain ⟨p1, p2, p3⟩ := q4 c113
                refine CW.region ?_
                refine LR.v (Y.move rfl rfl) (Wd.u rfl) rfl rfl ?_
                refine LR.v (Y.notp rfl rfl) (Wd.u rfl) rfl rfl ?_
                refine LR.v (Y.move rfl rfl) (Wd.u rfl) rfl rfl ?_
                refine LR.splitp (d := 117) rfl (fun g117 => ?_) (fun g117 => ?_)
                ·
                  first
                  | contradiction
                  | skip
                    refine LR.v (Y.move rfl rfl) (Wd.g rfl rfl rfl) rfl rfl ?_
                    refine LR.v (Y.notp rfl rfl) (Wd.g rfl rfl rfl) rfl rfl ?_
                    refine LR.v (Y.pick_t rfl rfl rfl) (Wd.u rfl) rfl rfl ?_
                    refine LR.v (Y.move rfl rfl) (Wd.u rfl) rfl rfl ?_
                    refine LR.splitp (d := 121) rfl (fun g121 => ?_) (fun g121 => ?_)
                    ·
                      first
                      | contradiction
                      | skip
                        refine LR.v (Y.move rfl rfl) (Wd.g rfl rfl rfl) rfl rfl ?_
                        refine LR.v (Y.notp rfl rfl) (Wd.g rfl rfl rfl) rfl rfl ?_
                        refine LR.v (Y.pick_t rfl rfl rfl) (Wd.u rfl) rfl rfl ?_
                        refine LR.v (Y.assign rfl rfl) (Wd.u rfl) rfl rfl ?_
                        refine LR.nil ?_
                        refine hK25 _ _ ?_
                        refine hK23 _ _ ?_
                        refine CW.seq (fun K46 hK46 hE46 => ?_)
                        refine CW.region ?_
                        refine LR.v (Y.move rfl rfl) (Wd.u rfl) rfl rfl ?_
                        refine LR.v (Y.notp rfl rfl) (Wd.u rfl) rfl rfl ?_
                        refine LR.v (Y.move rfl rfl) (Wd.u rfl) rfl rfl ?_
                        refine LR.splitp (d := 127) rfl (fun g127 => ?_) (fun g127 => ?_)
                        ·
                          exfalso; first | contradiction | exact absurd (adj_ne2 hadj (by omega) (by omega) c73) g127
                        ·
                          refine LR.v (Y.fieldAddr hc.pt rfl Try.runUnderlying42 rfl rfl Try.sizeOf22 (by decide) rfl) (Wd.g rfl rfl rfl) rfl rfl ?_
                          refine LR.v (Y.load1 (hc.pt.drop 1) rfl Try.isAgg22 rfl) (Wd.g rfl rfl rfl) rfl rfl ?_
                          refine LR.v (Y.len (hxl l[i] (List.getElem_mem (by omega))).b rfl Try.runUnderlying22 rfl) (Wd.g rfl rfl rfl) rfl rfl ?_
                          refine LR.v (Y.fieldAddr hc.pt rfl Try.runUnderlying42 rfl rfl Try.sizeOf22 (by decide) rfl) (Wd.g rfl rfl rfl) rfl rfl ?_
                          refine LR.v (Y.load1 (hc.pt.drop 2) rfl Try.isAgg22 rfl) (Wd.g rfl rfl rfl) rfl rfl ?_
                          refine LR.v (Y.len (hxl l[i] (List.getElem_mem (by omega))).o rfl Try.runUnderlying22 rfl) (Wd.g rfl rfl rfl) rfl rfl ?_
                          refine LR.v (Y.addi rfl rfl rfl (by omega)) (Wd.g rfl rfl rfl) rfl rfl ?_
                          refine LR.v (Y.fieldAddr hc.pt rfl Try.runUnderlying42 rfl rfl Try.sizeOf22 (by decide) rfl) (Wd.g rfl rfl rfl) rfl rfl ?_
                          refine LR.v (Y.load1 (hc.pt.drop 3) rfl Try.isAgg22 rfl) (Wd.g rfl rfl rfl) rfl rfl ?_
                          refine LR.v (Y.len (hxl l[i] (List.getElem_mem (by omega))).t rfl Try.runUnderlying22 rfl) (Wd.g rfl rfl rfl) rfl rfl ?_
                          refine LR.v (Y.addi rfl rfl rfl (by omega)) (Wd.g rfl rfl rfl) rfl rfl ?_
                          refine LR.v (Y.eql rfl rfl rfl) (Wd.g rfl rfl rfl) rfl rfl ?_
                          refine LR.v (Y.pick_f rfl rfl rfl) (Wd.u rfl) rfl rfl ?_
                          refine LR.nil ?_
                          refine hK46 _ _ ?_
                          refine CW.condp rfl (fun c140 => ?_) (fun c140 => ?_)
                          ·
                            exfalso; omega
                          ·
                            refine CW.skip ?_
                            refine hK18 _ _ ?_
                            refine hK17 _ _ ?_
                            refine CW.region ?_
                            refine LR.v (Y.move rfl rfl) (Wd.u rfl) rfl rfl ?_
                            refine LR.v (Y.addi rfl rfl rfl (by omega)) (Wd.u rfl) rfl rfl ?_
                            refine LR.v (Y.assign rfl rfl) (Wd.u rfl) rfl rfl ?_
                            refine LR.nil ?_
                            refine QN.sub (hN14 (i + 1, v47, k47, v51, k51, v55, k55) _ ?_ ?_) ⟨rfl, rfl, rfl, rfl, rfl, rfl, rfl, (iv (by omega)), trivial⟩
                            · exact ⟨(by omega), by rw [cat_snoc (by omega)]; exact oa, by rw [cat_snoc (by omega)]; exact ob, by rw [cat_snoc (by omega)]; exact oc, nx48, nx62, nx76, dj58, dj72, dj73, hlm1⟩
                            · first | omega | (simp only; omega) | (simp; omega)
                    ·
                      first
                      | contradiction
                      | skip
                        refine LR.gs rfl rfl rfl rfl rfl rfl ?_
                        refine LR.gs rfl rfl rfl rfl rfl rfl ?_
                        refine LR.v (Y.pick_f rfl rfl rfl) (Wd.u rfl) rfl rfl ?_
                        refine LR.v (Y.assign rfl rfl) (Wd.u rfl) rfl rfl ?_
                        refine LR.nil ?_
                        refine hK25 _ _ ?_
                        refine hK23 _ _ ?_
                        refine CW.seq (fun K47 hK47 hE47 => ?_)
                        refine CW.region ?_
                        refine LR.v (Y.move rfl rfl) (Wd.u rfl) rfl rfl ?_
                        refine LR.v (Y.not rfl rfl) (Wd.u rfl) rfl rfl ?_
                        refine LR.v (Y.move rfl rfl) (Wd.u rfl) rfl rfl ?_
                        refine LR.gs rfl rfl rfl rfl rfl rfl ?_
                        refine LR.gs rfl rfl rfl rfl rfl rfl ?_
                        refine LR.gs rfl rfl rfl rfl rfl rfl ?_
                        refine LR.gs rfl rfl rfl rfl rfl rfl ?_
                        refine LR.gs rfl rfl rfl rfl rfl rfl ?_
                        refine LR.gs rfl rfl rfl rfl rfl rfl ?_
                        refine LR.gs rfl rfl rfl rfl rfl rfl ?_
                        refine LR.gs rfl rfl rfl rfl rfl rfl ?_
                        refine LR.gs rfl rfl rfl rfl rfl rfl ?_
                        refine LR.gs rfl rfl rfl rfl rfl rfl ?_
                        refine LR.gs rfl rfl rfl rfl rfl rfl ?_
                        refine LR.gs rfl rfl rfl rfl rfl rfl ?_
                        refine LR.v (Y.pick_t rfl rfl rfl) (Wd.u rfl) rfl rfl ?_
                        refine LR.nil ?_
                        refine hK47 _ _ ?_
                        refine CW.cond_t rfl ?_
                        refine CW.seq (fun K48 hK48 hE48 => ?_)
                        refine CW.region ?_
                        refine LR.v (Y.assign rfl rfl) (Wd.u rfl) rfl rfl ?_
                        refine LR.nil ?_
                        refine hK48 _ _ ?_
                        refine CW.ret (hE18 .ret nofun (by simp) _ _ (hE17 .ret nofun _ _ (hE14 .ret nofun _ _ (hE13 .ret nofun (by simp) _ _ (hE11 .ret nofun _ _ (hret .ret (.inr rfl) _ _ _ (res1 rfl rfl) ?_))))))
                        exact ⟨rfl, hm0⟩
                ·
                  first
                  | contradiction
                  | skip
                    refine LR.gs rfl rfl rfl rfl rfl rfl ?_
                    refine LR.gs rfl rfl rfl rfl rfl rfl ?_
                    refine LR.v (Y.pick_f rfl rfl rfl) (Wd.u rfl) rfl rfl ?_
                    refine LR.v (Y.move rfl rfl) (Wd.u rfl) rfl rfl ?_
                    refine LR.gs rfl rfl rfl rfl rfl rfl ?_
                    refine LR.gs rfl rfl rfl rfl rfl rfl ?_
                    refine LR.v (Y.pick_f rfl rfl rfl) (Wd.u rfl) rfl rfl ?_
                    refine LR.v (Y.assign rfl rfl) (Wd.u rfl) rfl rfl ?_
                    refine LR.nil ?_
                    refine hK25 _ _ ?_
                    refine hK23 _ _ ?_
                    refine CW.seq (fun K49 hK49 hE49 => ?_)
                    refine CW.region ?_
                    refine LR.v (Y.move rfl rfl) (Wd.u rfl) rfl rfl ?_
                    refine LR.v (Y.not rfl rfl) (Wd.u rfl) rfl rfl ?_
                    refine LR.v (Y.move rfl rfl) (Wd.u rfl) rfl rfl ?_
                    refine LR.gs rfl rfl rfl rfl rfl rfl ?_
                    refine LR.gs rfl rfl rfl rfl rfl rfl ?_
                    refine LR.gs rfl rfl rfl rfl rfl rfl ?_
                    refine LR.gs rfl rfl rfl rfl rfl rfl ?_
                    refine LR.gs rfl rfl rfl rfl rfl rfl ?_
                    refine LR.gs rfl rfl rfl rfl rfl rfl ?_
                    refine LR.gs rfl rfl rfl rfl rfl rfl ?_
                    refine LR.gs rfl rfl rfl rfl rfl rfl ?_
                    refine LR.gs rfl rfl rfl rfl rfl rfl ?_
                    refine LR.gs rfl rfl rfl rfl rfl rfl ?_
                    refine LR.gs rfl rfl rfl rfl rfl rfl ?_
                    refine LR.gs rfl rfl rfl rfl rfl rfl ?_
                    refine LR.v (Y.pick_t rfl rfl rfl) (Wd.u rfl) rfl rfl ?_
                    refine LR.nil ?_
                    refine hK49 _ _ ?_
                    refine CW.cond_t rfl ?_
                    refine CW.seq (fun K50 hK50 hE50 => ?_)
                    refine CW.region ?_
                    refine LR.v (Y.assign rfl rfl) (Wd.u rfl) rfl rfl ?_
                    refine LR.nil ?_
                    refine hK50 _ _ ?_
                    refine CW.ret (hE18 .ret nofun (by simp) _ _ (hE17 .ret nofun _ _ (hE14 .ret nofun _ _ (hE13 .ret nofun (by simp) _ _ (hE11 .ret nofun _ _ (hret .ret (.inr rfl) _ _ _ (res1 rfl rfl) ?_))))))
                    exact ⟨rfl, hm0⟩
              ·
                exfalso; omega
    ·
      obtain rfl : i = l.length := by omega
      rw [List.take_length] at oa ob oc
      rw [eb] at oa
      rw [eo] at ob
      rw [et] at oc
      refine CW.exit (hE15 (.exit 0) nofun _ _ (hE14 (.exit 0) nofun _ _ (hX13 _ _ ?_)))
      refine hK11 _ _ ?_
      refine CW.seq (fun K51 hK51 hE51 => ?_)
      refine CW.region ?_
      refine LR.v (Y.move rfl rfl) (Wd.u rfl) rfl rfl ?_
      refine LR.v (Y.move rfl rfl) (Wd.u rfl) rfl rfl ?_
      -- call selvage/selvageref12.Same
      refine LR.call rfl Try.call21 rfl (Wd.u rfl) rfl rfl (sameST _ _ a a w0 _ oa.rd.any ha.any rfl) (fun v143 H143 r143 => ?_)
      obtain ⟨rfl, hs143⟩ := r143
      replace ha := ha.nw hs143
      replace ho := ho.nw hs143
      replace ht := ht.nw hs143
      replace hrl := hrl.nw hs143
      replace hxl := fun x hx_ => (hxl x hx_).nw hs143
      replace oa := oa.nw hs143
      replace ob := ob.nw hs143
      replace oc := oc.nw hs143
      replace hm0 := hm0.tr hs143
      have hz13 := hs143.size
      refine LR.v (Y.move rfl rfl) (Wd.u rfl) rfl rfl ?_
      refine LR.v (Y.move rfl rfl) (Wd.g rfl rfl rfl) rfl rfl ?_
      refine LR.v (Y.move rfl rfl) (Wd.g rfl rfl rfl) rfl rfl ?_
      -- call selvage/selvageref12.Same
      refine LR.call rfl Try.call21 rfl (Wd.g rfl rfl rfl) rfl rfl (sameST _ _ o o w0 _ ob.rd.any ho.any rfl) (fun v147 H147 r147 => ?_)
      obtain ⟨rfl, hs147⟩ := r147
      replace ha := ha.nw hs147
      replace ho := ho.nw hs147
      replace ht := ht.nw hs147
      replace hrl := hrl.nw hs147
      replace hxl := fun x hx_ => (hxl x hx_).nw hs147
      replace oa := oa.nw hs147
      replace ob := ob.nw hs147
      replace oc := oc.nw hs147
      replace hm0 := hm0.tr hs147
      have hz14 := hs147.size
      refine LR.v (Y.pick_t rfl rfl rfl) (Wd.u rfl) rfl rfl ?_
      refine LR.v (Y.move rfl rfl) (Wd.u rfl) rfl rfl ?_
      refine LR.v (Y.move rfl rfl) (Wd.g rfl rfl rfl) rfl rfl ?_
      refine LR.v (Y.move rfl rfl) (Wd.g rfl rfl rfl) rfl rfl ?_
      -- call selvage/selvageref12.Same
      refine LR.call rfl Try.call21 rfl (Wd.g rfl rfl rfl) rfl rfl (sameST _ _ t t w0 _ oc.rd.any ht.any rfl) (fun v152 H152 r152 => ?_)
      obtain ⟨rfl, hs152⟩ := r152
      replace ha := ha.nw hs152
      replace ho := ho.nw hs152
      replace ht := ht.nw hs152
      replace hrl := hrl.nw hs152
      replace hxl := fun x hx_ => (hxl x hx_).nw hs152
      replace oa := oa.nw hs152
      replace ob := ob.nw hs152
      replace oc := oc.nw hs152
      replace hm0 := hm0.tr hs152
      have hz15 := hs152.size
      refine LR.v (Y.pick_t rfl rfl rfl) (Wd.u rfl) rfl rfl ?_
      refine LR.v (Y.assign rfl rfl) (Wd.u rfl) rfl rfl ?_
      refine LR.nil ?_
      refine hK51 _ _ ?_
      refine CW.ret (hret .ret (.inr rfl) _ _ _ (res1 rfl rfl) ?_)
      exact ⟨rfl, hm0⟩

end Go.Proofs.Ytadgeooceeilpaa.MerK
