/-
  Three texts are merged.
-/
import Derived.Test.YtegfnfhdgbcjbaaMerG
namespace Go.Proofs.Ytegfnfhdgbcjbaa.MerH
open Go.Proofs.Ytegfnfhdgbcjbaa.E Go.RowKit Go.Proofs.Ytegfnfhdgbcjbaa.LinM Go.Proofs.Ytegfnfhdgbcjbaa.LinA Go.Proofs.Ytegfnfhdgbcjbaa.LinC Go.Proofs.Ytegfnfhdgbcjbaa.LinF Go.Proofs.Ytegfnfhdgbcjbaa.LinL Go.Proofs.Ytegfnfhdgbcjbaa.LinN Go.Proofs.Ytegfnfhdgbcjbaa.MerA Go.Proofs.Ytegfnfhdgbcjbaa.MerB Go.Proofs.Ytegfnfhdgbcjbaa.MerC Go.Proofs.Ytegfnfhdgbcjbaa.MerD Go.Proofs.Ytegfnfhdgbcjbaa.MerE Go.Proofs.Ytegfnfhdgbcjbaa.MerF Go.Proofs.Ytegfnfhdgbcjbaa.MerG
set_option linter.unusedVariables false
set_option linter.unusedSimpArgs false
set_option linter.unusedSectionVars false

theorem flat_split (b : List UInt8) : (splitL [] b).flatten = b := by rw [splitL_flat]; rfl
theorem mch_bd {a o t : List UInt8} (ha : a.length ≤ 1048576) (ho : o.length ≤ 1048576) (ht : t.length ≤ 1048576) : ∀ c ∈ mchL a o t, BdC c :=
  chunks_bd (by rw [flat_split]; exact ha) (by rw [flat_split]; exact ho) (by rw [flat_split]; exact ht)
theorem bd_of {l : List Ck} {cs : List Cn} (h : l.map Ck.c = cs) (hb : ∀ c ∈ cs, BdC c) : ∀ x ∈ l, BdC x.c := fun x hx => hb _ (by rw [← h]; exact List.mem_map.2 ⟨x, hx, rfl⟩)
theorem len_of {l : List Ck} {a o t : List (List UInt8)} (h : l.map Ck.c = chunksL a o t) (ha : a.length ≤ 4000) : l.length ≤ 1048576 := by
  have := chunks_len a o t
  rw [← h, List.length_map] at this
  omega
/-- not too many bytes, not too many lines -/
def Short (b : List UInt8) : Prop := b.length < 3000 ∧ Few (splitL [] b)
instance (b : List UInt8) : Decidable (Short b) := by unfold Short; infer_instance
theorem split_mem {b : List UInt8} : ∀ s ∈ splitL [] b, s.length ≤ b.length := by
  intro s hs
  have h := flat_split b
  have : s.length ≤ (splitL [] b).flatten.length := by
    have := List.sublist_flatten_of_mem hs
    exact this.length_le
  rw [h] at this
  exact this
theorem clean_take {cs : List Cn} {j : Nat} {b : Bool} (hb : b = cleanL (cs.take j)) (hj : j < cs.length) : cleanL (cs.take (j + 1)) = (b && decide (cs[j].1 ≠ 4)) := by
  subst hb
  unfold cleanL
  rw [List.take_succ_eq_append_getElem hj, List.all_append]
  simp

set_option maxHeartbeats 4000000 in
theorem rmerge_ct (v1 v2 v3 : Value) (a o t : List UInt8) (w0 : World) (H0 : Heap)
    (ha : RdT H0 fB 1 v1 a) (ho : RdT H0 fB 1 v2 o) (ht : RdT H0 fB 1 v3 t) (hal : a.length ≤ 1048576) (hol : o.length ≤ 1048576) (htl : t.length ≤ 1048576) (ha2 : (splitL [] a).length ≤ 4000) (ho2 : (splitL [] o).length ≤ 4000) (ht2 : (splitL [] t).length ≤ 4000) :
    Ct Try.prog w0 11 #[v1, v2, v3] H0 (fun r H2 => ∃ v : Value, ∃ k : Nat, r = .tuple #[v, .bool (cleanL (mchL a o t)), .int .i64 0] ∧ (Ow k 5 H2 fB 1 v (rendL (mchL a o t))) ∧ (Nx 0 H0.size k) ∧ Nw H0 H2) := by
  refine Ct.enter (args := [v1, v2, v3]) Try.func11 rfl rfl rfl ?_
  intro Q0 hret
  have hm0 : Nw H0 H0 := Mo.refl _ _
  replace ha := ha.bnd
  have bf_ha := Rd.bf ha
  replace ho := ho.bnd
  have bf_ho := Rd.bf ho
  replace ht := ht.bnd
  have bf_ht := Rd.bf ht
  refine CW.seq (fun K1 hK1 hE1 => ?_)
  refine CW.region ?_
  refine LR.v (Y.assign rfl rfl) (Wd.u rfl) rfl rfl ?_
  refine LR.v (Y.assign rfl rfl) (Wd.u rfl) rfl rfl ?_
  refine LR.v (Y.assign rfl rfl) (Wd.u rfl) rfl rfl ?_
  refine LR.nil ?_
  refine hK1 _ _ ?_
  refine CW.seq (fun K2 hK2 hE2 => ?_)
  refine CW.region ?_
  refine LR.v (Y.move rfl rfl) (Wd.u rfl) rfl rfl ?_
  -- call selvage/selvageref12.Split
  refine LR.call rfl Try.call30 rfl (Wd.u rfl) rfl rfl (rsplit3 _ a w0 _ ha.any hal) (fun v15 H15 r15 => ?_)
  obtain ⟨v15, k15, rfl, o15, hk15, hs15⟩ := r15
  have df1 := DF.app (DF.z) (bf_ha.mono hm0.size) hk15
  have df2 := DF.app (DF.z) (bf_ho.mono hm0.size) hk15
  have df3 := DF.app (DF.z) (bf_ht.mono hm0.size) hk15
  have nx4 : Nx 0 H0.size k15 := Nx.tr (Nx.refl 0 _) hk15 hm0.size
  replace ha := ha.nw hs15
  replace ho := ho.nw hs15
  replace ht := ht.nw hs15
  replace hm0 := hm0.tr hs15
  have hz1 := hs15.size
  have hle_o15 := o15.le
  refine LR.v (Y.move rfl rfl) (Wd.u rfl) rfl rfl ?_
  -- call selvage/selvageref12.Split
  refine LR.call rfl Try.call30 rfl (Wd.u rfl) rfl rfl (rsplit3 _ o w0 _ ho.any hol) (fun v17 H17 r17 => ?_)
  obtain ⟨v17, k17, rfl, o17, hk17, hs17⟩ := r17
  have df5 := DF.app (DF.z) (bf_ha.mono hm0.size) hk17
  have df6 := DF.app (DF.z) (bf_ho.mono hm0.size) hk17
  have df7 := DF.app (DF.z) (bf_ht.mono hm0.size) hk17
  have dj8 : Dj k15 k17 := Dj.app (Dj.z) o15.le hk17
  have nx9 : Nx 0 H0.size k17 := Nx.tr (Nx.refl 0 _) hk17 hm0.size
  replace ha := ha.nw hs17
  replace ho := ho.nw hs17
  replace ht := ht.nw hs17
  replace o15 := o15.nw hs17
  replace hm0 := hm0.tr hs17
  have hz2 := hs17.size
  have hle_o17 := o17.le
  refine LR.v (Y.move rfl rfl) (Wd.u rfl) rfl rfl ?_
  -- call selvage/selvageref12.Split
  refine LR.call rfl Try.call30 rfl (Wd.u rfl) rfl rfl (rsplit3 _ t w0 _ ht.any htl) (fun v19 H19 r19 => ?_)
  obtain ⟨v19, k19, rfl, o19, hk19, hs19⟩ := r19
  have df10 := DF.app (DF.z) (bf_ha.mono hm0.size) hk19
  have df11 := DF.app (DF.z) (bf_ho.mono hm0.size) hk19
  have df12 := DF.app (DF.z) (bf_ht.mono hm0.size) hk19
  have dj13 : Dj k15 k19 := Dj.app (Dj.z) o15.le hk19
  have dj14 : Dj k17 k19 := Dj.app (Dj.z) o17.le hk19
  have nx15 : Nx 0 H0.size k19 := Nx.tr (Nx.refl 0 _) hk19 hm0.size
  replace ha := ha.nw hs19
  replace ho := ho.nw hs19
  replace ht := ht.nw hs19
  replace o15 := o15.nw hs19
  replace o17 := o17.nw hs19
  replace hm0 := hm0.tr hs19
  have hz3 := hs19.size
  have hle_o19 := o19.le
  -- call selvage/selvageref14.Chunks
  refine LR.call rfl Try.call29 rfl (Wd.u rfl) rfl rfl (rchunks_ct _ _ _ (splitL [] a) (splitL [] o) (splitL [] t) w0 _ o15.rd.any o17.rd.any o19.rd.any ha2 ho2 ht2) (fun v20 H20 r20 => ?_)
  obtain ⟨vl, l, rfl, hl, hr, hx, hs20⟩ := r20
  replace ha := ha.nw hs20
  replace ho := ho.nw hs20
  replace ht := ht.nw hs20
  replace o15 := o15.nw hs20
  replace o17 := o17.nw hs20
  replace o19 := o19.nw hs20
  replace hm0 := hm0.tr hs20
  have hz4 := hs20.size
  replace hr := hr.bnd
  have bf_hr := Rd.bf hr
  have df16 : DF (fun b => H19.size ≤ b ∧ b < H20.size) k15 := DF.above (fun b h => h.1) (by first | exact hle_o15 | exact hlt_o15 | omega)
  have df17 : DF (fun b => H19.size ≤ b ∧ b < H20.size) k17 := DF.above (fun b h => h.1) (by first | exact hle_o17 | exact hlt_o17 | omega)
  have df18 : DF (fun b => H19.size ≤ b ∧ b < H20.size) k19 := DF.above (fun b h => h.1) (by first | exact hle_o19 | exact hlt_o19 | omega)
  replace hx := fun x hx_ => (hx x hx_).bnd
  have bf_hx : BF (fun b => H19.size ≤ b ∧ b < H20.size) H20.size := fun b h => h.2
  have df19 : DF (fun b => H19.size ≤ b ∧ b < H20.size) k15 := DF.above (fun b h => h.1) (by first | exact hle_o15 | exact hlt_o15 | omega)
  have df20 : DF (fun b => H19.size ≤ b ∧ b < H20.size) k17 := DF.above (fun b h => h.1) (by first | exact hle_o17 | exact hlt_o17 | omega)
  have df21 : DF (fun b => H19.size ≤ b ∧ b < H20.size) k19 := DF.above (fun b h => h.1) (by first | exact hle_o19 | exact hlt_o19 | omega)
  have hbc := bd_of hl (mch_bd hal hol htl)
  have hlc := len_of hl ha2
  have hll := hr.len
  refine LR.v (Y.move rfl rfl) (Wd.u rfl) rfl rfl ?_
  refine LR.v (Y.extract rfl rfl rfl) (Wd.u rfl) rfl rfl ?_
  refine LR.v (Y.extract rfl rfl rfl) (Wd.u rfl) rfl rfl ?_
  refine LR.v (Y.assign rfl rfl) (Wd.u rfl) rfl rfl ?_
  refine LR.v (Y.assign rfl rfl) (Wd.u rfl) rfl rfl ?_
  refine LR.nil ?_
  refine hK2 _ _ ?_
  refine CW.seq (fun K3 hK3 hE3 => ?_)
  refine CW.seq (fun K4 hK4 hE4 => ?_)
  refine CW.region ?_
  refine LR.v (Y.move rfl rfl) (Wd.u rfl) rfl rfl ?_
  refine LR.v ((Y.neq rfl rfl rfl).isF (fun h => h rfl)) (Wd.u rfl) rfl rfl ?_
  refine LR.nil ?_
  refine hK4 _ _ ?_
  refine CW.cond_f rfl ?_
  refine CW.skip ?_
  refine hK3 _ _ ?_
  refine CW.seq (fun K5 hK5 hE5 => ?_)
  refine CW.region ?_
  refine LR.v (Y.assign rfl rfl) (Wd.u rfl) rfl rfl ?_
  refine LR.nil ?_
  refine hK5 _ _ ?_
  refine CW.seq (fun K6 hK6 hE6 => ?_)
  refine CW.seq (fun K7 hK7 hE7 => ?_)
  refine CW.region ?_
  refine LR.v (Y.assign rfl rfl) (Wd.u rfl) rfl rfl ?_
  refine LR.nil ?_
  refine hK7 _ _ ?_
  refine CW.block (fun K8 hK8 hX8 hE8 => ?_)
  refine CW.loop (fun (s_ : (Nat) × (Bool)) => match s_ with | (j, b) => [(9, vl), (11, .bool b), (12, .int .i64 j)])
    (fun (s_ : (Nat) × (Bool)) (H : Heap) => match s_ with | (j, b) => (j ≤ l.length) ∧ (b = cleanL ((l.map Ck.c).take j)) ∧ Nw H20 H)
    (fun (s_ : (Nat) × (Bool)) => match s_ with | (j, b) => l.length - j) (0, true) ⟨rfl, rfl, rfl, trivial⟩ ?_ ?_
  ·
    exact ⟨(by omega), rfl, Mo.refl _ _⟩
  rintro ⟨j, b⟩ HL1 hI1 K9 hN9 hE9
  obtain ⟨hj, hb, hlm1⟩ := hI1
  replace ha := ha.nw hlm1
  replace ho := ho.nw hlm1
  replace ht := ht.nw hlm1
  replace hr := hr.nw hlm1
  replace hx := fun x hx_ => (hx x hx_).nw hlm1
  replace hm0 := hm0.tr hlm1
  have hz5 := hlm1.size
  refine CW.seq (fun K10 hK10 hE10 => ?_)
  refine CW.seq (fun K11 hK11 hE11 => ?_)
  refine CW.region ?_
  refine LR.v (Y.move rfl rfl) (Wd.u rfl) rfl rfl ?_
  refine LR.v (Y.move rfl rfl) (Wd.u rfl) rfl rfl ?_
  refine LR.v (Y.len hr rfl Try.runUnderlying50 rfl) (Wd.u rfl) rfl rfl ?_
  refine LR.v (Y.lss rfl rfl rfl) (Wd.u rfl) rfl rfl ?_
  refine LR.nil ?_
  refine hK11 _ _ ?_
  refine CW.condp rfl (fun c29 => ?_) (fun c29 => ?_)
  ·
    refine CW.skip ?_
    refine hK10 _ _ ?_
    refine CW.seq (fun K12 hK12 hE12 => ?_)
    refine CW.block (fun K13 hK13 hX13 hE13 => ?_)
    refine CW.region ?_
    refine LR.v (Y.move rfl rfl) (Wd.u rfl) rfl rfl ?_
    refine LR.v (Y.move rfl rfl) (Wd.u rfl) rfl rfl ?_
    refine LR.split (d := 33) rfl (fun g33 => ?_) (fun g33 => ?_)
    ·
      refine LR.v (Y.move rfl rfl) (Wd.g rfl rfl rfl) rfl rfl ?_
      refine LR.v (Y.move rfl rfl) (Wd.g rfl rfl rfl) rfl rfl ?_
      refine LR.e (g := fun ad => .pointer (some ad)) (Y.indexAddrF hr (j) rfl Try.runUnderlying50 Try.sizeOf54 rfl rfl (by first | rfl | omega) (by first | omega | (simp; omega) | (simp; done))) (Wd.g rfl rfl rfl) rfl rfl (fun ad36 pt36 => ?_)
      have bf_pt36 := bf_hr
      refine LR.v (Y.fieldAddr pt36.pt rfl Try.runUnderlying54 rfl rfl Try.sizeOf3 (by decide) rfl) (Wd.g rfl rfl rfl) rfl rfl ?_
      refine LR.v (Y.cast (v2 := .int .i64 l[j].k) (Y.load1 (pt36.pt.drop 0) rfl Try.isAgg3 rfl) (rfl)) (Wd.g rfl rfl rfl) rfl rfl ?_
      refine LR.v (Y.neq rfl rfl rfl) (Wd.g rfl rfl rfl) rfl rfl ?_
      refine LR.v (Y.pick_t rfl rfl rfl) (Wd.u rfl) rfl rfl ?_
      refine LR.v (Y.assign rfl rfl) (Wd.u rfl) rfl rfl ?_
      refine LR.nil ?_
      refine hK13 _ _ ?_
      refine hK12 _ _ ?_
      refine CW.region ?_
      refine LR.v (Y.move rfl rfl) (Wd.u rfl) rfl rfl ?_
      refine LR.v (Y.addi rfl rfl rfl (by omega)) (Wd.u rfl) rfl rfl ?_
      refine LR.v (Y.assign rfl rfl) (Wd.u rfl) rfl rfl ?_
      refine LR.nil ?_
      have hcl := clean_take hb (by simpa using by omega)
      refine QN.sub (hN9 (j + 1, decide (l[j].k ≠ 4)) _ ?_ ?_) ⟨rfl, rfl, (iv (by omega)), trivial⟩
      · exact ⟨(by omega), (by rw [hcl]; simp [g33]), hlm1⟩
      · first | omega | (simp only; omega) | (simp; omega)
    ·
      refine LR.gs rfl rfl rfl rfl rfl rfl ?_
      refine LR.gs rfl rfl rfl rfl rfl rfl ?_
      refine LR.gs rfl rfl rfl rfl rfl rfl ?_
      refine LR.gs rfl rfl rfl rfl rfl rfl ?_
      refine LR.gs rfl rfl rfl rfl rfl rfl ?_
      refine LR.gs rfl rfl rfl rfl rfl rfl ?_
      refine LR.v (Y.pick_f rfl rfl rfl) (Wd.u rfl) rfl rfl ?_
      refine LR.v (Y.assign rfl rfl) (Wd.u rfl) rfl rfl ?_
      refine LR.nil ?_
      refine hK13 _ _ ?_
      refine hK12 _ _ ?_
      refine CW.region ?_
      refine LR.v (Y.move rfl rfl) (Wd.u rfl) rfl rfl ?_
      refine LR.v (Y.addi rfl rfl rfl (by omega)) (Wd.u rfl) rfl rfl ?_
      refine LR.v (Y.assign rfl rfl) (Wd.u rfl) rfl rfl ?_
      refine LR.nil ?_
      have hcl := clean_take hb (by simpa using by omega)
      refine QN.sub (hN9 (j + 1, false) _ ?_ ?_) ⟨rfl, rfl, (iv (by omega)), trivial⟩
      · exact ⟨(by omega), (by rw [hcl]; simp [g33]), hlm1⟩
      · first | omega | (simp only; omega) | (simp; omega)
  ·
    refine CW.exit (hE10 (.exit 0) nofun _ _ (hE9 (.exit 0) nofun _ _ (hX8 _ _ ?_)))
    refine hK6 _ _ ?_
    refine CW.seq (fun K14 hK14 hE14 => ?_)
    refine CW.region ?_
    refine LR.v (Y.move rfl rfl) (Wd.u rfl) rfl rfl ?_
    -- call selvage/selvageref14.Render
    refine LR.call rfl Try.call31 rfl (Wd.u rfl) rfl rfl (rrender_ct _ l w0 _ hr.any (fun x e => (hx x e).any) hbc hlc) (fun v42 H42 r42 => ?_)
    obtain ⟨v242, kw, rfl, ow, hk42, hs42⟩ := r42
    have df22 := DF.app (DF.z) (bf_ha.mono hm0.size) hk42
    have df23 := DF.app (DF.z) (bf_ho.mono hm0.size) hk42
    have df24 := DF.app (DF.z) (bf_ht.mono hm0.size) hk42
    have df25 := DF.app (DF.z) (bf_hr.mono (by omega)) hk42
    have df26 := DF.app (DF.z) (bf_hx.mono (by omega)) hk42
    have nx27 : Nx 0 H0.size kw := Nx.tr (Nx.refl 0 _) hk42 hm0.size
    replace ha := ha.nw hs42
    replace ho := ho.nw hs42
    replace ht := ht.nw hs42
    replace hr := hr.nw hs42
    replace hx := fun x hx_ => (hx x hx_).nw hs42
    replace hm0 := hm0.tr hs42
    have hz6 := hs42.size
    have hle_ow := ow.le
    refine LR.v (Y.move rfl rfl) (Wd.u rfl) rfl rfl ?_
    refine LR.v (Y.assign rfl rfl) (Wd.u rfl) rfl rfl ?_
    refine LR.v (Y.assign rfl rfl) (Wd.u rfl) rfl rfl ?_
    refine LR.v (Y.assign rfl rfl) (Wd.u rfl) rfl rfl ?_
    refine LR.nil ?_
    refine hK14 _ _ ?_
    refine CW.ret (hret .ret (.inr rfl) _ _ _ (res3 rfl rfl rfl rfl) ?_)
    obtain rfl : j = l.length := by omega
    rw [List.take_of_length_le (by simp)] at hb
    exact ⟨v42, kw, by rw [hb, hl]; rfl, by rw [hl] at ow; exact ow, nx27, hm0⟩

end Go.Proofs.Ytegfnfhdgbcjbaa.MerH
