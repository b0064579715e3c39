/-
  The disk: names that are told; picks; what a crash leaves of a file.
-/
import Derived.Test.YtfbfjhppppoilaaDoorSimK
namespace Go.Proofs.YtfbfjhppppoilaaDoor.SimL
open Go.Proofs.YtfbfjhppppoilaaDoor.E Go.RowKit Go.Proofs.YtfbfjhppppoilaaDoor.SimA Go.Proofs.YtfbfjhppppoilaaDoor.SimB Go.Proofs.YtfbfjhppppoilaaDoor.SimC Go.Proofs.YtfbfjhppppoilaaDoor.SimD Go.Proofs.YtfbfjhppppoilaaDoor.SimE Go.Proofs.YtfbfjhppppoilaaDoor.SimF Go.Proofs.YtfbfjhppppoilaaDoor.SimG Go.Proofs.YtfbfjhppppoilaaDoor.SimH Go.Proofs.YtfbfjhppppoilaaDoor.SimI Go.Proofs.YtfbfjhppppoilaaDoor.SimJ Go.Proofs.YtfbfjhppppoilaaDoor.SimK
set_option maxRecDepth 20000
set_option linter.unusedVariables false
set_option linter.unusedSimpArgs false
set_option linter.unusedSectionVars false

theorem names_rise {D : Dk} (hA : Asc D.now) (p : Pth) {out : List Pth} (ho : Rise out) {nm : Nms} (he : ∀ q, mget nm q = if dirP q = p then mget D.now q else none) (hm : ∀ k, k ∈ out ↔ k ∈ nm.map (·.1)) : out = (D.now.filter (fun x => dirP x.1 = p)).map (·.1) := by
  have hF : Asc (D.now.filter (fun x => decide (dirP x.1 = p))) := hA.filter _
  refine rise_ext ho hF.rise (fun q => ?_)
  rw [hm, ← isSome_iff_key, ← isSome_iff_key, he, mget_filter (f := fun x => decide (dirP x = p))]
  by_cases h : dirP q = p <;> simp [h]
theorem names_none {D : Dk} (hA : Asc D.now) (p : Pth) (h : ∀ q, dirP q = p → mget D.now q = none) : (D.now.filter (fun x => dirP x.1 = p)).map (·.1) = [] := by
  rw [List.filter_eq_nil_iff.2 (fun x hx => ?_)]
  · rfl
  · intro e
    have h1 := mget_of_mem hA.nodup (show (x.1, x.2) ∈ D.now from hx)
    rw [h x.1 (by simpa using e)] at h1; cases h1
theorem dmsub {D : Dk} {p : Pth} {nm : Nms} (hn : (nm.map (·.1)).Nodup) (he : ∀ q, mget nm q = if dirP q = p then mget D.now q else none) : nm.length ≤ D.now.length := by
  have := nodup_le (b := D.now.map (·.1)) hn (fun k hk => by
    rw [← isSome_iff_key] at hk ⊢
    rw [he] at hk
    split at hk
    · exact hk
    · cases hk)
  rwa [List.length_map, List.length_map] at this
theorem dirE_cases {p : Pth} (h : ¬ (p ≠ [] ∧ nameB p = false)) : dirE p = 0 := by unfold dirE; rw [if_neg h]
theorem pick_eq (x : Int) {m : Nat} (hm : 0 < m) : (x.tmod m + m).tmod m = x % m := by
  have h0 : (0 : Int) < m := by omega
  have h1 := Int.lt_tmod_of_pos x h0
  rw [Int.tmod_eq_emod_of_nonneg (by omega), Int.add_emod_right, Int.tmod_def, Int.sub_mul_emod_self_left]
theorem pickN_lt (picks : List Int) (n : Nat) {m : Nat} (hm : 0 < m) : pickN picks n m < m := by
  unfold pickN
  split
  · have h1 := Int.emod_nonneg (picks.getD n 0) (show (m : Int) ≠ 0 by omega)
    have h2 := Int.emod_lt_of_pos (picks.getD n 0) (show (0 : Int) < m by omega)
    omega
  · exact hm
theorem pickN_at {picks : List Int} {n m : Nat} (hn : n < picks.length) (hm : 0 < m) : ((pickN picks n m : Nat) : Int) = (picks[n].tmod m + m).tmod m := by
  have h1 := Int.emod_nonneg picks[n] (show (m : Int) ≠ 0 by omega)
  unfold pickN
  rw [if_pos hn, pick_eq _ hm, List.getD_eq_getElem?_getD, List.getElem?_eq_getElem hn, Option.getD_some, Int.toNat_of_nonneg h1]
theorem pickN_over {picks : List Int} {n m : Nat} (hn : ¬ n < picks.length) : pickN picks n m = 0 := by unfold pickN; rw [if_neg hn]

theorem list_ct (mx_ : Int) (K : List Nat) (g : Gh) (b : Nat) (D : Dk) (p : Pth) (w0 : World) (H0 : Heap)
    (hf : PDk K g H0 b D) (mx : MX mx_ H0) (bf_mx : BF (fun b => b = 0) H0.size) (hl : p.length ≤ 4294967280) (hA : Asc D.now) (hnl : D.now.length ≤ 1099511627776) :
    Ct Tryd.prog w0 26 #[ptr b, Str p] H0 (fun r H2 => ∃ s : SV, ∃ k : Nat, r = .tuple #[s.v, .int .i64 (D.listE p : Int)] ∧ (Ow k 9 H2 fS 1 s.v (D.listL p)) ∧ (Nx 0 H0.size k) ∧ Nw H0 H2) := by
  refine Ct.enter (args := [ptr b, Str p]) Tryd.func26 rfl rfl rfl ?_
  intro Q0 hret
  have hm0 : Nw H0 H0 := Mo.refl _ _
  have nx_hm0_hf := NxK.refl K H0.size
  have hbk_hf := hf.bk
  refine CW.seq (fun K1 hK1 hE1 => ?_)
  refine CW.region ?_
  refine LR.v (Y.assign rfl rfl) (Wd.u rfl) rfl rfl ?_
  refine LR.v (Y.assign rfl rfl) (Wd.u rfl) rfl rfl ?_
  refine LR.nil ?_
  refine hK1 _ _ ?_
  refine CW.seq (fun K2 hK2 hE2 => ?_)
  refine CW.seq (fun K3 hK3 hE3 => ?_)
  refine CW.region ?_
  refine LR.v (Y.move rfl rfl) (Wd.u rfl) rfl rfl ?_
  refine LR.v (Y.nilCheck rfl rfl) (Wd.u rfl) rfl rfl ?_
  refine LR.v (Y.fieldAddr hf.vb.pt rfl Tryd.runUnderlying64 rfl rfl Tryd.sizeOf4 (by decide) rfl) (Wd.u rfl) rfl rfl ?_
  refine LR.v (Y.load1 (hf.vb.pt.drop 5) rfl Tryd.isAgg4 rfl) (Wd.u rfl) rfl rfl ?_
  refine LR.nil ?_
  refine hK3 _ _ ?_
  refine CW.cond rfl (fun c10 => ?_) (fun c10 => ?_)
  ·
    refine CW.seq (fun K4 hK4 hE4 => ?_)
    refine CW.region ?_
    refine LR.v (Y.assign rfl rfl) (Wd.u rfl) rfl rfl ?_
    refine LR.v (Y.assign rfl rfl) (Wd.u rfl) rfl rfl ?_
    refine LR.nil ?_
    refine hK4 _ _ ?_
    refine CW.ret (hE2 .ret nofun _ _ (hret .ret (.inr rfl) _ _ _ (res2 rfl rfl rfl) ?_))
    have hE : D.listE p = 11 := by unfold Dk.listE; rw [if_pos c10]
    have hL : D.listL p = [] := by unfold Dk.listL; rw [if_neg (by omega)]
    exact ⟨⟨none, 0, 0⟩, 0, by rw [hE]; rfl, by rw [hL]; exact Ow.nil fS_len fS_one, Nx.refl _ _, hm0⟩
  ·
    refine CW.skip ?_
    refine hK2 _ _ ?_
    refine CW.seq (fun K5 hK5 hE5 => ?_)
    refine CW.seq (fun K6 hK6 hE6 => ?_)
    refine CW.region ?_
    refine LR.v (Y.move rfl rfl) (Wd.u rfl) rfl rfl ?_
    refine LR.v (Y.sneq rfl rfl rfl) (Wd.u rfl) rfl rfl ?_
    refine LR.v (Y.move rfl rfl) (Wd.u rfl) rfl rfl ?_
    refine LR.splitp (d := 13) rfl (fun g13 => ?_) (fun g13 => ?_)
    ·
      refine LR.v (Y.move rfl rfl) (Wd.g rfl rfl rfl) rfl rfl ?_
      -- call selvage/simfs.Name
      refine LR.call rfl Tryd.call12 rfl (Wd.g rfl rfl rfl) rfl rfl (name_ct mx_ p w0 _ mx (bf_mx.mono (by omega)) hl) (fun v15 H15 r15 => ?_)
      obtain ⟨rfl, hs15⟩ := r15
      replace hf := hf.nw hs15
      replace mx := mx.nw hs15
      replace hm0 := hm0.tr hs15
      have hz1 := hs15.size
      refine LR.v (Y.not rfl rfl) (Wd.g rfl rfl rfl) rfl rfl ?_
      refine LR.v (Y.pick_t rfl rfl rfl) (Wd.u rfl) rfl rfl ?_
      refine LR.nil ?_
      refine hK6 _ _ ?_
      refine CW.cond rfl (fun c17 => ?_) (fun c17 => ?_)
      ·
        refine CW.seq (fun K7 hK7 hE7 => ?_)
        refine CW.region ?_
        refine LR.v (Y.assign rfl rfl) (Wd.u rfl) rfl rfl ?_
        refine LR.v (Y.assign rfl rfl) (Wd.u rfl) rfl rfl ?_
        refine LR.nil ?_
        refine hK7 _ _ ?_
        refine CW.ret (hE5 .ret nofun _ _ (hret .ret (.inr rfl) _ _ _ (res2 rfl rfl rfl) ?_))
        have hE : D.listE p = 7 := by unfold Dk.listE; rw [if_neg (by simpa using c10)]; unfold dirE; rw [if_pos ⟨g13, by simpa using c17⟩]
        have hL : D.listL p = [] := by unfold Dk.listL; rw [if_neg (by omega)]
        exact ⟨⟨none, 0, 0⟩, 0, by rw [hE]; rfl, by rw [hL]; exact Ow.nil fS_len fS_one, Nx.refl _ _, hm0⟩
      ·
        refine CW.skip ?_
        refine hK5 _ _ ?_
        refine CW.seq (fun K8 hK8 hE8 => ?_)
        refine CW.region ?_
        refine LR.v (Y.move rfl rfl) (Wd.u rfl) rfl rfl ?_
        refine LR.v (Y.nilCheck rfl rfl) (Wd.u rfl) rfl rfl ?_
        refine LR.v (Y.fieldAddr hf.vb.pt rfl Tryd.runUnderlying64 rfl rfl Tryd.sizeOf57 (by decide) rfl) (Wd.u rfl) rfl rfl ?_
        refine LR.v (Y.load1 (hf.vb.pt.drop 2) rfl Tryd.isAgg57 rfl) (Wd.u rfl) rfl rfl ?_
        refine LR.v (Y.move rfl rfl) (Wd.u rfl) rfl rfl ?_
        refine LR.v (look_p adO hf.hm.mo (fun _ => rfl) keyStr rfl Tryd.runUnderlying57 Tryd.underlying9 Tryd.zeroValue77 rfl rfl) (Wd.u rfl) rfl rfl ?_
        refine LR.v (Y.assign rfl rfl) (Wd.u rfl) rfl rfl ?_
        refine LR.nil ?_
        refine hK8 _ _ ?_
        refine CW.seq (fun K9 hK9 hE9 => ?_)
        refine CW.seq (fun K10 hK10 hE10 => ?_)
        refine CW.region ?_
        refine LR.v (Y.move rfl rfl) (Wd.u rfl) rfl rfl ?_
        refine LR.v (Y.peq rfl (by kernel_rfl) (by kernel_rfl) rfl rfl) (Wd.u rfl) rfl rfl ?_
        refine LR.nil ?_
        refine hK10 _ _ ?_
        refine CW.cond rfl (fun c25 => ?_) (fun c25 => ?_)
        ·
          have hnd : mget g.dm p = none := by
            cases hq : mget g.dm p with
            | none => rfl
            | some db => rw [hq] at c25; cases c25
          refine CW.seq (fun K11 hK11 hE11 => ?_)
          refine CW.region ?_
          refine LR.v (Y.assign rfl rfl) (Wd.u rfl) rfl rfl ?_
          refine LR.v (Y.assign rfl rfl) (Wd.u rfl) rfl rfl ?_
          refine LR.nil ?_
          refine hK11 _ _ ?_
          refine CW.ret (hE9 .ret nofun _ _ (hret .ret (.inr rfl) _ _ _ (res2 rfl rfl rfl) ?_))
          have hE : D.listE p = 0 := by unfold Dk.listE; rw [if_neg (by simpa using c10)]; exact dirE_cases (fun h => by first | exact g13 h.1 | (rw [h.2] at c17; cases c17))
          have hL : D.listL p = [] := by unfold Dk.listL; rw [if_pos hE]; exact names_none hA p (fun q hq => ((hf.abs p hnd).1 q hq).1)
          exact ⟨⟨none, 0, 0⟩, 0, by rw [hE]; rfl, by rw [hL]; exact Ow.nil fS_len fS_one, Nx.refl _ _, hm0⟩
        ·
          obtain ⟨db, hdb⟩ : ∃ db, mget g.dm p = some db := by
            cases hq : mget g.dm p with
            | none => rw [hq] at c25; cases c25
            | some db => exact ⟨db, rfl⟩
          obtain ⟨nb, sb, kc, sv, nm, sm, hd⟩ := hf.dirs _ db hdb
          have hen := hd.en
          have hns := dmsub hd.hn.mo.nodup hen
          refine CW.skip ?_
          refine hK9 _ _ ?_
          refine CW.seq (fun K12 hK12 hE12 => ?_)
          refine CW.region ?_
          refine LR.v (Y.cast (v2 := ptr db) (Y.move rfl rfl) (by rw [hdb]; rfl)) (Wd.u rfl) rfl rfl ?_
          refine LR.v (Y.nilCheck rfl rfl) (Wd.u rfl) rfl rfl ?_
          refine LR.v (Y.fieldAddr hd.vd.pt rfl Tryd.runUnderlying84 rfl rfl Tryd.sizeOf81 (by decide) rfl) (Wd.u rfl) rfl rfl ?_
          refine LR.v (Y.fieldAddr (hd.vd.pt.drop 0) rfl Tryd.runUnderlying81 rfl rfl Tryd.sizeOf79 (by decide) rfl) (Wd.u rfl) rfl rfl ?_
          refine LR.v (Y.load1 ((hd.vd.pt.drop 0).drop 0) rfl Tryd.isAgg79 rfl) (Wd.u rfl) rfl rfl ?_
          have hmn := hd.hn
          have hlt_hmn := hmn.lt
          -- call maps.Keys[selvage/simfs.names,string,*selvage/simfs.file]
          refine LR.call rfl Tryd.call46 rfl (Wd.u rfl) rfl rfl (keysN nb w0 _) (fun v31 H31 r31 => ?_)
          obtain ⟨bx, rfl, hx, hkx, hs31⟩ := r31
          have dj1 : DL (bx + 1) K := DL.app2 (DL.zK) hf.bk hkx
          have df2 := DF.app (DF.z) (bf_mx.mono hm0.size) hkx
          have dj3 : Dj (nb + 1) (bx + 1) := Dj.app (Dj.z) hmn.lt hkx
          have nx4 : Nx 0 H0.size (bx + 1) := Nx.tr (Nx.refl 0 _) hkx hm0.size
          replace hf := hf.nw hs31
          replace mx := mx.nw hs31
          replace hmn := hmn.nw hs31
          replace hm0 := hm0.tr hs31
          have hz2 := hs31.size
          have hle_hx := hx.le
          -- call slices.Sorted[string]
          refine LR.call rfl Tryd.call41 rfl (Wd.u rfl) rfl rfl (sortedN bx nb (fvl g.fb) nm w0 _ hx hmn (by omega)) (fun v32 H32 r32 => ?_)
          obtain ⟨s32, k32, out32, rfl, ow32, hk32, hout32, hs32⟩ := r32
          have dj5 : DL k32 K := DL.app2 (DL.zK) hf.bk hk32
          have df6 := DF.app (DF.z) (bf_mx.mono hm0.size) hk32
          have dj7 : Dj (nb + 1) k32 := Dj.app (Dj.z) hmn.lt hk32
          have dj8 : Dj (bx + 1) k32 := Dj.app (Dj.z) hx.le hk32
          have nx9 : Nx 0 H0.size k32 := Nx.tr (Nx.refl 0 _) hk32 hm0.size
          replace hf := hf.nw hs32
          replace mx := mx.nw hs32
          replace hmn := hmn.nw hs32
          replace hx := hx.nw hs32
          replace hm0 := hm0.tr hs32
          have hz3 := hs32.size
          have hle_ow32 := ow32.le
          refine LR.v (Y.assign rfl rfl) (Wd.u rfl) rfl rfl ?_
          refine LR.v (Y.assign rfl rfl) (Wd.u rfl) rfl rfl ?_
          refine LR.nil ?_
          refine hK12 _ _ ?_
          refine CW.ret (hret .ret (.inr rfl) _ _ _ (res2 rfl rfl rfl) ?_)
          have hE : D.listE p = 0 := by unfold Dk.listE; rw [if_neg (by simpa using c10)]; exact dirE_cases (fun h => by first | exact g13 h.1 | (rw [h.2] at c17; cases c17))
          have hL : D.listL p = out32 := by unfold Dk.listL; rw [if_pos hE, names_rise hA p hout32.1 hen hout32.2]
          exact ⟨s32, k32, by rw [hE]; rfl, by rw [hL]; exact ow32, nx9, hm0⟩
    ·
      refine LR.gs rfl rfl rfl rfl rfl rfl ?_
      refine LR.gs rfl rfl rfl rfl rfl rfl ?_
      refine LR.gs rfl rfl rfl rfl rfl rfl ?_
      refine LR.v (Y.pick_f rfl rfl rfl) (Wd.u rfl) rfl rfl ?_
      refine LR.nil ?_
      refine hK6 _ _ ?_
      refine CW.cond_f rfl ?_
      refine CW.skip ?_
      refine hK5 _ _ ?_
      refine CW.seq (fun K13 hK13 hE13 => ?_)
      refine CW.region ?_
      refine LR.v (Y.move rfl rfl) (Wd.u rfl) rfl rfl ?_
      refine LR.v (Y.nilCheck rfl rfl) (Wd.u rfl) rfl rfl ?_
      refine LR.v (Y.fieldAddr hf.vb.pt rfl Tryd.runUnderlying64 rfl rfl Tryd.sizeOf57 (by decide) rfl) (Wd.u rfl) rfl rfl ?_
      refine LR.v (Y.load1 (hf.vb.pt.drop 2) rfl Tryd.isAgg57 rfl) (Wd.u rfl) rfl rfl ?_
      refine LR.v (Y.move rfl rfl) (Wd.u rfl) rfl rfl ?_
      refine LR.v (look_p adO hf.hm.mo (fun _ => rfl) keyStr rfl Tryd.runUnderlying57 Tryd.underlying9 Tryd.zeroValue77 rfl rfl) (Wd.u rfl) rfl rfl ?_
      refine LR.v (Y.assign rfl rfl) (Wd.u rfl) rfl rfl ?_
      refine LR.nil ?_
      refine hK13 _ _ ?_
      refine CW.seq (fun K14 hK14 hE14 => ?_)
      refine CW.seq (fun K15 hK15 hE15 => ?_)
      refine CW.region ?_
      refine LR.v (Y.move rfl rfl) (Wd.u rfl) rfl rfl ?_
      refine LR.v (Y.peq rfl (by kernel_rfl) (by kernel_rfl) rfl rfl) (Wd.u rfl) rfl rfl ?_
      refine LR.nil ?_
      refine hK15 _ _ ?_
      refine CW.cond rfl (fun c25 => ?_) (fun c25 => ?_)
      ·
        have hnd : mget g.dm p = none := by
          cases hq : mget g.dm p with
          | none => rfl
          | some db => rw [hq] at c25; cases c25
        refine CW.seq (fun K16 hK16 hE16 => ?_)
        refine CW.region ?_
        refine LR.v (Y.assign rfl rfl) (Wd.u rfl) rfl rfl ?_
        refine LR.v (Y.assign rfl rfl) (Wd.u rfl) rfl rfl ?_
        refine LR.nil ?_
        refine hK16 _ _ ?_
        refine CW.ret (hE14 .ret nofun _ _ (hret .ret (.inr rfl) _ _ _ (res2 rfl rfl rfl) ?_))
        have hE : D.listE p = 0 := by unfold Dk.listE; rw [if_neg (by simpa using c10)]; exact dirE_cases (fun h => by first | exact g13 h.1 | (rw [h.2] at c17; cases c17))
        have hL : D.listL p = [] := by unfold Dk.listL; rw [if_pos hE]; exact names_none hA p (fun q hq => ((hf.abs p hnd).1 q hq).1)
        exact ⟨⟨none, 0, 0⟩, 0, by rw [hE]; rfl, by rw [hL]; exact Ow.nil fS_len fS_one, Nx.refl _ _, hm0⟩
      ·
        obtain ⟨db, hdb⟩ : ∃ db, mget g.dm p = some db := by
          cases hq : mget g.dm p with
          | none => rw [hq] at c25; cases c25
          | some db => exact ⟨db, rfl⟩
        obtain ⟨nb, sb, kc, sv, nm, sm, hd⟩ := hf.dirs _ db hdb
        have hen := hd.en
        have hns := dmsub hd.hn.mo.nodup hen
        refine CW.skip ?_
        refine hK14 _ _ ?_
        refine CW.seq (fun K17 hK17 hE17 => ?_)
        refine CW.region ?_
        refine LR.v (Y.cast (v2 := ptr db) (Y.move rfl rfl) (by rw [hdb]; rfl)) (Wd.u rfl) rfl rfl ?_
        refine LR.v (Y.nilCheck rfl rfl) (Wd.u rfl) rfl rfl ?_
        refine LR.v (Y.fieldAddr hd.vd.pt rfl Tryd.runUnderlying84 rfl rfl Tryd.sizeOf81 (by decide) rfl) (Wd.u rfl) rfl rfl ?_
        refine LR.v (Y.fieldAddr (hd.vd.pt.drop 0) rfl Tryd.runUnderlying81 rfl rfl Tryd.sizeOf79 (by decide) rfl) (Wd.u rfl) rfl rfl ?_
        refine LR.v (Y.load1 ((hd.vd.pt.drop 0).drop 0) rfl Tryd.isAgg79 rfl) (Wd.u rfl) rfl rfl ?_
        have hmn := hd.hn
        have hlt_hmn := hmn.lt
        -- call maps.Keys[selvage/simfs.names,string,*selvage/simfs.file]
        refine LR.call rfl Tryd.call46 rfl (Wd.u rfl) rfl rfl (keysN nb w0 _) (fun v31 H31 r31 => ?_)
        obtain ⟨bx, rfl, hx, hkx, hs31⟩ := r31
        have dj10 : DL (bx + 1) K := DL.app2 (DL.zK) hf.bk hkx
        have df11 := DF.app (DF.z) (bf_mx.mono hm0.size) hkx
        have dj12 : Dj (nb + 1) (bx + 1) := Dj.app (Dj.z) hmn.lt hkx
        have nx13 : Nx 0 H0.size (bx + 1) := Nx.tr (Nx.refl 0 _) hkx hm0.size
        replace hf := hf.nw hs31
        replace mx := mx.nw hs31
        replace hmn := hmn.nw hs31
        replace hm0 := hm0.tr hs31
        have hz4 := hs31.size
        have hle_hx := hx.le
        -- call slices.Sorted[string]
        refine LR.call rfl Tryd.call41 rfl (Wd.u rfl) rfl rfl (sortedN bx nb (fvl g.fb) nm w0 _ hx hmn (by omega)) (fun v32 H32 r32 => ?_)
        obtain ⟨s32, k32, out32, rfl, ow32, hk32, hout32, hs32⟩ := r32
        have dj14 : DL k32 K := DL.app2 (DL.zK) hf.bk hk32
        have df15 := DF.app (DF.z) (bf_mx.mono hm0.size) hk32
        have dj16 : Dj (nb + 1) k32 := Dj.app (Dj.z) hmn.lt hk32
        have dj17 : Dj (bx + 1) k32 := Dj.app (Dj.z) hx.le hk32
        have nx18 : Nx 0 H0.size k32 := Nx.tr (Nx.refl 0 _) hk32 hm0.size
        replace hf := hf.nw hs32
        replace mx := mx.nw hs32
        replace hmn := hmn.nw hs32
        replace hx := hx.nw hs32
        replace hm0 := hm0.tr hs32
        have hz5 := hs32.size
        have hle_ow32 := ow32.le
        refine LR.v (Y.assign rfl rfl) (Wd.u rfl) rfl rfl ?_
        refine LR.v (Y.assign rfl rfl) (Wd.u rfl) rfl rfl ?_
        refine LR.nil ?_
        refine hK17 _ _ ?_
        refine CW.ret (hret .ret (.inr rfl) _ _ _ (res2 rfl rfl rfl) ?_)
        have hE : D.listE p = 0 := by unfold Dk.listE; rw [if_neg (by simpa using c10)]; exact dirE_cases (fun h => by first | exact g13 h.1 | (rw [h.2] at c17; cases c17))
        have hL : D.listL p = out32 := by unfold Dk.listL; rw [if_pos hE, names_rise hA p hout32.1 hen hout32.2]
        exact ⟨s32, k32, by rw [hE]; rfl, by rw [hL]; exact ow32, nx18, hm0⟩

theorem next_ct (G : Nat → Prop) (pb n : Nat) (pv : SV) (picks : List Int) (m : Nat) (w0 : World) (H0 : Heap)
    (hp : Var 89 H0 pb [pv.v, .int .i64 (n : Int)]) (hpk : Rd G H0 fI 1 pv.v picks) (bf_hpk : BF G H0.size) (dpk : DF G (pb + 1)) (hm : 0 < m ∧ m ≤ 4611686018427387904) (hn : n ≤ 1099511627776) (hpw : ∀ x ∈ picks, -9223372036854775808 ≤ x ∧ x ≤ 9223372036854775807) :
    Ct Tryd.prog w0 43 #[ptr pb, .int .i64 (m : Int)] H0 (fun r H2 => r = .int .i64 ((pickN picks n m : Nat) : Int) ∧ (Var 89 H2 pb [pv.v, .int .i64 ((n + 1 : Nat) : Int)]) ∧ Mo (Ms [(pb + 1)]) H0 H2) := by
  refine Ct.enter (args := [ptr pb, .int .i64 (m : Int)]) Tryd.func43 rfl rfl rfl ?_
  intro Q0 hret
  have hm0 : Mo (Ms [(pb + 1)]) H0 H0 := Mo.refl _ _
  have nx_hm0_hp := Nx.refl (pb + 1) H0.size
  have hlt_hp := hp.lt
  refine CW.seq (fun K1 hK1 hE1 => ?_)
  refine CW.region ?_
  refine LR.v (Y.assign rfl rfl) (Wd.u rfl) rfl rfl ?_
  refine LR.nil ?_
  refine hK1 _ _ ?_
  refine CW.seq (fun K2 hK2 hE2 => ?_)
  refine CW.region ?_
  refine LR.v (Y.assign rfl rfl) (Wd.u rfl) rfl rfl ?_
  refine LR.nil ?_
  refine hK2 _ _ ?_
  refine CW.cut (fun (_ : Unit) => [(0, ptr pb), (5, .int .i64 ((pickN picks n m : Nat) : Int))])
    (fun (_ : Unit) (H : Heap) => (True) ∧ Nw H0 H) (fun K3 hK3 hE3 => ?_) ?_
  ·
    have hcm3 : Nw H0 H0 := Mo.refl _ _
    refine CW.seq (fun K4 hK4 hE4 => ?_)
    refine CW.region_draw rfl (by kernel_rfl) ?_
    refine LR.v (Y.move rfl rfl) (Wd.u rfl) rfl rfl ?_
    refine LR.v (Y.nilCheck rfl rfl) (Wd.u rfl) rfl rfl ?_
    refine LR.v (Y.fieldAddr hp.pt rfl Tryd.runUnderlying89 rfl rfl Tryd.sizeOf3 (by decide) rfl) (Wd.u rfl) rfl rfl ?_
    refine LR.v (Y.load1 (hp.pt.drop 1) rfl Tryd.isAgg3 rfl) (Wd.u rfl) rfl rfl ?_
    refine LR.v (Y.move rfl rfl) (Wd.u rfl) rfl rfl ?_
    refine LR.v (Y.nilCheck rfl rfl) (Wd.u rfl) rfl rfl ?_
    refine LR.v (Y.fieldAddr hp.pt rfl Tryd.runUnderlying89 rfl rfl Tryd.sizeOf35 (by decide) rfl) (Wd.u rfl) rfl rfl ?_
    refine LR.v (Y.load1 hp.pt rfl Tryd.isAgg35 rfl) (Wd.u rfl) rfl rfl ?_
    refine LR.v (Y.len hpk rfl Tryd.runUnderlying35 rfl) (Wd.u rfl) rfl rfl ?_
    refine LR.v (Y.lss rfl rfl rfl) (Wd.u rfl) rfl rfl ?_
    refine LR.nil ?_
    refine hK4 _ _ ?_
    refine CW.condp rfl (fun c15 => ?_) (fun c15 => ?_)
    ·
      have hnl : n < picks.length := by omega
      have hxb := hpw picks[n] (List.getElem_mem hnl)
      have hq1 := Int.lt_tmod_of_pos picks[n] (show (0 : Int) < m by omega)
      have hq2 := Int.tmod_lt_of_pos picks[n] (show (0 : Int) < m by omega)
      have hpa := pickN_at (picks := picks) hnl hm.1
      refine CW.region_draw rfl (by kernel_rfl) ?_
      refine LR.v (Y.move rfl rfl) (Wd.u rfl) rfl rfl ?_
      refine LR.v (Y.nilCheck rfl rfl) (Wd.u rfl) rfl rfl ?_
      refine LR.v (Y.fieldAddr hp.pt rfl Tryd.runUnderlying89 rfl rfl Tryd.sizeOf35 (by decide) rfl) (Wd.u rfl) rfl rfl ?_
      refine LR.v (Y.load1 hp.pt rfl Tryd.isAgg35 rfl) (Wd.u rfl) rfl rfl ?_
      refine LR.v (Y.move rfl rfl) (Wd.u rfl) rfl rfl ?_
      refine LR.v (Y.nilCheck rfl rfl) (Wd.u rfl) rfl rfl ?_
      refine LR.v (Y.fieldAddr hp.pt rfl Tryd.runUnderlying89 rfl rfl Tryd.sizeOf3 (by decide) rfl) (Wd.u rfl) rfl rfl ?_
      refine LR.v (Y.load1 (hp.pt.drop 1) rfl Tryd.isAgg3 rfl) (Wd.u rfl) rfl rfl ?_
      refine LR.e (g := fun ad => .pointer (some ad)) (Y.indexAddrF hpk (n) rfl Tryd.runUnderlying35 Tryd.sizeOf3 rfl rfl (by first | rfl | omega) (by first | omega | (simp; omega) | (simp; done))) (Wd.u rfl) rfl rfl (fun ad24 pt24 => ?_)
      have bf_pt24 := bf_hpk
      refine LR.v (Y.load1 pt24.pt rfl Tryd.isAgg3 rfl) (Wd.u rfl) rfl rfl ?_
      refine LR.v (Y.move rfl rfl) (Wd.u rfl) rfl rfl ?_
      refine LR.v (Y.rem rfl rfl rfl (by omega)) (Wd.u rfl) rfl rfl ?_
      refine LR.v (Y.move rfl rfl) (Wd.u rfl) rfl rfl ?_
      refine LR.v (Y.addi rfl rfl rfl (by omega)) (Wd.u rfl) rfl rfl ?_
      refine LR.v (Y.move rfl rfl) (Wd.u rfl) rfl rfl ?_
      refine LR.v (Y.cast (v2 := .int .i64 ((pickN picks n m : Nat) : Int)) (Y.rem rfl rfl rfl (by omega)) (by rw [hpa])) (Wd.u rfl) rfl rfl ?_
      refine LR.v (Y.assign rfl rfl) (Wd.u rfl) rfl rfl ?_
      refine LR.nil ?_
      refine QN.sub (hK3 () _ ?_) ⟨rfl, (iv (by omega)), trivial⟩
      exact ⟨trivial, hcm3⟩
    ·
      refine CW.skip ?_
      have hpo := pickN_over (m := m) (show ¬ n < picks.length by omega)
      refine QN.sub (hK3 () _ ?_) ⟨rfl, (iv (by omega)), trivial⟩
      exact ⟨trivial, hcm3⟩
  ·
    intro _ Hcutc15 hIcutc15
    obtain ⟨htr, hlmcutc15⟩ := hIcutc15
    replace hp := hp.nw hlmcutc15
    replace hpk := hpk.nw hlmcutc15
    replace hm0 := hm0.trN hlmcutc15
    have hz1 := hlmcutc15.size
    refine CW.seq (fun K5 hK5 hE5 => ?_)
    refine CW.region ?_
    refine LR.v (Y.move rfl rfl) (Wd.u rfl) rfl rfl ?_
    refine LR.v (Y.nilCheck rfl rfl) (Wd.u rfl) rfl rfl ?_
    refine LR.v (Y.fieldAddr hp.pt rfl Tryd.runUnderlying89 rfl rfl Tryd.sizeOf3 (by decide) rfl) (Wd.u rfl) rfl rfl ?_
    refine LR.v (Y.load1 (hp.pt.drop 1) rfl Tryd.isAgg3 rfl) (Wd.u rfl) rfl rfl ?_
    refine LR.v (Y.cast (v2 := .int .i64 ((n + 1 : Nat) : Int)) (Y.addi rfl rfl rfl (by omega)) (ivv (by omega))) (Wd.u rfl) rfl rfl ?_
    refine LR.v (Y.nilCheck rfl rfl) (Wd.u rfl) rfl rfl ?_
    refine LR.v (Y.fieldAddr hp.pt rfl Tryd.runUnderlying89 rfl rfl Tryd.sizeOf3 (by decide) rfl) (Wd.u rfl) rfl rfl ?_
    refine LR.s (S.var1 hp 1 (_) rfl rfl rfl (rfl) Tryd.sizeOf3 (by simp) (rfl)) (Wd.u rfl) rfl (fun H4_7 r4_7 => ?_)
    obtain ⟨hp, hs4_7⟩ := r4_7
    replace hs4_7 := hs4_7.md1
    replace hpk := hpk.upL hs4_7 (DFL.cons dpk DFL.nil)
    replace hm0 := hm0.trL hs4_7 (MIL.cons (MI.app (MI.root (by simp)) (nx_hm0_hp) (Nat.le_refl _)) MIL.nil)
    have hz2 := hs4_7.size
    refine LR.nil ?_
    refine hK5 _ _ ?_
    refine CW.seq (fun K6 hK6 hE6 => ?_)
    refine CW.region ?_
    refine LR.v (Y.move rfl rfl) (Wd.u rfl) rfl rfl ?_
    refine LR.v (Y.assign rfl rfl) (Wd.u rfl) rfl rfl ?_
    refine LR.nil ?_
    refine hK6 _ _ ?_
    refine CW.ret (hret .ret (.inr rfl) _ _ _ (res1 rfl rfl) ?_)
    exact ⟨rfl, hp, hm0⟩

theorem copy_ct (fv : Nat → Value) (db sb : Nat) (m nm : Nms) (w0 : World) (H0 : Heap)
    (hd : Mp H0 Str fv db m) (hs : Mp H0 Str fv sb nm) (dds : Dj (sb + 1) (db + 1)) :
    Ct Tryd.prog w0 45 #[.map (some db), .map (some sb)] H0 (fun r H2 => ∃ m2 : Nms, r = .tuple #[] ∧ (Mp H2 Str fv db m2) ∧ (∀ q, mget m2 q = match mget nm q with | some i => some i | none => mget m q) ∧ Mo (Ms [(db + 1)]) H0 H2) := by
  refine Ct.enter (args := [.map (some db), .map (some sb)]) Tryd.func45 rfl rfl rfl ?_
  intro Q0 hret
  have hm0 : Mo (Ms [(db + 1)]) H0 H0 := Mo.refl _ _
  have nx_hm0_hd := Nx.refl (db + 1) H0.size
  have hlt_hd := hd.lt
  have nx_hm0_hs := Nx.refl (sb + 1) H0.size
  have hlt_hs := hs.lt
  refine CW.seq (fun K1 hK1 hE1 => ?_)
  refine CW.region ?_
  refine LR.v (Y.move rfl rfl) (Wd.u rfl) rfl rfl ?_
  obtain ⟨es, ck, hs⟩ := hs.raw
  refine LR.z (Z.rangeA hs rfl Tryd.runUnderlying79 rfl) (Wd.u rfl) rfl rfl (fun v7 H7 r7 => ?_)
  obtain ⟨rfl, it, hs7, ob7, hH7⟩ := r7
  have hzs7 : H7.size = H0.size + 1 := by rw [hH7]; simp
  have dj1 : Dj (db + 1) (H0.size + 1) := Dj.new hd.lt
  have dj2 : Dj (sb + 1) (H0.size + 1) := Dj.new hs.lt
  have nx3 : Nx 0 H0.size (H0.size + 1) := Nx.new hm0.size
  replace hd := hd.nw hs7
  replace hs := hs.nw hs7
  replace hm0 := hm0.trN hs7
  have hz1 := hs7.size
  have hlt_it := it.lt
  refine LR.nil ?_
  refine hK1 _ _ ?_
  refine CW.block (fun K2 hK2 hX2 hE2 => ?_)
  refine CW.loop (fun (s_ : (List Pth) × (Nms)) => match s_ with | (dn, mq) => [(0, .map (some db)), (7, .pointer (some ⟨H0.size, 0, none⟩))])
    (fun (s_ : (List Pth) × (Nms)) (H : Heap) => match s_ with | (dn, mq) => (Itr H H0.size sb Str es ck dn) ∧ (Mp H Str fv db mq) ∧ (dn.Nodup ∧ ∀ k ∈ dn, k ∈ nm.map (·.1)) ∧ (∀ q, mget mq q = if q ∈ dn then mget nm q else mget m q) ∧ Mo (Ms [(H0.size + 1), (db + 1)]) H7 H)
    (fun (s_ : (List Pth) × (Nms)) => match s_ with | (dn, mq) => nm.length - dn.length) ([], m) ⟨rfl, rfl, trivial⟩ ?_ ?_
  ·
    exact ⟨it, hd, ⟨List.nodup_nil, by simp⟩, fun q => by simp, Mo.refl _ _⟩
  rintro ⟨dn, mq⟩ HL1 hI1 K3 hN3 hE3
  obtain ⟨it, hd, hdn, hmq, hlm1⟩ := hI1
  replace hs := hs.upL hlm1 (DL.cons dj2 (DL.cons dds DL.nil))
  replace hm0 := hm0.trL hlm1 (MIL.cons (MI.app MI.z (nx3) (Nat.le_refl _)) (MIL.cons (MI.app (MI.root (by simp)) (nx_hm0_hd) (Nat.le_refl _)) MIL.nil))
  have hz2 := hlm1.size
  have nx_hlm1_it := Nx.refl (H0.size + 1) H7.size
  have nx_hlm1_hd := Nx.refl (db + 1) H7.size
  have hdl := nodup_le hdn.1 hdn.2
  rw [List.length_map] at hdl
  refine CW.seq (fun K4 hK4 hE4 => ?_)
  refine CW.region ?_
  refine LR.z (Z.nextA it hs keyStr.inj rfl rfl) (Wd.u rfl) rfl rfl (fun v8 H8 r8 => ?_)
  obtain ⟨qb, x, y, dn1, rfl, it, hT8, hF8, hs8⟩ := r8
  replace hs8 := hs8.md1
  replace hd := hd.upL hs8 (DL.cons dj1 DL.nil)
  replace hs := hs.upL hs8 (DL.cons dj2 DL.nil)
  replace hm0 := hm0.trL hs8 (MIL.cons (MI.app MI.z (nx3) (Nat.le_refl _)) MIL.nil)
  replace hlm1 := hlm1.trL hs8 (MIL.cons (MI.app (MI.root (by simp)) (nx_hlm1_it) (Nat.le_refl _)) MIL.nil)
  have hz3 := hs8.size
  refine LR.v (Y.ext0 rfl rfl) (Wd.u rfl) rfl rfl ?_
  refine LR.nil ?_
  refine hK4 _ _ ?_
  refine CW.seq (fun K5 hK5 hE5 => ?_)
  refine CW.cond rfl (fun c9 => ?_) (fun c9 => ?_)
  ·
    obtain ⟨hxy, hnd, hdq⟩ := hT8 c9
    rw [hdq] at it
    refine CW.skip ?_
    refine hK5 _ _ ?_
    refine CW.block (fun K6 hK6 hX6 hE6 => ?_)
    refine CW.seq (fun K7 hK7 hE7 => ?_)
    refine CW.region ?_
    refine LR.v (Y.entryA it hs keyStr.inj hxy rfl rfl) (Wd.u rfl) rfl rfl ?_
    refine LR.v (Y.extract rfl rfl rfl) (Wd.u rfl) rfl rfl ?_
    refine LR.v (Y.extract rfl rfl rfl) (Wd.u rfl) rfl rfl ?_
    refine LR.v (Y.assign rfl rfl) (Wd.u rfl) rfl rfl ?_
    refine LR.v (Y.assign rfl rfl) (Wd.u rfl) rfl rfl ?_
    refine LR.nil ?_
    refine hK7 _ _ ?_
    refine CW.region ?_
    refine LR.v (Y.move rfl rfl) (Wd.u rfl) rfl rfl ?_
    refine LR.v (Y.move rfl rfl) (Wd.u rfl) rfl rfl ?_
    refine LR.v (Y.move rfl rfl) (Wd.u rfl) rfl rfl ?_
    refine LR.s (S.putMp (y) hd keyStr rfl Tryd.runUnderlying79 Tryd.underlying9 rfl rfl rfl) (Wd.u rfl) rfl (fun H3_3 r3_3 => ?_)
    obtain ⟨hd, hs3_3⟩ := r3_3
    replace hs3_3 := hs3_3.md1
    replace hs := hs.upL hs3_3 (DL.cons dds DL.nil)
    replace it := it.upL hs3_3 (DL.cons dj1.symm DL.nil)
    replace hm0 := hm0.trL hs3_3 (MIL.cons (MI.app (MI.root (by simp)) (nx_hm0_hd) (Nat.le_refl _)) MIL.nil)
    replace hlm1 := hlm1.trL hs3_3 (MIL.cons (MI.app (MI.root (by simp)) (nx_hlm1_hd) (Nat.le_refl _)) MIL.nil)
    have hz4 := hs3_3.size
    refine LR.nil ?_
    refine hK6 _ _ ?_
    have hdn2 : (dn ++ [x]).Nodup ∧ ∀ k ∈ dn ++ [x], k ∈ nm.map (·.1) := by
      refine ⟨?_, fun k hk => ?_⟩
      · rw [List.nodup_append]
        exact ⟨hdn.1, by simp, fun a ha b hb e => by simp only [List.mem_singleton] at hb; subst hb; subst e; exact hnd ha⟩
      · rcases List.mem_append.1 hk with h | h
        · exact hdn.2 k h
        · rw [List.mem_singleton.1 h]; exact List.mem_map.2 ⟨_, hxy, rfl⟩
    have hdl2 := nodup_le hdn2.1 hdn2.2
    rw [List.length_append, List.length_singleton, List.length_map] at hdl2
    have hgx := mget_of_mem hs.mo.nodup hxy
    refine QN.sub (hN3 (dn ++ [x], mput mq x y) _ ?_ ?_) ⟨rfl, rfl, trivial⟩
    · exact ⟨it, hd, hdn2, fun q => by
        rw [mget_put, hmq]
        by_cases h : q = x
        · subst h; simp [hgx]
        · simp [h], hlm1⟩
    · simp only [List.length_append, List.length_singleton]; omega
  ·
    obtain ⟨hall, _⟩ := hF8 c9
    refine CW.exit (hE5 (.exit 0) nofun _ _ (hE3 (.exit 0) nofun _ _ (hX2 _ _ ?_)))
    refine hret .normal (.inl rfl) _ _ _ (res0 rfl) ?_
    exact ⟨mq, rfl, hd, fun q => by
      rw [hmq]
      cases hq : mget nm q with
      | some i => rw [if_pos (hall (q, i) (mget_mem hq))]
      | none =>
        by_cases h : q ∈ dn
        · have h9 := hdn.2 q h
          rw [← isSome_iff_key, hq] at h9; cases h9
        · rw [if_neg h], hm0⟩

end Go.Proofs.YtfbfjhppppoilaaDoor.SimL
