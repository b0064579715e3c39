/-
  A commit's number is one more than the greatest of its parents'.
-/
import Derived.Test.YtepdhokpfecdnaaGraP
namespace Go.Proofs.Ytepdhokpfecdnaa.GraQ
open Go.Proofs.Ytepdhokpfecdnaa.E Go.RowKit Go.Proofs.Ytepdhokpfecdnaa.GraA Go.Proofs.Ytepdhokpfecdnaa.GraB Go.Proofs.Ytepdhokpfecdnaa.GraC Go.Proofs.Ytepdhokpfecdnaa.GraD Go.Proofs.Ytepdhokpfecdnaa.GraE Go.Proofs.Ytepdhokpfecdnaa.GraF Go.Proofs.Ytepdhokpfecdnaa.GraG Go.Proofs.Ytepdhokpfecdnaa.GraH Go.Proofs.Ytepdhokpfecdnaa.GraI Go.Proofs.Ytepdhokpfecdnaa.GraJ Go.Proofs.Ytepdhokpfecdnaa.GraK Go.Proofs.Ytepdhokpfecdnaa.GraL Go.Proofs.Ytepdhokpfecdnaa.GraM Go.Proofs.Ytepdhokpfecdnaa.GraN Go.Proofs.Ytepdhokpfecdnaa.GraO Go.Proofs.Ytepdhokpfecdnaa.GraP
set_option maxRecDepth 20000
set_option linter.unusedVariables false
set_option linter.unusedSimpArgs false
set_option linter.unusedSectionVars false
set_option maxRecDepth 100000 in
theorem inf38 : Inf Try.prog 38 3 1 8 := ⟨Try.underlying38, _, _, rfl, rfl, rfl, rfl, rfl⟩

theorem gmax_take {f : Ide → Nat} {l : List Nat} {k : Nat} (h : k < l.length) : gmax f ((l.take (k + 1)).map idn) = max (gmax f ((l.take k).map idn)) (f (idn l[k]) + 1) := by
  rw [List.take_succ_eq_append_getElem h, List.map_append]
  exact gmax_snoc f _ _

set_option maxHeartbeats 4000000 in
theorem ggen_ct (vl : Value) (li : List (SV × List Int)) (w0 : World) (H0 : Heap)
    (hl : RdT H0 fPi 1 vl li) (hlx : ∀ x ∈ li, RdT H0 fI 1 x.1.v x.2) (hi64 : ∀ x ∈ li, ∀ a ∈ x.2, i64b a) :
    Ct Try.prog w0 5 #[vl] H0 (fun r H2 => r = .bool true ∧ Nw H0 H2) := by
  refine Ct.enter (args := [vl]) Try.func5 rfl rfl rfl ?_
  intro Q0 hret
  have hm0 : Nw H0 H0 := Mo.refl _ _
  replace hl := hl.bnd
  have bf_hl := hl.bf
  replace hlx := fun x h_ => (hlx x h_).bnd
  have bf_hlx : BF (fun b => True ∧ b < H0.size) H0.size := fun b h => h.2
  refine CW.seq (fun K1 hK1 hE1 => ?_)
  refine CW.region ?_
  refine LR.v (Y.assign rfl rfl) (Wd.u rfl) rfl rfl ?_
  refine LR.nil ?_
  refine hK1 _ _ ?_
  refine CW.seq (fun K2 hK2 hE2 => ?_)
  refine CW.seq (fun K3 hK3 hE3 => ?_)
  refine CW.region ?_
  -- call selvage/selvagelaw11.known
  refine LR.call rfl Try.call10 rfl (Wd.u rfl) rfl rfl (known_ct w0 _) (fun v10 H10 r10 => ?_)
  obtain ⟨rfl, hs10⟩ := r10
  replace hl := hl.nw hs10
  replace hlx := fun x h_ => (hlx x h_).nw hs10
  replace hm0 := hm0.tr hs10
  have hz1 := hs10.size
  refine LR.v (Y.not rfl rfl) (Wd.u rfl) rfl rfl ?_
  refine LR.nil ?_
  refine hK3 _ _ ?_
  refine CW.cond_f rfl ?_
  refine CW.skip ?_
  refine hK2 _ _ ?_
  refine CW.seq (fun K4 hK4 hE4 => ?_)
  refine CW.region ?_
  refine LR.v (Y.move rfl rfl) (Wd.u rfl) rfl rfl ?_
  -- call selvage/selvagelaw11.Rows
  refine LR.call rfl Try.call11 rfl (Wd.u rfl) rfl rfl (rows_ct vl li w0 _ hl.any (fun x hx => (hlx x hx).any) hi64) (fun v13 H13 r13 => ?_)
  obtain ⟨sR, out, rfl, hsr, hR, hs13⟩ := r13
  replace hl := hl.nw hs13
  replace hlx := fun x h_ => (hlx x h_).nw hs13
  replace hm0 := hm0.tr hs13
  have hz2 := hs13.size
  replace hsr := hsr.bnd
  have bf_hsr := hsr.bf
  have hg : GOk (out.map Rw.l) := hR.g
  have hol := hR.le
  refine LR.v (Y.assign rfl rfl) (Wd.u rfl) rfl rfl ?_
  refine LR.nil ?_
  refine hK4 _ _ ?_
  refine CW.seq (fun K5 hK5 hE5 => ?_)
  refine CW.region ?_
  refine LR.v (Y.move rfl rfl) (Wd.u rfl) rfl rfl ?_
  refine LR.v (Y.build (v := .agg #[sR.v, .int .i64 0]) rfl rfl (by intro w; kernel_rfl)) (Wd.u rfl) rfl rfl ?_
  refine LR.z (Z.boxv rfl rfl) (Wd.u rfl) rfl rfl (fun v16 H16 r16 => ?_)
  obtain ⟨rfl, hv, hs16, ob16, hH16⟩ := r16
  have hzs16 : H16.size = H13.size + 1 := by rw [hH16]; simp
  have df1 := (DF.new (bf_hl.mono hm0.size) : DF _ (H13.size + 1))
  have df2 := (DF.new (bf_hlx.mono hm0.size) : DF _ (H13.size + 1))
  have df3 := (DF.new (bf_hsr.mono (by omega)) : DF _ (H13.size + 1))
  have nx4 : Nx 0 H0.size (H13.size + 1) := Nx.new hm0.size
  replace hl := hl.nw hs16
  replace hlx := fun x h_ => (hlx x h_).nw hs16
  replace hsr := hsr.nw hs16
  replace hm0 := hm0.tr hs16
  have hz3 := hs16.size
  replace hv : Var 27 H16 H13.size ([sR.v, .int .i64 ((0 : Nat) : Int)]) := hv
  refine LR.v (Y.assign rfl rfl) (Wd.u rfl) rfl rfl ?_
  refine LR.nil ?_
  refine hK5 _ _ ?_
  refine CW.seq (fun K6 hK6 hE6 => ?_)
  refine CW.region ?_
  refine LR.v (Y.assign rfl rfl) (Wd.u rfl) rfl rfl ?_
  refine LR.nil ?_
  refine hK6 _ _ ?_
  refine CW.seq (fun K7 hK7 hE7 => ?_)
  refine CW.seq (fun K8 hK8 hE8 => ?_)
  refine CW.region ?_
  refine LR.v (Y.assign rfl rfl) (Wd.u rfl) rfl rfl ?_
  refine LR.nil ?_
  refine hK8 _ _ ?_
  refine CW.block (fun K9 hK9 hX9 hE9 => ?_)
  refine CW.loop (fun (s_ : (Nat) × (Nat) × (Value) × (Nat) × (List Nat)) => match s_ with | (n, q, vg, kg, gl) => [(0, sR.v), (3, .pointer (some ⟨H13.size, 0, none⟩)), (4, vg), (5, .int .i64 (n : Int))])
    (fun (s_ : (Nat) × (Nat) × (Value) × (Nat) × (List Nat)) (H : Heap) => match s_ with | (n, q, vg, kg, gl) => (Var (Sou.rows sR out).e H H13.size ((Sou.rows sR out).cs q)) ∧ (Ow kg 3 H fN 1 vg gl) ∧ (n ≤ out.length) ∧ (gl = (List.range n).map (fun j => gfun (out.map Rw.l) (idn j))) ∧ (q ≤ n * 5001) ∧ (Nx 0 H16.size kg) ∧ (Dj (H13.size + 1) kg) ∧ Mo (Ms [(H13.size + 1)]) H16 H)
    (fun (s_ : (Nat) × (Nat) × (Value) × (Nat) × (List Nat)) => match s_ with | (n, q, vg, kg, gl) => out.length - n) (0, 0, .slice none 0 0, 0, []) ⟨rfl, rfl, rfl, rfl, trivial⟩ ?_ ?_
  ·
    exact ⟨hv, Ow.nil fN_len fN_one, (by omega), rfl, by omega, Nx.refl _ _, Dj.z, Mo.refl _ _⟩
  rintro ⟨n, q, vg, kg, gl⟩ HL1 hI1 K10 hN10 hE10
  obtain ⟨hv, og, hn, hgl, hqn, nxl_og, dj_hv_og, hlm1⟩ := hI1
  have df5 := DF.app (DF.z) (bf_hl.mono hm0.size) nxl_og
  have df6 := DF.app (DF.z) (bf_hlx.mono hm0.size) nxl_og
  have df7 := DF.app (DF.z) (bf_hsr.mono (by omega)) nxl_og
  have nx8 : Nx 0 H0.size kg := Nx.tr (Nx.refl 0 _) nxl_og hm0.size
  replace hl := hl.upL hlm1 (DFL.cons df1 DFL.nil)
  replace hlx := fun x h_ => (hlx x h_).upL hlm1 (DFL.cons df2 DFL.nil)
  replace hsr := hsr.upL hlm1 (DFL.cons df3 DFL.nil)
  replace hm0 := (Mo.trL (ks := []) (hm0.mdn []) hlm1 (MIL.cons (MI.app MI.z (nx4) (Nat.le_refl _)) MIL.nil)).nil
  have hz4 := hlm1.size
  have hle_og := og.le
  have dj9 := dj_hv_og
  have nx_hlm1_hv := Nx.refl (H13.size + 1) H16.size
  have nx10 := nxl_og
  have hgll : gl.length = n := by rw [hgl]; simp
  refine CW.seq (fun K11 hK11 hE11 => ?_)
  refine CW.seq (fun K12 hK12 hE12 => ?_)
  refine CW.region ?_
  refine LR.v (Y.move rfl rfl) (Wd.u rfl) rfl rfl ?_
  refine LR.v (Y.move rfl rfl) (Wd.u rfl) rfl rfl ?_
  refine LR.v (Y.len (hsr.l _ _ rfl) rfl Try.runUnderlying22 rfl) (Wd.u rfl) rfl rfl ?_
  refine LR.v (Y.lss rfl rfl rfl) (Wd.u rfl) rfl rfl ?_
  refine LR.nil ?_
  refine hK12 _ _ ?_
  refine CW.condp rfl (fun c20 => ?_) (fun c20 => ?_)
  ·
    have hnl : n < out.length := by omega
    have hgn : n < (out.map Rw.l).length := by rw [List.length_map]; exact hnl
    have hge : (out.map Rw.l)[n] = (out[n]).l := List.getElem_map _
    have hat := hR.at_ n hnl
    refine CW.skip ?_
    refine hK11 _ _ ?_
    refine CW.seq (fun K13 hK13 hE13 => ?_)
    refine CW.block (fun K14 hK14 hX14 hE14 => ?_)
    refine CW.seq (fun K15 hK15 hE15 => ?_)
    refine CW.region ?_
    refine LR.v (Y.assign rfl rfl) (Wd.u rfl) rfl rfl ?_
    refine LR.nil ?_
    refine hK15 _ _ ?_
    refine CW.seq (fun K16 hK16 hE16 => ?_)
    refine CW.seq (fun K17 hK17 hE17 => ?_)
    refine CW.region ?_
    refine LR.v (Y.assign rfl rfl) (Wd.u rfl) rfl rfl ?_
    refine LR.nil ?_
    refine hK17 _ _ ?_
    refine CW.block (fun K18 hK18 hX18 hE18 => ?_)
    refine CW.loop (fun (k : (Nat)) => [(0, sR.v), (3, .pointer (some ⟨H13.size, 0, none⟩)), (4, vg), (5, .int .i64 (n : Int)), (6, .int .i64 ((gmax (gfun (out.map Rw.l)) ((out[n].l.take k).map idn) : Nat) : Int)), (7, .int .i64 (k : Int))])
      (fun (k : (Nat)) (H : Heap) => (k ≤ (out[n]).l.length) ∧ Nw HL1 H)
      (fun (k : (Nat)) => (out[n]).l.length - k) 0 ⟨rfl, rfl, rfl, rfl, rfl, rfl, trivial⟩ ?_ ?_
    ·
      exact ⟨(by omega), Mo.refl _ _⟩
    intro k HL2 hI2 K19 hN19 hE19
    obtain ⟨hk, hlm2⟩ := hI2
    replace hl := hl.nw hlm2
    replace hlx := fun x h_ => (hlx x h_).nw hlm2
    replace hsr := hsr.nw hlm2
    replace hv := hv.nw hlm2
    replace og := og.nw hlm2
    replace hm0 := hm0.tr hlm2
    replace hlm1 := hlm1.trN hlm2
    have hz5 := hlm2.size
    refine CW.seq (fun K20 hK20 hE20 => ?_)
    refine CW.seq (fun K21 hK21 hE21 => ?_)
    refine CW.region ?_
    refine LR.v (Y.move rfl rfl) (Wd.u rfl) rfl rfl ?_
    refine LR.v (Y.move rfl rfl) (Wd.u rfl) rfl rfl ?_
    refine LR.v (Y.move rfl rfl) (Wd.u rfl) rfl rfl ?_
    refine LR.e (g := fun ad => .pointer (some ad)) (Y.indexAddrF (hsr.l _ _ rfl) (n) rfl Try.runUnderlying22 Try.sizeOf38 rfl rfl (by first | rfl | omega) (by omega)) (Wd.u rfl) rfl rfl (fun ad26 pt26 => ?_)
    have bf_pt26 := bf_hsr
    refine LR.v (Y.load1 pt26.pt rfl Try.isAgg38 rfl) (Wd.u rfl) rfl rfl ?_
    refine LR.v (Y.len (hsr.x _ _ rfl _ (List.getElem_mem (by omega : n < out.length))) rfl Try.runUnderlying38 rfl) (Wd.u rfl) rfl rfl ?_
    refine LR.v (Y.lss rfl rfl rfl) (Wd.u rfl) rfl rfl ?_
    refine LR.nil ?_
    refine hK21 _ _ ?_
    refine CW.condp rfl (fun c29 => ?_) (fun c29 => ?_)
    ·
      have hkl : k < (out[n]).l.length := by omega
      have hkn := hat.2 _ (List.getElem_mem hkl)
      have hgk : gl[(out[n]).l[k]]? = some (gfun (out.map Rw.l) (idn (out[n]).l[k])) := by rw [hgl, List.getElem?_map, List.getElem?_range hkn]; rfl
      have hgb := hg.gf_le (idn (out[n]).l[k])
      have hgm := gmax_take (f := gfun (out.map Rw.l)) hkl
      have hgx := hg.gf_eq hgn
      rw [hge] at hgx
      have hgy := hg.gf_le (idn n)
      have hgt := gmax_take_le (g := gfun (out.map Rw.l)) (ps := (out[n]).l.map idn) (q := k)
      rw [← List.map_take] at hgt
      refine CW.skip ?_
      refine hK20 _ _ ?_
      refine CW.seq (fun K22 hK22 hE22 => ?_)
      refine CW.block (fun K23 hK23 hX23 hE23 => ?_)
      refine CW.region ?_
      refine LR.v (Y.move rfl rfl) (Wd.u rfl) rfl rfl ?_
      refine LR.v (Y.move rfl rfl) (Wd.u rfl) rfl rfl ?_
      refine LR.v (Y.move rfl rfl) (Wd.u rfl) rfl rfl ?_
      refine LR.v (Y.move rfl rfl) (Wd.u rfl) rfl rfl ?_
      refine LR.e (g := fun ad => .pointer (some ad)) (Y.indexAddrF (hsr.l _ _ rfl) (n) rfl Try.runUnderlying22 Try.sizeOf38 rfl rfl (by first | rfl | omega) (by omega)) (Wd.u rfl) rfl rfl (fun ad36 pt36 => ?_)
      have bf_pt36 := bf_hsr
      refine LR.v (Y.load1 pt36.pt rfl Try.isAgg38 rfl) (Wd.u rfl) rfl rfl ?_
      refine LR.v (Y.move rfl rfl) (Wd.u rfl) rfl rfl ?_
      refine LR.e (g := fun ad => .pointer (some ad)) (Y.indexAddrF (hsr.x _ _ rfl _ (List.getElem_mem (by omega : n < out.length))) (k) rfl Try.runUnderlying38 Try.sizeOf3 rfl rfl (by first | rfl | omega) (by omega)) (Wd.u rfl) rfl rfl (fun ad39 pt39 => ?_)
      have bf_pt39 := bf_hsr
      refine LR.v (Y.load1 pt39.pt rfl Try.isAgg3 rfl) (Wd.u rfl) rfl rfl ?_
      refine LR.v (Y.owAddr og ((out[n]).l[k]) rfl Try.runUnderlying38 Try.sizeOf3 rfl rfl (by first | rfl | omega) (by omega)) (Wd.u rfl) rfl rfl ?_
      refine LR.v (Y.cast (v2 := .int .i64 ((gfun (out.map Rw.l) (idn (out[n]).l[k]) : Nat) : Int)) (Y.load1 (og.pt (j := (out[n]).l[k]) (by omega)) rfl Try.isAgg3 rfl) (by rw [List.getElem?_eq_getElem (by omega)] at hgk; rw [Option.some.inj hgk])) (Wd.u rfl) rfl rfl ?_
      refine LR.v (Y.addi rfl rfl rfl (by omega)) (Wd.u rfl) rfl rfl ?_
      refine LR.v (Y.cast (v2 := .int .i64 ((gmax (gfun (out.map Rw.l)) ((out[n].l.take (k + 1)).map idn) : Nat) : Int)) (Y.maxi rfl rfl rfl) (congrArg (Value.int .i64) (by rw [hgm]; omega))) (Wd.u rfl) rfl rfl ?_
      refine LR.v (Y.assign rfl rfl) (Wd.u rfl) rfl rfl ?_
      refine LR.nil ?_
      refine hK23 _ _ ?_
      refine hK22 _ _ ?_
      refine CW.region ?_
      refine LR.v (Y.move rfl rfl) (Wd.u rfl) rfl rfl ?_
      refine LR.v (Y.addi rfl rfl rfl (by omega)) (Wd.u rfl) rfl rfl ?_
      refine LR.v (Y.assign rfl rfl) (Wd.u rfl) rfl rfl ?_
      refine LR.nil ?_
      refine QN.sub (hN19 (k + 1) _ ?_ ?_) ⟨rfl, rfl, rfl, (iv (by omega)), (iv (by omega)), (iv (by omega)), trivial⟩
      · exact ⟨(by omega), hlm2⟩
      · first | omega | (simp only; omega) | (simp; omega)
    ·
      have hke : k = (out[n]).l.length := by omega
      subst hke
      refine CW.exit (hE20 (.exit 2) nofun _ _ (hE19 (.exit 2) nofun _ _ (hX18 _ _ ?_)))
      refine hK16 _ _ ?_
      refine CW.seq (fun K24 hK24 hE24 => ?_)
      refine CW.region ?_
      refine LR.v (Y.move rfl rfl) (Wd.u rfl) rfl rfl ?_
      refine LR.v (Y.mki rfl Try.runUnderlying25 (by intro ms h; cases h) rfl) (Wd.u rfl) rfl rfl ?_
      refine LR.v (Y.move rfl rfl) (Wd.u rfl) rfl rfl ?_
      -- call selvage/selvagelaw11.Id
      refine LR.call rfl Try.call12 rfl (Wd.u rfl) rfl rfl (idn_ct n w0 _ (by omega)) (fun v49 H49 r49 => ?_)
      obtain ⟨rfl, hs49⟩ := r49
      replace hl := hl.nw hs49
      replace hlx := fun x h_ => (hlx x h_).nw hs49
      replace hsr := hsr.nw hs49
      replace hv := hv.nw hs49
      replace og := og.nw hs49
      replace hm0 := hm0.tr hs49
      replace hlm1 := hlm1.trN hs49
      have hz6 := hs49.size
      -- call selvage/graph.Gen
      refine LR.call rfl Try.call17 rfl (Wd.u rfl) rfl rfl (gen_ct (Sou.rows sR out) H13.size q _ (idn n) (gfun (out.map Rw.l)) w0 _ hv hsr (bf_hsr.mono (by omega)) (df3) hR.ok (by omega) hg.gf_all hg.gf_le) (fun v50 H50 r50 => ?_)
      obtain ⟨rr, e50, q50, rfl, hv, hR50, hq50, hs50⟩ := r50
      replace hl := hl.upL hs50 (DFL.cons df1 DFL.nil)
      replace hlx := fun x h_ => (hlx x h_).upL hs50 (DFL.cons df2 DFL.nil)
      replace hsr := hsr.upL hs50 (DFL.cons df3 DFL.nil)
      replace og := og.upL hs50 (DL.cons dj9.symm DL.nil)
      replace hm0 := (Mo.trL (ks := []) (hm0.mdn []) hs50 (MIL.cons (MI.app MI.z (nx4) (Nat.le_refl _)) MIL.nil)).nil
      replace hlm1 := hlm1.trL hs50 (MIL.cons (MI.app (MI.root (by simp)) (nx_hlm1_hv) (Nat.le_refl _)) MIL.nil)
      have hz7 := hs50.size
      obtain ⟨⟨K50, hA50, _⟩, hrr50, _⟩ := hR50
      have he50 := hg.ok (fun i hi => ⟨n, hgn, List.mem_singleton.1 hi⟩) hA50
      have hrr := hrr50 he50
      have hgx2 := hg.gf_eq hgn
      rw [hge] at hgx2
      refine LR.v (Y.move rfl rfl) (Wd.u rfl) rfl rfl ?_
      refine LR.v (Y.extract rfl rfl rfl) (Wd.u rfl) rfl rfl ?_
      refine LR.v (Y.extract rfl rfl rfl) (Wd.u rfl) rfl rfl ?_
      refine LR.v (Y.assign rfl rfl) (Wd.u rfl) rfl rfl ?_
      refine LR.v (Y.assign rfl rfl) (Wd.u rfl) rfl rfl ?_
      refine LR.nil ?_
      refine hK24 _ _ ?_
      refine CW.seq (fun K25 hK25 hE25 => ?_)
      refine CW.seq (fun K26 hK26 hE26 => ?_)
      refine CW.region ?_
      refine LR.v (Y.move rfl rfl) (Wd.u rfl) rfl rfl ?_
      refine LR.v ((Y.ene rfl Try.underlying33 rfl).isF (fun h => h he50)) (Wd.u rfl) rfl rfl ?_
      refine LR.v (Y.move rfl rfl) (Wd.u rfl) rfl rfl ?_
      refine LR.v (Y.move rfl rfl) (Wd.g rfl rfl rfl) rfl rfl ?_
      refine LR.v (Y.move rfl rfl) (Wd.g rfl rfl rfl) rfl rfl ?_
      refine LR.v ((Y.neq rfl rfl rfl).isF (fun h => h (by rw [hrr, hgx2, List.take_length]))) (Wd.g rfl rfl rfl) rfl rfl ?_
      refine LR.v (Y.pick_f rfl rfl rfl) (Wd.u rfl) rfl rfl ?_
      refine LR.nil ?_
      refine hK26 _ _ ?_
      refine CW.cond_f rfl ?_
      refine CW.skip ?_
      refine hK25 _ _ ?_
      refine CW.region ?_
      refine LR.v (Y.move rfl rfl) (Wd.u rfl) rfl rfl ?_
      refine LR.v (Y.move rfl rfl) (Wd.u rfl) rfl rfl ?_
      refine LR.z (Z.litw _ ([rr]) rfl inf38 rfl rfl rfl (by decide) (by decide) fN_len fN_one (rfl)) (Wd.u rfl) rfl rfl (fun v62 H62 r62 => ?_)
      obtain ⟨ow62, hs62, ob62, hH62⟩ := r62
      have hzs62 : H62.size = H50.size + 1 := by rw [hH62]; simp
      have df11 := (DF.new (bf_hl.mono hm0.size) : DF _ (H50.size + 1))
      have df12 := (DF.new (bf_hlx.mono hm0.size) : DF _ (H50.size + 1))
      have df13 := (DF.new (bf_hsr.mono (by omega)) : DF _ (H50.size + 1))
      have dj14 : Dj (H13.size + 1) (H50.size + 1) := Dj.new hv.lt
      have dj15 : Dj kg (H50.size + 1) := Dj.new og.le
      have nx16 : Nx 0 H0.size (H50.size + 1) := Nx.new hm0.size
      have nx17 : Nx 0 H16.size (H50.size + 1) := Nx.new hlm1.size
      replace hl := hl.nw hs62
      replace hlx := fun x h_ => (hlx x h_).nw hs62
      replace hsr := hsr.nw hs62
      replace hv := hv.nw hs62
      replace og := og.nw hs62
      replace hm0 := hm0.tr hs62
      replace hlm1 := hlm1.trN hs62
      have hz8 := hs62.size
      refine LR.z (Z.apnd og ow62.rd rfl inf38 rfl rfl (by simp; omega) (by simp; omega)) (Wd.u rfl) rfl rfl (fun v63 H63 r63 => ?_)
      obtain ⟨k63, og, hk63, hs63⟩ := r63
      replace hk63 : Nx kg H62.size k63 := hk63
      replace hs63 := hs63.md
      have df18 := DF.app (df5) (bf_hl.mono hm0.size) hk63
      have df19 := DF.app (df6) (bf_hlx.mono hm0.size) hk63
      have df20 := DF.app (df7) (bf_hsr.mono (by omega)) hk63
      have dj21 : Dj (H13.size + 1) k63 := Dj.app (dj9) hv.lt hk63
      have dj22 : Dj (H50.size + 1) k63 := Dj.app (dj15.symm) ow62.le hk63
      have nx23 : Nx 0 H0.size k63 := Nx.tr (nx8) hk63 hm0.size
      have nx24 : Nx 0 H16.size k63 := Nx.tr (nx10) hk63 hlm1.size
      replace hl := hl.upL hs63 (DFL.cons df5 DFL.nil)
      replace hlx := fun x h_ => (hlx x h_).upL hs63 (DFL.cons df6 DFL.nil)
      replace hsr := hsr.upL hs63 (DFL.cons df7 DFL.nil)
      replace hv := hv.upL hs63 (DL.cons dj9 DL.nil)
      replace ow62 := ow62.upL hs63 (DL.cons dj15.symm DL.nil)
      replace hm0 := (Mo.trL (ks := []) (hm0.mdn []) hs63 (MIL.cons (MI.app MI.z (nx8) (Nat.le_refl _)) MIL.nil)).nil
      replace hlm1 := hlm1.trL hs63 (MIL.cons (MI.app MI.z (nx10) (Nat.le_refl _)) MIL.nil)
      have hz9 := hs63.size
      have hle_og := og.le
      refine LR.v (Y.assign rfl rfl) (Wd.u rfl) rfl rfl ?_
      refine LR.nil ?_
      refine hK14 _ _ ?_
      refine hK13 _ _ ?_
      refine CW.region ?_
      refine LR.v (Y.move rfl rfl) (Wd.u rfl) rfl rfl ?_
      refine LR.v (Y.addi rfl rfl rfl (by omega)) (Wd.u rfl) rfl rfl ?_
      refine LR.v (Y.assign rfl rfl) (Wd.u rfl) rfl rfl ?_
      refine LR.nil ?_
      refine QN.sub (hN10 (n + 1, q50, v63, k63, gl ++ [rr]) _ ?_ ?_) ⟨rfl, rfl, rfl, (iv (by omega)), trivial⟩
      · exact ⟨hv, og, (by omega), by rw [List.range_succ, List.map_append, ← hgl, hrr]; rfl, by omega, nx24, dj21, hlm1⟩
      · first | omega | (simp only; omega) | (simp; omega)
  ·
    refine CW.exit (hE11 (.exit 0) nofun _ _ (hE10 (.exit 0) nofun _ _ (hX9 _ _ ?_)))
    refine hK7 _ _ ?_
    refine CW.seq (fun K27 hK27 hE27 => ?_)
    refine CW.region ?_
    refine LR.v (Y.assign rfl rfl) (Wd.u rfl) rfl rfl ?_
    refine LR.nil ?_
    refine hK27 _ _ ?_
    refine CW.ret (hret .ret (.inr rfl) _ _ _ (res1 rfl rfl) ?_)
    exact ⟨rfl, hm0⟩

end Go.Proofs.Ytepdhokpfecdnaa.GraQ
