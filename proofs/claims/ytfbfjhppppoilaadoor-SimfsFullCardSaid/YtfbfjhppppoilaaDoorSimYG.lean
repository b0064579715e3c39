/-
  The disk: how full it is (the statement SimfsFull's function).
-/
import Derived.Test.YtfbfjhppppoilaaDoorSimYF
namespace Go.Proofs.YtfbfjhppppoilaaDoor.SimYG
open Go.Proofs.YtfbfjhppppoilaaDoor.E Go.RowKit Go.Proofs.YtfbfjhppppoilaaDoor.SimA Go.Proofs.YtfbfjhppppoilaaDoor.SimB Go.Proofs.YtfbfjhppppoilaaDoor.SimC Go.Proofs.YtfbfjhppppoilaaDoor.SimD Go.Proofs.YtfbfjhppppoilaaDoor.SimE Go.Proofs.YtfbfjhppppoilaaDoor.SimF Go.Proofs.YtfbfjhppppoilaaDoor.SimG Go.Proofs.YtfbfjhppppoilaaDoor.SimH Go.Proofs.YtfbfjhppppoilaaDoor.SimI Go.Proofs.YtfbfjhppppoilaaDoor.SimJ Go.Proofs.YtfbfjhppppoilaaDoor.SimK Go.Proofs.YtfbfjhppppoilaaDoor.SimL Go.Proofs.YtfbfjhppppoilaaDoor.SimM Go.Proofs.YtfbfjhppppoilaaDoor.SimN Go.Proofs.YtfbfjhppppoilaaDoor.SimP Go.Proofs.YtfbfjhppppoilaaDoor.SimQ Go.Proofs.YtfbfjhppppoilaaDoor.SimR Go.Proofs.YtfbfjhppppoilaaDoor.SimS Go.Proofs.YtfbfjhppppoilaaDoor.SimU Go.Proofs.YtfbfjhppppoilaaDoor.SimY Go.Proofs.YtfbfjhppppoilaaDoor.SimYA Go.Proofs.YtfbfjhppppoilaaDoor.SimYE Go.Proofs.YtfbfjhppppoilaaDoor.SimYF
set_option maxRecDepth 20000
set_option linter.unusedVariables false
set_option linter.unusedSimpArgs false
set_option linter.unusedSectionVars false
set_option maxRecDepth 100000 in
theorem inf25 : Inf Tryd.prog 25 5 1 1 := ⟨Tryd.underlying25, _, _, rfl, rfl, rfl, rfl, rfl⟩
set_option maxRecDepth 100000 in
theorem inf35 : Inf Tryd.prog 35 3 1 8 := ⟨Tryd.underlying35, _, _, rfl, rfl, rfl, rfl, rfl⟩

theorem tdb5 (a : Int) (h : -9223372036854775808 ≤ a ∧ a ≤ 9223372036854775807) : -9223372036854775808 ≤ a.tdiv 5 ∧ a.tdiv 5 ≤ 9223372036854775807 := by
  rcases Int.le_total 0 a with h0 | h0
  · rw [Int.tdiv_eq_ediv_of_nonneg h0]; omega
  · have e : a.tdiv 5 = -((-a).tdiv 5) := by rw [Int.neg_tdiv, Int.neg_neg]
    rw [e, Int.tdiv_eq_ediv_of_nonneg (show 0 ≤ -a by omega)]
    omega
theorem pathN_nat {k : Nat} (h : k < 5) : pathN (k : Int) = paths.getD k [] := by
  unfold pathN; congr 1; unfold wiN; omega
abbrev fNi (n : Nat) : List Value := [.int .i64 (n : Int)]
theorem fNi_len (n : Nat) : (fNi n).length = 1 := rfl
theorem fNi_one (n : Nat) : ∀ u ∈ fNi n, u.oneCell' = true := by intro u hu; simp only [List.mem_singleton] at hu; subst hu; rfl


theorem bset {hv : List Nat} {k w : Nat} (h : ∀ q, hv.getD q 0 ≤ 300) (hw : w ≤ 300) : ∀ q, (hv.set k w).getD q 0 ≤ 300 := fun q => by
  rw [List.getD_eq_getElem?_getD, List.getElem?_set]
  split
  · split
    · simpa using hw
    · simp
  · rw [← List.getD_eq_getElem?_getD]; exact h q
theorem getk {hv : List Nat} {k u : Nat} (h : u = hv.getD 0 0 + hv.getD 1 0 + hv.getD 2 0 + hv.getD 3 0 + hv.getD 4 0) (hk : k < 5) : hv.getD k 0 ≤ u := by
  rcases (show k = 0 ∨ k = 1 ∨ k = 2 ∨ k = 3 ∨ k = 4 by omega) with rfl | rfl | rfl | rfl | rfl <;> omega


theorem gd5 {hv : List Nat} {j : Nat} (h : j < hv.length) : hv.getD j 0 = hv[j] := by rw [List.getD_eq_getElem?_getD, List.getElem?_eq_getElem h]; rfl


theorem path_len5 {k : Nat} (h : k < 5) : (paths.getD k []).length ≤ 5 := by
  have h2 : ∀ k : Fin 5, (paths.getD k.val []).length ≤ 5 := by decide
  exact h2 ⟨k, h⟩

set_option maxHeartbeats 600000 in
theorem full_ct (mx_ : Int) (s2 : SV) (ca mo : Int) (l : List Int) (w0 : World) (H0 : Heap)
    (mx : MX mx_ H0) (bf_mx : BF (fun b => b = 0) H0.size) (hl : RdT H0 fI 1 s2.v l) (hca : -9223372036854775808 ≤ ca ∧ ca ≤ 9223372036854775807) (hmo : -9223372036854775808 ≤ mo ∧ mo ≤ 9223372036854775807) (hli : ∀ x ∈ l, -9223372036854775808 ≤ x ∧ x ≤ 9223372036854775807) :
    Ct Tryd.prog w0 5 #[.int .i64 ca, .int .i64 mo, s2.v] H0 (fun r H2 => r = .bool true ∧ Nw H0 H2) := by
  refine Ct.enter (args := [.int .i64 ca, .int .i64 mo, s2.v]) Tryd.func5 rfl rfl rfl ?_
  intro Q0 hret
  have hm0 : Nw H0 H0 := Mo.refl _ _
  replace hl := hl.bnd
  have bf_hl := hl.bf
  refine CW.seq (fun K1 hK1 hE1 => ?_)
  refine CW.region ?_
  refine LR.v (Y.assign rfl rfl) (Wd.u rfl) rfl rfl ?_
  refine LR.nil ?_
  refine hK1 _ _ ?_
  refine CW.seq (fun K2 hK2 hE2 => ?_)
  refine CW.seq (fun K3 hK3 hE3 => ?_)
  refine CW.region ?_
  -- call selvage/selvagelaw2.known
  refine LR.call rfl Tryd.call11 rfl (Wd.u rfl) rfl rfl (known_ct mx_ w0 _ mx bf_mx) (fun v16 H16 r16 => ?_)
  obtain ⟨rfl, hs16⟩ := r16
  replace mx := mx.nw hs16
  replace hl := hl.nw hs16
  replace hm0 := hm0.tr hs16
  have hz1 := hs16.size
  refine LR.v (Y.not rfl rfl) (Wd.u rfl) rfl rfl ?_
  refine LR.nil ?_
  refine hK3 _ _ ?_
  refine CW.cond_f rfl ?_
  refine CW.skip ?_
  refine hK2 _ _ ?_
  refine CW.seq (fun K4 hK4 hE4 => ?_)
  refine CW.region ?_
  refine LR.v (Y.move rfl rfl) (Wd.u rfl) rfl rfl ?_
  -- call selvage/selvagelaw2.within
  refine LR.call rfl Tryd.call20 rfl (Wd.u rfl) rfl rfl (within_ct ca 500 w0 _ (by omega) hca) (fun v19 H19 r19 => ?_)
  obtain ⟨rfl, hs19⟩ := r19
  replace mx := mx.nw hs19
  replace hl := hl.nw hs19
  replace hm0 := hm0.tr hs19
  have hz2 := hs19.size
  obtain ⟨c, hc⟩ : ∃ c, c = wiN ca 500 := ⟨_, rfl⟩
  have hcl := wiN_lt (a := ca) (show 0 < 500 by omega)
  rw [← hc] at hcl
  refine LR.v (Y.move rfl rfl) (Wd.u rfl) rfl rfl ?_
  -- call selvage/selvagelaw2.within
  refine LR.call rfl Tryd.call20 rfl (Wd.u rfl) rfl rfl (within_ct mo 300 w0 _ (by omega) hmo) (fun v21 H21 r21 => ?_)
  obtain ⟨rfl, hs21⟩ := r21
  replace mx := mx.nw hs21
  replace hl := hl.nw hs21
  replace hm0 := hm0.tr hs21
  have hz3 := hs21.size
  obtain ⟨m, hm⟩ : ∃ m, m = wiN mo 300 := ⟨_, rfl⟩
  have hml := wiN_lt (a := mo) (show 0 < 300 by omega)
  rw [← hm] at hml
  refine LR.v (Y.cast (v2 := .int .i64 (c : Int)) (Y.assign rfl rfl) (by rw [hc])) (Wd.u rfl) rfl rfl ?_
  refine LR.v (Y.cast (v2 := .int .i64 (m : Int)) (Y.assign rfl rfl) (by rw [hm])) (Wd.u rfl) rfl rfl ?_
  refine LR.nil ?_
  refine hK4 _ _ ?_
  refine CW.seq (fun K5 hK5 hE5 => ?_)
  refine CW.region ?_
  refine LR.v (Y.move rfl rfl) (Wd.u rfl) rfl rfl ?_
  refine LR.v (Y.move rfl rfl) (Wd.u rfl) rfl rfl ?_
  -- call selvage/simfs.New
  refine LR.call rfl Tryd.call16 rfl (Wd.u rfl) rfl rfl (new_ct c m w0 _ (by omega) (by omega)) (fun v25 H25 r25 => ?_)
  obtain ⟨Q25, g25, b25, rfl, hf, hkn25, hs25⟩ := r25
  have df1 := DFL.appK (DFL.nil) (bf_mx.mono hm0.size) hkn25
  have df2 := DFL.appK (DFL.nil) (bf_hl.mono hm0.size) hkn25
  have nx3 : NxK [] H0.size Q25 := NxK.tr (NxK.refl [] _) hkn25 hm0.size
  replace mx := mx.nw hs25
  replace hl := hl.nw hs25
  replace hm0 := hm0.tr hs25
  have hz4 := hs25.size
  have hbk_hf := hf.bk
  have hS0 := Bs.empty c m
  have hF0 := Fu.start c m
  refine LR.v (Y.move rfl rfl) (Wd.u rfl) rfl rfl ?_
  refine LR.v (Y.extract rfl rfl rfl) (Wd.u rfl) rfl rfl ?_
  refine LR.v (Y.extract rfl rfl rfl) (Wd.u rfl) rfl rfl ?_
  refine LR.v (Y.assign rfl rfl) (Wd.u rfl) rfl rfl ?_
  refine LR.v (Y.assign rfl rfl) (Wd.u rfl) rfl rfl ?_
  refine LR.nil ?_
  refine hK5 _ _ ?_
  refine CW.seq (fun K6 hK6 hE6 => ?_)
  refine CW.seq (fun K7 hK7 hE7 => ?_)
  refine CW.region ?_
  refine LR.v (Y.move rfl rfl) (Wd.u rfl) rfl rfl ?_
  refine LR.v ((Y.neq rfl rfl rfl).isF ((fun h => h rfl))) (Wd.u rfl) rfl rfl ?_
  refine LR.v (Y.move rfl rfl) (Wd.u rfl) rfl rfl ?_
  refine LR.v (Y.move rfl rfl) (Wd.g rfl rfl rfl) rfl rfl ?_
  refine LR.v (Y.peq rfl (by kernel_rfl) (by kernel_rfl) rfl rfl) (Wd.g rfl rfl rfl) rfl rfl ?_
  refine LR.v (Y.pick_f rfl rfl rfl) (Wd.u rfl) rfl rfl ?_
  refine LR.nil ?_
  refine hK7 _ _ ?_
  refine CW.cond_f rfl ?_
  refine CW.skip ?_
  refine hK6 _ _ ?_
  refine CW.seq (fun K8 hK8 hE8 => ?_)
  refine CW.region ?_
  refine LR.z (Z.makew (5) ((0 : Nat)) rfl inf35 Tryd.zeroValue3 rfl fNi_len fNi_one rfl rfl (by first | rfl | omega) (by omega) (by omega)) (Wd.u rfl) rfl rfl (fun v34 H34 r34 => ?_)
  obtain ⟨ow34, hs34, ob34, hH34⟩ := r34
  have hzs34 : H34.size = H25.size + 1 := by rw [hH34]; simp
  have df4 := (DF.new (bf_mx.mono hm0.size) : DF _ (H25.size + 1))
  have df5 := (DF.new (bf_hl.mono hm0.size) : DF _ (H25.size + 1))
  have dj6 : DL (H25.size + 1) Q25 := DL.newK hf.bk
  have nx7 : Nx 0 H0.size (H25.size + 1) := Nx.new hm0.size
  replace mx := mx.nw hs34
  replace hl := hl.nw hs34
  replace hf := hf.nw hs34
  replace hm0 := hm0.tr hs34
  have hz5 := hs34.size
  obtain ⟨s34, rfl⟩ : ∃ s : SV, v34 = s.v := ⟨toSV v34, ow34.sv.symm⟩
  refine LR.v (Y.assign rfl rfl) (Wd.u rfl) rfl rfl ?_
  refine LR.nil ?_
  refine hK8 _ _ ?_
  refine CW.seq (fun K9 hK9 hE9 => ?_)
  refine CW.seq (fun K10 hK10 hE10 => ?_)
  refine CW.region ?_
  refine LR.v (Y.assign rfl rfl) (Wd.u rfl) rfl rfl ?_
  refine LR.nil ?_
  refine hK10 _ _ ?_
  refine CW.block (fun K11 hK11 hX11 hE11 => ?_)
  refine CW.loop (fun (s_ : (Nat) × (List Nat) × (Gh) × (Dk) × (List Nat) × (Nat)) => match s_ with | (i, Ki, gi, Di, hv, kh) => [(0, .int .i64 (c : Int)), (1, .int .i64 (m : Int)), (2, s2.v), (7, ptr b25), (9, s34.v), (10, .int .i64 (i : Int))])
    (fun (s_ : (Nat) × (List Nat) × (Gh) × (Dk) × (List Nat) × (Nat)) (H : Heap) => match s_ with | (i, Ki, gi, Di, hv, kh) => (PDk Ki gi H b25 Di) ∧ (Ow kh 3 H fNi 1 s34.v hv) ∧ (i ≤ l.length ∧ i ≤ 40) ∧ (Fu c m hv Di) ∧ (Bs (i * 210) Di) ∧ (∀ q, hv.getD q 0 ≤ 300) ∧ (NxK Q25 H34.size Ki) ∧ (Nx (H25.size + 1) H34.size kh) ∧ (DL kh Ki) ∧ Mo (Ms (Q25 ++ [(H25.size + 1)])) H34 H)
    (fun (s_ : (Nat) × (List Nat) × (Gh) × (Dk) × (List Nat) × (Nat)) => match s_ with | (i, Ki, gi, Di, hv, kh) => l.length - i) (0, Q25, g25, Dk.empty c m, [0, 0, 0, 0, 0], (H25.size + 1)) ⟨rfl, rfl, rfl, rfl, rfl, rfl, trivial⟩ ?_ ?_
  ·
    exact ⟨hf, ow34, (by omega), hF0, hS0, fun q => by rcases q with _ | _ | _ | _ | _ | q <;> simp, NxK.refl _ _, Nx.refl _ _, dj6, Mo.refl _ _⟩
  rintro ⟨i, Ki, gi, Di, hv, kh⟩ HL1 hI1 K12 hN12 hE12
  obtain ⟨hf, ow34, hi, hF, hS, hb, nxl_hf, nxl_ow34, dj_hf_ow34, hlm1⟩ := hI1
  have df8 := DFL.appK (df1) (bf_mx.mono hm0.size) nxl_hf
  have df9 := DFL.appK (df2) (bf_hl.mono hm0.size) nxl_hf
  have nx10 : NxK [] H0.size Ki := NxK.tr (nx3) nxl_hf hm0.size
  have df11 := DF.app (df4) (bf_mx.mono hm0.size) nxl_ow34
  have df12 := DF.app (df5) (bf_hl.mono hm0.size) nxl_ow34
  have nx13 : Nx 0 H0.size kh := Nx.tr (nx7) nxl_ow34 hm0.size
  replace mx := mx.upL hlm1 (DFL.app df1 (DFL.cons df4 DFL.nil))
  replace hl := hl.upL hlm1 (DFL.app df2 (DFL.cons df5 DFL.nil))
  replace hm0 := (Mo.trL (ks := []) (hm0.mdn []) hlm1 (MIL.app (MIL.ofK0 (nx3)) (MIL.cons (MI.app MI.z (nx7) (Nat.le_refl _)) MIL.nil))).nil
  have hz6 := hlm1.size
  have hbk_hf := hf.bk
  have hle_ow34 := ow34.le
  have dj14 := dj_hf_ow34
  have nx15 := nxl_hf
  have nx16 := nxl_ow34
  have hl5 := hF.hl
  have hb0 := hb 0
  have hb1 := hb 1
  have hb2 := hb 2
  have hb3 := hb 3
  have hb4 := hb 4
  have hU := hF.used
  refine CW.seq (fun K13 hK13 hE13 => ?_)
  refine CW.seq (fun K14 hK14 hE14 => ?_)
  refine CW.region ?_
  refine LR.v (Y.move rfl rfl) (Wd.u rfl) rfl rfl ?_
  refine LR.v (Y.move rfl rfl) (Wd.u rfl) rfl rfl ?_
  refine LR.v (Y.len hl rfl Tryd.runUnderlying35 rfl) (Wd.u rfl) rfl rfl ?_
  refine LR.v (Y.lss rfl rfl rfl) (Wd.u rfl) rfl rfl ?_
  refine LR.v (Y.move rfl rfl) (Wd.u rfl) rfl rfl ?_
  refine LR.splitp (d := 39) rfl (fun g39 => ?_) (fun g39 => ?_)
  ·
    refine LR.v (Y.move rfl rfl) (Wd.g rfl rfl rfl) rfl rfl ?_
    refine LR.v (Y.lss rfl rfl rfl) (Wd.g rfl rfl rfl) rfl rfl ?_
    refine LR.v (Y.pick_t rfl rfl rfl) (Wd.u rfl) rfl rfl ?_
    refine LR.nil ?_
    refine hK14 _ _ ?_
    refine CW.condp rfl (fun c42 => ?_) (fun c42 => ?_)
    ·
      have hil : i < l.length := by omega
      have hlb := hli _ (List.getElem_mem hil)
      have hlb2 := tdb5 _ hlb
      refine CW.skip ?_
      refine hK13 _ _ ?_
      refine CW.seq (fun K15 hK15 hE15 => ?_)
      refine CW.block (fun K16 hK16 hX16 hE16 => ?_)
      refine CW.seq (fun K17 hK17 hE17 => ?_)
      refine CW.region ?_
      refine LR.v (Y.move rfl rfl) (Wd.u rfl) rfl rfl ?_
      refine LR.v (Y.move rfl rfl) (Wd.u rfl) rfl rfl ?_
      refine LR.e (g := fun ad => .pointer (some ad)) (Y.indexAddrF hl (i) rfl Tryd.runUnderlying35 Tryd.sizeOf3 rfl rfl (by first | rfl | omega) (by first | omega | (simp; omega) | (simp; done))) (Wd.u rfl) rfl rfl (fun ad47 pt47 => ?_)
      have bf_pt47 := bf_hl
      refine LR.v (Y.load1 pt47.pt rfl Tryd.isAgg3 rfl) (Wd.u rfl) rfl rfl ?_
      -- call selvage/selvagelaw2.within
      refine LR.call rfl Tryd.call20 rfl (Wd.u rfl) rfl rfl (within_ct l[i] 5 w0 _ (by omega) hlb) (fun v49 H49 r49 => ?_)
      obtain ⟨rfl, hs49⟩ := r49
      replace mx := mx.nw hs49
      replace hl := hl.nw hs49
      replace ow34 := ow34.nw hs49
      replace hf := hf.nw hs49
      replace pt47 := pt47.nw hs49
      replace hm0 := hm0.tr hs49
      replace hlm1 := hlm1.trN hs49
      have hz7 := hs49.size
      have hk5 := wiN_lt (a := l[i]) (show 0 < 5 by omega)
      obtain ⟨k, hk⟩ : ∃ k, k = wiN l[i] 5 := ⟨_, rfl⟩
      rw [← hk] at hk5
      refine LR.v (Y.cast (v2 := .int .i64 (k : Int)) (Y.assign rfl rfl) (by rw [hk])) (Wd.u rfl) rfl rfl ?_
      refine LR.nil ?_
      refine hK17 _ _ ?_
      refine CW.seq (fun K18 hK18 hE18 => ?_)
      refine CW.region ?_
      refine LR.v (Y.move rfl rfl) (Wd.u rfl) rfl rfl ?_
      refine LR.v (Y.move rfl rfl) (Wd.u rfl) rfl rfl ?_
      refine LR.e (g := fun ad => .pointer (some ad)) (Y.indexAddrF hl (i) rfl Tryd.runUnderlying35 Tryd.sizeOf3 rfl rfl (by first | rfl | omega) (by first | omega | (simp; omega) | (simp; done))) (Wd.u rfl) rfl rfl (fun ad52 pt52 => ?_)
      have bf_pt52 := bf_hl
      refine LR.v (Y.load1 pt52.pt rfl Tryd.isAgg3 rfl) (Wd.u rfl) rfl rfl ?_
      refine LR.v (Y.cast (v2 := .int .i64 (l[i].tdiv 5)) (Y.quo rfl rfl rfl (by omega)) (ivv (IntWalk.i64_in _ hlb2))) (Wd.u rfl) rfl rfl ?_
      -- call selvage/selvagelaw2.within
      refine LR.call rfl Tryd.call20 rfl (Wd.u rfl) rfl rfl (within_ct (l[i].tdiv 5) 200 w0 _ (by omega) hlb2) (fun v55 H55 r55 => ?_)
      obtain ⟨rfl, hs55⟩ := r55
      replace mx := mx.nw hs55
      replace hl := hl.nw hs55
      replace ow34 := ow34.nw hs55
      replace hf := hf.nw hs55
      replace pt52 := pt52.nw hs55
      replace hm0 := hm0.tr hs55
      replace hlm1 := hlm1.trN hs55
      have hz8 := hs55.size
      obtain ⟨n, hn⟩ : ∃ n, n = wiN (l[i].tdiv 5) 200 := ⟨_, rfl⟩
      have hnl := wiN_lt (a := l[i].tdiv 5) (show 0 < 200 by omega)
      rw [← hn] at hnl
      refine LR.v (Y.cast (v2 := .int .i64 (n : Int)) (Y.assign rfl rfl) (by rw [hn])) (Wd.u rfl) rfl rfl ?_
      refine LR.nil ?_
      refine hK18 _ _ ?_
      refine CW.seq (fun K19 hK19 hE19 => ?_)
      refine CW.region_draw rfl (by kernel_rfl) ?_
      refine LR.v (Y.move rfl rfl) (Wd.u rfl) rfl rfl ?_
      refine LR.v (Y.owAddr ow34 (0) rfl Tryd.runUnderlying35 Tryd.sizeOf3 rfl rfl (by first | rfl | omega) (by rw [hl5]; decide)) (Wd.u rfl) rfl rfl ?_
      refine LR.v (Y.cast (v2 := .int .i64 ((hv.getD 0 0 : Nat) : Int)) (Y.load1 (ow34.pt (j := 0) (by rw [hl5]; decide)) rfl Tryd.isAgg3 rfl) (by rw [gd5 (by rw [hl5]; decide)])) (Wd.u rfl) rfl rfl ?_
      refine LR.v (Y.move rfl rfl) (Wd.u rfl) rfl rfl ?_
      refine LR.v (Y.owAddr ow34 (1) rfl Tryd.runUnderlying35 Tryd.sizeOf3 rfl rfl (by first | rfl | omega) (by rw [hl5]; decide)) (Wd.u rfl) rfl rfl ?_
      refine LR.v (Y.cast (v2 := .int .i64 ((hv.getD 1 0 : Nat) : Int)) (Y.load1 (ow34.pt (j := 1) (by rw [hl5]; decide)) rfl Tryd.isAgg3 rfl) (by rw [gd5 (by rw [hl5]; decide)])) (Wd.u rfl) rfl rfl ?_
      refine LR.v (Y.cast (v2 := .int .i64 ((hv.getD 0 0 + hv.getD 1 0 : Nat) : Int)) (Y.addi rfl rfl rfl (by omega)) (ivv (by omega))) (Wd.u rfl) rfl rfl ?_
      refine LR.v (Y.move rfl rfl) (Wd.u rfl) rfl rfl ?_
      refine LR.v (Y.owAddr ow34 (2) rfl Tryd.runUnderlying35 Tryd.sizeOf3 rfl rfl (by first | rfl | omega) (by rw [hl5]; decide)) (Wd.u rfl) rfl rfl ?_
      refine LR.v (Y.cast (v2 := .int .i64 ((hv.getD 2 0 : Nat) : Int)) (Y.load1 (ow34.pt (j := 2) (by rw [hl5]; decide)) rfl Tryd.isAgg3 rfl) (by rw [gd5 (by rw [hl5]; decide)])) (Wd.u rfl) rfl rfl ?_
      refine LR.v (Y.cast (v2 := .int .i64 ((hv.getD 0 0 + hv.getD 1 0 + hv.getD 2 0 : Nat) : Int)) (Y.addi rfl rfl rfl (by omega)) (ivv (by omega))) (Wd.u rfl) rfl rfl ?_
      refine LR.v (Y.move rfl rfl) (Wd.u rfl) rfl rfl ?_
      refine LR.v (Y.owAddr ow34 (3) rfl Tryd.runUnderlying35 Tryd.sizeOf3 rfl rfl (by first | rfl | omega) (by rw [hl5]; decide)) (Wd.u rfl) rfl rfl ?_
      refine LR.v (Y.cast (v2 := .int .i64 ((hv.getD 3 0 : Nat) : Int)) (Y.load1 (ow34.pt (j := 3) (by rw [hl5]; decide)) rfl Tryd.isAgg3 rfl) (by rw [gd5 (by rw [hl5]; decide)])) (Wd.u rfl) rfl rfl ?_
      refine LR.v (Y.cast (v2 := .int .i64 ((hv.getD 0 0 + hv.getD 1 0 + hv.getD 2 0 + hv.getD 3 0 : Nat) : Int)) (Y.addi rfl rfl rfl (by omega)) (ivv (by omega))) (Wd.u rfl) rfl rfl ?_
      refine LR.v (Y.move rfl rfl) (Wd.u rfl) rfl rfl ?_
      refine LR.v (Y.owAddr ow34 (4) rfl Tryd.runUnderlying35 Tryd.sizeOf3 rfl rfl (by first | rfl | omega) (by rw [hl5]; decide)) (Wd.u rfl) rfl rfl ?_
      refine LR.v (Y.cast (v2 := .int .i64 ((hv.getD 4 0 : Nat) : Int)) (Y.load1 (ow34.pt (j := 4) (by rw [hl5]; decide)) rfl Tryd.isAgg3 rfl) (by rw [gd5 (by rw [hl5]; decide)])) (Wd.u rfl) rfl rfl ?_
      refine LR.v (Y.cast (v2 := .int .i64 (Di.used : Int)) (Y.addi rfl rfl rfl (by omega)) (by rw [hU]; exact ivv (by omega))) (Wd.u rfl) rfl rfl ?_
      refine LR.v (Y.assign rfl rfl) (Wd.u rfl) rfl rfl ?_
      refine LR.nil ?_
      refine hK19 _ _ ?_
      refine CW.seq (fun K20 hK20 hE20 => ?_)
      refine CW.region ?_
      refine LR.v (Y.move rfl rfl) (Wd.u rfl) rfl rfl ?_
      refine LR.v (Y.assign rfl rfl) (Wd.u rfl) rfl rfl ?_
      refine LR.nil ?_
      refine hK20 _ _ ?_
      refine CW.seq (fun K21 hK21 hE21 => ?_)
      refine CW.region ?_
      refine LR.v (Y.assign rfl rfl) (Wd.u rfl) rfl rfl ?_
      refine LR.nil ?_
      refine hK21 _ _ ?_
      refine CW.cut (fun (s_ : (List Nat) × (Gh) × (Dk) × (Nat) × (Nat)) => match s_ with | (Ka, ga, Da, want, r) => [(0, .int .i64 (c : Int)), (1, .int .i64 (m : Int)), (2, s2.v), (7, ptr b25), (9, s34.v), (10, .int .i64 (i : Int)), (11, .int .i64 (k : Int)), (13, .int .i64 (Di.used : Int)), (14, .int .i64 (want : Int)), (15, .int .i64 (r : Int))])
        (fun (s_ : (List Nat) × (Gh) × (Dk) × (Nat) × (Nat)) (H : Heap) => match s_ with | (Ka, ga, Da, want, r) => (PDk Ka ga H b25 Da) ∧ (Bs (i * 210 + 204) Da) ∧ ((m < want ∧ r = 5 ∧ Fu c m hv Da) ∨ (¬ m < want ∧ c + hv.getD k 0 < Di.used + want ∧ r = 12 ∧ Fu c m hv Da) ∨ (¬ m < want ∧ ¬ c + hv.getD k 0 < Di.used + want ∧ r = 0 ∧ Fu c m (hv.set k want) Da)) ∧ (want ≤ 500) ∧ (NxK Ki H55.size Ka) ∧ Mo (Ms Ki) H55 H) (fun K22 hK22 hE22 => ?_) ?_
      ·
        have hcm22 : Mo (Ms Ki) H55 H55 := Mo.refl _ _
        have nx_hcm22_hf := NxK.refl Ki H55.size
        refine CW.seq (fun K23 hK23 hE23 => ?_)
        refine CW.region ?_
        refine LR.v (Y.move rfl rfl) (Wd.u rfl) rfl rfl ?_
        refine LR.v (Y.remi rfl rfl rfl (by omega)) (Wd.u rfl) rfl rfl ?_
        refine LR.v (Y.eql rfl rfl rfl) (Wd.u rfl) rfl rfl ?_
        refine LR.nil ?_
        refine hK23 _ _ ?_
        refine CW.condp rfl (fun c78 => ?_) (fun c78 => ?_)
        ·
          have hbk := hb k
          refine CW.seq (fun K24 hK24 hE24 => ?_)
          refine CW.region ?_
          refine LR.v (Y.move rfl rfl) (Wd.u rfl) rfl rfl ?_
          refine LR.v (Y.move rfl rfl) (Wd.u rfl) rfl rfl ?_
          refine LR.v (Y.owAddr ow34 (k) rfl Tryd.runUnderlying35 Tryd.sizeOf3 rfl rfl (by first | rfl | omega) (by rw [hl5]; omega)) (Wd.u rfl) rfl rfl ?_
          refine LR.v (Y.cast (v2 := .int .i64 ((hv.getD k 0 : Nat) : Int)) (Y.load1 (ow34.pt (j := k) (by rw [hl5]; omega)) rfl Tryd.isAgg3 rfl) (by rw [gd5 (by rw [hl5]; omega)])) (Wd.u rfl) rfl rfl ?_
          refine LR.v (Y.move rfl rfl) (Wd.u rfl) rfl rfl ?_
          refine LR.v (Y.cast (v2 := .int .i64 ((hv.getD k 0 + n : Nat) : Int)) (Y.addi rfl rfl rfl (by omega)) (ivv (by omega))) (Wd.u rfl) rfl rfl ?_
          refine LR.v (Y.assign rfl rfl) (Wd.u rfl) rfl rfl ?_
          refine LR.nil ?_
          refine hK24 _ _ ?_
          refine CW.region_any (fun Hq => Mo (Ms Ki) H55 Hq) [] rfl ?_
          have hq18 : Mo (Ms Ki) H55 H55 := Mo.refl _ _
          have nx17 := NxK.refl Ki H55.size
          refine LH.take 0 (by kernel_rfl) rfl (by kernel_rfl) (by kernel_rfl) (by kernel_rfl) (fun Hq hq => Y.move rfl rfl) (Wd.u rfl) rfl rfl hq18 ?_
          refine LH.take 1 (by kernel_rfl) rfl (by kernel_rfl) (by kernel_rfl) (by kernel_rfl) (fun Hq hq => Y.move rfl rfl) (Wd.u rfl) rfl rfl hq18 ?_
          refine LH.take 3 (by kernel_rfl) rfl (by kernel_rfl) (by kernel_rfl) (by kernel_rfl) (fun Hq hq => Y.move rfl rfl) (Wd.u rfl) rfl rfl hq18 ?_
          refine LH.two (i := 2) (j := 4) (by kernel_rfl) ?_ ?_
          ·
            -- call selvage/selvagelaw2.path
            refine LO.call rfl rfl Tryd.call22 rfl (Wd.u rfl) rfl rfl (path_ct (k : Int) w0 _ (by omega)) (fun v87 H87 r87 => ?_)
            obtain ⟨rfl, hs87⟩ := r87
            replace mx := mx.nw hs87
            replace hl := hl.nw hs87
            replace ow34 := ow34.nw hs87
            replace hf := hf.nw hs87
            replace hm0 := hm0.tr hs87
            replace hlm1 := hlm1.trN hs87
            replace hcm22 := hcm22.trN hs87
            replace hq18 := hq18.trN hs87
            have hz9 := hs87.size
            rw [pathN_nat hk5]
            refine ⟨.inr hq18, LH.narrow (SH2 := fun Hq => Mo (Ms Ki) H87 Hq) (fun Hq hq => hq18.trL hq (MIL.ofK (nx17) (by intro k hk; simp [hk]))) ?_⟩
            have hq18 : Mo (Ms Ki) H87 H87 := Mo.refl _ _
            have nx18 := NxK.refl Ki H87.size
            refine LH.one (i := 4) (by kernel_rfl) ?_
            refine LO.z rfl (Z.makew (n) ((0 : UInt8)) rfl inf25 Tryd.zeroValue5 rfl fB_len fB_one rfl rfl (by first | rfl | omega) (by omega) (by omega)) (Wd.u rfl) rfl rfl (fun v89 H89 r89 => ?_)
            obtain ⟨ow89, hs89, ob89, hH89⟩ := r89
            have hzs89 : H89.size = H87.size + 1 := by rw [hH89]; simp
            have df19 := (DF.new (bf_mx.mono hm0.size) : DF _ (H87.size + 1))
            have df20 := (DF.new (bf_hl.mono hm0.size) : DF _ (H87.size + 1))
            have dj21 : Dj kh (H87.size + 1) := Dj.new ow34.le
            have dj22 : DL (H87.size + 1) Ki := DL.newK hf.bk
            have nx23 : Nx 0 H0.size (H87.size + 1) := Nx.new hm0.size
            have nx24 : Nx 0 H34.size (H87.size + 1) := Nx.new hlm1.size
            have nx25 : Nx 0 H55.size (H87.size + 1) := Nx.new hcm22.size
            have nx26 : Nx 0 H87.size (H87.size + 1) := Nx.new hq18.size
            replace mx := mx.nw hs89
            replace hl := hl.nw hs89
            replace ow34 := ow34.nw hs89
            replace hf := hf.nw hs89
            replace hm0 := hm0.tr hs89
            replace hlm1 := hlm1.trN hs89
            replace hcm22 := hcm22.trN hs89
            replace hq18 := hq18.trN hs89
            have hz10 := hs89.size
            obtain ⟨s89, rfl⟩ : ∃ s : SV, v89 = s.v := ⟨toSV v89, ow89.sv.symm⟩
            refine ⟨.inr hq18, LH.narrow (SH2 := fun Hq => Mo (Ms (Ki ++ [(H87.size + 1)])) H89 Hq) (fun Hq hq => hq18.trL hq (MIL.app (MIL.ofK (nx18) (by intro k hk; simp [hk])) (MIL.cons (MI.app MI.z (nx26) (Nat.le_refl _)) MIL.nil))) ?_⟩
            have hq18 : Mo (Ms (Ki ++ [(H87.size + 1)])) H89 H89 := Mo.refl _ _
            have nx27 := NxK.refl Ki H89.size
            have nx28 := Nx.refl (H87.size + 1) H89.size
            refine LH.one (i := 5) (by kernel_rfl) ?_
            -- call (*selvage/simfs.FS).Append
            refine LO.call rfl rfl Tryd.call21 rfl (Wd.u rfl) rfl rfl (append_ct mx_ Ki gi b25 Di (paths.getD k []) s89 (List.replicate n 0) _ w0 _ hf mx (bf_mx.mono (by omega)) (df8) ow89.rd (BF.of ow89.le) (DFL.of (dj22)) (by have := path_len5 hk5; omega) (hS.bd (by omega)) (by rw [List.length_replicate]; omega)) (fun v90 H90 r90 => ?_)
            have ql29 := ow34.le
            have ql30 := hf.bk
            have ql31 := ow89.le
            obtain ⟨Q90, g90, rfl, hf, hkd90, hs90⟩ := r90
            have df32 := DFL.appK (df8) (bf_mx.mono hm0.size) hkd90
            have df33 := DFL.appK (df9) (bf_hl.mono hm0.size) hkd90
            have dj34 : DL kh Q90 := DL.appK (dj14) ql29 hkd90
            have dj35 : DL (H87.size + 1) Q90 := DL.appK (dj22) ql31 hkd90
            have nx36 : NxK [] H0.size Q90 := NxK.tr (nx10) hkd90 hm0.size
            have nx37 : NxK Q25 H34.size Q90 := NxK.tr (nx15) hkd90 hlm1.size
            have nx38 : NxK Ki H55.size Q90 := NxK.tr (nx_hcm22_hf) hkd90 hcm22.size
            have nx39 : NxK Ki H89.size Q90 := NxK.tr (nx27) hkd90 hq18.size
            replace mx := mx.upL hs90 (df8)
            replace hl := hl.upL hs90 (df9)
            replace ow34 := ow34.upL hs90 (dj14)
            replace ow89 := ow89.upL hs90 (dj22)
            replace hm0 := (Mo.trL (ks := []) (hm0.mdn []) hs90 (MIL.ofK0 (nx10))).nil
            replace hlm1 := hlm1.trL hs90 (MIL.ofK (nx15) (by intro k hk; simp [hk]))
            replace hcm22 := hcm22.trL hs90 (MIL.ofK (nx_hcm22_hf) (by intro k hk; simp [hk]))
            replace hq18 := hq18.trL hs90 (MIL.ofK (nx27) (by intro k hk; simp [hk]))
            have hz11 := hs90.size
            have hbk_hf := hf.bk
            refine ⟨.inr hq18, LH.narrow (SH2 := fun Hq => Mo (Ms (Q90 ++ [(H87.size + 1)])) H90 Hq) (fun Hq hq => hq18.trL hq (MIL.app (MIL.ofK (nx39) (by intro k hk; simp [hk])) (MIL.cons (MI.app (MI.root (by simp)) (nx28) (Nat.le_refl _)) MIL.nil))) ?_⟩
            have hq18 : Mo (Ms (Q90 ++ [(H87.size + 1)])) H90 H90 := Mo.refl _ _
            have nx40 := NxK.refl Q90 H90.size
            have nx41 := Nx.refl (H87.size + 1) H90.size
            refine LH.take 6 (by kernel_rfl) rfl (by kernel_rfl) (by kernel_rfl) (by kernel_rfl) (fun Hq hq => Y.assign rfl rfl) (Wd.u rfl) rfl rfl hq18 ?_
            refine LH.done (by kernel_rfl) ?_
            refine QN.sub (hK22 (Q90, g90, (Di.lay (paths.getD k []) ⟨true, List.replicate n 0⟩).2, (hv.getD k 0 + n), (Di.lay (paths.getD k []) ⟨true, List.replicate n 0⟩).1) _ ?_) ⟨(iv (by omega)), (iv (by omega)), rfl, rfl, rfl, (iv (by omega)), (iv (by omega)), (iv (by omega)), (iv (by omega)), (iv (by omega)), trivial⟩
            exact ⟨hf, (hS.lay (paths.getD k []) ⟨true, List.replicate n 0⟩).mono (by simp only [List.length_replicate]; omega), hF.lay hk5 ⟨true, List.replicate n 0⟩ (by simp [List.length_replicate]), by omega, nx38, hcm22⟩
          ·
            refine LO.z rfl (Z.makew (n) ((0 : UInt8)) rfl inf25 Tryd.zeroValue5 rfl fB_len fB_one rfl rfl (by first | rfl | omega) (by omega) (by omega)) (Wd.u rfl) rfl rfl (fun v89 H89 r89 => ?_)
            obtain ⟨ow89, hs89, ob89, hH89⟩ := r89
            have hzs89 : H89.size = H55.size + 1 := by rw [hH89]; simp
            have df42 := (DF.new (bf_mx.mono hm0.size) : DF _ (H55.size + 1))
            have df43 := (DF.new (bf_hl.mono hm0.size) : DF _ (H55.size + 1))
            have dj44 : Dj kh (H55.size + 1) := Dj.new ow34.le
            have dj45 : DL (H55.size + 1) Ki := DL.newK hf.bk
            have nx46 : Nx 0 H0.size (H55.size + 1) := Nx.new hm0.size
            have nx47 : Nx 0 H34.size (H55.size + 1) := Nx.new hlm1.size
            have nx48 : Nx 0 H55.size (H55.size + 1) := Nx.new hcm22.size
            have nx49 : Nx 0 H55.size (H55.size + 1) := Nx.new hq18.size
            replace mx := mx.nw hs89
            replace hl := hl.nw hs89
            replace ow34 := ow34.nw hs89
            replace hf := hf.nw hs89
            replace hm0 := hm0.tr hs89
            replace hlm1 := hlm1.trN hs89
            replace hcm22 := hcm22.trN hs89
            replace hq18 := hq18.trN hs89
            have hz12 := hs89.size
            obtain ⟨s89, rfl⟩ : ∃ s : SV, v89 = s.v := ⟨toSV v89, ow89.sv.symm⟩
            refine ⟨.inr hq18, LH.narrow (SH2 := fun Hq => Mo (Ms (Ki ++ [(H55.size + 1)])) H89 Hq) (fun Hq hq => hq18.trL hq (MIL.app (MIL.ofK (nx17) (by intro k hk; simp [hk])) (MIL.cons (MI.app MI.z (nx49) (Nat.le_refl _)) MIL.nil))) ?_⟩
            have hq18 : Mo (Ms (Ki ++ [(H55.size + 1)])) H89 H89 := Mo.refl _ _
            have nx50 := NxK.refl Ki H89.size
            have nx51 := Nx.refl (H55.size + 1) H89.size
            refine LH.one (i := 2) (by kernel_rfl) ?_
            -- call selvage/selvagelaw2.path
            refine LO.call rfl rfl Tryd.call22 rfl (Wd.u rfl) rfl rfl (path_ct (k : Int) w0 _ (by omega)) (fun v87 H87 r87 => ?_)
            obtain ⟨rfl, hs87⟩ := r87
            replace mx := mx.nw hs87
            replace hl := hl.nw hs87
            replace ow34 := ow34.nw hs87
            replace hf := hf.nw hs87
            replace ow89 := ow89.nw hs87
            replace hm0 := hm0.tr hs87
            replace hlm1 := hlm1.trN hs87
            replace hcm22 := hcm22.trN hs87
            replace hq18 := hq18.trN hs87
            have hz13 := hs87.size
            rw [pathN_nat hk5]
            refine ⟨.inr hq18, LH.narrow (SH2 := fun Hq => Mo (Ms (Ki ++ [(H55.size + 1)])) H87 Hq) (fun Hq hq => hq18.trL hq (MIL.app (MIL.ofK (nx50) (by intro k hk; simp [hk])) (MIL.cons (MI.app (MI.root (by simp)) (nx51) (Nat.le_refl _)) MIL.nil))) ?_⟩
            have hq18 : Mo (Ms (Ki ++ [(H55.size + 1)])) H87 H87 := Mo.refl _ _
            have nx52 := NxK.refl Ki H87.size
            have nx53 := Nx.refl (H55.size + 1) H87.size
            refine LH.one (i := 5) (by kernel_rfl) ?_
            -- call (*selvage/simfs.FS).Append
            refine LO.call rfl rfl Tryd.call21 rfl (Wd.u rfl) rfl rfl (append_ct mx_ Ki gi b25 Di (paths.getD k []) s89 (List.replicate n 0) _ w0 _ hf mx (bf_mx.mono (by omega)) (df8) ow89.rd (BF.of ow89.le) (DFL.of (dj45)) (by have := path_len5 hk5; omega) (hS.bd (by omega)) (by rw [List.length_replicate]; omega)) (fun v90 H90 r90 => ?_)
            have ql54 := ow34.le
            have ql55 := hf.bk
            have ql56 := ow89.le
            obtain ⟨Q90, g90, rfl, hf, hkd90, hs90⟩ := r90
            have df57 := DFL.appK (df8) (bf_mx.mono hm0.size) hkd90
            have df58 := DFL.appK (df9) (bf_hl.mono hm0.size) hkd90
            have dj59 : DL kh Q90 := DL.appK (dj14) ql54 hkd90
            have dj60 : DL (H55.size + 1) Q90 := DL.appK (dj45) ql56 hkd90
            have nx61 : NxK [] H0.size Q90 := NxK.tr (nx10) hkd90 hm0.size
            have nx62 : NxK Q25 H34.size Q90 := NxK.tr (nx15) hkd90 hlm1.size
            have nx63 : NxK Ki H55.size Q90 := NxK.tr (nx_hcm22_hf) hkd90 hcm22.size
            have nx64 : NxK Ki H87.size Q90 := NxK.tr (nx52) hkd90 hq18.size
            replace mx := mx.upL hs90 (df8)
            replace hl := hl.upL hs90 (df9)
            replace ow34 := ow34.upL hs90 (dj14)
            replace ow89 := ow89.upL hs90 (dj45)
            replace hm0 := (Mo.trL (ks := []) (hm0.mdn []) hs90 (MIL.ofK0 (nx10))).nil
            replace hlm1 := hlm1.trL hs90 (MIL.ofK (nx15) (by intro k hk; simp [hk]))
            replace hcm22 := hcm22.trL hs90 (MIL.ofK (nx_hcm22_hf) (by intro k hk; simp [hk]))
            replace hq18 := hq18.trL hs90 (MIL.ofK (nx52) (by intro k hk; simp [hk]))
            have hz14 := hs90.size
            have hbk_hf := hf.bk
            refine ⟨.inr hq18, LH.narrow (SH2 := fun Hq => Mo (Ms (Q90 ++ [(H55.size + 1)])) H90 Hq) (fun Hq hq => hq18.trL hq (MIL.app (MIL.ofK (nx64) (by intro k hk; simp [hk])) (MIL.cons (MI.app (MI.root (by simp)) (nx53) (Nat.le_refl _)) MIL.nil))) ?_⟩
            have hq18 : Mo (Ms (Q90 ++ [(H55.size + 1)])) H90 H90 := Mo.refl _ _
            have nx65 := NxK.refl Q90 H90.size
            have nx66 := Nx.refl (H55.size + 1) H90.size
            refine LH.take 6 (by kernel_rfl) rfl (by kernel_rfl) (by kernel_rfl) (by kernel_rfl) (fun Hq hq => Y.assign rfl rfl) (Wd.u rfl) rfl rfl hq18 ?_
            refine LH.done (by kernel_rfl) ?_
            refine QN.sub (hK22 (Q90, g90, (Di.lay (paths.getD k []) ⟨true, List.replicate n 0⟩).2, (hv.getD k 0 + n), (Di.lay (paths.getD k []) ⟨true, List.replicate n 0⟩).1) _ ?_) ⟨(iv (by omega)), (iv (by omega)), rfl, rfl, rfl, (iv (by omega)), (iv (by omega)), (iv (by omega)), (iv (by omega)), (iv (by omega)), trivial⟩
            exact ⟨hf, (hS.lay (paths.getD k []) ⟨true, List.replicate n 0⟩).mono (by simp only [List.length_replicate]; omega), hF.lay hk5 ⟨true, List.replicate n 0⟩ (by simp [List.length_replicate]), by omega, nx63, hcm22⟩
        ·
          have hbk := hb k
          refine CW.region_any (fun Hq => Mo (Ms Ki) H55 Hq) [] rfl ?_
          have hq19 : Mo (Ms Ki) H55 H55 := Mo.refl _ _
          have nx67 := NxK.refl Ki H55.size
          refine LH.take 0 (by kernel_rfl) rfl (by kernel_rfl) (by kernel_rfl) (by kernel_rfl) (fun Hq hq => Y.move rfl rfl) (Wd.u rfl) rfl rfl hq19 ?_
          refine LH.take 1 (by kernel_rfl) rfl (by kernel_rfl) (by kernel_rfl) (by kernel_rfl) (fun Hq hq => Y.move rfl rfl) (Wd.u rfl) rfl rfl hq19 ?_
          refine LH.take 3 (by kernel_rfl) rfl (by kernel_rfl) (by kernel_rfl) (by kernel_rfl) (fun Hq hq => Y.move rfl rfl) (Wd.u rfl) rfl rfl hq19 ?_
          refine LH.two (i := 2) (j := 4) (by kernel_rfl) ?_ ?_
          ·
            -- call selvage/selvagelaw2.path
            refine LO.call rfl rfl Tryd.call22 rfl (Wd.u rfl) rfl rfl (path_ct (k : Int) w0 _ (by omega)) (fun v93 H93 r93 => ?_)
            obtain ⟨rfl, hs93⟩ := r93
            replace mx := mx.nw hs93
            replace hl := hl.nw hs93
            replace ow34 := ow34.nw hs93
            replace hf := hf.nw hs93
            replace hm0 := hm0.tr hs93
            replace hlm1 := hlm1.trN hs93
            replace hcm22 := hcm22.trN hs93
            replace hq19 := hq19.trN hs93
            have hz15 := hs93.size
            rw [pathN_nat hk5]
            refine ⟨.inr hq19, LH.narrow (SH2 := fun Hq => Mo (Ms Ki) H93 Hq) (fun Hq hq => hq19.trL hq (MIL.ofK (nx67) (by intro k hk; simp [hk]))) ?_⟩
            have hq19 : Mo (Ms Ki) H93 H93 := Mo.refl _ _
            have nx68 := NxK.refl Ki H93.size
            refine LH.one (i := 4) (by kernel_rfl) ?_
            refine LO.z rfl (Z.makew (n) ((0 : UInt8)) rfl inf25 Tryd.zeroValue5 rfl fB_len fB_one rfl rfl (by first | rfl | omega) (by omega) (by omega)) (Wd.u rfl) rfl rfl (fun v95 H95 r95 => ?_)
            obtain ⟨ow95, hs95, ob95, hH95⟩ := r95
            have hzs95 : H95.size = H93.size + 1 := by rw [hH95]; simp
            have df69 := (DF.new (bf_mx.mono hm0.size) : DF _ (H93.size + 1))
            have df70 := (DF.new (bf_hl.mono hm0.size) : DF _ (H93.size + 1))
            have dj71 : Dj kh (H93.size + 1) := Dj.new ow34.le
            have dj72 : DL (H93.size + 1) Ki := DL.newK hf.bk
            have nx73 : Nx 0 H0.size (H93.size + 1) := Nx.new hm0.size
            have nx74 : Nx 0 H34.size (H93.size + 1) := Nx.new hlm1.size
            have nx75 : Nx 0 H55.size (H93.size + 1) := Nx.new hcm22.size
            have nx76 : Nx 0 H93.size (H93.size + 1) := Nx.new hq19.size
            replace mx := mx.nw hs95
            replace hl := hl.nw hs95
            replace ow34 := ow34.nw hs95
            replace hf := hf.nw hs95
            replace hm0 := hm0.tr hs95
            replace hlm1 := hlm1.trN hs95
            replace hcm22 := hcm22.trN hs95
            replace hq19 := hq19.trN hs95
            have hz16 := hs95.size
            obtain ⟨s95, rfl⟩ : ∃ s : SV, v95 = s.v := ⟨toSV v95, ow95.sv.symm⟩
            refine ⟨.inr hq19, LH.narrow (SH2 := fun Hq => Mo (Ms (Ki ++ [(H93.size + 1)])) H95 Hq) (fun Hq hq => hq19.trL hq (MIL.app (MIL.ofK (nx68) (by intro k hk; simp [hk])) (MIL.cons (MI.app MI.z (nx76) (Nat.le_refl _)) MIL.nil))) ?_⟩
            have hq19 : Mo (Ms (Ki ++ [(H93.size + 1)])) H95 H95 := Mo.refl _ _
            have nx77 := NxK.refl Ki H95.size
            have nx78 := Nx.refl (H93.size + 1) H95.size
            refine LH.one (i := 5) (by kernel_rfl) ?_
            -- call (*selvage/simfs.FS).Write
            refine LO.call rfl rfl Tryd.call17 rfl (Wd.u rfl) rfl rfl (write_ct mx_ Ki gi b25 Di (paths.getD k []) s95 (List.replicate n 0) _ w0 _ hf mx (bf_mx.mono (by omega)) (df8) ow95.rd (BF.of ow95.le) (DFL.of (dj72)) (by have := path_len5 hk5; omega) (hS.bd (by omega)) (by rw [List.length_replicate]; omega)) (fun v96 H96 r96 => ?_)
            have ql79 := ow34.le
            have ql80 := hf.bk
            have ql81 := ow95.le
            obtain ⟨Q96, g96, rfl, hf, hkd96, hs96⟩ := r96
            have df82 := DFL.appK (df8) (bf_mx.mono hm0.size) hkd96
            have df83 := DFL.appK (df9) (bf_hl.mono hm0.size) hkd96
            have dj84 : DL kh Q96 := DL.appK (dj14) ql79 hkd96
            have dj85 : DL (H93.size + 1) Q96 := DL.appK (dj72) ql81 hkd96
            have nx86 : NxK [] H0.size Q96 := NxK.tr (nx10) hkd96 hm0.size
            have nx87 : NxK Q25 H34.size Q96 := NxK.tr (nx15) hkd96 hlm1.size
            have nx88 : NxK Ki H55.size Q96 := NxK.tr (nx_hcm22_hf) hkd96 hcm22.size
            have nx89 : NxK Ki H95.size Q96 := NxK.tr (nx77) hkd96 hq19.size
            replace mx := mx.upL hs96 (df8)
            replace hl := hl.upL hs96 (df9)
            replace ow34 := ow34.upL hs96 (dj14)
            replace ow95 := ow95.upL hs96 (dj72)
            replace hm0 := (Mo.trL (ks := []) (hm0.mdn []) hs96 (MIL.ofK0 (nx10))).nil
            replace hlm1 := hlm1.trL hs96 (MIL.ofK (nx15) (by intro k hk; simp [hk]))
            replace hcm22 := hcm22.trL hs96 (MIL.ofK (nx_hcm22_hf) (by intro k hk; simp [hk]))
            replace hq19 := hq19.trL hs96 (MIL.ofK (nx77) (by intro k hk; simp [hk]))
            have hz17 := hs96.size
            have hbk_hf := hf.bk
            refine ⟨.inr hq19, LH.narrow (SH2 := fun Hq => Mo (Ms (Q96 ++ [(H93.size + 1)])) H96 Hq) (fun Hq hq => hq19.trL hq (MIL.app (MIL.ofK (nx89) (by intro k hk; simp [hk])) (MIL.cons (MI.app (MI.root (by simp)) (nx78) (Nat.le_refl _)) MIL.nil))) ?_⟩
            have hq19 : Mo (Ms (Q96 ++ [(H93.size + 1)])) H96 H96 := Mo.refl _ _
            have nx90 := NxK.refl Q96 H96.size
            have nx91 := Nx.refl (H93.size + 1) H96.size
            refine LH.take 6 (by kernel_rfl) rfl (by kernel_rfl) (by kernel_rfl) (by kernel_rfl) (fun Hq hq => Y.assign rfl rfl) (Wd.u rfl) rfl rfl hq19 ?_
            refine LH.done (by kernel_rfl) ?_
            refine QN.sub (hK22 (Q96, g96, (Di.lay (paths.getD k []) ⟨false, List.replicate n 0⟩).2, n, (Di.lay (paths.getD k []) ⟨false, List.replicate n 0⟩).1) _ ?_) ⟨(iv (by omega)), (iv (by omega)), rfl, rfl, rfl, (iv (by omega)), (iv (by omega)), (iv (by omega)), (iv (by omega)), (iv (by omega)), trivial⟩
            exact ⟨hf, (hS.lay (paths.getD k []) ⟨false, List.replicate n 0⟩).mono (by simp only [List.length_replicate]; omega), hF.lay hk5 ⟨false, List.replicate n 0⟩ (by simp [List.length_replicate]), by omega, nx88, hcm22⟩
          ·
            refine LO.z rfl (Z.makew (n) ((0 : UInt8)) rfl inf25 Tryd.zeroValue5 rfl fB_len fB_one rfl rfl (by first | rfl | omega) (by omega) (by omega)) (Wd.u rfl) rfl rfl (fun v95 H95 r95 => ?_)
            obtain ⟨ow95, hs95, ob95, hH95⟩ := r95
            have hzs95 : H95.size = H55.size + 1 := by rw [hH95]; simp
            have df92 := (DF.new (bf_mx.mono hm0.size) : DF _ (H55.size + 1))
            have df93 := (DF.new (bf_hl.mono hm0.size) : DF _ (H55.size + 1))
            have dj94 : Dj kh (H55.size + 1) := Dj.new ow34.le
            have dj95 : DL (H55.size + 1) Ki := DL.newK hf.bk
            have nx96 : Nx 0 H0.size (H55.size + 1) := Nx.new hm0.size
            have nx97 : Nx 0 H34.size (H55.size + 1) := Nx.new hlm1.size
            have nx98 : Nx 0 H55.size (H55.size + 1) := Nx.new hcm22.size
            have nx99 : Nx 0 H55.size (H55.size + 1) := Nx.new hq19.size
            replace mx := mx.nw hs95
            replace hl := hl.nw hs95
            replace ow34 := ow34.nw hs95
            replace hf := hf.nw hs95
            replace hm0 := hm0.tr hs95
            replace hlm1 := hlm1.trN hs95
            replace hcm22 := hcm22.trN hs95
            replace hq19 := hq19.trN hs95
            have hz18 := hs95.size
            obtain ⟨s95, rfl⟩ : ∃ s : SV, v95 = s.v := ⟨toSV v95, ow95.sv.symm⟩
            refine ⟨.inr hq19, LH.narrow (SH2 := fun Hq => Mo (Ms (Ki ++ [(H55.size + 1)])) H95 Hq) (fun Hq hq => hq19.trL hq (MIL.app (MIL.ofK (nx67) (by intro k hk; simp [hk])) (MIL.cons (MI.app MI.z (nx99) (Nat.le_refl _)) MIL.nil))) ?_⟩
            have hq19 : Mo (Ms (Ki ++ [(H55.size + 1)])) H95 H95 := Mo.refl _ _
            have nx100 := NxK.refl Ki H95.size
            have nx101 := Nx.refl (H55.size + 1) H95.size
            refine LH.one (i := 2) (by kernel_rfl) ?_
            -- call selvage/selvagelaw2.path
            refine LO.call rfl rfl Tryd.call22 rfl (Wd.u rfl) rfl rfl (path_ct (k : Int) w0 _ (by omega)) (fun v93 H93 r93 => ?_)
            obtain ⟨rfl, hs93⟩ := r93
            replace mx := mx.nw hs93
            replace hl := hl.nw hs93
            replace ow34 := ow34.nw hs93
            replace hf := hf.nw hs93
            replace ow95 := ow95.nw hs93
            replace hm0 := hm0.tr hs93
            replace hlm1 := hlm1.trN hs93
            replace hcm22 := hcm22.trN hs93
            replace hq19 := hq19.trN hs93
            have hz19 := hs93.size
            rw [pathN_nat hk5]
            refine ⟨.inr hq19, LH.narrow (SH2 := fun Hq => Mo (Ms (Ki ++ [(H55.size + 1)])) H93 Hq) (fun Hq hq => hq19.trL hq (MIL.app (MIL.ofK (nx100) (by intro k hk; simp [hk])) (MIL.cons (MI.app (MI.root (by simp)) (nx101) (Nat.le_refl _)) MIL.nil))) ?_⟩
            have hq19 : Mo (Ms (Ki ++ [(H55.size + 1)])) H93 H93 := Mo.refl _ _
            have nx102 := NxK.refl Ki H93.size
            have nx103 := Nx.refl (H55.size + 1) H93.size
            refine LH.one (i := 5) (by kernel_rfl) ?_
            -- call (*selvage/simfs.FS).Write
            refine LO.call rfl rfl Tryd.call17 rfl (Wd.u rfl) rfl rfl (write_ct mx_ Ki gi b25 Di (paths.getD k []) s95 (List.replicate n 0) _ w0 _ hf mx (bf_mx.mono (by omega)) (df8) ow95.rd (BF.of ow95.le) (DFL.of (dj95)) (by have := path_len5 hk5; omega) (hS.bd (by omega)) (by rw [List.length_replicate]; omega)) (fun v96 H96 r96 => ?_)
            have ql104 := ow34.le
            have ql105 := hf.bk
            have ql106 := ow95.le
            obtain ⟨Q96, g96, rfl, hf, hkd96, hs96⟩ := r96
            have df107 := DFL.appK (df8) (bf_mx.mono hm0.size) hkd96
            have df108 := DFL.appK (df9) (bf_hl.mono hm0.size) hkd96
            have dj109 : DL kh Q96 := DL.appK (dj14) ql104 hkd96
            have dj110 : DL (H55.size + 1) Q96 := DL.appK (dj95) ql106 hkd96
            have nx111 : NxK [] H0.size Q96 := NxK.tr (nx10) hkd96 hm0.size
            have nx112 : NxK Q25 H34.size Q96 := NxK.tr (nx15) hkd96 hlm1.size
            have nx113 : NxK Ki H55.size Q96 := NxK.tr (nx_hcm22_hf) hkd96 hcm22.size
            have nx114 : NxK Ki H93.size Q96 := NxK.tr (nx102) hkd96 hq19.size
            replace mx := mx.upL hs96 (df8)
            replace hl := hl.upL hs96 (df9)
            replace ow34 := ow34.upL hs96 (dj14)
            replace ow95 := ow95.upL hs96 (dj95)
            replace hm0 := (Mo.trL (ks := []) (hm0.mdn []) hs96 (MIL.ofK0 (nx10))).nil
            replace hlm1 := hlm1.trL hs96 (MIL.ofK (nx15) (by intro k hk; simp [hk]))
            replace hcm22 := hcm22.trL hs96 (MIL.ofK (nx_hcm22_hf) (by intro k hk; simp [hk]))
            replace hq19 := hq19.trL hs96 (MIL.ofK (nx102) (by intro k hk; simp [hk]))
            have hz20 := hs96.size
            have hbk_hf := hf.bk
            refine ⟨.inr hq19, LH.narrow (SH2 := fun Hq => Mo (Ms (Q96 ++ [(H55.size + 1)])) H96 Hq) (fun Hq hq => hq19.trL hq (MIL.app (MIL.ofK (nx114) (by intro k hk; simp [hk])) (MIL.cons (MI.app (MI.root (by simp)) (nx103) (Nat.le_refl _)) MIL.nil))) ?_⟩
            have hq19 : Mo (Ms (Q96 ++ [(H55.size + 1)])) H96 H96 := Mo.refl _ _
            have nx115 := NxK.refl Q96 H96.size
            have nx116 := Nx.refl (H55.size + 1) H96.size
            refine LH.take 6 (by kernel_rfl) rfl (by kernel_rfl) (by kernel_rfl) (by kernel_rfl) (fun Hq hq => Y.assign rfl rfl) (Wd.u rfl) rfl rfl hq19 ?_
            refine LH.done (by kernel_rfl) ?_
            refine QN.sub (hK22 (Q96, g96, (Di.lay (paths.getD k []) ⟨false, List.replicate n 0⟩).2, n, (Di.lay (paths.getD k []) ⟨false, List.replicate n 0⟩).1) _ ?_) ⟨(iv (by omega)), (iv (by omega)), rfl, rfl, rfl, (iv (by omega)), (iv (by omega)), (iv (by omega)), (iv (by omega)), (iv (by omega)), trivial⟩
            exact ⟨hf, (hS.lay (paths.getD k []) ⟨false, List.replicate n 0⟩).mono (by simp only [List.length_replicate]; omega), hF.lay hk5 ⟨false, List.replicate n 0⟩ (by simp [List.length_replicate]), by omega, nx113, hcm22⟩
      ·
        rintro ⟨Ka, ga, Da, want, r⟩ Hcutc78 hIcutc78
        obtain ⟨hf, hSa, hcase, hwn, nxl_hf, hlmcutc78⟩ := hIcutc78
        have df117 := DFL.appK (df8) (bf_mx.mono hm0.size) nxl_hf
        have df118 := DFL.appK (df9) (bf_hl.mono hm0.size) nxl_hf
        have dj119 : DL kh Ka := DL.appK (dj14) ow34.le nxl_hf
        have nx120 : NxK [] H0.size Ka := NxK.tr (nx10) nxl_hf hm0.size
        have nx121 : NxK Q25 H34.size Ka := NxK.tr (nx15) nxl_hf hlm1.size
        replace mx := mx.upL hlmcutc78 (df8)
        replace hl := hl.upL hlmcutc78 (df9)
        replace ow34 := ow34.upL hlmcutc78 (dj14)
        replace hm0 := (Mo.trL (ks := []) (hm0.mdn []) hlmcutc78 (MIL.ofK0 (nx10))).nil
        replace hlm1 := hlm1.trL hlmcutc78 (MIL.ofK (nx15) (by intro k hk; simp [hk]))
        have hz21 := hlmcutc78.size
        have hbk_hf := hf.bk
        have nx122 := nxl_hf
        refine CW.cut (fun (hv2 : (List Nat)) => [(0, .int .i64 (c : Int)), (1, .int .i64 (m : Int)), (2, s2.v), (7, ptr b25), (9, s34.v), (10, .int .i64 (i : Int))])
          (fun (hv2 : (List Nat)) (H : Heap) => (PDk Ka ga H b25 Da) ∧ (Ow kh 3 H fNi 1 s34.v hv2) ∧ (Fu c m hv2 Da) ∧ (∀ q, hv2.getD q 0 ≤ 300) ∧ (NxK Ka Hcutc78.size Ka) ∧ (Nx kh Hcutc78.size kh) ∧ (DL kh Ka) ∧ Mo (Ms (Ka ++ [kh])) Hcutc78 H) (fun K25 hK25 hE25 => ?_) ?_
        ·
          have hcm25 : Mo (Ms (Ka ++ [kh])) Hcutc78 Hcutc78 := Mo.refl _ _
          have nx_hcm25_hf := NxK.refl Ka Hcutc78.size
          have nx_hcm25_ow34 := Nx.refl kh Hcutc78.size
          refine CW.block (fun K26 hK26 hX26 hE26 => ?_)
          refine CW.seq (fun K27 hK27 hE27 => ?_)
          refine CW.region ?_
          refine LR.v (Y.move rfl rfl) (Wd.u rfl) rfl rfl ?_
          refine LR.v (Y.move rfl rfl) (Wd.u rfl) rfl rfl ?_
          refine LR.v (Y.gtr rfl rfl rfl) (Wd.u rfl) rfl rfl ?_
          refine LR.v (Y.assign rfl rfl) (Wd.u rfl) rfl rfl ?_
          refine LR.nil ?_
          refine hK27 _ _ ?_
          refine CW.condp rfl (fun c101 => ?_) (fun c101 => ?_)
          ·
            have hr5 : r = 5 := by rcases hcase with h | h | h <;> omega
            have hFF : Fu c m hv Da := by rcases hcase with h | h | h <;> first | exact h.2.2 | omega
            refine CW.seq (fun K28 hK28 hE28 => ?_)
            refine CW.region ?_
            refine LR.v (Y.move rfl rfl) (Wd.u rfl) rfl rfl ?_
            refine LR.v ((Y.neq rfl rfl rfl).isF ((fun h => h (by omega)))) (Wd.u rfl) rfl rfl ?_
            refine LR.nil ?_
            refine hK28 _ _ ?_
            refine CW.cond_f rfl ?_
            refine CW.skip ?_
            refine hK26 _ _ ?_
            refine QN.sub (hK25 (hv) _ ?_) ⟨(iv (by omega)), (iv (by omega)), rfl, rfl, rfl, (iv (by omega)), trivial⟩
            exact ⟨hf, ow34, hFF, hb, nx_hcm25_hf, nx_hcm25_ow34, dj119, hcm25⟩
          ·
            have hbk2 := hb k
            have hgk := getk hU hk5
            refine CW.seq (fun K29 hK29 hE29 => ?_)
            refine CW.region ?_
            refine LR.v (Y.move rfl rfl) (Wd.u rfl) rfl rfl ?_
            refine LR.v (Y.move rfl rfl) (Wd.u rfl) rfl rfl ?_
            refine LR.v (Y.move rfl rfl) (Wd.u rfl) rfl rfl ?_
            refine LR.v (Y.owAddr ow34 (k) rfl Tryd.runUnderlying35 Tryd.sizeOf3 rfl rfl (by first | rfl | omega) (by rw [hl5]; omega)) (Wd.u rfl) rfl rfl ?_
            refine LR.v (Y.cast (v2 := .int .i64 ((hv.getD k 0 : Nat) : Int)) (Y.load1 (ow34.pt (j := k) (by rw [hl5]; omega)) rfl Tryd.isAgg3 rfl) (by rw [gd5 (by rw [hl5]; omega)])) (Wd.u rfl) rfl rfl ?_
            refine LR.v (Y.subi rfl rfl rfl (by omega)) (Wd.u rfl) rfl rfl ?_
            refine LR.v (Y.move rfl rfl) (Wd.u rfl) rfl rfl ?_
            refine LR.v (Y.addi rfl rfl rfl (by omega)) (Wd.u rfl) rfl rfl ?_
            refine LR.v (Y.move rfl rfl) (Wd.u rfl) rfl rfl ?_
            refine LR.v (Y.gtr rfl rfl rfl) (Wd.u rfl) rfl rfl ?_
            refine LR.v (Y.assign rfl rfl) (Wd.u rfl) rfl rfl ?_
            refine LR.nil ?_
            refine hK29 _ _ ?_
            refine CW.condp rfl (fun c107 => ?_) (fun c107 => ?_)
            ·
              have hr12 : r = 12 := by rcases hcase with h | h | h <;> omega
              have hFF : Fu c m hv Da := by rcases hcase with h | h | h <;> first | exact h.2.2.2 | omega
              refine CW.seq (fun K30 hK30 hE30 => ?_)
              refine CW.region ?_
              refine LR.v (Y.move rfl rfl) (Wd.u rfl) rfl rfl ?_
              refine LR.v ((Y.neq rfl rfl rfl).isF ((fun h => h (by omega)))) (Wd.u rfl) rfl rfl ?_
              refine LR.nil ?_
              refine hK30 _ _ ?_
              refine CW.cond_f rfl ?_
              refine CW.skip ?_
              refine hK26 _ _ ?_
              refine QN.sub (hK25 (hv) _ ?_) ⟨(iv (by omega)), (iv (by omega)), rfl, rfl, rfl, (iv (by omega)), trivial⟩
              exact ⟨hf, ow34, hFF, hb, nx_hcm25_hf, nx_hcm25_ow34, dj119, hcm25⟩
            ·
              have hr0 : r = 0 := by rcases hcase with h | h | h <;> omega
              have hFF : Fu c m (hv.set k want) Da := by rcases hcase with h | h | h <;> first | exact h.2.2.2 | omega
              refine CW.seq (fun K31 hK31 hE31 => ?_)
              refine CW.region ?_
              refine LR.v (Y.move rfl rfl) (Wd.u rfl) rfl rfl ?_
              refine LR.v ((Y.neq rfl rfl rfl).isF ((fun h => h (by omega)))) (Wd.u rfl) rfl rfl ?_
              refine LR.v (Y.assign rfl rfl) (Wd.u rfl) rfl rfl ?_
              refine LR.nil ?_
              refine hK31 _ _ ?_
              refine CW.cond_f rfl ?_
              refine CW.region ?_
              refine LR.v (Y.move rfl rfl) (Wd.u rfl) rfl rfl ?_
              refine LR.v (Y.move rfl rfl) (Wd.u rfl) rfl rfl ?_
              refine LR.v (Y.move rfl rfl) (Wd.u rfl) rfl rfl ?_
              refine LR.v (Y.owAddr ow34 (k) rfl Tryd.runUnderlying35 Tryd.sizeOf3 rfl rfl (by first | rfl | omega) (by rw [hl5]; omega)) (Wd.u rfl) rfl rfl ?_
              refine LR.s (S.oww ow34 (k) 0 (want) rfl rfl rfl rfl Tryd.sizeOf3 (by rw [hl5]; omega) (by decide) (rfl)) (Wd.u rfl) rfl (fun H20_4 r20_4 => ?_)
              obtain ⟨ow34, hs20_4⟩ := r20_4
              replace hs20_4 := hs20_4.md
              replace mx := mx.upL hs20_4 (DFL.cons df11 DFL.nil)
              replace hl := hl.upL hs20_4 (DFL.cons df12 DFL.nil)
              replace hf := hf.upL hs20_4 (DKL.cons dj119 DKL.nil)
              replace hm0 := (Mo.trL (ks := []) (hm0.mdn []) hs20_4 (MIL.cons (MI.app MI.z (nx13) (Nat.le_refl _)) MIL.nil)).nil
              replace hlm1 := hlm1.trL hs20_4 (MIL.cons (MI.app (MI.root (by simp)) (nx16) (Nat.le_refl _)) MIL.nil)
              replace hcm25 := hcm25.trL hs20_4 (MIL.cons (MI.app (MI.root (by simp)) (nx_hcm25_ow34) (Nat.le_refl _)) MIL.nil)
              have hz22 := hs20_4.size
              refine LR.nil ?_
              refine hK26 _ _ ?_
              refine QN.sub (hK25 (hv.set k want) _ ?_) ⟨(iv (by omega)), (iv (by omega)), rfl, rfl, rfl, (iv (by omega)), trivial⟩
              exact ⟨hf, ow34, hFF, bset hb (by omega), nx_hcm25_hf, nx_hcm25_ow34, dj119, hcm25⟩
        ·
          intro hv2 Hcut2 hIcut2
          obtain ⟨hf, ow34, hF2, hbb, nxl_hf, nxl_ow34, dj_hf_ow34, hlmcut2⟩ := hIcut2
          have df123 := DFL.appK (df117) (bf_mx.mono hm0.size) nxl_hf
          have df124 := DFL.appK (df118) (bf_hl.mono hm0.size) nxl_hf
          have nx125 : NxK [] H0.size Ka := NxK.tr (nx120) nxl_hf hm0.size
          have nx126 : NxK Q25 H34.size Ka := NxK.tr (nx121) nxl_hf hlm1.size
          have df127 := DF.app (df11) (bf_mx.mono hm0.size) nxl_ow34
          have df128 := DF.app (df12) (bf_hl.mono hm0.size) nxl_ow34
          have nx129 : Nx 0 H0.size kh := Nx.tr (nx13) nxl_ow34 hm0.size
          have nx130 : Nx (H25.size + 1) H34.size kh := Nx.tr (nx16) nxl_ow34 hlm1.size
          replace mx := mx.upL hlmcut2 (DFL.app df117 (DFL.cons df11 DFL.nil))
          replace hl := hl.upL hlmcut2 (DFL.app df118 (DFL.cons df12 DFL.nil))
          replace hm0 := (Mo.trL (ks := []) (hm0.mdn []) hlmcut2 (MIL.app (MIL.ofK0 (nx120)) (MIL.cons (MI.app MI.z (nx13) (Nat.le_refl _)) MIL.nil))).nil
          replace hlm1 := hlm1.trL hlmcut2 (MIL.app (MIL.ofK (nx121) (by intro k hk; simp [hk])) (MIL.cons (MI.app (MI.root (by simp)) (nx16) (Nat.le_refl _)) MIL.nil))
          have hz23 := hlmcut2.size
          have hbk_hf := hf.bk
          have hle_ow34 := ow34.le
          have dj131 := dj_hf_ow34
          have nx132 := nxl_hf
          have nx133 := nxl_ow34
          have hl6 := hF2.hl
          have hd0 := hbb 0
          have hd1 := hbb 1
          have hd2 := hbb 2
          have hd3 := hbb 3
          have hd4 := hbb 4
          have hU2 := hF2.used
          refine CW.seq (fun K32 hK32 hE32 => ?_)
          refine CW.region_any (fun Hq => Nw Hcut2 Hq) [] rfl ?_
          have hqs := Nw.refl Hcut2
          refine LH.take 0 (by kernel_rfl) rfl (by kernel_rfl) (by kernel_rfl) (by kernel_rfl) (fun Hq hq => Y.move rfl rfl) (Wd.u rfl) rfl rfl hqs ?_
          refine LH.take 2 (by kernel_rfl) rfl (by kernel_rfl) (by kernel_rfl) (by kernel_rfl) (fun Hq hq => Y.move rfl rfl) (Wd.u rfl) rfl rfl hqs ?_
          refine LH.take 3 (by kernel_rfl) rfl (by kernel_rfl) (by kernel_rfl) (by kernel_rfl) (fun Hq hq => Y.owAddr (ow34.nw hq) (0) rfl Tryd.runUnderlying35 Tryd.sizeOf3 rfl rfl (by first | rfl | omega) (by rw [hl6]; decide)) (Wd.u rfl) rfl rfl hqs ?_
          refine LH.take 4 (by kernel_rfl) rfl (by kernel_rfl) (by kernel_rfl) (by kernel_rfl) (fun Hq hq => Y.cast (v2 := .int .i64 ((hv2.getD 0 0 : Nat) : Int)) (Y.load1 ((ow34.pt (j := 0) (by rw [hl6]; decide)).nw hq) rfl Tryd.isAgg3 rfl) (by rw [gd5 (by rw [hl6]; decide)])) (Wd.u rfl) rfl rfl hqs ?_
          refine LH.take 5 (by kernel_rfl) rfl (by kernel_rfl) (by kernel_rfl) (by kernel_rfl) (fun Hq hq => Y.move rfl rfl) (Wd.u rfl) rfl rfl hqs ?_
          refine LH.take 6 (by kernel_rfl) rfl (by kernel_rfl) (by kernel_rfl) (by kernel_rfl) (fun Hq hq => Y.owAddr (ow34.nw hq) (1) rfl Tryd.runUnderlying35 Tryd.sizeOf3 rfl rfl (by first | rfl | omega) (by rw [hl6]; decide)) (Wd.u rfl) rfl rfl hqs ?_
          refine LH.take 7 (by kernel_rfl) rfl (by kernel_rfl) (by kernel_rfl) (by kernel_rfl) (fun Hq hq => Y.cast (v2 := .int .i64 ((hv2.getD 1 0 : Nat) : Int)) (Y.load1 ((ow34.pt (j := 1) (by rw [hl6]; decide)).nw hq) rfl Tryd.isAgg3 rfl) (by rw [gd5 (by rw [hl6]; decide)])) (Wd.u rfl) rfl rfl hqs ?_
          refine LH.take 8 (by kernel_rfl) rfl (by kernel_rfl) (by kernel_rfl) (by kernel_rfl) (fun Hq hq => Y.cast (v2 := .int .i64 ((hv2.getD 0 0 + hv2.getD 1 0 : Nat) : Int)) (Y.addi rfl rfl rfl (by omega)) (ivv (by omega))) (Wd.u rfl) rfl rfl hqs ?_
          refine LH.take 9 (by kernel_rfl) rfl (by kernel_rfl) (by kernel_rfl) (by kernel_rfl) (fun Hq hq => Y.move rfl rfl) (Wd.u rfl) rfl rfl hqs ?_
          refine LH.take 10 (by kernel_rfl) rfl (by kernel_rfl) (by kernel_rfl) (by kernel_rfl) (fun Hq hq => Y.owAddr (ow34.nw hq) (2) rfl Tryd.runUnderlying35 Tryd.sizeOf3 rfl rfl (by first | rfl | omega) (by rw [hl6]; decide)) (Wd.u rfl) rfl rfl hqs ?_
          refine LH.take 11 (by kernel_rfl) rfl (by kernel_rfl) (by kernel_rfl) (by kernel_rfl) (fun Hq hq => Y.cast (v2 := .int .i64 ((hv2.getD 2 0 : Nat) : Int)) (Y.load1 ((ow34.pt (j := 2) (by rw [hl6]; decide)).nw hq) rfl Tryd.isAgg3 rfl) (by rw [gd5 (by rw [hl6]; decide)])) (Wd.u rfl) rfl rfl hqs ?_
          refine LH.take 12 (by kernel_rfl) rfl (by kernel_rfl) (by kernel_rfl) (by kernel_rfl) (fun Hq hq => Y.cast (v2 := .int .i64 ((hv2.getD 0 0 + hv2.getD 1 0 + hv2.getD 2 0 : Nat) : Int)) (Y.addi rfl rfl rfl (by omega)) (ivv (by omega))) (Wd.u rfl) rfl rfl hqs ?_
          refine LH.take 13 (by kernel_rfl) rfl (by kernel_rfl) (by kernel_rfl) (by kernel_rfl) (fun Hq hq => Y.move rfl rfl) (Wd.u rfl) rfl rfl hqs ?_
          refine LH.take 14 (by kernel_rfl) rfl (by kernel_rfl) (by kernel_rfl) (by kernel_rfl) (fun Hq hq => Y.owAddr (ow34.nw hq) (3) rfl Tryd.runUnderlying35 Tryd.sizeOf3 rfl rfl (by first | rfl | omega) (by rw [hl6]; decide)) (Wd.u rfl) rfl rfl hqs ?_
          refine LH.take 15 (by kernel_rfl) rfl (by kernel_rfl) (by kernel_rfl) (by kernel_rfl) (fun Hq hq => Y.cast (v2 := .int .i64 ((hv2.getD 3 0 : Nat) : Int)) (Y.load1 ((ow34.pt (j := 3) (by rw [hl6]; decide)).nw hq) rfl Tryd.isAgg3 rfl) (by rw [gd5 (by rw [hl6]; decide)])) (Wd.u rfl) rfl rfl hqs ?_
          refine LH.take 16 (by kernel_rfl) rfl (by kernel_rfl) (by kernel_rfl) (by kernel_rfl) (fun Hq hq => Y.cast (v2 := .int .i64 ((hv2.getD 0 0 + hv2.getD 1 0 + hv2.getD 2 0 + hv2.getD 3 0 : Nat) : Int)) (Y.addi rfl rfl rfl (by omega)) (ivv (by omega))) (Wd.u rfl) rfl rfl hqs ?_
          refine LH.take 17 (by kernel_rfl) rfl (by kernel_rfl) (by kernel_rfl) (by kernel_rfl) (fun Hq hq => Y.move rfl rfl) (Wd.u rfl) rfl rfl hqs ?_
          refine LH.take 18 (by kernel_rfl) rfl (by kernel_rfl) (by kernel_rfl) (by kernel_rfl) (fun Hq hq => Y.owAddr (ow34.nw hq) (4) rfl Tryd.runUnderlying35 Tryd.sizeOf3 rfl rfl (by first | rfl | omega) (by rw [hl6]; decide)) (Wd.u rfl) rfl rfl hqs ?_
          refine LH.take 19 (by kernel_rfl) rfl (by kernel_rfl) (by kernel_rfl) (by kernel_rfl) (fun Hq hq => Y.cast (v2 := .int .i64 ((hv2.getD 4 0 : Nat) : Int)) (Y.load1 ((ow34.pt (j := 4) (by rw [hl6]; decide)).nw hq) rfl Tryd.isAgg3 rfl) (by rw [gd5 (by rw [hl6]; decide)])) (Wd.u rfl) rfl rfl hqs ?_
          refine LH.take 20 (by kernel_rfl) rfl (by kernel_rfl) (by kernel_rfl) (by kernel_rfl) (fun Hq hq => Y.cast (v2 := .int .i64 (Da.used : Int)) (Y.addi rfl rfl rfl (by omega)) (by rw [hU2]; exact ivv (by omega))) (Wd.u rfl) rfl rfl hqs ?_
          refine LH.one (i := 1) (by kernel_rfl) ?_
          -- call (*selvage/simfs.FS).Used
          refine LO.call rfl rfl Tryd.call19 rfl (Wd.u rfl) rfl rfl (used_ct Ka ga b25 Da w0 _ hf hSa.an (by rw [hU2]; omega)) (fun v124 H124 r124 => ?_)
          obtain ⟨rfl, hs124⟩ := r124
          replace mx := mx.nw hs124
          replace hl := hl.nw hs124
          replace ow34 := ow34.nw hs124
          replace hf := hf.nw hs124
          replace hm0 := hm0.tr hs124
          replace hlm1 := hlm1.trN hs124
          have hz24 := hs124.size
          have hq124 := hqs.tr hs124
          refine ⟨.inr hq124, LH.narrow (SH2 := fun Hq => Nw H124 Hq) (fun Hq hq => hq124.tr hq) ?_⟩
          have hqn124 := Nw.refl H124
          refine LH.take 21 (by kernel_rfl) rfl (by kernel_rfl) (by kernel_rfl) (by kernel_rfl) (fun Hq hq => (Y.neq rfl rfl rfl).isF ((fun h => h rfl))) (Wd.u rfl) rfl rfl hqn124 ?_
          refine LH.done (by kernel_rfl) ?_
          have hqe := hqn124
          refine hK32 _ _ ?_
          refine CW.cond_f rfl ?_
          refine CW.skip ?_
          refine hK16 _ _ ?_
          refine hK15 _ _ ?_
          refine CW.region ?_
          refine LR.v (Y.move rfl rfl) (Wd.u rfl) rfl rfl ?_
          refine LR.v (Y.addi rfl rfl rfl (by omega)) (Wd.u rfl) rfl rfl ?_
          refine LR.v (Y.assign rfl rfl) (Wd.u rfl) rfl rfl ?_
          refine LR.nil ?_
          refine QN.sub (hN12 (i + 1, Ka, ga, Da, hv2, kh) _ ?_ ?_) ⟨(iv (by omega)), (iv (by omega)), rfl, rfl, rfl, (iv (by omega)), trivial⟩
          · exact ⟨hf, ow34, (by omega), hF2, hSa.mono (by omega), hbb, nx126, nx130, dj131, hlm1⟩
          · first | omega | (simp only; omega) | (simp; omega)
    ·
      refine CW.exit (hE13 (.exit 0) nofun _ _ (hE12 (.exit 0) nofun _ _ (hX11 _ _ ?_)))
      refine hK9 _ _ ?_
      refine CW.seq (fun K33 hK33 hE33 => ?_)
      refine CW.region ?_
      refine LR.v (Y.assign rfl rfl) (Wd.u rfl) rfl rfl ?_
      refine LR.nil ?_
      refine hK33 _ _ ?_
      refine CW.ret (hret .ret (.inr rfl) _ _ _ (res1 rfl rfl) ?_)
      exact ⟨rfl, hm0⟩
  ·
    refine LR.gs rfl rfl rfl rfl rfl rfl ?_
    refine LR.gs rfl rfl rfl rfl rfl rfl ?_
    refine LR.v (Y.pick_f rfl rfl rfl) (Wd.u rfl) rfl rfl ?_
    refine LR.nil ?_
    refine hK14 _ _ ?_
    refine CW.cond_f rfl ?_
    refine CW.exit (hE13 (.exit 0) nofun _ _ (hE12 (.exit 0) nofun _ _ (hX11 _ _ ?_)))
    refine hK9 _ _ ?_
    refine CW.seq (fun K34 hK34 hE34 => ?_)
    refine CW.region ?_
    refine LR.v (Y.assign rfl rfl) (Wd.u rfl) rfl rfl ?_
    refine LR.nil ?_
    refine hK34 _ _ ?_
    refine CW.ret (hret .ret (.inr rfl) _ _ _ (res1 rfl rfl) ?_)
    exact ⟨rfl, hm0⟩

end Go.Proofs.YtfbfjhppppoilaaDoor.SimYG
