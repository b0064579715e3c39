/-
  Files moved elsewhere as they are: the walk.
-/
import Derived.Test.YtclhnkmkejijjaaRenQ
namespace Go.Proofs.Ytclhnkmkejijjaa.RenR
open Go.Proofs.Ytclhnkmkejijjaa.E Go.RowKit Go.Proofs.Ytclhnkmkejijjaa.RenA Go.Proofs.Ytclhnkmkejijjaa.RenB Go.Proofs.Ytclhnkmkejijjaa.RenC Go.Proofs.Ytclhnkmkejijjaa.RenD Go.Proofs.Ytclhnkmkejijjaa.RenE Go.Proofs.Ytclhnkmkejijjaa.RenF Go.Proofs.Ytclhnkmkejijjaa.RenG Go.Proofs.Ytclhnkmkejijjaa.RenH Go.Proofs.Ytclhnkmkejijjaa.RenI Go.Proofs.Ytclhnkmkejijjaa.RenL Go.Proofs.Ytclhnkmkejijjaa.RenM Go.Proofs.Ytclhnkmkejijjaa.RenN Go.Proofs.Ytclhnkmkejijjaa.RenO Go.Proofs.Ytclhnkmkejijjaa.RenQ
set_option maxRecDepth 20000
set_option linter.unusedVariables false
set_option linter.unusedSimpArgs false
set_option linter.unusedSectionVars false
set_option maxRecDepth 100000 in
theorem inf22 : Inf Try.prog 22 5 1 1 := ⟨Try.underlying22, _, _, rfl, rfl, rfl, rfl, rfl⟩
set_option maxRecDepth 100000 in
theorem inf26 : Inf Try.prog 26 35 3 48 := ⟨Try.underlying26, _, _, rfl, rfl, rfl, rfl, rfl⟩
set_option maxRecDepth 100000 in
theorem inf43 : Inf Try.prog 43 4 1 1 := ⟨Try.underlying43, _, _, rfl, rfl, rfl, rfl, rfl⟩

theorem snocFl {G G2 : Nat → Prop} {H : Heap} {l : List Fl} {x : Fl} (h : ∀ y ∈ l, FlR G H y) (hg : ∀ b, G b → G2 b) (hx : FlR G2 H x) : ∀ y ∈ l ++ [x], FlR G2 H y := by
  intro y hy
  rcases List.mem_append.1 hy with hy | hy
  · exact (h y hy).imp (fun b _ e => hg b e)
  · rw [List.mem_singleton] at hy; rw [hy]; exact hx
theorem DF.or1 {G : Nat → Prop} {kB k : Nat} (h : DF G k) (hB : Dj k kB) : DF (fun b => G b ∨ b + 1 = kB) k := by
  rintro b (e | e) h2
  · exact h b e h2
  · exact hB b h2 e
theorem BF.or1 {G : Nat → Prop} {n kB : Nat} (h : BF G n) (h1 : kB ≤ n) : BF (fun b => G b ∨ b + 1 = kB) n := by
  rintro b (e | e)
  · exact h b e
  · omega
theorem ra_succ (m : Nat) (f : Nat → Fc) : (List.range (m + 1)).map f = (List.range m).map f ++ [f m] := by rw [List.range_succ, List.map_append]; rfl
theorem map_len {l : List Fl} {m : Nat} {f : Nat → Fc} (h : l.map Fl.c = (List.range m).map f) : l.length = m := by have := congrArg List.length h; simpa using this
theorem path_len (dir : List UInt8) (fl : List Bool) (i : Nat) : (pathB dir fl i).length ≤ dir.length + 6 := by
  unfold pathB
  split
  · rw [pz_len]; exact Nat.le_refl _
  · rw [nm_len]; omega
theorem mem_b {lb : List Fl} {n : Nat} {dir : List UInt8} {fl : List Bool} (h : lb.map Fl.c = (List.range n).map (bC dir fl)) (hd : dir.length ≤ 30) : ∀ x ∈ lb, x.p.length ≤ 1099511627776 := by
  intro x hx
  have : x.c ∈ lb.map Fl.c := List.mem_map.2 ⟨x, hx, rfl⟩
  rw [h] at this
  obtain ⟨j, _, e⟩ := List.mem_map.1 this
  rw [show x.p = pathB dir fl j from (congrArg Prod.fst e).symm]
  have := path_len dir fl j
  omega
theorem mem_a {la : List Fl} {n : Nat} (h : la.map Fl.c = (List.range n).map aC) : ∀ x ∈ la, x.p.length ≤ 9223372036854775806 ∧ x.d.length ≤ 1048576 := by
  intro x hx
  have : x.c ∈ la.map Fl.c := List.mem_map.2 ⟨x, hx, rfl⟩
  rw [h] at this
  obtain ⟨j, _, e⟩ := List.mem_map.1 this
  rw [show x.p = nmP j from (congrArg Prod.fst e).symm, show x.d = dat j from (congrArg (fun z : Fc => z.2.2) e).symm]
  simp [nmP, dat]
theorem get_a {la : List Fl} {n i : Nat} (h : la.map Fl.c = (List.range n).map aC) (hi : i < la.length) : la[i].p = nmP i := by
  have h1 : (la.map Fl.c)[i]'(by simpa using hi) = ((List.range n).map aC)[i]'(by rw [← h]; simpa using hi) := by simp only [h]
  simp only [List.getElem_map, List.getElem_range] at h1
  exact congrArg Prod.fst h1
theorem went_succ (fl : List Bool) (i : Nat) : went fl (i + 1) = went fl i ++ if mv fl i = true then [i] else [] := rf_succ _ i
theorem mv_get {fl : List Bool} {i : Nat} (h : i < fl.length) : mv fl i = fl[i] := by simp [mv, List.getD, h]

set_option maxHeartbeats 8000000 in
theorem moves_ct (v1 : Value) (mvd : List Int) (dir : List UInt8) (n0 : Int) (w0 : World) (H0 : Heap)
    (hm : RdT H0 fI 1 v1 mvd) (hn0 : -9223372036854775808 ≤ n0 ∧ n0 ≤ 9223372036854775807) (hmw : ∀ x ∈ mvd, -9223372036854775808 ≤ x ∧ x ≤ 9223372036854775807) (hdl : dir.length ≤ 9223372036854775807) :
    Ct Try.prog w0 6 #[.int .i64 n0, v1, Str dir] H0 (fun r H2 => r = .bool true ∧ Nw H0 H2) := by
  refine Ct.enter (args := [.int .i64 n0, v1, Str dir]) Try.func6 rfl rfl rfl ?_
  intro Q0 hret
  have hm0 : Nw H0 H0 := Mo.refl _ _
  replace hm := hm.bnd
  have bf_hm := Rd.bf hm
  have hml := hm.len
  refine CW.seq (fun K1 hK1 hE1 => ?_)
  refine CW.region ?_
  refine LR.v (Y.assign rfl rfl) (Wd.u rfl) rfl rfl ?_
  refine LR.nil ?_
  refine hK1 _ _ ?_
  refine CW.seq (fun K2 hK2 hE2 => ?_)
  refine CW.seq (fun K3 hK3 hE3 => ?_)
  refine CW.region ?_
  -- call selvage/selvagelaw16.known
  refine LR.call rfl Try.call10 rfl (Wd.u rfl) rfl rfl (known_ct w0 _) (fun v16 H16 r16 => ?_)
  obtain ⟨rfl, hs16⟩ := r16
  replace hm := hm.nw hs16
  replace hm0 := hm0.tr hs16
  have hz1 := hs16.size
  refine LR.v (Y.not rfl rfl) (Wd.u rfl) rfl rfl ?_
  refine LR.nil ?_
  refine hK3 _ _ ?_
  refine CW.cond_f rfl ?_
  refine CW.skip ?_
  refine hK2 _ _ ?_
  refine CW.seq (fun K4 hK4 hE4 => ?_)
  refine CW.region ?_
  refine LR.v (Y.move rfl rfl) (Wd.u rfl) rfl rfl ?_
  -- call selvage/selvagelaw16.within
  refine LR.call rfl Try.call20 rfl (Wd.u rfl) rfl rfl (within_ct _ _ w0 _ (by decide) hn0) (fun v19 H19 r19 => ?_)
  obtain ⟨k19, rfl, hk19, hs19⟩ := r19
  replace hm := hm.nw hs19
  replace hm0 := hm0.tr hs19
  have hz2 := hs19.size
  obtain ⟨n, hn, hn1, hn2⟩ : ∃ n : Nat, n = 1 + k19 ∧ 1 ≤ n ∧ n ≤ 20 := ⟨_, rfl, by omega, by omega⟩
  refine LR.v (Y.cast (v2 := .int .i64 n) (Y.addi rfl rfl rfl (by omega)) (ivv (by omega))) (Wd.u rfl) rfl rfl ?_
  refine LR.v (Y.assign rfl rfl) (Wd.u rfl) rfl rfl ?_
  refine LR.nil ?_
  refine hK4 _ _ ?_
  refine CW.seq (fun K5 hK5 hE5 => ?_)
  refine CW.seq (fun K6 hK6 hE6 => ?_)
  refine CW.region ?_
  refine LR.v (Y.move rfl rfl) (Wd.u rfl) rfl rfl ?_
  refine LR.v (Y.slen rfl Try.runUnderlying9 rfl) (Wd.u rfl) rfl rfl ?_
  refine LR.v (Y.gtr rfl rfl rfl) (Wd.u rfl) rfl rfl ?_
  refine LR.v (Y.move rfl rfl) (Wd.u rfl) rfl rfl ?_
  refine LR.splitp (d := 24) rfl (fun g24 => ?_) (fun g24 => ?_)
  ·
    refine LR.gs rfl rfl rfl rfl rfl rfl ?_
    refine LR.gs rfl rfl rfl rfl rfl rfl ?_
    refine LR.gs rfl rfl rfl rfl rfl rfl ?_
    refine LR.gs rfl rfl rfl rfl rfl rfl ?_
    refine LR.v (Y.pick_t rfl rfl rfl) (Wd.u rfl) rfl rfl ?_
    refine LR.nil ?_
    refine hK6 _ _ ?_
    refine CW.cond_t rfl ?_
    refine CW.seq (fun K7 hK7 hE7 => ?_)
    refine CW.region ?_
    refine LR.v (Y.assign rfl rfl) (Wd.u rfl) rfl rfl ?_
    refine LR.nil ?_
    refine hK7 _ _ ?_
    refine CW.ret (hE5 .ret nofun _ _ (hret .ret (.inr rfl) _ _ _ (res1 rfl rfl) ?_))
    exact ⟨rfl, hm0⟩
  ·
    refine LR.v (Y.move rfl rfl) (Wd.g rfl rfl rfl) rfl rfl ?_
    -- call selvage/selvageref15.Names
    refine LR.call rfl Try.call21 rfl (Wd.g rfl rfl rfl) rfl rfl (names_ct dir w0 _ (by omega)) (fun v26 H26 r26 => ?_)
    obtain ⟨vn_, kn, rfl, on, hkn, hs26⟩ := r26
    have df1 := DF.app (DF.z) (bf_hm.mono hm0.size) hkn
    have nx2 : Nx 0 H0.size kn := Nx.tr (Nx.refl 0 _) hkn hm0.size
    replace hm := hm.nw hs26
    replace hm0 := hm0.tr hs26
    have hz3 := hs26.size
    have hle_on := on.le
    refine LR.v (Y.len on.rd rfl Try.runUnderlying41 rfl) (Wd.g rfl rfl rfl) rfl rfl ?_
    refine LR.v (Y.neq rfl rfl rfl) (Wd.g rfl rfl rfl) rfl rfl ?_
    refine LR.v (Y.pick_f rfl rfl rfl) (Wd.u rfl) rfl rfl ?_
    refine LR.nil ?_
    refine hK6 _ _ ?_
    refine CW.condp rfl (fun c29 => ?_) (fun c29 => ?_)
    ·
      refine CW.seq (fun K8 hK8 hE8 => ?_)
      refine CW.region ?_
      refine LR.v (Y.assign rfl rfl) (Wd.u rfl) rfl rfl ?_
      refine LR.nil ?_
      refine hK8 _ _ ?_
      refine CW.ret (hE5 .ret nofun _ _ (hret .ret (.inr rfl) _ _ _ (res1 rfl rfl) ?_))
      exact ⟨rfl, hm0⟩
    ·
      have hd30 : dir.length ≤ 30 := by omega
      have hone : One dir := One.of (by omega)
      refine CW.skip ?_
      refine hK5 _ _ ?_
      refine CW.seq (fun K9 hK9 hE9 => ?_)
      refine CW.region ?_
      refine LR.v (Y.assign rfl rfl) (Wd.u rfl) rfl rfl ?_
      refine LR.v (Y.assign rfl rfl) (Wd.u rfl) rfl rfl ?_
      refine LR.nil ?_
      refine hK9 _ _ ?_
      refine CW.seq (fun K10 hK10 hE10 => ?_)
      refine CW.region ?_
      refine LR.v (Y.move rfl rfl) (Wd.u rfl) rfl rfl ?_
      refine LR.z (Z.makew (n) (false) rfl inf43 Try.zeroValue4 rfl fO_len fO_one rfl rfl (by first | rfl | omega) (by omega) (by omega)) (Wd.u rfl) rfl rfl (fun v31 H31 r31 => ?_)
      obtain ⟨og, hs31, ob31, hH31⟩ := r31
      have hzs31 : H31.size = H26.size + 1 := by rw [hH31]; simp
      have df3 := (DF.new (bf_hm.mono hm0.size) : DF _ (H26.size + 1))
      have nx4 : Nx 0 H0.size (H26.size + 1) := Nx.new hm0.size
      replace hm := hm.nw hs31
      replace hm0 := hm0.tr hs31
      have hz4 := hs31.size
      refine LR.v (Y.assign rfl rfl) (Wd.u rfl) rfl rfl ?_
      refine LR.nil ?_
      refine hK10 _ _ ?_
      refine CW.cut (fun (fl : (List Bool)) => [(0, .int .i64 n), (2, Str dir), (7, .slice none 0 0), (8, .slice none 0 0), (9, v31)])
        (fun (fl : (List Bool)) (H : Heap) => (Ow (H26.size + 1) 4 H fO 1 v31 fl) ∧ (fl.length = n) ∧ (Nx (H26.size + 1) H31.size (H26.size + 1)) ∧ Mo (Ms [(H26.size + 1)]) H31 H) (fun K11 hK11 hE11 => ?_) ?_
      ·
        have hcm11 : Mo (Ms [(H26.size + 1)]) H31 H31 := Mo.refl _ _
        have nx_hcm11_og := Nx.refl (H26.size + 1) H31.size
        refine CW.seq (fun K12 hK12 hE12 => ?_)
        refine CW.region ?_
        refine LR.v (Y.assign rfl rfl) (Wd.u rfl) rfl rfl ?_
        refine LR.nil ?_
        refine hK12 _ _ ?_
        refine CW.block (fun K13 hK13 hX13 hE13 => ?_)
        refine CW.loop (fun (s_ : (Nat) × (List Bool)) => match s_ with | (i, fl) => [(0, .int .i64 n), (1, v1), (2, Str dir), (7, .slice none 0 0), (8, .slice none 0 0), (9, v31), (10, .int .i64 i)])
          (fun (s_ : (Nat) × (List Bool)) (H : Heap) => match s_ with | (i, fl) => (i ≤ mvd.length) ∧ (Ow (H26.size + 1) 4 H fO 1 v31 fl) ∧ (fl.length = n) ∧ (Nx (H26.size + 1) H31.size (H26.size + 1)) ∧ Mo (Ms [(H26.size + 1)]) H31 H)
          (fun (s_ : (Nat) × (List Bool)) => match s_ with | (i, fl) => mvd.length - i) (0, List.replicate n false) ⟨rfl, rfl, rfl, rfl, rfl, rfl, rfl, trivial⟩ ?_ ?_
        ·
          exact ⟨(by omega), og, by simp, Nx.refl _ _, Mo.refl _ _⟩
        rintro ⟨i, fl⟩ HL1 hI1 K14 hN14 hE14
        obtain ⟨hi, og, hfl, nxl_og, hlm1⟩ := hI1
        have df5 := DF.app (df3) (bf_hm.mono hm0.size) nxl_og
        have nx6 : Nx 0 H0.size (H26.size + 1) := Nx.tr (nx4) nxl_og hm0.size
        have nx7 : Nx (H26.size + 1) H31.size (H26.size + 1) := Nx.tr (nx_hcm11_og) nxl_og hcm11.size
        replace hm := hm.upL hlm1 (DFL.cons df3 DFL.nil)
        replace hm0 := (Mo.trL (ks := []) (hm0.mdn []) hlm1 (MIL.cons (MI.app MI.z (nx4) (Nat.le_refl _)) MIL.nil)).nil
        replace hcm11 := hcm11.trL hlm1 (MIL.cons (MI.app (MI.root (by simp)) (nx_hcm11_og) (Nat.le_refl _)) MIL.nil)
        have hz5 := hlm1.size
        have hle_og := og.le
        have nx8 := nxl_og
        refine CW.seq (fun K15 hK15 hE15 => ?_)
        refine CW.seq (fun K16 hK16 hE16 => ?_)
        refine CW.region ?_
        refine LR.v (Y.move rfl rfl) (Wd.u rfl) rfl rfl ?_
        refine LR.v (Y.move rfl rfl) (Wd.u rfl) rfl rfl ?_
        refine LR.v (Y.len hm rfl Try.runUnderlying39 rfl) (Wd.u rfl) rfl rfl ?_
        refine LR.v (Y.lss rfl rfl rfl) (Wd.u rfl) rfl rfl ?_
        refine LR.v (Y.move rfl rfl) (Wd.u rfl) rfl rfl ?_
        refine LR.splitp (d := 36) rfl (fun g36 => ?_) (fun g36 => ?_)
        ·
          refine LR.v (Y.move rfl rfl) (Wd.g rfl rfl rfl) rfl rfl ?_
          refine LR.v (Y.lss rfl rfl rfl) (Wd.g rfl rfl rfl) rfl rfl ?_
          refine LR.v (Y.pick_t rfl rfl rfl) (Wd.u rfl) rfl rfl ?_
          refine LR.nil ?_
          refine hK16 _ _ ?_
          refine CW.condp rfl (fun c39 => ?_) (fun c39 => ?_)
          ·
            refine CW.skip ?_
            refine hK15 _ _ ?_
            refine CW.seq (fun K17 hK17 hE17 => ?_)
            refine CW.block (fun K18 hK18 hX18 hE18 => ?_)
            refine CW.region ?_
            refine LR.v (Y.move rfl rfl) (Wd.u rfl) rfl rfl ?_
            refine LR.v (Y.move rfl rfl) (Wd.u rfl) rfl rfl ?_
            refine LR.v (Y.move rfl rfl) (Wd.u rfl) rfl rfl ?_
            have hil : i < mvd.length := by omega
            refine LR.e (g := fun ad => .pointer (some ad)) (Y.indexAddrF hm (i) rfl Try.runUnderlying39 Try.sizeOf3 rfl rfl (by first | rfl | omega) (by first | omega | (simp; omega) | (simp; done))) (Wd.u rfl) rfl rfl (fun ad45 pt45 => ?_)
            have bf_pt45 := bf_hm
            refine LR.v (Y.load1 pt45.pt rfl Try.isAgg3 rfl) (Wd.u rfl) rfl rfl ?_
            refine LR.v (Y.move rfl rfl) (Wd.u rfl) rfl rfl ?_
            -- call selvage/selvagelaw16.within
            refine LR.call rfl Try.call20 rfl (Wd.u rfl) rfl rfl (within_ct _ _ w0 _ (by omega) (hmw _ (List.getElem_mem hil))) (fun v48 H48 r48 => ?_)
            obtain ⟨k48, rfl, hk48, hs48⟩ := r48
            replace hm := hm.nw hs48
            replace og := og.nw hs48
            replace pt45 := pt45.nw hs48
            replace hm0 := hm0.tr hs48
            replace hcm11 := hcm11.trN hs48
            replace hlm1 := hlm1.trN hs48
            have hz6 := hs48.size
            refine LR.v (Y.owAddr og (k48) rfl Try.runUnderlying43 Try.sizeOf4 rfl rfl (by first | rfl | omega) (by first | omega | (simp; omega) | (simp; done))) (Wd.u rfl) rfl rfl ?_
            refine LR.s (S.oww og (k48) 0 (_) rfl rfl rfl rfl Try.sizeOf4 (by first | omega | (simp; omega) | (simp; done)) (by decide) (rfl)) (Wd.u rfl) rfl (fun H11_8 r11_8 => ?_)
            obtain ⟨og, hs11_8⟩ := r11_8
            replace hs11_8 := hs11_8.md
            replace hm := hm.upL hs11_8 (DFL.cons df5 DFL.nil)
            replace pt45 := pt45.upL hs11_8 (DFL.cons df5 DFL.nil)
            replace hm0 := (Mo.trL (ks := []) (hm0.mdn []) hs11_8 (MIL.cons (MI.app MI.z (nx6) (Nat.le_refl _)) MIL.nil)).nil
            replace hcm11 := hcm11.trL hs11_8 (MIL.cons (MI.app (MI.root (by simp)) (nx7) (Nat.le_refl _)) MIL.nil)
            replace hlm1 := hlm1.trL hs11_8 (MIL.cons (MI.app (MI.root (by simp)) (nx8) (Nat.le_refl _)) MIL.nil)
            have hz7 := hs11_8.size
            refine LR.nil ?_
            refine hK18 _ _ ?_
            refine hK17 _ _ ?_
            refine CW.region ?_
            refine LR.v (Y.move rfl rfl) (Wd.u rfl) rfl rfl ?_
            refine LR.v (Y.addi rfl rfl rfl (by omega)) (Wd.u rfl) rfl rfl ?_
            refine LR.v (Y.assign rfl rfl) (Wd.u rfl) rfl rfl ?_
            refine LR.nil ?_
            refine QN.sub (hN14 (i + 1, fl.set k48 true) _ ?_ ?_) ⟨(iv (by omega)), rfl, rfl, rfl, rfl, rfl, (iv (by omega)), trivial⟩
            · exact ⟨(by omega), og, by simpa using hfl, nx8, hlm1⟩
            · first | omega | (simp only; omega) | (simp; omega)
          ·
            refine CW.exit (hE15 (.exit 0) nofun _ _ (hE14 (.exit 0) nofun _ _ (hX13 _ _ ?_)))
            refine QN.sub (hK11 fl _ ?_) ⟨(iv (by omega)), rfl, rfl, rfl, rfl, trivial⟩
            exact ⟨og, hfl, nx7, hcm11⟩
        ·
          refine LR.gs rfl rfl rfl rfl rfl rfl ?_
          refine LR.gs rfl rfl rfl rfl rfl rfl ?_
          refine LR.v (Y.pick_f rfl rfl rfl) (Wd.u rfl) rfl rfl ?_
          refine LR.nil ?_
          refine hK16 _ _ ?_
          refine CW.cond_f rfl ?_
          refine CW.exit (hE15 (.exit 0) nofun _ _ (hE14 (.exit 0) nofun _ _ (hX13 _ _ ?_)))
          refine QN.sub (hK11 fl _ ?_) ⟨(iv (by omega)), rfl, rfl, rfl, rfl, trivial⟩
          exact ⟨og, hfl, nx7, hcm11⟩
      ·
        intro fl Hcut0 hIcut0
        obtain ⟨og, hfl, nxl_og, hlmcut0⟩ := hIcut0
        have df9 := DF.app (df3) (bf_hm.mono hm0.size) nxl_og
        have nx10 : Nx 0 H0.size (H26.size + 1) := Nx.tr (nx4) nxl_og hm0.size
        replace hm := hm.upL hlmcut0 (DFL.cons df3 DFL.nil)
        replace hm0 := (Mo.trL (ks := []) (hm0.mdn []) hlmcut0 (MIL.cons (MI.app MI.z (nx4) (Nat.le_refl _)) MIL.nil)).nil
        have hz8 := hlmcut0.size
        have hle_og := og.le
        have nx11 := nxl_og
        refine CW.seq (fun K19 hK19 hE19 => ?_)
        refine CW.seq (fun K20 hK20 hE20 => ?_)
        refine CW.region ?_
        refine LR.v (Y.assign rfl rfl) (Wd.u rfl) rfl rfl ?_
        refine LR.nil ?_
        refine hK20 _ _ ?_
        refine CW.block (fun K21 hK21 hX21 hE21 => ?_)
        refine CW.loop (fun (s_ : (Nat) × (Value) × (Nat) × (List Fl) × (Value) × (Nat) × (List Fl) × (Nat → Prop)) => match s_ with | (i, va, ka, la, vb, kb, lb, G) => [(0, .int .i64 n), (2, Str dir), (7, va), (8, vb), (9, v31), (11, .int .i64 i)])
          (fun (s_ : (Nat) × (Value) × (Nat) × (List Fl) × (Value) × (Nat) × (List Fl) × (Nat → Prop)) (H : Heap) => match s_ with | (i, va, ka, la, vb, kb, lb, G) => (i ≤ n) ∧ (Ow ka 35 H fFl 3 va la) ∧ (Ow kb 35 H fFl 3 vb lb) ∧ (∀ x ∈ la, FlR G H x) ∧ (BF G H.size) ∧ (∀ x ∈ lb, FlR G H x) ∧ (BF G H.size) ∧ (DF G ka) ∧ (DF G kb) ∧ (DF G ka) ∧ (DF G kb) ∧ (la.map Fl.c = (List.range i).map aC) ∧ (lb.map Fl.c = (List.range i).map (bC dir fl)) ∧ (Nx 0 Hcut0.size ka) ∧ (Nx 0 Hcut0.size kb) ∧ (Dj ka kb) ∧ Nw Hcut0 H)
          (fun (s_ : (Nat) × (Value) × (Nat) × (List Fl) × (Value) × (Nat) × (List Fl) × (Nat → Prop)) => match s_ with | (i, va, ka, la, vb, kb, lb, G) => n - i) (0, .slice none 0 0, 0, [], .slice none 0 0, 0, [], fun _ => False) ⟨rfl, rfl, rfl, rfl, rfl, rfl, trivial⟩ ?_ ?_
        ·
          exact ⟨(by omega), Ow.nil fFl_len fFl_one, Ow.nil fFl_len fFl_one, (fun x h => by cases h), (fun b e => e.elim), (fun x h => by cases h), (fun b e => e.elim), (fun b e => e.elim), (fun b e => e.elim), (fun b e => e.elim), (fun b e => e.elim), rfl, rfl, Nx.refl _ _, Nx.refl _ _, Dj.z, Mo.refl _ _⟩
        rintro ⟨i, va, ka, la, vb, kb, lb, G⟩ HL2 hI2 K22 hN22 hE22
        obtain ⟨hi, oa, ob, hxa, bf_hxa, hxb, bf_hxb, f1, f2, f3, f4, hla, hlb, nxl_oa, nxl_ob, dj_oa_ob, hlm2⟩ := hI2
        have df12 := DF.app (DF.z) (bf_hm.mono hm0.size) nxl_oa
        have dj13 : Dj (H26.size + 1) ka := Dj.app (Dj.z) og.le nxl_oa
        have nx14 : Nx 0 H0.size ka := Nx.tr (Nx.refl 0 _) nxl_oa hm0.size
        have df15 := DF.app (DF.z) (bf_hm.mono hm0.size) nxl_ob
        have dj16 : Dj (H26.size + 1) kb := Dj.app (Dj.z) og.le nxl_ob
        have nx17 : Nx 0 H0.size kb := Nx.tr (Nx.refl 0 _) nxl_ob hm0.size
        replace hm := hm.nw hlm2
        replace og := og.nw hlm2
        replace hm0 := hm0.tr hlm2
        have hz9 := hlm2.size
        have hle_oa := oa.le
        have hle_ob := ob.le
        have dj18 := dj_oa_ob
        have nx19 := nxl_oa
        have nx20 := nxl_ob
        refine CW.seq (fun K23 hK23 hE23 => ?_)
        refine CW.seq (fun K24 hK24 hE24 => ?_)
        refine CW.region ?_
        refine LR.v (Y.move rfl rfl) (Wd.u rfl) rfl rfl ?_
        refine LR.v (Y.move rfl rfl) (Wd.u rfl) rfl rfl ?_
        refine LR.v (Y.lss rfl rfl rfl) (Wd.u rfl) rfl rfl ?_
        refine LR.nil ?_
        refine hK24 _ _ ?_
        refine CW.condp rfl (fun c52 => ?_) (fun c52 => ?_)
        ·
          refine CW.skip ?_
          refine hK23 _ _ ?_
          refine CW.seq (fun K25 hK25 hE25 => ?_)
          refine CW.block (fun K26 hK26 hX26 hE26 => ?_)
          refine CW.seq (fun K27 hK27 hE27 => ?_)
          refine CW.region ?_
          refine LR.v (Y.move rfl rfl) (Wd.u rfl) rfl rfl ?_
          refine LR.v (Y.addi rfl rfl rfl (by omega)) (Wd.u rfl) rfl rfl ?_
          have hil : i < n := by omega
          have hal := map_len hla
          have hbl := map_len hlb
          refine LR.v (Y.cast (v2 := .int .u8 (c97 i).toNat) (Y.conv_u8 rfl Try.runUnderlying3 Try.runUnderlying5 rfl) (rfl)) (Wd.u rfl) rfl rfl ?_
          refine LR.z (Z.litw _ ([c97 i]) rfl inf22 rfl rfl rfl (by decide) (by decide) fB_len fB_one (rfl)) (Wd.u rfl) rfl rfl (fun v58 H58 r58 => ?_)
          obtain ⟨nw58, hs58, ob58, hH58⟩ := r58
          have hzs58 : H58.size = HL2.size + 1 := by rw [hH58]; simp
          have df21 := (DF.new (bf_hm.mono hm0.size) : DF _ (HL2.size + 1))
          have dj22 : Dj (H26.size + 1) (HL2.size + 1) := Dj.new og.le
          have dj23 : Dj ka (HL2.size + 1) := Dj.new oa.le
          have dj24 : Dj kb (HL2.size + 1) := Dj.new ob.le
          have df25 := (DF.new (bf_hxa.mono (by omega)) : DF _ (HL2.size + 1))
          have df26 := (DF.new (bf_hxb.mono (by omega)) : DF _ (HL2.size + 1))
          have nx27 : Nx 0 H0.size (HL2.size + 1) := Nx.new hm0.size
          have nx28 : Nx 0 Hcut0.size (HL2.size + 1) := Nx.new hlm2.size
          replace hm := hm.nw hs58
          replace og := og.nw hs58
          replace oa := oa.nw hs58
          replace ob := ob.nw hs58
          replace hxa := fun x hxa_ => (hxa x hxa_).nw hs58
          replace hxb := fun x hxb_ => (hxb x hxb_).nw hs58
          replace hm0 := hm0.tr hs58
          replace hlm2 := hlm2.tr hs58
          have hz10 := hs58.size
          refine LR.v (Y.bstr nw58.rd rfl Try.underlying22 Try.underlying9 Try.underlying5 rfl) (Wd.u rfl) rfl rfl ?_
          refine LR.v (Y.cast (v2 := Str (nmP i)) (Y.sadd rfl rfl rfl (by simp)) (rfl)) (Wd.u rfl) rfl rfl ?_
          refine LR.v (Y.move rfl rfl) (Wd.u rfl) rfl rfl ?_
          refine LR.v (Y.cast (v2 := .int .u8 (UInt8.ofNat i).toNat) (Y.conv_u8 rfl Try.runUnderlying3 Try.runUnderlying5 rfl) (rfl)) (Wd.u rfl) rfl rfl ?_
          refine LR.v (Y.move rfl rfl) (Wd.u rfl) rfl rfl ?_
          refine LR.v (Y.addi rfl rfl rfl (by omega)) (Wd.u rfl) rfl rfl ?_
          refine LR.v (Y.cast (v2 := .int .u8 (UInt8.ofNat (i + 100)).toNat) (Y.conv_u8 rfl Try.runUnderlying3 Try.runUnderlying5 rfl) (rfl)) (Wd.u rfl) rfl rfl ?_
          refine LR.z (Z.litw _ (dat i) rfl inf22 rfl rfl rfl (by decide) (by decide) fB_len fB_one (rfl)) (Wd.u rfl) rfl rfl (fun v66 H66 r66 => ?_)
          obtain ⟨nd, hs66, ob66, hH66⟩ := r66
          have hzs66 : H66.size = H58.size + 1 := by rw [hH66]; simp
          have df29 := (DF.new (bf_hm.mono hm0.size) : DF _ (H58.size + 1))
          have dj30 : Dj (H26.size + 1) (H58.size + 1) := Dj.new og.le
          have dj31 : Dj ka (H58.size + 1) := Dj.new oa.le
          have dj32 : Dj kb (H58.size + 1) := Dj.new ob.le
          have df33 := (DF.new (bf_hxa.mono (by omega)) : DF _ (H58.size + 1))
          have df34 := (DF.new (bf_hxb.mono (by omega)) : DF _ (H58.size + 1))
          have dj35 : Dj (HL2.size + 1) (H58.size + 1) := Dj.new nw58.le
          have nx36 : Nx 0 H0.size (H58.size + 1) := Nx.new hm0.size
          have nx37 : Nx 0 Hcut0.size (H58.size + 1) := Nx.new hlm2.size
          replace hm := hm.nw hs66
          replace og := og.nw hs66
          replace oa := oa.nw hs66
          replace ob := ob.nw hs66
          replace hxa := fun x hxa_ => (hxa x hxa_).nw hs66
          replace hxb := fun x hxb_ => (hxb x hxb_).nw hs66
          replace nw58 := nw58.nw hs66
          replace hm0 := hm0.tr hs66
          replace hlm2 := hlm2.tr hs66
          have hz11 := hs66.size
          obtain ⟨s66, rfl⟩ : ∃ s : SV, v66 = s.v := ⟨toSV v66, nd.sv.symm⟩
          refine LR.v (Y.build (v := .agg (fFl (⟨nmP i, 1, dat i, s66⟩ : Fl)).toArray) rfl rfl (by intro w; kernel_rfl)) (Wd.u rfl) rfl rfl ?_
          refine LR.z (Z.allocv rfl Try.zeroValue35) (Wd.u rfl) rfl rfl (fun v12 H12 r12 => ?_)
          obtain ⟨rfl, vf, hs12, ob12, hH12⟩ := r12
          have hzs12 : H12.size = H66.size + 1 := by rw [hH12]; simp
          have df38 := (DF.new (bf_hm.mono hm0.size) : DF _ (H66.size + 1))
          have dj39 : Dj (H26.size + 1) (H66.size + 1) := Dj.new og.le
          have dj40 : Dj ka (H66.size + 1) := Dj.new oa.le
          have dj41 : Dj kb (H66.size + 1) := Dj.new ob.le
          have df42 := (DF.new (bf_hxa.mono (by omega)) : DF _ (H66.size + 1))
          have df43 := (DF.new (bf_hxb.mono (by omega)) : DF _ (H66.size + 1))
          have dj44 : Dj (HL2.size + 1) (H66.size + 1) := Dj.new nw58.le
          have dj45 : Dj (H58.size + 1) (H66.size + 1) := Dj.new nd.le
          have nx46 : Nx 0 H0.size (H66.size + 1) := Nx.new hm0.size
          have nx47 : Nx 0 Hcut0.size (H66.size + 1) := Nx.new hlm2.size
          replace hm := hm.nw hs12
          replace og := og.nw hs12
          replace oa := oa.nw hs12
          replace ob := ob.nw hs12
          replace hxa := fun x hxa_ => (hxa x hxa_).nw hs12
          replace hxb := fun x hxb_ => (hxb x hxb_).nw hs12
          replace nw58 := nw58.nw hs12
          replace nd := nd.nw hs12
          replace hm0 := hm0.tr hs12
          replace hlm2 := hlm2.tr hs12
          have hz12 := hs12.size
          refine LR.s (S.var vf (_) (fFl (⟨nmP i, 1, dat i, s66⟩ : Fl)) rfl rfl rfl rfl (fFl_one (⟨nmP i, 1, dat i, s66⟩ : Fl)) Try.sizeOf35 (rfl) (Nat.le_of_ble_eq_true rfl) (rfl)) (Wd.u rfl) rfl (fun H15_14 r15_14 => ?_)
          obtain ⟨vf, hs15_14⟩ := r15_14
          replace hs15_14 := hs15_14.md1
          replace hm := hm.upL hs15_14 (DFL.cons df38 DFL.nil)
          replace og := og.upL hs15_14 (DL.cons dj39 DL.nil)
          replace oa := oa.upL hs15_14 (DL.cons dj40 DL.nil)
          replace ob := ob.upL hs15_14 (DL.cons dj41 DL.nil)
          replace hxa := fun x hxa_ => (hxa x hxa_).upL hs15_14 (DFL.cons df42 DFL.nil)
          replace hxb := fun x hxb_ => (hxb x hxb_).upL hs15_14 (DFL.cons df43 DFL.nil)
          replace nw58 := nw58.upL hs15_14 (DL.cons dj44 DL.nil)
          replace nd := nd.upL hs15_14 (DL.cons dj45 DL.nil)
          replace hm0 := (Mo.trL (ks := []) (hm0.mdn []) hs15_14 (MIL.cons (MI.app MI.z (nx46) (Nat.le_refl _)) MIL.nil)).nil
          replace hlm2 := (Mo.trL (ks := []) (hlm2.mdn []) hs15_14 (MIL.cons (MI.app MI.z (nx47) (Nat.le_refl _)) MIL.nil)).nil
          have hz13 := hs15_14.size
          refine LR.nil ?_
          refine hK27 _ _ ?_
          refine CW.seq (fun K28 hK28 hE28 => ?_)
          refine CW.region ?_
          refine LR.v (Y.move rfl rfl) (Wd.u rfl) rfl rfl ?_
          refine LR.v (Y.loadN vf.pt rfl Try.isAgg35 Try.sizeOf35 (rfl) rfl) (Wd.u rfl) rfl rfl ?_
          refine LR.z (Z.litw _ ([(⟨nmP i, 1, dat i, s66⟩ : Fl)]) rfl inf26 rfl rfl rfl (by decide) (by decide) fFl_len fFl_one (rfl)) (Wd.u rfl) rfl rfl (fun v70 H70 r70 => ?_)
          obtain ⟨nw70, hs70, ob70, hH70⟩ := r70
          have hzs70 : H70.size = H15_14.size + 1 := by rw [hH70]; simp
          have df48 := (DF.new (bf_hm.mono hm0.size) : DF _ (H15_14.size + 1))
          have dj49 : Dj (H26.size + 1) (H15_14.size + 1) := Dj.new og.le
          have dj50 : Dj ka (H15_14.size + 1) := Dj.new oa.le
          have dj51 : Dj kb (H15_14.size + 1) := Dj.new ob.le
          have df52 := (DF.new (bf_hxa.mono (by omega)) : DF _ (H15_14.size + 1))
          have df53 := (DF.new (bf_hxb.mono (by omega)) : DF _ (H15_14.size + 1))
          have dj54 : Dj (H58.size + 1) (H15_14.size + 1) := Dj.new nd.le
          have dj55 : Dj (H66.size + 1) (H15_14.size + 1) := Dj.new vf.lt
          have nx56 : Nx 0 H0.size (H15_14.size + 1) := Nx.new hm0.size
          have nx57 : Nx 0 Hcut0.size (H15_14.size + 1) := Nx.new hlm2.size
          replace hm := hm.nw hs70
          replace og := og.nw hs70
          replace oa := oa.nw hs70
          replace ob := ob.nw hs70
          replace hxa := fun x hxa_ => (hxa x hxa_).nw hs70
          replace hxb := fun x hxb_ => (hxb x hxb_).nw hs70
          replace nd := nd.nw hs70
          replace vf := vf.nw hs70
          replace hm0 := hm0.tr hs70
          replace hlm2 := hlm2.tr hs70
          have hz14 := hs70.size
          refine LR.z (Z.apnd oa nw70.rd rfl inf26 rfl rfl (by simp; omega) (by simp; omega)) (Wd.u rfl) rfl rfl (fun v71 H71 r71 => ?_)
          obtain ⟨k71, oa, hk71, hs71⟩ := r71
          replace hk71 : Nx ka H70.size k71 := hk71
          replace hs71 := hs71.md
          have df58 := DF.app (df12) (bf_hm.mono hm0.size) hk71
          have dj59 : Dj (H26.size + 1) k71 := Dj.app (dj13) og.le hk71
          have dj60 : Dj kb k71 := Dj.app (dj18.symm) ob.le hk71
          have df61 := DF.app (f1) (bf_hxa.mono (by omega)) hk71
          have df62 := DF.app (f3) (bf_hxb.mono (by omega)) hk71
          have dj63 : Dj (H58.size + 1) k71 := Dj.app (dj31.symm) nd.le hk71
          have dj64 : Dj (H66.size + 1) k71 := Dj.app (dj40.symm) vf.lt hk71
          have dj65 : Dj (H15_14.size + 1) k71 := Dj.app (dj50.symm) nw70.le hk71
          have nx66 : Nx 0 H0.size k71 := Nx.tr (nx14) hk71 hm0.size
          have nx67 : Nx 0 Hcut0.size k71 := Nx.tr (nx19) hk71 hlm2.size
          replace hm := hm.upL hs71 (DFL.cons df12 DFL.nil)
          replace og := og.upL hs71 (DL.cons dj13 DL.nil)
          replace ob := ob.upL hs71 (DL.cons dj18.symm DL.nil)
          replace hxa := fun x hxa_ => (hxa x hxa_).upL hs71 (DFL.cons f1 DFL.nil)
          replace hxb := fun x hxb_ => (hxb x hxb_).upL hs71 (DFL.cons f3 DFL.nil)
          replace nd := nd.upL hs71 (DL.cons dj31.symm DL.nil)
          replace vf := vf.upL hs71 (DL.cons dj40.symm DL.nil)
          replace nw70 := nw70.upL hs71 (DL.cons dj50.symm DL.nil)
          replace hm0 := (Mo.trL (ks := []) (hm0.mdn []) hs71 (MIL.cons (MI.app MI.z (nx14) (Nat.le_refl _)) MIL.nil)).nil
          replace hlm2 := (Mo.trL (ks := []) (hlm2.mdn []) hs71 (MIL.cons (MI.app MI.z (nx19) (Nat.le_refl _)) MIL.nil)).nil
          have hz15 := hs71.size
          have hle_oa := oa.le
          refine LR.v (Y.assign rfl rfl) (Wd.u rfl) rfl rfl ?_
          refine LR.nil ?_
          refine hK28 _ _ ?_
          refine CW.cut (fun (_ : Unit) => [(0, .int .i64 n), (2, Str dir), (7, v71), (8, vb), (9, v31), (11, .int .i64 i), (12, .pointer (some ⟨H66.size, 0, none⟩))])
            (fun (_ : Unit) (H : Heap) => (Var 35 H H66.size (fFl (⟨pathB dir fl i, 1, dat i, s66⟩ : Fl))) ∧ Mo (Ms [(H66.size + 1)]) H71 H) (fun K29 hK29 hE29 => ?_) ?_
          ·
            have hcm29 : Mo (Ms [(H66.size + 1)]) H71 H71 := Mo.refl _ _
            have nx_hcm29_vf := Nx.refl (H66.size + 1) H71.size
            refine CW.seq (fun K30 hK30 hE30 => ?_)
            refine CW.region ?_
            refine LR.v (Y.move rfl rfl) (Wd.u rfl) rfl rfl ?_
            refine LR.v (Y.move rfl rfl) (Wd.u rfl) rfl rfl ?_
            refine LR.v (Y.owAddr og (i) rfl Try.runUnderlying43 Try.sizeOf4 rfl rfl (by first | rfl | omega) (by first | omega | (simp; omega) | (simp; done))) (Wd.u rfl) rfl rfl ?_
            refine LR.v (Y.load1 (og.pt (j := i) (by first | omega | (simp; omega) | (simp; done))) rfl Try.isAgg4 rfl) (Wd.u rfl) rfl rfl ?_
            refine LR.nil ?_
            refine hK30 _ _ ?_
            refine CW.cond rfl (fun c75 => ?_) (fun c75 => ?_)
            ·
              refine CW.region ?_
              refine LR.v (Y.move rfl rfl) (Wd.u rfl) rfl rfl ?_
              refine LR.v (Y.sadd rfl rfl rfl (by simp; omega)) (Wd.u rfl) rfl rfl ?_
              refine LR.v (Y.sadd rfl rfl rfl (by simp; omega)) (Wd.u rfl) rfl rfl ?_
              refine LR.v (Y.fieldAddr vf.pt rfl Try.runUnderlying35 rfl rfl Try.sizeOf9 (by decide) rfl) (Wd.u rfl) rfl rfl ?_
              refine LR.v (Y.load1 vf.pt rfl Try.isAgg9 rfl) (Wd.u rfl) rfl rfl ?_
              refine LR.v (Y.cast (v2 := Str (pz dir i)) (Y.sadd rfl rfl rfl (by simp [nmP]; omega)) (rfl)) (Wd.u rfl) rfl rfl ?_
              refine LR.v (Y.fieldAddr vf.pt rfl Try.runUnderlying35 rfl rfl Try.sizeOf9 (by decide) rfl) (Wd.u rfl) rfl rfl ?_
              refine LR.s (S.var1 vf 0 (_) rfl rfl rfl (rfl) Try.sizeOf9 (by simp) (rfl)) (Wd.u rfl) rfl (fun H18_7 r18_7 => ?_)
              obtain ⟨vf, hs18_7⟩ := r18_7
              replace hs18_7 := hs18_7.md1
              replace hm := hm.upL hs18_7 (DFL.cons df38 DFL.nil)
              replace og := og.upL hs18_7 (DL.cons dj39 DL.nil)
              replace oa := oa.upL hs18_7 (DL.cons dj64.symm DL.nil)
              replace ob := ob.upL hs18_7 (DL.cons dj41 DL.nil)
              replace hxa := fun x hxa_ => (hxa x hxa_).upL hs18_7 (DFL.cons df42 DFL.nil)
              replace hxb := fun x hxb_ => (hxb x hxb_).upL hs18_7 (DFL.cons df43 DFL.nil)
              replace nd := nd.upL hs18_7 (DL.cons dj45 DL.nil)
              replace hm0 := (Mo.trL (ks := []) (hm0.mdn []) hs18_7 (MIL.cons (MI.app MI.z (nx46) (Nat.le_refl _)) MIL.nil)).nil
              replace hlm2 := (Mo.trL (ks := []) (hlm2.mdn []) hs18_7 (MIL.cons (MI.app MI.z (nx47) (Nat.le_refl _)) MIL.nil)).nil
              replace hcm29 := hcm29.trL hs18_7 (MIL.cons (MI.app (MI.root (by simp)) (nx_hcm29_vf) (Nat.le_refl _)) MIL.nil)
              have hz16 := hs18_7.size
              refine LR.nil ?_
              have hpb : pathB dir fl i = pz dir i := if_pos ((mv_get (by omega)).trans c75)
              refine QN.sub (hK29 () _ ?_) ⟨(iv (by omega)), rfl, rfl, rfl, rfl, (iv (by omega)), rfl, trivial⟩
              exact ⟨by rw [hpb]; exact vf, hcm29⟩
            ·
              refine CW.skip ?_
              have hpb : pathB dir fl i = nmP i := if_neg (by rw [mv_get (by omega), c75]; simp)
              refine QN.sub (hK29 () _ ?_) ⟨(iv (by omega)), rfl, rfl, rfl, rfl, (iv (by omega)), rfl, trivial⟩
              exact ⟨by rw [hpb]; exact vf, hcm29⟩
          ·
            intro _ Hcutc75 hIcutc75
            obtain ⟨vf, hlmcutc75⟩ := hIcutc75
            replace hm := hm.upL hlmcutc75 (DFL.cons df38 DFL.nil)
            replace og := og.upL hlmcutc75 (DL.cons dj39 DL.nil)
            replace oa := oa.upL hlmcutc75 (DL.cons dj64.symm DL.nil)
            replace ob := ob.upL hlmcutc75 (DL.cons dj41 DL.nil)
            replace hxa := fun x hxa_ => (hxa x hxa_).upL hlmcutc75 (DFL.cons df42 DFL.nil)
            replace hxb := fun x hxb_ => (hxb x hxb_).upL hlmcutc75 (DFL.cons df43 DFL.nil)
            replace nd := nd.upL hlmcutc75 (DL.cons dj45 DL.nil)
            replace hm0 := (Mo.trL (ks := []) (hm0.mdn []) hlmcutc75 (MIL.cons (MI.app MI.z (nx46) (Nat.le_refl _)) MIL.nil)).nil
            replace hlm2 := (Mo.trL (ks := []) (hlm2.mdn []) hlmcutc75 (MIL.cons (MI.app MI.z (nx47) (Nat.le_refl _)) MIL.nil)).nil
            have hz17 := hlmcutc75.size
            have nx_hlmcutc75_vf := Nx.refl (H66.size + 1) H71.size
            refine CW.region ?_
            refine LR.v (Y.move rfl rfl) (Wd.u rfl) rfl rfl ?_
            refine LR.v (Y.loadN vf.pt rfl Try.isAgg35 Try.sizeOf35 (rfl) rfl) (Wd.u rfl) rfl rfl ?_
            refine LR.z (Z.litw _ ([(⟨pathB dir fl i, 1, dat i, s66⟩ : Fl)]) rfl inf26 rfl rfl rfl (by decide) (by decide) fFl_len fFl_one (rfl)) (Wd.u rfl) rfl rfl (fun v85 H85 r85 => ?_)
            obtain ⟨nw85, hs85, ob85, hH85⟩ := r85
            have hzs85 : H85.size = Hcutc75.size + 1 := by rw [hH85]; simp
            have df68 := (DF.new (bf_hm.mono hm0.size) : DF _ (Hcutc75.size + 1))
            have dj69 : Dj (H26.size + 1) (Hcutc75.size + 1) := Dj.new og.le
            have dj70 : Dj k71 (Hcutc75.size + 1) := Dj.new oa.le
            have dj71 : Dj kb (Hcutc75.size + 1) := Dj.new ob.le
            have df72 := (DF.new (bf_hxa.mono (by omega)) : DF _ (Hcutc75.size + 1))
            have df73 := (DF.new (bf_hxb.mono (by omega)) : DF _ (Hcutc75.size + 1))
            have dj74 : Dj (H58.size + 1) (Hcutc75.size + 1) := Dj.new nd.le
            have dj75 : Dj (H66.size + 1) (Hcutc75.size + 1) := Dj.new vf.lt
            have nx76 : Nx 0 H0.size (Hcutc75.size + 1) := Nx.new hm0.size
            have nx77 : Nx 0 Hcut0.size (Hcutc75.size + 1) := Nx.new hlm2.size
            replace hm := hm.nw hs85
            replace og := og.nw hs85
            replace oa := oa.nw hs85
            replace ob := ob.nw hs85
            replace hxa := fun x hxa_ => (hxa x hxa_).nw hs85
            replace hxb := fun x hxb_ => (hxb x hxb_).nw hs85
            replace nd := nd.nw hs85
            replace vf := vf.nw hs85
            replace hm0 := hm0.tr hs85
            replace hlm2 := hlm2.tr hs85
            have hz18 := hs85.size
            refine LR.z (Z.apnd ob nw85.rd rfl inf26 rfl rfl (by simp; omega) (by simp; omega)) (Wd.u rfl) rfl rfl (fun v86 H86 r86 => ?_)
            obtain ⟨k86, ob, hk86, hs86⟩ := r86
            replace hk86 : Nx kb H85.size k86 := hk86
            replace hs86 := hs86.md
            have df78 := DF.app (df15) (bf_hm.mono hm0.size) hk86
            have dj79 : Dj (H26.size + 1) k86 := Dj.app (dj16) og.le hk86
            have dj80 : Dj k71 k86 := Dj.app (dj60.symm) oa.le hk86
            have df81 := DF.app (f2) (bf_hxa.mono (by omega)) hk86
            have df82 := DF.app (f4) (bf_hxb.mono (by omega)) hk86
            have dj83 : Dj (H58.size + 1) k86 := Dj.app (dj32.symm) nd.le hk86
            have dj84 : Dj (H66.size + 1) k86 := Dj.app (dj41.symm) vf.lt hk86
            have dj85 : Dj (Hcutc75.size + 1) k86 := Dj.app (dj71.symm) nw85.le hk86
            have nx86 : Nx 0 H0.size k86 := Nx.tr (nx17) hk86 hm0.size
            have nx87 : Nx 0 Hcut0.size k86 := Nx.tr (nx20) hk86 hlm2.size
            replace hm := hm.upL hs86 (DFL.cons df15 DFL.nil)
            replace og := og.upL hs86 (DL.cons dj16 DL.nil)
            replace oa := oa.upL hs86 (DL.cons dj60.symm DL.nil)
            replace hxa := fun x hxa_ => (hxa x hxa_).upL hs86 (DFL.cons f2 DFL.nil)
            replace hxb := fun x hxb_ => (hxb x hxb_).upL hs86 (DFL.cons f4 DFL.nil)
            replace nd := nd.upL hs86 (DL.cons dj32.symm DL.nil)
            replace vf := vf.upL hs86 (DL.cons dj41.symm DL.nil)
            replace nw85 := nw85.upL hs86 (DL.cons dj71.symm DL.nil)
            replace hm0 := (Mo.trL (ks := []) (hm0.mdn []) hs86 (MIL.cons (MI.app MI.z (nx17) (Nat.le_refl _)) MIL.nil)).nil
            replace hlm2 := (Mo.trL (ks := []) (hlm2.mdn []) hs86 (MIL.cons (MI.app MI.z (nx20) (Nat.le_refl _)) MIL.nil)).nil
            have hz19 := hs86.size
            have hle_ob := ob.le
            refine LR.v (Y.assign rfl rfl) (Wd.u rfl) rfl rfl ?_
            refine LR.nil ?_
            refine hK26 _ _ ?_
            refine hK25 _ _ ?_
            refine CW.region ?_
            refine LR.v (Y.move rfl rfl) (Wd.u rfl) rfl rfl ?_
            refine LR.v (Y.addi rfl rfl rfl (by omega)) (Wd.u rfl) rfl rfl ?_
            refine LR.v (Y.assign rfl rfl) (Wd.u rfl) rfl rfl ?_
            refine LR.nil ?_
            refine QN.sub (hN22 (i + 1, v71, k71, la ++ [(⟨nmP i, 1, dat i, s66⟩ : Fl)], v86, k86, lb ++ [(⟨pathB dir fl i, 1, dat i, s66⟩ : Fl)], fun b => G b ∨ b + 1 = (H58.size + 1)) _ ?_ ?_) ⟨(iv (by omega)), rfl, rfl, rfl, rfl, (iv (by omega)), trivial⟩
            · exact ⟨(by omega), oa, ob, snocFl hxa (fun b e => .inl e) ⟨nd.rd.imp (fun b _ e => .inr e), by simp⟩, BF.or1 (bf_hxa.mono (by omega)) nd.le, snocFl hxb (fun b e => .inl e) ⟨nd.rd.imp (fun b _ e => .inr e), by simp⟩, BF.or1 (bf_hxb.mono (by omega)) nd.le, DF.or1 (df61) (dj63.symm), DF.or1 (df81) (dj83.symm), DF.or1 (df62) (dj63.symm), DF.or1 (df82) (dj83.symm), by rw [ra_succ, List.map_append, hla]; rfl, by rw [ra_succ, List.map_append, hlb]; rfl, nx67, nx87, dj80, hlm2⟩
            · first | omega | (simp only; omega) | (simp; omega)
        ·
          have hin : i = n := by omega
          rw [hin] at hla hlb
          have hal := map_len hla
          have hbl := map_len hlb
          have hmb := mem_b hlb hd30
          have hma := mem_a hla
          refine CW.exit (hE23 (.exit 2) nofun _ _ (hE22 (.exit 2) nofun _ _ (hX21 _ _ ?_)))
          refine hK19 _ _ ?_
          refine CW.seq (fun K31 hK31 hE31 => ?_)
          refine CW.region ?_
          refine LR.v (Y.move rfl rfl) (Wd.u rfl) rfl rfl ?_
          -- call selvage/selvagelaw15.Good
          refine LR.call rfl Try.call13 rfl (Wd.u rfl) rfl rfl (good_ct vb lb w0 _ ob.rd.any (fun x h => (hxb x h).any) hmb) (fun v88 H88 r88 => ?_)
          obtain ⟨vgb_, kgb, gb, rfl, ogb, hkgb, hgl, gbx, bf_gbx, hs88⟩ := r88
          have df88 := DF.app (DF.z) (bf_hm.mono hm0.size) hkgb
          have dj89 : Dj (H26.size + 1) kgb := Dj.app (Dj.z) og.le hkgb
          have dj90 : Dj ka kgb := Dj.app (Dj.z) oa.le hkgb
          have dj91 : Dj kb kgb := Dj.app (Dj.z) ob.le hkgb
          have df92 := DF.app (DF.z) (bf_hxa.mono (by omega)) hkgb
          have df93 := DF.app (DF.z) (bf_hxb.mono (by omega)) hkgb
          have nx94 : Nx 0 H0.size kgb := Nx.tr (Nx.refl 0 _) hkgb hm0.size
          replace hm := hm.nw hs88
          replace og := og.nw hs88
          replace oa := oa.nw hs88
          replace ob := ob.nw hs88
          replace hxa := fun x hxa_ => (hxa x hxa_).nw hs88
          replace hxb := fun x hxb_ => (hxb x hxb_).nw hs88
          replace hm0 := hm0.tr hs88
          have hz20 := hs88.size
          have hle_ogb := ogb.le
          have hggb := good_of hgl hmb
          rw [hlb, good_all hone fl hn2] at hgl
          refine LR.v (Y.assign rfl rfl) (Wd.u rfl) rfl rfl ?_
          refine LR.nil ?_
          refine hK31 _ _ ?_
          refine CW.seq (fun K32 hK32 hE32 => ?_)
          refine CW.region ?_
          refine LR.v (Y.move rfl rfl) (Wd.u rfl) rfl rfl ?_
          refine LR.v (Y.move rfl rfl) (Wd.u rfl) rfl rfl ?_
          -- call selvage/selvageref15.Diff
          refine LR.call rfl Try.call14 rfl (Wd.u rfl) rfl rfl (diff_ct va v88 la gb w0 _ oa.rd.any ogb.rd.any (fun x h => (hxa x h).any) (fun x h => (gbx x h).any) (by omega) (by have h9 := hggb.2.1; omega)) (fun v91 H91 r91 => ?_)
          obtain ⟨vc_, kc, rfl, oc, hkc, hdl2, hs91⟩ := r91
          have df95 := DF.app (DF.z) (bf_hm.mono hm0.size) hkc
          have dj96 : Dj (H26.size + 1) kc := Dj.app (Dj.z) og.le hkc
          have dj97 : Dj ka kc := Dj.app (Dj.z) oa.le hkc
          have dj98 : Dj kb kc := Dj.app (Dj.z) ob.le hkc
          have df99 := DF.app (DF.z) (bf_hxa.mono (by omega)) hkc
          have df100 := DF.app (DF.z) (bf_hxb.mono (by omega)) hkc
          have dj101 : Dj kgb kc := Dj.app (Dj.z) ogb.le hkc
          have df102 := DF.app (DF.z) (bf_gbx.mono (by omega)) hkc
          have nx103 : Nx 0 H0.size kc := Nx.tr (Nx.refl 0 _) hkc hm0.size
          replace hm := hm.nw hs91
          replace og := og.nw hs91
          replace oa := oa.nw hs91
          replace ob := ob.nw hs91
          replace hxa := fun x hxa_ => (hxa x hxa_).nw hs91
          replace hxb := fun x hxb_ => (hxb x hxb_).nw hs91
          replace ogb := ogb.nw hs91
          replace gbx := fun x hx_ => (gbx x hx_).nw hs91
          replace hm0 := hm0.tr hs91
          have hz21 := hs91.size
          have hle_oc := oc.le
          -- call selvage/rename.Detect
          refine LR.call rfl Try.call17 rfl (Wd.u rfl) rfl rfl (detect_ct v91 (diffL la gb) w0 _ oc.rd.any (fun c hc => (diffL_all (Q := FlR (fun _ => True) _) (zFl_R _) la gb (fun x h => (hxa x h).any) (fun x h => (gbx x h).any) c hc).1) (fun c hc => (diffL_all (Q := FlR (fun _ => True) _) (zFl_R _) la gb (fun x h => (hxa x h).any) (fun x h => (gbx x h).any) c hc).2) (by have h9 := hggb.2.1; omega) (diffL_all (Q := fun x => x.p.length ≤ 9223372036854775806 ∧ x.d.length ≤ 1048576) (by decide) la gb hma (fun x h => by have h9 := hggb.2.2 x h; omega))) (fun v92 H92 r92 => ?_)
          obtain ⟨vd_, kd, out, rfl, od, hkd, hdet, hs92⟩ := r92
          have df104 := DF.app (DF.z) (bf_hm.mono hm0.size) hkd
          have dj105 : Dj (H26.size + 1) kd := Dj.app (Dj.z) og.le hkd
          have dj106 : Dj ka kd := Dj.app (Dj.z) oa.le hkd
          have dj107 : Dj kb kd := Dj.app (Dj.z) ob.le hkd
          have df108 := DF.app (DF.z) (bf_hxa.mono (by omega)) hkd
          have df109 := DF.app (DF.z) (bf_hxb.mono (by omega)) hkd
          have dj110 : Dj kgb kd := Dj.app (Dj.z) ogb.le hkd
          have df111 := DF.app (DF.z) (bf_gbx.mono (by omega)) hkd
          have dj112 : Dj kc kd := Dj.app (Dj.z) oc.le hkd
          have nx113 : Nx 0 H0.size kd := Nx.tr (Nx.refl 0 _) hkd hm0.size
          replace hm := hm.nw hs92
          replace og := og.nw hs92
          replace oa := oa.nw hs92
          replace ob := ob.nw hs92
          replace hxa := fun x hxa_ => (hxa x hxa_).nw hs92
          replace hxb := fun x hxb_ => (hxb x hxb_).nw hs92
          replace ogb := ogb.nw hs92
          replace gbx := fun x hx_ => (gbx x hx_).nw hs92
          replace oc := oc.nw hs92
          replace hm0 := hm0.tr hs92
          have hz22 := hs92.size
          have hle_od := od.le
          have hout := moves_det hn2 hla hgl hdet
          have hodl := od.len
          have hol : out.length = (went fl n).length := by rw [hout]; simp
          refine LR.v (Y.assign rfl rfl) (Wd.u rfl) rfl rfl ?_
          refine LR.nil ?_
          refine hK32 _ _ ?_
          refine CW.seq (fun K33 hK33 hE33 => ?_)
          refine CW.region ?_
          refine LR.v (Y.assign rfl rfl) (Wd.u rfl) rfl rfl ?_
          refine LR.nil ?_
          refine hK33 _ _ ?_
          refine CW.seq (fun K34 hK34 hE34 => ?_)
          refine CW.seq (fun K35 hK35 hE35 => ?_)
          refine CW.region ?_
          refine LR.v (Y.assign rfl rfl) (Wd.u rfl) rfl rfl ?_
          refine LR.nil ?_
          refine hK35 _ _ ?_
          refine CW.block (fun K36 hK36 hX36 hE36 => ?_)
          refine CW.loop (fun (i : (Nat)) => [(0, .int .i64 n), (2, Str dir), (7, va), (9, v31), (13, v92), (14, .int .i64 (went fl i).length), (15, .int .i64 i)])
            (fun (i : (Nat)) (H : Heap) => (i ≤ n) ∧ Nw H92 H)
            (fun (i : (Nat)) => n - i) 0 ⟨rfl, rfl, rfl, rfl, rfl, rfl, rfl, trivial⟩ ?_ ?_
          ·
            exact ⟨(by omega), Mo.refl _ _⟩
          intro i HL3 hI3 K37 hN37 hE37
          obtain ⟨hi, hlm3⟩ := hI3
          replace hm := hm.nw hlm3
          replace og := og.nw hlm3
          replace oa := oa.nw hlm3
          replace ob := ob.nw hlm3
          replace hxa := fun x hxa_ => (hxa x hxa_).nw hlm3
          replace hxb := fun x hxb_ => (hxb x hxb_).nw hlm3
          replace ogb := ogb.nw hlm3
          replace gbx := fun x hx_ => (gbx x hx_).nw hlm3
          replace oc := oc.nw hlm3
          replace od := od.nw hlm3
          replace hm0 := hm0.tr hlm3
          have hz23 := hlm3.size
          refine CW.seq (fun K38 hK38 hE38 => ?_)
          refine CW.seq (fun K39 hK39 hE39 => ?_)
          refine CW.region ?_
          refine LR.v (Y.move rfl rfl) (Wd.u rfl) rfl rfl ?_
          refine LR.v (Y.move rfl rfl) (Wd.u rfl) rfl rfl ?_
          refine LR.v (Y.lss rfl rfl rfl) (Wd.u rfl) rfl rfl ?_
          refine LR.nil ?_
          refine hK39 _ _ ?_
          refine CW.condp rfl (fun c95 => ?_) (fun c95 => ?_)
          ·
            refine CW.skip ?_
            refine hK38 _ _ ?_
            refine CW.seq (fun K40 hK40 hE40 => ?_)
            refine CW.block (fun K41 hK41 hX41 hE41 => ?_)
            refine CW.seq (fun K42 hK42 hE42 => ?_)
            refine CW.seq (fun K43 hK43 hE43 => ?_)
            refine CW.region ?_
            refine LR.v (Y.move rfl rfl) (Wd.u rfl) rfl rfl ?_
            refine LR.v (Y.move rfl rfl) (Wd.u rfl) rfl rfl ?_
            have hil : i < n := by omega
            refine LR.v (Y.owAddr og (i) rfl Try.runUnderlying43 Try.sizeOf4 rfl rfl (by first | rfl | omega) (by first | omega | (simp; omega) | (simp; done))) (Wd.u rfl) rfl rfl ?_
            refine LR.v (Y.load1 (og.pt (j := i) (by first | omega | (simp; omega) | (simp; done))) rfl Try.isAgg4 rfl) (Wd.u rfl) rfl rfl ?_
            refine LR.v (Y.not rfl rfl) (Wd.u rfl) rfl rfl ?_
            refine LR.nil ?_
            refine hK43 _ _ ?_
            refine CW.cond rfl (fun c102 => ?_) (fun c102 => ?_)
            ·
              have hmvi : mv fl i = false := by rw [mv_get (by omega)]; simpa using c102
              refine CW.exit (hE42 (.exit 5) nofun _ _ (hX41 _ _ ?_))
              refine hK40 _ _ ?_
              refine CW.region ?_
              refine LR.v (Y.move rfl rfl) (Wd.u rfl) rfl rfl ?_
              refine LR.v (Y.addi rfl rfl rfl (by omega)) (Wd.u rfl) rfl rfl ?_
              refine LR.v (Y.assign rfl rfl) (Wd.u rfl) rfl rfl ?_
              refine LR.nil ?_
              have hws : (went fl (i + 1)).length = (went fl i).length := by rw [went_succ, hmvi]; simp
              refine QN.sub (hN37 (i + 1) _ ?_ ?_) ⟨(iv (by omega)), rfl, rfl, rfl, rfl, (iv (by omega)), (iv (by omega)), trivial⟩
              · exact ⟨(by omega), hlm3⟩
              · first | omega | (simp only; omega) | (simp; omega)
            ·
              have hmvi : mv fl i = true := by rw [mv_get (by omega)]; simpa using c102
              obtain ⟨hw1, hw2⟩ := went_at hil hmvi
              have hoi : out[(went fl i).length]'(by omega) = prM dir i := by simp only [hout, List.getElem_map, hw2]
              refine CW.skip ?_
              refine hK42 _ _ ?_
              refine CW.seq (fun K44 hK44 hE44 => ?_)
              refine CW.seq (fun K45 hK45 hE45 => ?_)
              refine CW.region_draw rfl (by kernel_rfl) ?_
              refine LR.v (Y.move rfl rfl) (Wd.u rfl) rfl rfl ?_
              refine LR.v (Y.move rfl rfl) (Wd.u rfl) rfl rfl ?_
              refine LR.v (Y.len od.rd rfl Try.runUnderlying31 rfl) (Wd.u rfl) rfl rfl ?_
              refine LR.v ((Y.geq rfl rfl rfl).isF (by omega)) (Wd.u rfl) rfl rfl ?_
              refine LR.v (Y.move rfl rfl) (Wd.u rfl) rfl rfl ?_
              refine LR.v (Y.move rfl rfl) (Wd.g rfl rfl rfl) rfl rfl ?_
              refine LR.v (Y.move rfl rfl) (Wd.g rfl rfl rfl) rfl rfl ?_
              refine LR.v (Y.owAddr od ((went fl i).length) rfl Try.runUnderlying31 Try.sizeOf38 rfl rfl (by first | rfl | omega) (by first | omega | (simp; omega) | (simp; done))) (Wd.g rfl rfl rfl) rfl rfl ?_
              refine LR.v (Y.cast (v2 := .agg (fPr (prM dir i)).toArray) (Y.loadN (od.pt (j := (went fl i).length) (by first | omega | (simp; omega) | (simp; done))) rfl Try.isAgg38 Try.sizeOf38 (rfl) rfl) (by rw [hoi])) (Wd.g rfl rfl rfl) rfl rfl ?_
              refine LR.v (Y.move rfl rfl) (Wd.g rfl rfl rfl) rfl rfl ?_
              refine LR.v (Y.move rfl rfl) (Wd.g rfl rfl rfl) rfl rfl ?_
              refine LR.v (Y.owAddr oa (i) rfl Try.runUnderlying26 Try.sizeOf35 rfl rfl (by first | rfl | omega) (by first | omega | (simp; omega) | (simp; done))) (Wd.g rfl rfl rfl) rfl rfl ?_
              refine LR.v (Y.fieldAddr (oa.pt (j := i) (by first | omega | (simp; omega) | (simp; done))) rfl Try.runUnderlying35 rfl rfl Try.sizeOf9 (by decide) rfl) (Wd.g rfl rfl rfl) rfl rfl ?_
              refine LR.v (Y.cast (v2 := Str (nmP i)) (Y.load1 ((oa.pt (j := i) (by first | omega | (simp; omega) | (simp; done))).drop 0) rfl Try.isAgg9 rfl) (by rw [get_a hla])) (Wd.g rfl rfl rfl) rfl rfl ?_
              refine LR.v (Y.move rfl rfl) (Wd.g rfl rfl rfl) rfl rfl ?_
              refine LR.v (Y.sadd rfl rfl rfl (by simp; omega)) (Wd.g rfl rfl rfl) rfl rfl ?_
              refine LR.v (Y.sadd rfl rfl rfl (by simp; omega)) (Wd.g rfl rfl rfl) rfl rfl ?_
              refine LR.v (Y.move rfl rfl) (Wd.g rfl rfl rfl) rfl rfl ?_
              refine LR.v (Y.move rfl rfl) (Wd.g rfl rfl rfl) rfl rfl ?_
              refine LR.v (Y.owAddr oa (i) rfl Try.runUnderlying26 Try.sizeOf35 rfl rfl (by first | rfl | omega) (by first | omega | (simp; omega) | (simp; done))) (Wd.g rfl rfl rfl) rfl rfl ?_
              refine LR.v (Y.fieldAddr (oa.pt (j := i) (by first | omega | (simp; omega) | (simp; done))) rfl Try.runUnderlying35 rfl rfl Try.sizeOf9 (by decide) rfl) (Wd.g rfl rfl rfl) rfl rfl ?_
              refine LR.v (Y.cast (v2 := Str (nmP i)) (Y.load1 ((oa.pt (j := i) (by first | omega | (simp; omega) | (simp; done))).drop 0) rfl Try.isAgg9 rfl) (by rw [get_a hla])) (Wd.g rfl rfl rfl) rfl rfl ?_
              refine LR.v (Y.cast (v2 := Str (pz dir i)) (Y.sadd rfl rfl rfl (by simp [nmP]; omega)) (rfl)) (Wd.g rfl rfl rfl) rfl rfl ?_
              refine LR.v (Y.build (v := .agg (fPr (prM dir i)).toArray) rfl rfl (by intro w; kernel_rfl)) (Wd.g rfl rfl rfl) rfl rfl ?_
              refine LR.v ((Y.aneq rfl Try.eqGuardType38 (fun w => eqPr _ _ 9998 w) rfl rfl).isF (fun h => h rfl)) (Wd.g rfl rfl rfl) rfl rfl ?_
              refine LR.v (Y.pick_f rfl rfl rfl) (Wd.u rfl) rfl rfl ?_
              refine LR.nil ?_
              refine hK45 _ _ ?_
              refine CW.cond_f rfl ?_
              refine CW.skip ?_
              refine hK44 _ _ ?_
              refine CW.region ?_
              refine LR.v (Y.move rfl rfl) (Wd.u rfl) rfl rfl ?_
              refine LR.v (Y.addi rfl rfl rfl (by omega)) (Wd.u rfl) rfl rfl ?_
              refine LR.v (Y.assign rfl rfl) (Wd.u rfl) rfl rfl ?_
              refine LR.nil ?_
              refine hK41 _ _ ?_
              refine hK40 _ _ ?_
              refine CW.region ?_
              refine LR.v (Y.move rfl rfl) (Wd.u rfl) rfl rfl ?_
              refine LR.v (Y.addi rfl rfl rfl (by omega)) (Wd.u rfl) rfl rfl ?_
              refine LR.v (Y.assign rfl rfl) (Wd.u rfl) rfl rfl ?_
              refine LR.nil ?_
              have hws : (went fl (i + 1)).length = (went fl i).length + 1 := by rw [went_succ, hmvi]; simp
              refine QN.sub (hN37 (i + 1) _ ?_ ?_) ⟨(iv (by omega)), rfl, rfl, rfl, rfl, (iv (by omega)), (iv (by omega)), trivial⟩
              · exact ⟨(by omega), hlm3⟩
              · first | omega | (simp only; omega) | (simp; omega)
          ·
            have hin2 : i = n := by omega
            refine CW.exit (hE38 (.exit 4) nofun _ _ (hE37 (.exit 4) nofun _ _ (hX36 _ _ ?_)))
            refine hK34 _ _ ?_
            refine CW.seq (fun K46 hK46 hE46 => ?_)
            refine CW.region ?_
            refine LR.v (Y.move rfl rfl) (Wd.u rfl) rfl rfl ?_
            refine LR.v (Y.move rfl rfl) (Wd.u rfl) rfl rfl ?_
            refine LR.v (Y.len od.rd rfl Try.runUnderlying31 rfl) (Wd.u rfl) rfl rfl ?_
            refine LR.v ((Y.eql rfl rfl rfl).isT (by rw [hol, hin2])) (Wd.u rfl) rfl rfl ?_
            refine LR.v (Y.assign rfl rfl) (Wd.u rfl) rfl rfl ?_
            refine LR.nil ?_
            refine hK46 _ _ ?_
            refine CW.ret (hret .ret (.inr rfl) _ _ _ (res1 rfl rfl) ?_)
            exact ⟨rfl, hm0⟩

end Go.Proofs.Ytclhnkmkejijjaa.RenR
