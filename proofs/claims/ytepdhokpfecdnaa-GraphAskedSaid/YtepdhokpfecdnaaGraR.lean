/-
  A commit is asked for its parents once.
-/
import Derived.Test.YtepdhokpfecdnaaGraQ
namespace Go.Proofs.Ytepdhokpfecdnaa.GraR
open Go.Proofs.Ytepdhokpfecdnaa.E Go.RowKit Go.Proofs.Ytepdhokpfecdnaa.GraA Go.Proofs.Ytepdhokpfecdnaa.GraB Go.Proofs.Ytepdhokpfecdnaa.GraC Go.Proofs.Ytepdhokpfecdnaa.GraD Go.Proofs.Ytepdhokpfecdnaa.GraE Go.Proofs.Ytepdhokpfecdnaa.GraF Go.Proofs.Ytepdhokpfecdnaa.GraG Go.Proofs.Ytepdhokpfecdnaa.GraH Go.Proofs.Ytepdhokpfecdnaa.GraI Go.Proofs.Ytepdhokpfecdnaa.GraJ Go.Proofs.Ytepdhokpfecdnaa.GraK Go.Proofs.Ytepdhokpfecdnaa.GraL Go.Proofs.Ytepdhokpfecdnaa.GraM Go.Proofs.Ytepdhokpfecdnaa.GraN Go.Proofs.Ytepdhokpfecdnaa.GraO Go.Proofs.Ytepdhokpfecdnaa.GraP Go.Proofs.Ytepdhokpfecdnaa.GraQ
set_option maxRecDepth 20000
set_option linter.unusedVariables false
set_option linter.unusedSimpArgs false
set_option linter.unusedSectionVars false
set_option maxRecDepth 100000 in
theorem inf22 : Inf Try.prog 22 38 1 24 := ⟨Try.underlying22, _, _, rfl, rfl, rfl, rfl, rfl⟩
set_option maxRecDepth 100000 in
theorem inf38 : Inf Try.prog 38 3 1 8 := ⟨Try.underlying38, _, _, rfl, rfl, rfl, rfl, rfl⟩

def ladP (a : Nat) : List Nat := if a < 2 then [] else [a / 2 * 2 - 2, a / 2 * 2 - 1]
def ladG (n : Nat) : List (List Nat) := (List.range n).map ladP
theorem ladG_len (n : Nat) : (ladG n).length = n := by simp [ladG]
theorem ladG_at {n a : Nat} (h : a < n) : (ladG n)[a]'(by rw [ladG_len]; exact h) = ladP a := by simp [ladG]
theorem ladG_ok {n : Nat} (hn : n ≤ 1000) : GOk (ladG n) := by
  refine ⟨by rw [ladG_len]; exact hn, fun a ha k hk => ?_, fun a ha => ?_⟩
  · rw [ladG_len] at ha
    rw [ladG_at ha] at hk
    unfold ladP at hk
    split at hk
    · cases hk
    · simp only [List.mem_cons, List.not_mem_nil, or_false] at hk; omega
  · rw [ladG_len] at ha
    rw [ladG_at ha]
    unfold ladP
    split <;> simp
theorem ladG_gen {n : Nat} (hn : n ≤ 1000) : ∀ m a, a < m → a < n → gfun (ladG n) (idn a) = a / 2
  | 0, _, h, _ => by omega
  | m + 1, a, hm, ha => by
    have hg := ladG_ok hn
    have hl : a < (ladG n).length := by rw [ladG_len]; exact ha
    rw [hg.gf_eq hl, ladG_at ha]
    unfold ladP
    by_cases h : a < 2
    · rw [if_pos h]
      simp [gmax]; omega
    · rw [if_neg h]
      have e1 := ladG_gen hn m (a / 2 * 2 - 2) (by omega) (by omega)
      have e2 := ladG_gen hn m (a / 2 * 2 - 1) (by omega) (by omega)
      simp only [gmax, List.map_cons, List.map_nil, List.foldl_cons, List.foldl_nil, e1, e2]
      omega
theorem GOk.cnt {g : List (List Nat)} (hg : GOk g) {a : Nat} (ha : a < g.length) {K : List Ide} (h : AllR (paL g) [idn a] K 0) : K.length ≤ a + 1 := by
  obtain ⟨h1, _, _, h4, _⟩ := all0 h
  have := nodup_le (b := (List.range (a + 1)).map idn) h1 (fun k hk => by
    obtain ⟨i, hi, hu⟩ := h4 k hk
    rw [List.mem_singleton.1 hi] at hu
    obtain ⟨b, hb, rfl⟩ := hg.up ha hu
    exact List.mem_map.2 ⟨b, by simp; omega, rfl⟩)
  simpa using this

set_option maxHeartbeats 4000000 in
theorem gasked_ct (a : Int) (w0 : World) (H0 : Heap)
    (ha : i64b a) :
    Ct Try.prog w0 6 #[.int .i64 a] H0 (fun r H2 => r = .bool true ∧ Nw H0 H2) := by
  refine Ct.enter (args := [.int .i64 a]) Try.func6 rfl rfl rfl ?_
  intro Q0 hret
  have hm0 : Nw H0 H0 := Mo.refl _ _
  refine CW.seq (fun K1 hK1 hE1 => ?_)
  refine CW.region ?_
  refine LR.v (Y.assign rfl rfl) (Wd.u rfl) rfl rfl ?_
  refine LR.nil ?_
  refine hK1 _ _ ?_
  refine CW.seq (fun K2 hK2 hE2 => ?_)
  refine CW.seq (fun K3 hK3 hE3 => ?_)
  refine CW.region ?_
  -- call selvage/selvagelaw11.known
  refine LR.call rfl Try.call10 rfl (Wd.u rfl) rfl rfl (known_ct w0 _) (fun v8 H8 r8 => ?_)
  obtain ⟨rfl, hs8⟩ := r8
  replace hm0 := hm0.tr hs8
  have hz1 := hs8.size
  refine LR.v (Y.not rfl rfl) (Wd.u rfl) rfl rfl ?_
  refine LR.nil ?_
  refine hK3 _ _ ?_
  refine CW.cond_f rfl ?_
  refine CW.skip ?_
  refine hK2 _ _ ?_
  refine CW.seq (fun K4 hK4 hE4 => ?_)
  refine CW.region ?_
  refine LR.v (Y.move rfl rfl) (Wd.u rfl) rfl rfl ?_
  -- call selvage/selvagelaw11.within
  refine LR.call rfl Try.call14 rfl (Wd.u rfl) rfl rfl (within_ct a 40 w0 _ (by omega) ha) (fun v11 H11 r11 => ?_)
  obtain ⟨q11, rfl, hq11, hs11⟩ := r11
  replace hm0 := hm0.tr hs11
  have hz2 := hs11.size
  refine LR.v (Y.cast (v2 := .int .i64 ((2 + q11 : Nat) : Int)) (Y.addi rfl rfl rfl (by omega)) (ivv (by omega))) (Wd.u rfl) rfl rfl ?_
  refine LR.v (Y.assign rfl rfl) (Wd.u rfl) rfl rfl ?_
  refine LR.nil ?_
  refine hK4 _ _ ?_
  refine CW.seq (fun K5 hK5 hE5 => ?_)
  refine CW.region ?_
  refine LR.z (Z.litw _ (([] : List Nat)) rfl inf38 rfl rfl rfl (by decide) (by decide) fN_len fN_one (rfl)) (Wd.u rfl) rfl rfl (fun v13 H13 r13 => ?_)
  obtain ⟨ow13, hs13, ob13, hH13⟩ := r13
  have hzs13 : H13.size = H11.size + 1 := by rw [hH13]; simp
  have nx1 : Nx 0 H0.size (H11.size + 1) := Nx.new hm0.size
  replace hm0 := hm0.tr hs13
  have hz3 := hs13.size
  obtain ⟨s13, rfl⟩ : ∃ s : SV, v13 = s.v := ⟨toSV v13, ow13.sv.symm⟩
  refine LR.z (Z.litw _ (([] : List Nat)) rfl inf38 rfl rfl rfl (by decide) (by decide) fN_len fN_one (rfl)) (Wd.u rfl) rfl rfl (fun v14 H14 r14 => ?_)
  obtain ⟨ow14, hs14, ob14, hH14⟩ := r14
  have hzs14 : H14.size = H13.size + 1 := by rw [hH14]; simp
  have dj2 : Dj (H11.size + 1) (H13.size + 1) := Dj.new ow13.le
  have nx3 : Nx 0 H0.size (H13.size + 1) := Nx.new hm0.size
  replace ow13 := ow13.nw hs14
  replace hm0 := hm0.tr hs14
  have hz4 := hs14.size
  obtain ⟨s14, rfl⟩ : ∃ s : SV, v14 = s.v := ⟨toSV v14, ow14.sv.symm⟩
  refine LR.z (Z.litw _ ([⟨s13, []⟩, ⟨s14, []⟩]) rfl inf22 rfl rfl rfl (by decide) (by decide) fRw_len fRw_one (rfl)) (Wd.u rfl) rfl rfl (fun v15 H15 r15 => ?_)
  obtain ⟨how, hs15, ob15, hH15⟩ := r15
  have hzs15 : H15.size = H14.size + 1 := by rw [hH15]; simp
  have dj4 : Dj (H11.size + 1) (H14.size + 1) := Dj.new ow13.le
  have dj5 : Dj (H13.size + 1) (H14.size + 1) := Dj.new ow14.le
  have nx6 : Nx 0 H0.size (H14.size + 1) := Nx.new hm0.size
  replace ow13 := ow13.nw hs15
  replace ow14 := ow14.nw hs15
  replace hm0 := hm0.tr hs15
  have hz5 := hs15.size
  refine LR.v (Y.assign rfl rfl) (Wd.u rfl) rfl rfl ?_
  refine LR.nil ?_
  refine hK5 _ _ ?_
  refine CW.seq (fun K6 hK6 hE6 => ?_)
  refine CW.seq (fun K7 hK7 hE7 => ?_)
  refine CW.region ?_
  refine LR.v (Y.assign rfl rfl) (Wd.u rfl) rfl rfl ?_
  refine LR.nil ?_
  refine hK7 _ _ ?_
  refine CW.block (fun K8 hK8 hX8 hE8 => ?_)
  refine CW.loop (fun (s_ : (Nat) × (Value) × (Nat) × (List Rw) × (Nat → Prop)) => match s_ with | (i, vo, ko, out, G) => [(0, .int .i64 ((2 + q11 : Nat) : Int)), (3, vo), (4, .int .i64 (i : Int))])
    (fun (s_ : (Nat) × (Value) × (Nat) × (List Rw) × (Nat → Prop)) (H : Heap) => match s_ with | (i, vo, ko, out, G) => (i ≤ 2 + q11 ∧ 2 ≤ i) ∧ (Ow ko 38 H fRw 1 vo out) ∧ (∀ x ∈ out, Rd G H fN 1 x.v.v x.l) ∧ (BF G H.size) ∧ (DF G ko) ∧ (∀ b, G b → H0.size ≤ b) ∧ (out.map Rw.l = ladG i) ∧ (Nx (H14.size + 1) H15.size ko) ∧ Mo (Ms [(H14.size + 1)]) H15 H)
    (fun (s_ : (Nat) × (Value) × (Nat) × (List Rw) × (Nat → Prop)) => match s_ with | (i, vo, ko, out, G) => 2 + q11 - i) (2, v15, (H14.size + 1), [⟨s13, []⟩, ⟨s14, []⟩], fun b => b + 1 = (H11.size + 1) ∨ b + 1 = (H13.size + 1)) ⟨rfl, rfl, rfl, trivial⟩ ?_ ?_
  ·
    exact ⟨by omega, how, (fun x h => by
        simp only [List.mem_cons, List.not_mem_nil, or_false] at h
        rcases h with rfl | rfl
        · exact ow13.rd.imp (fun b _ e => .inl e)
        · exact ow14.rd.imp (fun b _ e => .inr e)), (fun b e => by
        have h1 := ow13.le; have h2 := ow14.le
        rcases e with e | e <;> omega), (fun b e => by
        rcases e with e | e
        · exact (dj4) b e
        · exact (dj5) b e), (fun b e => by
        rcases e with e | e <;> omega), rfl, Nx.refl _ _, Mo.refl _ _⟩
  rintro ⟨i, vo, ko, out, G⟩ HL1 hI1 K9 hN9 hE9
  obtain ⟨hi, how, hx, bf_hx, fg, hG, hol, nxl_how, hlm1⟩ := hI1
  have dj7 : Dj (H11.size + 1) ko := Dj.app (dj4) ow13.le nxl_how
  have dj8 : Dj (H13.size + 1) ko := Dj.app (dj5) ow14.le nxl_how
  have nx9 : Nx 0 H0.size ko := Nx.tr (nx6) nxl_how hm0.size
  replace ow13 := ow13.upL hlm1 (DL.cons dj4 DL.nil)
  replace ow14 := ow14.upL hlm1 (DL.cons dj5 DL.nil)
  replace hm0 := (Mo.trL (ks := []) (hm0.mdn []) hlm1 (MIL.cons (MI.app MI.z (nx6) (Nat.le_refl _)) MIL.nil)).nil
  have hz6 := hlm1.size
  have hle_how := how.le
  have nx10 := nxl_how
  have holl : out.length = i := by have h9 := congrArg List.length hol; rw [List.length_map, ladG_len] at h9; exact h9
  refine CW.seq (fun K10 hK10 hE10 => ?_)
  refine CW.seq (fun K11 hK11 hE11 => ?_)
  refine CW.region ?_
  refine LR.v (Y.move rfl rfl) (Wd.u rfl) rfl rfl ?_
  refine LR.v (Y.move rfl rfl) (Wd.u rfl) rfl rfl ?_
  refine LR.v (Y.lss rfl rfl rfl) (Wd.u rfl) rfl rfl ?_
  refine LR.nil ?_
  refine hK11 _ _ ?_
  refine CW.condp rfl (fun c18 => ?_) (fun c18 => ?_)
  ·
    refine CW.skip ?_
    refine hK10 _ _ ?_
    refine CW.seq (fun K12 hK12 hE12 => ?_)
    refine CW.block (fun K13 hK13 hX13 hE13 => ?_)
    refine CW.region ?_
    refine LR.v (Y.move rfl rfl) (Wd.u rfl) rfl rfl ?_
    refine LR.v (Y.move rfl rfl) (Wd.u rfl) rfl rfl ?_
    refine LR.v (Y.cast (v2 := .int .i64 ((i / 2 : Nat) : Int)) (Y.quoi rfl rfl rfl (by omega)) (ivv (by omega))) (Wd.u rfl) rfl rfl ?_
    refine LR.v (Y.muli rfl rfl rfl (by omega)) (Wd.u rfl) rfl rfl ?_
    refine LR.v (Y.cast (v2 := .int .i64 ((i / 2 * 2 - 2 : Nat) : Int)) (Y.subi rfl rfl rfl (by omega)) (ivv (by omega))) (Wd.u rfl) rfl rfl ?_
    refine LR.v (Y.move rfl rfl) (Wd.u rfl) rfl rfl ?_
    refine LR.v (Y.cast (v2 := .int .i64 ((i / 2 : Nat) : Int)) (Y.quoi rfl rfl rfl (by omega)) (ivv (by omega))) (Wd.u rfl) rfl rfl ?_
    refine LR.v (Y.muli rfl rfl rfl (by omega)) (Wd.u rfl) rfl rfl ?_
    refine LR.v (Y.cast (v2 := .int .i64 ((i / 2 * 2 - 1 : Nat) : Int)) (Y.subi rfl rfl rfl (by omega)) (ivv (by omega))) (Wd.u rfl) rfl rfl ?_
    refine LR.z (Z.litw _ ([i / 2 * 2 - 2, i / 2 * 2 - 1]) rfl inf38 rfl rfl rfl (by decide) (by decide) fN_len fN_one (rfl)) (Wd.u rfl) rfl rfl (fun v30 H30 r30 => ?_)
    obtain ⟨ow30, hs30, ob30, hH30⟩ := r30
    have hzs30 : H30.size = HL1.size + 1 := by rw [hH30]; simp
    have dj11 : Dj (H11.size + 1) (HL1.size + 1) := Dj.new ow13.le
    have dj12 : Dj (H13.size + 1) (HL1.size + 1) := Dj.new ow14.le
    have dj13 : Dj ko (HL1.size + 1) := Dj.new how.le
    have df14 := (DF.new (bf_hx.mono (by omega)) : DF _ (HL1.size + 1))
    have nx15 : Nx 0 H0.size (HL1.size + 1) := Nx.new hm0.size
    have nx16 : Nx 0 H15.size (HL1.size + 1) := Nx.new hlm1.size
    replace ow13 := ow13.nw hs30
    replace ow14 := ow14.nw hs30
    replace how := how.nw hs30
    replace hx := fun x h_ => (hx x h_).nw hs30
    replace hm0 := hm0.tr hs30
    replace hlm1 := hlm1.trN hs30
    have hz7 := hs30.size
    obtain ⟨s30, rfl⟩ : ∃ s : SV, v30 = s.v := ⟨toSV v30, ow30.sv.symm⟩
    refine LR.z (Z.litw _ ([⟨s30, [i / 2 * 2 - 2, i / 2 * 2 - 1]⟩]) rfl inf22 rfl rfl rfl (by decide) (by decide) fRw_len fRw_one (rfl)) (Wd.u rfl) rfl rfl (fun v31 H31 r31 => ?_)
    obtain ⟨ow31, hs31, ob31, hH31⟩ := r31
    have hzs31 : H31.size = H30.size + 1 := by rw [hH31]; simp
    have dj17 : Dj (H11.size + 1) (H30.size + 1) := Dj.new ow13.le
    have dj18 : Dj (H13.size + 1) (H30.size + 1) := Dj.new ow14.le
    have dj19 : Dj ko (H30.size + 1) := Dj.new how.le
    have df20 := (DF.new (bf_hx.mono (by omega)) : DF _ (H30.size + 1))
    have dj21 : Dj (HL1.size + 1) (H30.size + 1) := Dj.new ow30.le
    have nx22 : Nx 0 H0.size (H30.size + 1) := Nx.new hm0.size
    have nx23 : Nx 0 H15.size (H30.size + 1) := Nx.new hlm1.size
    replace ow13 := ow13.nw hs31
    replace ow14 := ow14.nw hs31
    replace how := how.nw hs31
    replace hx := fun x h_ => (hx x h_).nw hs31
    replace ow30 := ow30.nw hs31
    replace hm0 := hm0.tr hs31
    replace hlm1 := hlm1.trN hs31
    have hz8 := hs31.size
    refine LR.z (Z.apnd how ow31.rd rfl inf22 rfl rfl (by rw [List.length_singleton]; omega) (by rw [List.length_singleton]; omega)) (Wd.u rfl) rfl rfl (fun v32 H32 r32 => ?_)
    obtain ⟨k32, how, hk32, hs32⟩ := r32
    replace hk32 : Nx ko H31.size k32 := hk32
    replace hs32 := hs32.md
    have dj24 : Dj (H11.size + 1) k32 := Dj.app (dj7) ow13.le hk32
    have dj25 : Dj (H13.size + 1) k32 := Dj.app (dj8) ow14.le hk32
    have df26 := DF.app (fg) (bf_hx.mono (by omega)) hk32
    have dj27 : Dj (HL1.size + 1) k32 := Dj.app (dj13.symm) ow30.le hk32
    have dj28 : Dj (H30.size + 1) k32 := Dj.app (dj19.symm) ow31.le hk32
    have nx29 : Nx 0 H0.size k32 := Nx.tr (nx9) hk32 hm0.size
    have nx30 : Nx (H14.size + 1) H15.size k32 := Nx.tr (nx10) hk32 hlm1.size
    replace ow13 := ow13.upL hs32 (DL.cons dj7 DL.nil)
    replace ow14 := ow14.upL hs32 (DL.cons dj8 DL.nil)
    replace hx := fun x h_ => (hx x h_).upL hs32 (DFL.cons fg DFL.nil)
    replace ow30 := ow30.upL hs32 (DL.cons dj13.symm DL.nil)
    replace ow31 := ow31.upL hs32 (DL.cons dj19.symm DL.nil)
    replace hm0 := (Mo.trL (ks := []) (hm0.mdn []) hs32 (MIL.cons (MI.app MI.z (nx9) (Nat.le_refl _)) MIL.nil)).nil
    replace hlm1 := hlm1.trL hs32 (MIL.cons (MI.app (MI.root (by simp)) (nx10) (Nat.le_refl _)) MIL.nil)
    have hz9 := hs32.size
    have hle_how := how.le
    refine LR.v (Y.assign rfl rfl) (Wd.u rfl) rfl rfl ?_
    refine LR.nil ?_
    refine hK13 _ _ ?_
    refine hK12 _ _ ?_
    refine CW.region ?_
    refine LR.v (Y.move rfl rfl) (Wd.u rfl) rfl rfl ?_
    refine LR.v (Y.addi rfl rfl rfl (by omega)) (Wd.u rfl) rfl rfl ?_
    refine LR.v (Y.assign rfl rfl) (Wd.u rfl) rfl rfl ?_
    refine LR.nil ?_
    refine QN.sub (hN9 (i + 1, v32, k32, out ++ [⟨s30, [i / 2 * 2 - 2, i / 2 * 2 - 1]⟩], fun b => G b ∨ b + 1 = (HL1.size + 1)) _ ?_ ?_) ⟨(iv (by omega)), rfl, (iv (by omega)), trivial⟩
    · exact ⟨by omega, how, (fun x h => by
        rcases List.mem_append.1 h with h | h
        · exact (hx x h).imp (fun b _ e => .inl e)
        · rw [List.mem_singleton.1 h]; exact ow30.rd.imp (fun b _ e => .inr e)), BF.or1 (bf_hx.mono (by omega)) ow30.le, DF.or1 (df26) (dj27.symm), fun b e => e.elim (hG b) (fun e => by have := (nx15); unfold Nx at this; omega), by rw [List.map_append, hol]; unfold ladG; rw [List.range_succ, List.map_append]; simp [ladP, show ¬ i < 2 by omega], nx30, hlm1⟩
    · first | omega | (simp only; omega) | (simp; omega)
  ·
    have hie : i = 2 + q11 := by omega
    obtain ⟨s33, hs33⟩ : ∃ s : SV, vo = s.v := ⟨toSV vo, how.sv.symm⟩
    have hGo : GOk (out.map Rw.l) := by rw [hol]; exact ladG_ok (by omega)
    have hok : (Sou.rows s33 out).ok := by
      refine ⟨by omega, fun x hx9 => ?_⟩
      obtain ⟨n9, hn9, rfl⟩ := List.getElem_of_mem hx9
      have h1 := hGo.deg n9 (by rw [List.length_map]; exact hn9)
      have h2 := hGo.lt n9 (by rw [List.length_map]; exact hn9)
      rw [List.getElem_map] at h1 h2
      exact ⟨h1, fun k hk => by have := h2 k hk; omega⟩
    refine CW.exit (hE10 (.exit 0) nofun _ _ (hE9 (.exit 0) nofun _ _ (hX8 _ _ ?_)))
    refine hK6 _ _ ?_
    refine CW.seq (fun K14 hK14 hE14 => ?_)
    refine CW.region ?_
    refine LR.v (Y.cast (v2 := s33.v) (Y.move rfl rfl) (hs33)) (Wd.u rfl) rfl rfl ?_
    refine LR.v (Y.build (v := .agg #[s33.v, .int .i64 0]) rfl rfl (by intro w; kernel_rfl)) (Wd.u rfl) rfl rfl ?_
    refine LR.z (Z.boxv rfl rfl) (Wd.u rfl) rfl rfl (fun v35 H35 r35 => ?_)
    obtain ⟨rfl, hv, hs35, ob35, hH35⟩ := r35
    have hzs35 : H35.size = HL1.size + 1 := by rw [hH35]; simp
    have dj31 : Dj (H11.size + 1) (HL1.size + 1) := Dj.new ow13.le
    have dj32 : Dj (H13.size + 1) (HL1.size + 1) := Dj.new ow14.le
    have dj33 : Dj ko (HL1.size + 1) := Dj.new how.le
    have df34 := (DF.new (bf_hx.mono (by omega)) : DF _ (HL1.size + 1))
    have nx35 : Nx 0 H0.size (HL1.size + 1) := Nx.new hm0.size
    replace ow13 := ow13.nw hs35
    replace ow14 := ow14.nw hs35
    replace how := how.nw hs35
    replace hx := fun x h_ => (hx x h_).nw hs35
    replace hm0 := hm0.tr hs35
    have hz10 := hs35.size
    replace hv : Var 27 H35 HL1.size ([s33.v, .int .i64 ((0 : Nat) : Int)]) := hv
    refine LR.v (Y.assign rfl rfl) (Wd.u rfl) rfl rfl ?_
    refine LR.nil ?_
    refine hK14 _ _ ?_
    refine CW.seq (fun K15 hK15 hE15 => ?_)
    refine CW.region ?_
    refine LR.v (Y.move rfl rfl) (Wd.u rfl) rfl rfl ?_
    refine LR.v (Y.mki rfl Try.runUnderlying25 (by intro ms h; cases h) rfl) (Wd.u rfl) rfl rfl ?_
    refine LR.v (Y.move rfl rfl) (Wd.u rfl) rfl rfl ?_
    refine LR.v (Y.cast (v2 := .int .i64 ((i - 1 : Nat) : Int)) (Y.subi rfl rfl rfl (by omega)) (ivv (by omega))) (Wd.u rfl) rfl rfl ?_
    -- call selvage/selvagelaw11.Id
    refine LR.call rfl Try.call12 rfl (Wd.u rfl) rfl rfl (idn_ct (i - 1) w0 _ (by omega)) (fun v41 H41 r41 => ?_)
    obtain ⟨rfl, hs41⟩ := r41
    replace ow13 := ow13.nw hs41
    replace ow14 := ow14.nw hs41
    replace how := how.nw hs41
    replace hx := fun x h_ => (hx x h_).nw hs41
    replace hv := hv.nw hs41
    replace hm0 := hm0.tr hs41
    have hz11 := hs41.size
    -- call selvage/graph.Gen
    refine LR.call rfl Try.call17 rfl (Wd.u rfl) rfl rfl (gen_ct (Sou.rows s33 out) HL1.size 0 (fun c => c < HL1.size) (idn (i - 1)) (gfun (out.map Rw.l)) w0 _ hv (srd_of (by rw [← hs33]; exact Ow.bl how (by omega)) (fun x h => (hx x h).imp (fun b _ e => by have := bf_hx b e; omega))) (fun c (h : c < HL1.size) => by omega) (fun c (h : c < HL1.size) h2 => by omega) hok (by omega) hGo.gf_all hGo.gf_le) (fun v42 H42 r42 => ?_)
    obtain ⟨rr, e42, q42, rfl, hv, hR42, hq42, hs42⟩ := r42
    replace ow13 := ow13.upL hs42 (DL.cons dj31 DL.nil)
    replace ow14 := ow14.upL hs42 (DL.cons dj32 DL.nil)
    replace how := how.upL hs42 (DL.cons dj33 DL.nil)
    replace hx := fun x h_ => (hx x h_).upL hs42 (DFL.cons df34 DFL.nil)
    replace hm0 := (Mo.trL (ks := []) (hm0.mdn []) hs42 (MIL.cons (MI.app MI.z (nx35) (Nat.le_refl _)) MIL.nil)).nil
    have hz12 := hs42.size
    obtain ⟨⟨K42, hA42, hq42b⟩, hrr42, _⟩ := hR42
    have hil : i - 1 < (out.map Rw.l).length := by rw [List.length_map]; omega
    have he42 := hGo.ok (fun j hj => ⟨i - 1, hil, List.mem_singleton.1 hj⟩) hA42
    have hrr : rr = (i - 1) / 2 := by rw [hrr42 he42, hol]; exact ladG_gen (by omega) i (i - 1) (by omega) (by omega)
    rw [he42] at hA42
    have hcnt := GOk.cnt hGo hil hA42
    have hqk := hq42b he42
    replace hv : Var 27 _ _ [s33.v, .int .i64 (q42 : Int)] := hv
    refine LR.v (Y.move rfl rfl) (Wd.u rfl) rfl rfl ?_
    refine LR.v (Y.extract rfl rfl rfl) (Wd.u rfl) rfl rfl ?_
    refine LR.v (Y.extract rfl rfl rfl) (Wd.u rfl) rfl rfl ?_
    refine LR.v (Y.assign rfl rfl) (Wd.u rfl) rfl rfl ?_
    refine LR.v (Y.assign rfl rfl) (Wd.u rfl) rfl rfl ?_
    refine LR.nil ?_
    refine hK15 _ _ ?_
    refine CW.seq (fun K16 hK16 hE16 => ?_)
    refine CW.region ?_
    refine LR.v (Y.move rfl rfl) (Wd.u rfl) rfl rfl ?_
    refine LR.v ((Y.eeq rfl Try.underlying33 rfl).isT (he42)) (Wd.u rfl) rfl rfl ?_
    refine LR.v (Y.move rfl rfl) (Wd.u rfl) rfl rfl ?_
    refine LR.v (Y.move rfl rfl) (Wd.g rfl rfl rfl) rfl rfl ?_
    refine LR.v (Y.move rfl rfl) (Wd.g rfl rfl rfl) rfl rfl ?_
    refine LR.v (Y.cast (v2 := .int .i64 ((i - 1 : Nat) : Int)) (Y.subi rfl rfl rfl (by omega)) (ivv (by omega))) (Wd.g rfl rfl rfl) rfl rfl ?_
    refine LR.v (Y.cast (v2 := .int .i64 (((i - 1) / 2 : Nat) : Int)) (Y.quoi rfl rfl rfl (by omega)) (ivv (by omega))) (Wd.g rfl rfl rfl) rfl rfl ?_
    refine LR.v ((Y.eql rfl rfl rfl).isT (by rw [hrr])) (Wd.g rfl rfl rfl) rfl rfl ?_
    refine LR.v (Y.pick_t rfl rfl rfl) (Wd.u rfl) rfl rfl ?_
    refine LR.v (Y.move rfl rfl) (Wd.u rfl) rfl rfl ?_
    refine LR.v (Y.move rfl rfl) (Wd.g rfl rfl rfl) rfl rfl ?_
    refine LR.v (Y.nilCheck rfl rfl) (Wd.g rfl rfl rfl) rfl rfl ?_
    refine LR.v (Y.fieldAddr hv.pt rfl Try.runUnderlying27 rfl rfl Try.sizeOf3 (by decide) rfl) (Wd.g rfl rfl rfl) rfl rfl ?_
    refine LR.v (Y.load1 (hv.pt.drop 1) rfl Try.isAgg3 rfl) (Wd.g rfl rfl rfl) rfl rfl ?_
    refine LR.v (Y.move rfl rfl) (Wd.g rfl rfl rfl) rfl rfl ?_
    refine LR.v ((Y.leq rfl rfl rfl).isT (by omega)) (Wd.g rfl rfl rfl) rfl rfl ?_
    refine LR.v (Y.pick_t rfl rfl rfl) (Wd.u rfl) rfl rfl ?_
    refine LR.v (Y.assign rfl rfl) (Wd.u rfl) rfl rfl ?_
    refine LR.nil ?_
    refine hK16 _ _ ?_
    refine CW.ret (hret .ret (.inr rfl) _ _ _ (res1 rfl rfl) ?_)
    exact ⟨rfl, hm0⟩

end Go.Proofs.Ytepdhokpfecdnaa.GraR
