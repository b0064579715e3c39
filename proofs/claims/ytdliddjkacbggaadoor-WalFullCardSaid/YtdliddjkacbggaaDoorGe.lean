/-
  Contracts of functions of the program, and plain laws: put together of several texts.
-/
import Derived.Test.YtdliddjkacbggaaDoorGd
import Derived.Test.YtdliddjkacbggaaDoorGb
import Derived.SizedLaws
/-
  A journal on a disk: mending, appending, opening.
-/
namespace Go.Proofs.YtdliddjkacbggaaDoor.WalF
open Go.Proofs.YtdliddjkacbggaaDoor.E Go.RowKit Go.Proofs.YtdliddjkacbggaaDoor.SimA Go.Proofs.YtdliddjkacbggaaDoor.SimB Go.Proofs.YtdliddjkacbggaaDoor.SimC Go.Proofs.YtdliddjkacbggaaDoor.SimD Go.Proofs.YtdliddjkacbggaaDoor.SimE Go.Proofs.YtdliddjkacbggaaDoor.SimF Go.Proofs.YtdliddjkacbggaaDoor.SimG Go.Proofs.YtdliddjkacbggaaDoor.SimH Go.Proofs.YtdliddjkacbggaaDoor.SimI Go.Proofs.YtdliddjkacbggaaDoor.SimQ Go.Proofs.YtdliddjkacbggaaDoor.SimR Go.Proofs.YtdliddjkacbggaaDoor.WalA Go.Proofs.YtdliddjkacbggaaDoor.WalB Go.Proofs.YtdliddjkacbggaaDoor.WalC Go.Proofs.YtdliddjkacbggaaDoor.WalD Go.Proofs.YtdliddjkacbggaaDoor.WalE
set_option maxRecDepth 20000
set_option linter.unusedVariables false
set_option linter.unusedSimpArgs false
set_option linter.unusedSectionVars false
set_option maxRecDepth 100000 in
theorem inf90 : Inf Tryd.prog 90 67 1 8 := ⟨Tryd.underlying90, _, _, rfl, rfl, rfl, rfl, rfl⟩

theorem mend_1 {D : Dk} {p : Pth} {n : Nat} (h : D.readE p ≠ 0) : mendD D p n = (D.readE p, D) := by unfold mendD; rw [if_pos h]
theorem mend_2 {D : Dk} {p : Pth} {n : Nat} (h : D.readE p = 0) (h2 : parE (D.readL p) ≠ 0) : mendD D p n = (parE (D.readL p), D) := by unfold mendD; rw [if_neg (by omega), if_pos h2]
theorem mend_3 {D : Dk} {p : Pth} {n : Nat} (h : D.readE p = 0) (h2 : parE (D.readL p) = 0) : mendD D p n = freshD D p ((parL (D.readL p)).take n) := by unfold mendD; rw [if_neg (by omega), if_neg (by omega)]
theorem recs_take (l : List (SV × Rec)) (i n : Nat) (h : i = min n l.length) : recs (l.take i) = (recs l).take n := by
  unfold recs; rw [List.map_take, h]
  rcases Nat.le_total n l.length with h2 | h2
  · rw [Nat.min_eq_left h2]
  · rw [Nat.min_eq_right h2, List.take_of_length_le (by simp), List.take_of_length_le (by simpa using h2)]
theorem encW_bd (b : List UInt8) (n : Nat) : (encW ((parL b).take n)).length ≤ b.length + 8 := by
  have h1 := (encN_parL_le b).1
  have h2 := encN_sub (parL b) n
  have h8 : W8.length = 8 := rfl
  unfold encW; rw [List.length_append]; omega
theorem parL_many (b : List UInt8) : (parL b).length ≤ b.length + 8 := Nat.le_trans (encW_many _) (encN_parL_le b).2
theorem lgN_0 {m n e : Nat} (h : e = 0) : lgN e m n = m := if_pos h
theorem lgB_0 {e : Nat} {br : Bool} (h : e = 0) : lgB e br = false := if_pos h
theorem lgN_1 {m n e : Nat} (h : e ≠ 0) : lgN e m n = n := if_neg h
theorem lgB_1 {e : Nat} {br : Bool} (h : e ≠ 0) : lgB e br = br := if_neg h

set_option maxHeartbeats 4000000 in
theorem mend_ct (mx_ : Int) (K : List Nat) (g : Gh) (b : Nat) (D : Dk) (lb : Nat) (p : Pth) (n : Nat) (br : Bool) (N : Nat) (w0 : World) (H0 : Heap)
    (hf : PDk K g H0 b D) (mx : MX mx_ H0) (bf_mx : BF (fun b => b = 0) H0.size) (dmx : DFL (fun b => b = 0) K) (hlg : Var 65 H0 lb [ptr b, Str p, .int .i64 (n : Int), .bool br]) (dl : DL (lb + 1) K) (dmv : DF (fun b => b = 0) (lb + 1)) (hl : p.length ≤ 4294960000) (hB : Bs N D) (hN : N ≤ 90000000) (hnn : n ≤ 1073741824) :
    Ct Tryd.prog w0 29 #[ptr lb] H0 (fun r H2 => ∃ K2 : List Nat, ∃ g2 : Gh, r = .int .i64 ((mendD D p n).1 : Int) ∧ (PDk K2 g2 H2 b (mendD D p n).2) ∧ (NxK K H0.size K2) ∧ (Var 65 H2 lb [ptr b, Str p, .int .i64 (lgN (mendD D p n).1 (mendN D p n) n : Int), .bool (lgB (mendD D p n).1 br)]) ∧ (DL (lb + 1) K2) ∧ Mo (Ms (K ++ [(lb + 1)])) H0 H2) := by
  refine Ct.enter (args := [ptr lb]) Tryd.func29 rfl rfl rfl ?_
  intro Q0 hret
  have hm0 : Mo (Ms (K ++ [(lb + 1)])) H0 H0 := Mo.refl _ _
  have nx_hm0_hf := NxK.refl K H0.size
  have hbk_hf := hf.bk
  have nx_hm0_hlg := Nx.refl (lb + 1) H0.size
  have hlt_hlg := hlg.lt
  have hrb := readL_bd hB p
  have hcm := encW_bd (D.readL p)
  have hpm := parL_many (D.readL p)
  refine CW.seq (fun K1 hK1 hE1 => ?_)
  refine CW.region ?_
  refine LR.v (Y.assign rfl rfl) (Wd.u rfl) rfl rfl ?_
  refine LR.nil ?_
  refine hK1 _ _ ?_
  refine CW.seq (fun K2 hK2 hE2 => ?_)
  refine CW.region_any (fun Hq => Nw H0 Hq) [] rfl ?_
  have hqs := Nw.refl H0
  refine LH.take 0 (by kernel_rfl) rfl (by kernel_rfl) (by kernel_rfl) (by kernel_rfl) (fun Hq hq => Y.move rfl rfl) (Wd.u rfl) rfl rfl hqs ?_
  refine LH.take 1 (by kernel_rfl) rfl (by kernel_rfl) (by kernel_rfl) (by kernel_rfl) (fun Hq hq => Y.nilCheck rfl rfl) (Wd.u rfl) rfl rfl hqs ?_
  refine LH.take 2 (by kernel_rfl) rfl (by kernel_rfl) (by kernel_rfl) (by kernel_rfl) (fun Hq hq => Y.fieldAddr (hlg.pt.nw hq) rfl Tryd.runUnderlying65 rfl rfl Tryd.sizeOf38 (by decide) rfl) (Wd.u rfl) rfl rfl hqs ?_
  refine LH.take 3 (by kernel_rfl) rfl (by kernel_rfl) (by kernel_rfl) (by kernel_rfl) (fun Hq hq => Y.load1 (hlg.pt.nw hq) rfl Tryd.isAgg38 rfl) (Wd.u rfl) rfl rfl hqs ?_
  refine LH.take 4 (by kernel_rfl) rfl (by kernel_rfl) (by kernel_rfl) (by kernel_rfl) (fun Hq hq => Y.move rfl rfl) (Wd.u rfl) rfl rfl hqs ?_
  refine LH.take 5 (by kernel_rfl) rfl (by kernel_rfl) (by kernel_rfl) (by kernel_rfl) (fun Hq hq => Y.nilCheck rfl rfl) (Wd.u rfl) rfl rfl hqs ?_
  refine LH.take 6 (by kernel_rfl) rfl (by kernel_rfl) (by kernel_rfl) (by kernel_rfl) (fun Hq hq => Y.fieldAddr (hlg.pt.nw hq) rfl Tryd.runUnderlying65 rfl rfl Tryd.sizeOf9 (by decide) rfl) (Wd.u rfl) rfl rfl hqs ?_
  refine LH.take 7 (by kernel_rfl) rfl (by kernel_rfl) (by kernel_rfl) (by kernel_rfl) (fun Hq hq => Y.load1 ((hlg.pt.drop 1).nw hq) rfl Tryd.isAgg9 rfl) (Wd.u rfl) rfl rfl hqs ?_
  refine LH.one (i := 8) (by kernel_rfl) ?_
  -- call (*selvage/simfs.FS).Read
  refine LO.call rfl rfl Tryd.call19 rfl (Wd.u rfl) rfl rfl (read_ct mx_ K g b D p w0 _ mx (bf_mx.mono (by omega)) hf (by omega) (fun i => by have := (hB.f i).1; omega)) (fun v16 H16 r16 => ?_)
  obtain ⟨s16, k16, rfl, ow16, hk16, hs16⟩ := r16
  have dj1 : DL k16 K := DL.app2 (DL.zK) hf.bk hk16
  have df2 := DF.app (DF.z) (bf_mx.mono hm0.size) hk16
  have dj3 : Dj (lb + 1) k16 := Dj.app (Dj.z) hlg.lt hk16
  have nx4 : Nx 0 H0.size k16 := Nx.tr (Nx.refl 0 _) hk16 hm0.size
  replace hf := hf.nw hs16
  replace mx := mx.nw hs16
  replace hlg := hlg.nw hs16
  replace hm0 := hm0.trN hs16
  have hz1 := hs16.size
  have hle_ow16 := ow16.le
  have hq16 := hqs.tr hs16
  refine ⟨.inr hq16, LH.narrow (SH2 := fun Hq => Nw H16 Hq) (fun Hq hq => hq16.tr hq) ?_⟩
  have hqn16 := Nw.refl H16
  refine LH.take 9 (by kernel_rfl) rfl (by kernel_rfl) (by kernel_rfl) (by kernel_rfl) (fun Hq hq => Y.move rfl rfl) (Wd.u rfl) rfl rfl hqn16 ?_
  refine LH.take 10 (by kernel_rfl) rfl (by kernel_rfl) (by kernel_rfl) (by kernel_rfl) (fun Hq hq => Y.extract rfl rfl rfl) (Wd.u rfl) rfl rfl hqn16 ?_
  refine LH.take 11 (by kernel_rfl) rfl (by kernel_rfl) (by kernel_rfl) (by kernel_rfl) (fun Hq hq => Y.extract rfl rfl rfl) (Wd.u rfl) rfl rfl hqn16 ?_
  refine LH.take 12 (by kernel_rfl) rfl (by kernel_rfl) (by kernel_rfl) (by kernel_rfl) (fun Hq hq => Y.assign rfl rfl) (Wd.u rfl) rfl rfl hqn16 ?_
  refine LH.take 13 (by kernel_rfl) rfl (by kernel_rfl) (by kernel_rfl) (by kernel_rfl) (fun Hq hq => Y.assign rfl rfl) (Wd.u rfl) rfl rfl hqn16 ?_
  refine LH.done (by kernel_rfl) ?_
  have hqe := hqn16
  refine hK2 _ _ ?_
  refine CW.seq (fun K3 hK3 hE3 => ?_)
  refine CW.seq (fun K4 hK4 hE4 => ?_)
  refine CW.region ?_
  refine LR.v (Y.move rfl rfl) (Wd.u rfl) rfl rfl ?_
  refine LR.v (Y.neq rfl rfl rfl) (Wd.u rfl) rfl rfl ?_
  refine LR.nil ?_
  refine hK4 _ _ ?_
  refine CW.condp rfl (fun c20 => ?_) (fun c20 => ?_)
  ·
    refine CW.seq (fun K5 hK5 hE5 => ?_)
    refine CW.region ?_
    refine LR.v (Y.move rfl rfl) (Wd.u rfl) rfl rfl ?_
    refine LR.v (Y.assign rfl rfl) (Wd.u rfl) rfl rfl ?_
    refine LR.nil ?_
    refine hK5 _ _ ?_
    refine CW.ret (hE3 .ret nofun _ _ (hret .ret (.inr rfl) _ _ _ (res1 rfl rfl) ?_))
    have hm := mend_1 (n := n) (show D.readE p ≠ 0 by omega)
    have hn0 : (mendD D p n).1 ≠ 0 := by rw [hm]; show D.readE p ≠ 0; omega
    exact ⟨_, _, by rw [hm]; rfl, by rw [hm]; exact hf, nx_hm0_hf, by rw [lgN_1 hn0, lgB_1 hn0]; exact hlg, dl, hm0⟩
  ·
    refine CW.skip ?_
    refine hK3 _ _ ?_
    refine CW.seq (fun K6 hK6 hE6 => ?_)
    refine CW.region ?_
    refine LR.v (Y.move rfl rfl) (Wd.u rfl) rfl rfl ?_
    -- call selvage/wal.Parse
    refine LR.call rfl Tryd.call9 rfl (Wd.u rfl) rfl rfl (parse_ct s16 (D.readL p) w0 _ ow16.rd.any (by have := readL_bd hB p; omega)) (fun v24 H24 r24 => ?_)
    obtain ⟨t24, l24, rfl, hrc24, hw24, hx24, hs24⟩ := r24
    replace hf := hf.nw hs24
    replace mx := mx.nw hs24
    replace hlg := hlg.nw hs24
    replace ow16 := ow16.nw hs24
    replace hm0 := hm0.trN hs24
    have hz2 := hs24.size
    replace hw24 := hw24.bnd
    have bf_hw24 := hw24.bf
    have df5 : DFL (fun b => H16.size ≤ b ∧ b < H24.size) K := DFL.above (fun b h => h.1) (by first | exact hbk_hf | exact fun k hk => Nat.le_trans (hbk_hf k hk) (by omega) | assumption)
    have df6 : DF (fun b => H16.size ≤ b ∧ b < H24.size) (lb + 1) := DF.above (fun b h => h.1) (by first | exact hle_hlg | exact hlt_hlg | omega)
    have df7 : DF (fun b => H16.size ≤ b ∧ b < H24.size) k16 := DF.above (fun b h => h.1) (by first | exact hle_ow16 | exact hlt_ow16 | omega)
    replace hx24 := fun x hx_ => (hx24 x hx_).bnd
    have bf_hx24 : BF (fun b => H16.size ≤ b ∧ b < H24.size) H24.size := fun b h => h.2
    have df8 : DFL (fun b => H16.size ≤ b ∧ b < H24.size) K := DFL.above (fun b h => h.1) (by first | exact hbk_hf | exact fun k hk => Nat.le_trans (hbk_hf k hk) (by omega) | assumption)
    have df9 : DF (fun b => H16.size ≤ b ∧ b < H24.size) (lb + 1) := DF.above (fun b h => h.1) (by first | exact hle_hlg | exact hlt_hlg | omega)
    have df10 : DF (fun b => H16.size ≤ b ∧ b < H24.size) k16 := DF.above (fun b h => h.1) (by first | exact hle_ow16 | exact hlt_ow16 | omega)
    refine LR.v (Y.move rfl rfl) (Wd.u rfl) rfl rfl ?_
    refine LR.v (Y.extract rfl rfl rfl) (Wd.u rfl) rfl rfl ?_
    refine LR.v (Y.extract rfl rfl rfl) (Wd.u rfl) rfl rfl ?_
    refine LR.v (Y.extract rfl rfl rfl) (Wd.u rfl) rfl rfl ?_
    refine LR.v (Y.assign rfl rfl) (Wd.u rfl) rfl rfl ?_
    refine LR.v (Y.assign rfl rfl) (Wd.u rfl) rfl rfl ?_
    refine LR.v (Y.assign rfl rfl) (Wd.u rfl) rfl rfl ?_
    refine LR.nil ?_
    refine hK6 _ _ ?_
    refine CW.seq (fun K7 hK7 hE7 => ?_)
    refine CW.seq (fun K8 hK8 hE8 => ?_)
    refine CW.region ?_
    refine LR.v (Y.move rfl rfl) (Wd.u rfl) rfl rfl ?_
    refine LR.v (Y.neq rfl rfl rfl) (Wd.u rfl) rfl rfl ?_
    refine LR.nil ?_
    refine hK8 _ _ ?_
    refine CW.condp rfl (fun c29 => ?_) (fun c29 => ?_)
    ·
      refine CW.seq (fun K9 hK9 hE9 => ?_)
      refine CW.region ?_
      refine LR.v (Y.move rfl rfl) (Wd.u rfl) rfl rfl ?_
      refine LR.v (Y.assign rfl rfl) (Wd.u rfl) rfl rfl ?_
      refine LR.nil ?_
      refine hK9 _ _ ?_
      refine CW.ret (hE7 .ret nofun _ _ (hret .ret (.inr rfl) _ _ _ (res1 rfl rfl) ?_))
      have hm := mend_2 (n := n) (show D.readE p = 0 by omega) (show parE (D.readL p) ≠ 0 by omega)
      have hn0 : (mendD D p n).1 ≠ 0 := by rw [hm]; show parE (D.readL p) ≠ 0; omega
      exact ⟨_, _, by rw [hm]; rfl, by rw [hm]; exact hf, nx_hm0_hf, by rw [lgN_1 hn0, lgB_1 hn0]; exact hlg, dl, hm0⟩
    ·
      refine CW.skip ?_
      refine hK7 _ _ ?_
      refine CW.seq (fun K10 hK10 hE10 => ?_)
      refine CW.region ?_
      refine LR.v (Y.move rfl rfl) (Wd.u rfl) rfl rfl ?_
      refine LR.v (Y.move rfl rfl) (Wd.u rfl) rfl rfl ?_
      refine LR.v (Y.move rfl rfl) (Wd.u rfl) rfl rfl ?_
      refine LR.v (Y.nilCheck rfl rfl) (Wd.u rfl) rfl rfl ?_
      refine LR.v (Y.fieldAddr hlg.pt rfl Tryd.runUnderlying65 rfl rfl Tryd.sizeOf3 (by decide) rfl) (Wd.u rfl) rfl rfl ?_
      refine LR.v (Y.load1 (hlg.pt.drop 2) rfl Tryd.isAgg3 rfl) (Wd.u rfl) rfl rfl ?_
      refine LR.v (Y.move rfl rfl) (Wd.u rfl) rfl rfl ?_
      refine LR.v (Y.len hw24 rfl Tryd.runUnderlying22 rfl) (Wd.u rfl) rfl rfl ?_
      refine LR.v (Y.cast (v2 := .int .i64 ((min n l24.length : Nat) : Int)) (Y.mini rfl rfl rfl) (ivv (by omega))) (Wd.u rfl) rfl rfl ?_
      refine LR.e (g := fun v => v) (Y.slice hw24 (0) (min n l24.length) rfl Tryd.runUnderlying22 Tryd.sizeOf23 rfl (.inl ⟨rfl, rfl⟩) (.inr ⟨_, _, _, rfl, rfl, by first | rfl | omega⟩) (by omega) (by omega)) (Wd.u rfl) rfl rfl (fun v40 rd40 => ?_)
      have bf_rd40 := bf_hw24
      rw [List.drop_zero] at rd40
      obtain ⟨s40, rfl⟩ : ∃ s : SV, v40 = s.v := ⟨toSV v40, rd40.sv.symm⟩
      have hrt := recs_take l24 (min n l24.length) n rfl
      rw [hrc24] at hrt
      have hlt24 := congrArg List.length hrc24
      simp only [recs, List.length_map] at hlt24
      -- call (*selvage/wal.Log).Checkpoint
      refine LR.call rfl Tryd.call28 rfl (Wd.u rfl) rfl rfl (ckpt_ct mx_ K g b D lb p n br s40 (l24.take (min n l24.length)) _ N w0 _ hf mx (bf_mx.mono (by omega)) (dmx) hlg (dl) (dmv) rd40 (bf_hw24.mono (by omega)) (df5) (fun x h => hx24 x (List.mem_of_mem_take h)) (bf_hw24.mono (by omega)) (df8) (fun x h => parL_max _ _ (by rw [← hrc24]; exact List.mem_map_of_mem (List.mem_of_mem_take h))) (by rw [hrt]; have h1 := encN_sub (parL (D.readL p)) n; have h2 := (encN_parL_le (D.readL p)).1; omega) (df6) (df9) hl hB (by rw [hrt]; have := hcm n; omega) (by rw [List.length_take]; omega)) (fun v41 H41 r41 => ?_)
      have ql11 := hf.bk
      have ql12 := hlg.lt
      have ql13 := ow16.le
      obtain ⟨K41, g41, rfl, hf, hkd41, hlg, dl241, hs41⟩ := r41
      have df14 := DFL.appK (dmx) (bf_mx.mono hm0.size) hkd41
      have dj15 : DL (lb + 1) K41 := DL.appK (dl) ql12 hkd41
      have dj16 : DL k16 K41 := DL.appK (dj1) ql13 hkd41
      have df17 := DFL.appK (df5) (bf_hw24.mono (by omega)) hkd41
      have df18 := DFL.appK (df8) (bf_hx24.mono (by omega)) hkd41
      have df19 := DFL.appK (df5) (bf_rd40.mono (by omega)) hkd41
      have nx20 : NxK K H0.size K41 := NxK.tr (nx_hm0_hf) hkd41 hm0.size
      replace mx := mx.upL hs41 (DFL.app dmx (DFL.cons dmv DFL.nil))
      replace ow16 := ow16.upL hs41 (DL.app dj1 (DL.cons dj3.symm DL.nil))
      replace hw24 := hw24.upL hs41 (DFL.app df5 (DFL.cons df6 DFL.nil))
      replace hx24 := fun x hx_ => (hx24 x hx_).upL hs41 (DFL.app df8 (DFL.cons df9 DFL.nil))
      replace rd40 := rd40.upL hs41 (DFL.app df5 (DFL.cons df6 DFL.nil))
      replace hm0 := hm0.trL hs41 (MIL.app (MIL.ofK (nx_hm0_hf) (by intro k hk; simp [hk])) (MIL.cons (MI.app (MI.root (by simp)) (nx_hm0_hlg) (Nat.le_refl _)) MIL.nil))
      have hz3 := hs41.size
      have hbk_hf := hf.bk
      refine LR.v (Y.assign rfl rfl) (Wd.u rfl) rfl rfl ?_
      refine LR.nil ?_
      refine hK10 _ _ ?_
      refine CW.ret (hret .ret (.inr rfl) _ _ _ (res1 rfl rfl) ?_)
      have hm := mend_3 (n := n) (show D.readE p = 0 by omega) (show parE (D.readL p) = 0 by omega)
      rw [hrt] at hf hlg
      exact ⟨_, _, by rw [hm, hrt], by rw [hm]; exact hf, nx20, by rw [hm]; unfold mendN; rw [show ((parL (D.readL p)).take n).length = (l24.take (min n l24.length)).length from by rw [← hrt]; exact List.length_map _]; exact hlg, dl241, hm0⟩


theorem pre_0 {D : Dk} {p : Pth} {n : Nat} {br : Bool} (h : br = false) : preD D p n br = (0, n, D) := by unfold preD; rw [h]; simp
theorem pre_1 {D : Dk} {p : Pth} {n : Nat} {br : Bool} (h : br = true) : preD D p n br = ((mendD D p n).1, mendN D p n, (mendD D p n).2) := by unfold preD; rw [if_pos h]
theorem app_bad {D : Dk} {p : Pth} {n : Nat} {br : Bool} {r : Rec} (h : br = true) (h2 : (mendD D p n).1 ≠ 0) : appD D p n br r = ((mendD D p n).1, n, br, (mendD D p n).2) := by unfold appD; rw [pre_1 h, if_pos h2]
theorem app_go {D D1 : Dk} {p : Pth} {n n1 : Nat} {br : Bool} {r : Rec} (h : preD D p n br = (0, n1, D1)) : appD D p n br r = ((runD (apS p n1 r) D1).1, if (runD (apS p n1 r) D1).1 = 0 then n1 + 1 else n1, if (runD (apS p n1 r) D1).1 = 0 then false else true, (runD (apS p n1 r) D1).2) := by
  unfold appD; rw [h]; simp
/-- what opening a journal comes to -/
def openD (D : Dk) (p : Pth) : Nat × List Rec × Dk :=
  if nameB p = false ∨ nameB (newP p) = false then (7, [], D)
  else if D.readE p = 2 then ((freshD D p []).1, [], (freshD D p []).2)
  else if D.readE p ≠ 0 then (D.readE p, [], D)
  else if parE (D.readL p) ≠ 0 then (parE (D.readL p), [], D)
  else if parS (D.readL p) < (D.readL p).length then ((freshD D p (parL (D.readL p))).1, if (freshD D p (parL (D.readL p))).1 = 0 then parL (D.readL p) else [], (freshD D p (parL (D.readL p))).2)
  else (0, parL (D.readL p), D)
theorem bs_open {N : Nat} {D : Dk} (h : Bs N D) (p : Pth) : Bs (N + 4 * (N + 28)) (openD D p).2.2 := by
  have h1 := (encN_parL_le (D.readL p)).2
  have h2 := readL_bd h p
  unfold openD
  split
  · exact h.mono (by omega)
  split
  · exact (bs_fresh h p []).mono (by simp [encW, W8, encN]; omega)
  split
  · exact h.mono (by omega)
  split
  · exact h.mono (by omega)
  split
  · exact (bs_fresh h p _).mono (by omega)
  · exact h.mono (by omega)

set_option maxHeartbeats 4000000 in
theorem wapp_ct (mx_ : Int) (K : List Nat) (g : Gh) (b : Nat) (D : Dk) (lb : Nat) (p : Pth) (n : Nat) (br : Bool) (s : SV) (rc : Rec) (F : Nat → Prop) (N : Nat) (w0 : World) (H0 : Heap)
    (hf : PDk K g H0 b D) (mx : MX mx_ H0) (bf_mx : BF (fun b => b = 0) H0.size) (dmx : DFL (fun b => b = 0) K) (hlg : Var 65 H0 lb [ptr b, Str p, .int .i64 (n : Int), .bool br]) (dl : DL (lb + 1) K) (dmv : DF (fun b => b = 0) (lb + 1)) (hr : Rd F H0 fB 1 s.v rc) (bf_hr : BF F H0.size) (dfr : DFL F K) (dlr : DF F (lb + 1)) (hrl : rc.length ≤ 1048576) (hl : p.length ≤ 4294960000) (hB : Bs N D) (hN : N ≤ 80000000) (hnn : n ≤ 1000000000) :
    Ct Tryd.prog w0 17 #[ptr lb, s.v] H0 (fun r H2 => ∃ K2 : List Nat, ∃ g2 : Gh, r = .int .i64 ((appD D p n br rc).1 : Int) ∧ (PDk K2 g2 H2 b (appD D p n br rc).2.2.2) ∧ (NxK K H0.size K2) ∧ (Var 65 H2 lb [ptr b, Str p, .int .i64 ((appD D p n br rc).2.1 : Int), .bool (appD D p n br rc).2.2.1]) ∧ (DL (lb + 1) K2) ∧ Mo (Ms (K ++ [(lb + 1)])) H0 H2) := by
  refine Ct.enter (args := [ptr lb, s.v]) Tryd.func17 rfl rfl rfl ?_
  intro Q0 hret
  have hm0 : Mo (Ms (K ++ [(lb + 1)])) H0 H0 := Mo.refl _ _
  have nx_hm0_hf := NxK.refl K H0.size
  have hbk_hf := hf.bk
  have nx_hm0_hlg := Nx.refl (lb + 1) H0.size
  have hlt_hlg := hlg.lt
  have hrb := readL_bd hB p
  have hcm := encW_bd (D.readL p)
  have hpm := parL_many (D.readL p)
  refine CW.seq (fun K1 hK1 hE1 => ?_)
  refine CW.region ?_
  refine LR.z (Z.boxv1 rfl rfl (rfl)) (Wd.u rfl) rfl rfl (fun v2 H2 r2 => ?_)
  obtain ⟨rfl, hc2, hs2, ob2, hH2⟩ := r2
  have hzs2 : H2.size = H0.size + 1 := by rw [hH2]; simp
  have dj1 : DL (H0.size + 1) K := DL.newK hf.bk
  have df2 := (DF.new (bf_mx.mono hm0.size) : DF _ (H0.size + 1))
  have dj3 : Dj (lb + 1) (H0.size + 1) := Dj.new hlg.lt
  have df4 := (DF.new (bf_hr.mono hm0.size) : DF _ (H0.size + 1))
  have nx5 : Nx 0 H0.size (H0.size + 1) := Nx.new hm0.size
  replace hf := hf.nw hs2
  replace mx := mx.nw hs2
  replace hlg := hlg.nw hs2
  replace hr := hr.nw hs2
  replace hm0 := hm0.trN hs2
  have hz1 := hs2.size
  replace hc2 : Var 41 H2 H0.size ([ptr lb]) := hc2
  refine LR.z (Z.boxv1 rfl rfl ((hr).oneCell)) (Wd.u rfl) rfl rfl (fun v3 H3 r3 => ?_)
  obtain ⟨rfl, hc3, hs3, ob3, hH3⟩ := r3
  have hzs3 : H3.size = H2.size + 1 := by rw [hH3]; simp
  have dj6 : DL (H2.size + 1) K := DL.newK hf.bk
  have df7 := (DF.new (bf_mx.mono hm0.size) : DF _ (H2.size + 1))
  have dj8 : Dj (lb + 1) (H2.size + 1) := Dj.new hlg.lt
  have df9 := (DF.new (bf_hr.mono hm0.size) : DF _ (H2.size + 1))
  have dj10 : Dj (H0.size + 1) (H2.size + 1) := Dj.new hc2.lt
  have nx11 : Nx 0 H0.size (H2.size + 1) := Nx.new hm0.size
  replace hf := hf.nw hs3
  replace mx := mx.nw hs3
  replace hlg := hlg.nw hs3
  replace hr := hr.nw hs3
  replace hc2 := hc2.nw hs3
  replace hm0 := hm0.trN hs3
  have hz2 := hs3.size
  replace hc3 : Var 23 H3 H2.size ([s.v]) := hc3
  refine LR.v (Y.assign rfl rfl) (Wd.u rfl) rfl rfl ?_
  refine LR.nil ?_
  refine hK1 _ _ ?_
  refine CW.seq (fun K2 hK2 hE2 => ?_)
  refine CW.seq (fun K3 hK3 hE3 => ?_)
  refine CW.region ?_
  refine LR.v (Y.load1 hc3.pt rfl Tryd.isAgg23 rfl) (Wd.u rfl) rfl rfl ?_
  refine LR.v (Y.len hr rfl Tryd.runUnderlying23 rfl) (Wd.u rfl) rfl rfl ?_
  refine LR.v ((Y.gtr rfl rfl rfl).isF (by omega)) (Wd.u rfl) rfl rfl ?_
  refine LR.nil ?_
  refine hK3 _ _ ?_
  refine CW.cond_f rfl ?_
  refine CW.skip ?_
  refine hK2 _ _ ?_
  refine CW.cut (fun (s_ : (List Nat) × (Gh) × (Dk) × (Nat)) => match s_ with | (K1, g1, D1, n1) => [(2, .pointer (some ⟨H0.size, 0, none⟩)), (3, .pointer (some ⟨H2.size, 0, none⟩))])
    (fun (s_ : (List Nat) × (Gh) × (Dk) × (Nat)) (H : Heap) => match s_ with | (K1, g1, D1, n1) => (PDk K1 g1 H b D1) ∧ (Var 65 H lb [ptr b, Str p, .int .i64 (n1 : Int), .bool false]) ∧ (preD D p n br = (0, n1, D1)) ∧ (Bs (N + 4 * (N + 28)) D1) ∧ (n1 ≤ 1100000000) ∧ (NxK K H3.size K1) ∧ (DL (lb + 1) K1) ∧ Mo (Ms (K ++ [(lb + 1)])) H3 H) (fun K4 hK4 hE4 => ?_) ?_
  ·
    have hcm4 : Mo (Ms (K ++ [(lb + 1)])) H3 H3 := Mo.refl _ _
    have nx_hcm4_hf := NxK.refl K H3.size
    have nx_hcm4_hlg := Nx.refl (lb + 1) H3.size
    refine CW.seq (fun K5 hK5 hE5 => ?_)
    refine CW.region ?_
    refine LR.v (Y.load1 hc2.pt rfl Tryd.isAgg41 rfl) (Wd.u rfl) rfl rfl ?_
    refine LR.v (Y.nilCheck rfl rfl) (Wd.u rfl) rfl rfl ?_
    refine LR.v (Y.fieldAddr hlg.pt rfl Tryd.runUnderlying65 rfl rfl Tryd.sizeOf4 (by decide) rfl) (Wd.u rfl) rfl rfl ?_
    refine LR.v (Y.load1 (hlg.pt.drop 3) rfl Tryd.isAgg4 rfl) (Wd.u rfl) rfl rfl ?_
    refine LR.nil ?_
    refine hK5 _ _ ?_
    refine CW.cond rfl (fun c14 => ?_) (fun c14 => ?_)
    ·
      refine CW.seq (fun K6 hK6 hE6 => ?_)
      refine CW.region ?_
      refine LR.v (Y.load1 hc2.pt rfl Tryd.isAgg41 rfl) (Wd.u rfl) rfl rfl ?_
      -- call (*selvage/wal.Log).mend
      refine LR.call rfl Tryd.call29 rfl (Wd.u rfl) rfl rfl (mend_ct mx_ K g b D lb p n br N w0 _ hf mx (bf_mx.mono (by omega)) (dmx) hlg (dl) (dmv) hl hB (by omega) (by omega)) (fun v16 H16 r16 => ?_)
      have ql12 := hf.bk
      have ql13 := hlg.lt
      have ql14 := hc2.lt
      have ql15 := hc3.lt
      obtain ⟨K16, g16, rfl, hf, hkd16, hlg, dl216, hs16⟩ := r16
      have df16 := DFL.appK (dmx) (bf_mx.mono hm0.size) hkd16
      have dj17 : DL (lb + 1) K16 := DL.appK (dl) ql13 hkd16
      have df18 := DFL.appK (dfr) (bf_hr.mono hm0.size) hkd16
      have dj19 : DL (H0.size + 1) K16 := DL.appK (dj1) ql14 hkd16
      have dj20 : DL (H2.size + 1) K16 := DL.appK (dj6) ql15 hkd16
      have nx21 : NxK K H0.size K16 := NxK.tr (nx_hm0_hf) hkd16 hm0.size
      have nx22 : NxK K H3.size K16 := NxK.tr (nx_hcm4_hf) hkd16 hcm4.size
      replace mx := mx.upL hs16 (DFL.app dmx (DFL.cons dmv DFL.nil))
      replace hr := hr.upL hs16 (DFL.app dfr (DFL.cons dlr DFL.nil))
      replace hc2 := hc2.upL hs16 (DL.app dj1 (DL.cons dj3.symm DL.nil))
      replace hc3 := hc3.upL hs16 (DL.app dj6 (DL.cons dj8.symm DL.nil))
      replace hm0 := hm0.trL hs16 (MIL.app (MIL.ofK (nx_hm0_hf) (by intro k hk; simp [hk])) (MIL.cons (MI.app (MI.root (by simp)) (nx_hm0_hlg) (Nat.le_refl _)) MIL.nil))
      replace hcm4 := hcm4.trL hs16 (MIL.app (MIL.ofK (nx_hcm4_hf) (by intro k hk; simp [hk])) (MIL.cons (MI.app (MI.root (by simp)) (nx_hcm4_hlg) (Nat.le_refl _)) MIL.nil))
      have hz3 := hs16.size
      have hbk_hf := hf.bk
      refine LR.v (Y.assign rfl rfl) (Wd.u rfl) rfl rfl ?_
      refine LR.nil ?_
      refine hK6 _ _ ?_
      refine CW.seq (fun K7 hK7 hE7 => ?_)
      refine CW.region ?_
      refine LR.v (Y.move rfl rfl) (Wd.u rfl) rfl rfl ?_
      refine LR.v (Y.neq rfl rfl rfl) (Wd.u rfl) rfl rfl ?_
      refine LR.nil ?_
      refine hK7 _ _ ?_
      refine CW.condp rfl (fun c18 => ?_) (fun c18 => ?_)
      ·
        refine CW.seq (fun K8 hK8 hE8 => ?_)
        refine CW.region ?_
        refine LR.v (Y.move rfl rfl) (Wd.u rfl) rfl rfl ?_
        refine LR.v (Y.assign rfl rfl) (Wd.u rfl) rfl rfl ?_
        refine LR.nil ?_
        refine hK8 _ _ ?_
        refine CW.ret (hE4 .ret nofun _ _ (hret .ret (.inr rfl) _ _ _ (res1 rfl rfl) ?_))
        have hz : (mendD D p n).1 ≠ 0 := by omega
        have hgo := app_bad (r := rc) c14 hz
        exact ⟨_, _, by rw [hgo], by rw [hgo]; exact hf, nx21, by rw [hgo]; rw [lgN_1 hz, lgB_1 hz] at hlg; exact hlg, dl216, hm0⟩
      ·
        refine CW.skip ?_
        have hm0_ : (mendD D p n).1 = 0 := by omega
        refine QN.sub (hK4 (K16, g16, (mendD D p n).2, mendN D p n) _ ?_) ⟨rfl, rfl, trivial⟩
        exact ⟨hf, by rw [lgN_0 hm0_, lgB_0 hm0_] at hlg; exact hlg, by rw [pre_1 c14, hm0_], bs_mend hB p n, by unfold mendN; rw [List.length_take]; omega, nx22, dl216, hcm4⟩
    ·
      refine CW.skip ?_
      refine QN.sub (hK4 (K, g, D, n) _ ?_) ⟨rfl, rfl, trivial⟩
      exact ⟨hf, by rw [show br = false by simpa using c14] at hlg; exact hlg, pre_0 (by simpa using c14), hB.mono (by omega), (by omega), nx_hcm4_hf, dl, hcm4⟩
  ·
    rintro ⟨K1, g1, D1, n1⟩ Hcutc14 hIcutc14
    obtain ⟨hf, hlg, hpre, hB1, hn1, nxl_hf, dj_hf_hlg, hlmcutc14⟩ := hIcutc14
    have df23 := DFL.appK (dmx) (bf_mx.mono hm0.size) nxl_hf
    have df24 := DFL.appK (dfr) (bf_hr.mono hm0.size) nxl_hf
    have dj25 : DL (H0.size + 1) K1 := DL.appK (dj1) hc2.lt nxl_hf
    have dj26 : DL (H2.size + 1) K1 := DL.appK (dj6) hc3.lt nxl_hf
    have nx27 : NxK K H0.size K1 := NxK.tr (nx_hm0_hf) nxl_hf hm0.size
    replace mx := mx.upL hlmcutc14 (DFL.app dmx (DFL.cons dmv DFL.nil))
    replace hr := hr.upL hlmcutc14 (DFL.app dfr (DFL.cons dlr DFL.nil))
    replace hc2 := hc2.upL hlmcutc14 (DL.app dj1 (DL.cons dj3.symm DL.nil))
    replace hc3 := hc3.upL hlmcutc14 (DL.app dj6 (DL.cons dj8.symm DL.nil))
    replace hm0 := hm0.trL hlmcutc14 (MIL.app (MIL.ofK (nx_hm0_hf) (by intro k hk; simp [hk])) (MIL.cons (MI.app (MI.root (by simp)) (nx_hm0_hlg) (Nat.le_refl _)) MIL.nil))
    have hz4 := hlmcutc14.size
    have hbk_hf := hf.bk
    have dj28 := dj_hf_hlg
    have nx29 := nxl_hf
    have nx_hlmcutc14_hlg := Nx.refl (lb + 1) H3.size
    refine CW.seq (fun K9 hK9 hE9 => ?_)
    refine CW.region ?_
    refine LR.v (Y.makeFunc rfl rfl) (Wd.u rfl) rfl rfl ?_
    refine LR.v (Y.assign rfl rfl) (Wd.u rfl) rfl rfl ?_
    refine LR.nil ?_
    refine hK9 _ _ ?_
    refine CW.seq (fun K10 hK10 hE10 => ?_)
    refine CW.region ?_
    refine LR.v (Y.makeFunc rfl rfl) (Wd.u rfl) rfl rfl ?_
    refine LR.v (Y.move rfl rfl) (Wd.u rfl) rfl rfl ?_
    refine LR.v (Y.makeFunc rfl rfl) (Wd.u rfl) rfl rfl ?_
    refine LR.v (Y.move rfl rfl) (Wd.u rfl) rfl rfl ?_
    refine LR.z (Z.litw _ (([(33, [ptr H0.size, ptr H2.size]), (30, [ptr H0.size]), (35, [ptr H0.size]), (30, [ptr H0.size])] : List FnV)) rfl inf90 rfl rfl rfl (by decide) (by decide) fFn_len fFn_one (rfl)) (Wd.u rfl) rfl rfl (fun v25 H25 r25 => ?_)
    obtain ⟨ow25, hs25, ob25, hH25⟩ := r25
    have hzs25 : H25.size = Hcutc14.size + 1 := by rw [hH25]; simp
    have dj30 : DL (Hcutc14.size + 1) K1 := DL.newK hf.bk
    have df31 := (DF.new (bf_mx.mono hm0.size) : DF _ (Hcutc14.size + 1))
    have df32 := (DF.new (bf_hr.mono hm0.size) : DF _ (Hcutc14.size + 1))
    have dj33 : Dj (H0.size + 1) (Hcutc14.size + 1) := Dj.new hc2.lt
    have dj34 : Dj (H2.size + 1) (Hcutc14.size + 1) := Dj.new hc3.lt
    have dj35 : Dj (lb + 1) (Hcutc14.size + 1) := Dj.new hlg.lt
    have nx36 : Nx 0 H0.size (Hcutc14.size + 1) := Nx.new hm0.size
    replace hf := hf.nw hs25
    replace mx := mx.nw hs25
    replace hr := hr.nw hs25
    replace hc2 := hc2.nw hs25
    replace hc3 := hc3.nw hs25
    replace hlg := hlg.nw hs25
    replace hm0 := hm0.trN hs25
    have hz5 := hs25.size
    -- call selvage/wal.first
    refine LR.call rfl Tryd.call32 rfl (Wd.u rfl) rfl rfl (first_ct K1 g1 b D1 v25 [(33, [ptr H0.size, ptr H2.size]), (30, [ptr H0.size]), (35, [ptr H0.size]), (30, [ptr H0.size])] (apS p n1 rc) _ w0 _ hf ow25.rd (BF.of ow25.le) (DFL.of (dj30)) rfl (ap_steps (LgS.mk mx (bf_mx.mono (by omega)) (df23) hc2 hlg (dj25) (dj28)) (VaS.mk hc3 (dj26)) (RwS.mk hr (bf_hr.mono (by omega)) (df24)) hrl hl hB1 (by omega))) (fun v26 H26 r26 => ?_)
    have ql37 := hf.bk
    have ql38 := hc2.lt
    have ql39 := hc3.lt
    have ql40 := hlg.lt
    have ql41 := ow25.le
    obtain ⟨K26, g26, rfl, hf, hkd26, hs26⟩ := r26
    have df42 := DFL.appK (df23) (bf_mx.mono hm0.size) hkd26
    have df43 := DFL.appK (df24) (bf_hr.mono hm0.size) hkd26
    have dj44 : DL (H0.size + 1) K26 := DL.appK (dj25) ql38 hkd26
    have dj45 : DL (H2.size + 1) K26 := DL.appK (dj26) ql39 hkd26
    have dj46 : DL (lb + 1) K26 := DL.appK (dj28) ql40 hkd26
    have dj47 : DL (Hcutc14.size + 1) K26 := DL.appK (dj30) ql41 hkd26
    have nx48 : NxK K H0.size K26 := NxK.tr (nx27) hkd26 hm0.size
    replace mx := mx.upL hs26 (df23)
    replace hr := hr.upL hs26 (df24)
    replace hc2 := hc2.upL hs26 (dj25)
    replace hc3 := hc3.upL hs26 (dj26)
    replace hlg := hlg.upL hs26 (dj28)
    replace ow25 := ow25.upL hs26 (dj30)
    replace hm0 := hm0.trL hs26 (MIL.ofK (nx27) (by intro k hk; simp [hk]))
    have hz6 := hs26.size
    have hbk_hf := hf.bk
    have hgo := app_go (r := rc) hpre
    refine LR.v (Y.assign rfl rfl) (Wd.u rfl) rfl rfl ?_
    refine LR.nil ?_
    refine hK10 _ _ ?_
    refine CW.seq (fun K11 hK11 hE11 => ?_)
    refine CW.seq (fun K12 hK12 hE12 => ?_)
    refine CW.region ?_
    refine LR.v (Y.move rfl rfl) (Wd.u rfl) rfl rfl ?_
    refine LR.v (Y.neq rfl rfl rfl) (Wd.u rfl) rfl rfl ?_
    refine LR.nil ?_
    refine hK12 _ _ ?_
    refine CW.condp rfl (fun c28 => ?_) (fun c28 => ?_)
    ·
      refine CW.seq (fun K13 hK13 hE13 => ?_)
      refine CW.region ?_
      refine LR.v (Y.load1 hc2.pt rfl Tryd.isAgg41 rfl) (Wd.u rfl) rfl rfl ?_
      refine LR.v (Y.nilCheck rfl rfl) (Wd.u rfl) rfl rfl ?_
      refine LR.v (Y.fieldAddr hlg.pt rfl Tryd.runUnderlying65 rfl rfl Tryd.sizeOf4 (by decide) rfl) (Wd.u rfl) rfl rfl ?_
      refine LR.s (S.var1 hlg 3 ([ptr b, Str p, .int .i64 (n1 : Int), .bool true]) rfl rfl rfl (rfl) Tryd.sizeOf4 (by simp) (rfl)) (Wd.u rfl) rfl (fun H10_3 r10_3 => ?_)
      obtain ⟨hlg, hs10_3⟩ := r10_3
      replace hs10_3 := hs10_3.md1
      replace hf := hf.upL hs10_3 (DKL.cons dj46 DKL.nil)
      replace mx := mx.upL hs10_3 (DFL.cons dmv DFL.nil)
      replace hr := hr.upL hs10_3 (DFL.cons dlr DFL.nil)
      replace hc2 := hc2.upL hs10_3 (DL.cons dj3.symm DL.nil)
      replace hm0 := hm0.trL hs10_3 (MIL.cons (MI.app (MI.root (by simp)) (nx_hm0_hlg) (Nat.le_refl _)) MIL.nil)
      have hz7 := hs10_3.size
      refine LR.nil ?_
      refine hK13 _ _ ?_
      refine CW.seq (fun K14 hK14 hE14 => ?_)
      refine CW.region ?_
      refine LR.v (Y.move rfl rfl) (Wd.u rfl) rfl rfl ?_
      refine LR.v (Y.assign rfl rfl) (Wd.u rfl) rfl rfl ?_
      refine LR.nil ?_
      refine hK14 _ _ ?_
      refine CW.ret (hE11 .ret nofun _ _ (hret .ret (.inr rfl) _ _ _ (res1 rfl rfl) ?_))
      have hz : (runD (apS p n1 rc) D1).1 ≠ 0 := by omega
      rw [if_neg hz, if_neg hz] at hgo
      exact ⟨_, _, by rw [hgo], by rw [hgo]; exact hf, nx48, by rw [hgo]; exact hlg, dj46, hm0⟩
    ·
      refine CW.skip ?_
      refine hK11 _ _ ?_
      refine CW.seq (fun K15 hK15 hE15 => ?_)
      refine CW.region ?_
      refine LR.v (Y.load1 hc2.pt rfl Tryd.isAgg41 rfl) (Wd.u rfl) rfl rfl ?_
      refine LR.v (Y.nilCheck rfl rfl) (Wd.u rfl) rfl rfl ?_
      refine LR.v (Y.fieldAddr hlg.pt rfl Tryd.runUnderlying65 rfl rfl Tryd.sizeOf3 (by decide) rfl) (Wd.u rfl) rfl rfl ?_
      refine LR.v (Y.load1 (hlg.pt.drop 2) rfl Tryd.isAgg3 rfl) (Wd.u rfl) rfl rfl ?_
      refine LR.v (Y.cast (v2 := .int .i64 ((n1 + 1 : Nat) : Int)) (Y.addi rfl rfl rfl (by omega)) (ivv (by omega))) (Wd.u rfl) rfl rfl ?_
      refine LR.v (Y.nilCheck rfl rfl) (Wd.u rfl) rfl rfl ?_
      refine LR.v (Y.fieldAddr hlg.pt rfl Tryd.runUnderlying65 rfl rfl Tryd.sizeOf3 (by decide) rfl) (Wd.u rfl) rfl rfl ?_
      refine LR.s (S.var1 hlg 2 ([ptr b, Str p, .int .i64 ((n1 + 1 : Nat) : Int), .bool false]) rfl rfl rfl (rfl) Tryd.sizeOf3 (by simp) (rfl)) (Wd.u rfl) rfl (fun H12_7 r12_7 => ?_)
      obtain ⟨hlg, hs12_7⟩ := r12_7
      replace hs12_7 := hs12_7.md1
      replace hf := hf.upL hs12_7 (DKL.cons dj46 DKL.nil)
      replace mx := mx.upL hs12_7 (DFL.cons dmv DFL.nil)
      replace hr := hr.upL hs12_7 (DFL.cons dlr DFL.nil)
      replace hc2 := hc2.upL hs12_7 (DL.cons dj3.symm DL.nil)
      replace hm0 := hm0.trL hs12_7 (MIL.cons (MI.app (MI.root (by simp)) (nx_hm0_hlg) (Nat.le_refl _)) MIL.nil)
      have hz8 := hs12_7.size
      refine LR.nil ?_
      refine hK15 _ _ ?_
      refine CW.seq (fun K16 hK16 hE16 => ?_)
      refine CW.region ?_
      refine LR.v (Y.assign rfl rfl) (Wd.u rfl) rfl rfl ?_
      refine LR.nil ?_
      refine hK16 _ _ ?_
      refine CW.ret (hret .ret (.inr rfl) _ _ _ (res1 rfl rfl) ?_)
      have hz : (runD (apS p n1 rc) D1).1 = 0 := by omega
      rw [if_pos hz, if_pos hz] at hgo
      exact ⟨_, _, by rw [hgo, hz]; rfl, by rw [hgo]; exact hf, nx48, by rw [hgo]; exact hlg, dj46, hm0⟩

end Go.Proofs.YtdliddjkacbggaaDoor.WalF
/-
  A journal on a disk: opening.
-/
namespace Go.Proofs.YtdliddjkacbggaaDoor.WalG
open Go.Proofs.YtdliddjkacbggaaDoor.E Go.RowKit Go.Proofs.YtdliddjkacbggaaDoor.SimA Go.Proofs.YtdliddjkacbggaaDoor.SimB Go.Proofs.YtdliddjkacbggaaDoor.SimC Go.Proofs.YtdliddjkacbggaaDoor.SimD Go.Proofs.YtdliddjkacbggaaDoor.SimE Go.Proofs.YtdliddjkacbggaaDoor.SimF Go.Proofs.YtdliddjkacbggaaDoor.SimG Go.Proofs.YtdliddjkacbggaaDoor.SimH Go.Proofs.YtdliddjkacbggaaDoor.SimI Go.Proofs.YtdliddjkacbggaaDoor.SimQ Go.Proofs.YtdliddjkacbggaaDoor.SimR Go.Proofs.YtdliddjkacbggaaDoor.WalA Go.Proofs.YtdliddjkacbggaaDoor.WalB Go.Proofs.YtdliddjkacbggaaDoor.WalC Go.Proofs.YtdliddjkacbggaaDoor.WalD Go.Proofs.YtdliddjkacbggaaDoor.WalE Go.Proofs.YtdliddjkacbggaaDoor.WalF
set_option maxRecDepth 20000
set_option linter.unusedVariables false
set_option linter.unusedSimpArgs false
set_option linter.unusedSectionVars false

/-- where a journal lies, or that there is none -/
structure LgP (k : Nat) (H : Heap) (v : Value) (b : Nat) (p : Pth) (n : Nat) (br : Bool) : Prop where
  ex : (k = 0 ∧ v = .pointer none) ∨ ∃ lb, k = lb + 1 ∧ v = ptr lb ∧ Var 65 H lb [ptr b, Str p, .int .i64 (n : Int), .bool br]
section
variable {k b n : Nat} {H H' : Heap} {v : Value} {p : Pth} {br : Bool} {ks : List Nat}
theorem LgP.le (h : LgP k H v b p n br) : k ≤ H.size := by
  rcases h.ex with ⟨e, _⟩ | ⟨lb, e, _, h⟩
  · omega
  · have := h.lt; omega
theorem LgP.nw (h : LgP k H v b p n br) (s : Nw H H') : LgP k H' v b p n br := ⟨h.ex.imp id (fun ⟨lb, e, e2, h⟩ => ⟨lb, e, e2, h.nw s⟩)⟩
theorem LgP.upL (h : LgP k H v b p n br) (s : Mo (Ms ks) H H') (d : DL k ks) : LgP k H' v b p n br := ⟨h.ex.imp id (fun ⟨lb, e, e2, h⟩ => ⟨lb, e, e2, h.upL s (e ▸ d)⟩)⟩
theorem LgP.var {lb : Nat} (h : LgP (lb + 1) H v b p n br) : v = ptr lb ∧ Var 65 H lb [ptr b, Str p, .int .i64 (n : Int), .bool br] := by
  rcases h.ex with ⟨e, _⟩ | ⟨lb2, e, e2, h⟩
  · omega
  · obtain rfl : lb = lb2 := by omega
    exact ⟨e2, h⟩
end
section
variable {D : Dk} {p : Pth}
theorem open_a (h : nameB p = false ∨ nameB (newP p) = false) : openD D p = (7, [], D) := by unfold openD; rw [if_pos h]
theorem open_n (n1 : nameB p = true) (n2 : nameB (newP p) = true) : ¬ (nameB p = false ∨ nameB (newP p) = false) := by rw [n1, n2]; simp
theorem open_b (n1 : nameB p = true) (n2 : nameB (newP p) = true) (h : D.readE p = 2) : openD D p = ((freshD D p []).1, [], (freshD D p []).2) := by unfold openD; rw [if_neg (open_n n1 n2), if_pos h]
theorem open_c (n1 : nameB p = true) (n2 : nameB (newP p) = true) (h : D.readE p ≠ 2) (h2 : D.readE p ≠ 0) : openD D p = (D.readE p, [], D) := by unfold openD; rw [if_neg (open_n n1 n2), if_neg h, if_pos h2]
theorem open_d (n1 : nameB p = true) (n2 : nameB (newP p) = true) (h : D.readE p = 0) (h2 : parE (D.readL p) ≠ 0) : openD D p = (parE (D.readL p), [], D) := by unfold openD; rw [if_neg (open_n n1 n2), if_neg (by omega), if_neg (by omega), if_pos h2]
theorem open_e (n1 : nameB p = true) (n2 : nameB (newP p) = true) (h : D.readE p = 0) (h2 : parE (D.readL p) = 0) (h3 : parS (D.readL p) < (D.readL p).length) : openD D p = ((freshD D p (parL (D.readL p))).1, if (freshD D p (parL (D.readL p))).1 = 0 then parL (D.readL p) else [], (freshD D p (parL (D.readL p))).2) := by
  unfold openD; rw [if_neg (open_n n1 n2), if_neg (by omega), if_neg (by omega), if_neg (by omega), if_pos h3]
theorem open_f (n1 : nameB p = true) (n2 : nameB (newP p) = true) (h : D.readE p = 0) (h2 : parE (D.readL p) = 0) (h3 : ¬ parS (D.readL p) < (D.readL p).length) : openD D p = (0, parL (D.readL p), D) := by
  unfold openD; rw [if_neg (open_n n1 n2), if_neg (by omega), if_neg (by omega), if_neg (by omega), if_neg h3]
end

set_option maxHeartbeats 4000000 in
theorem wopen_ct (mx_ : Int) (K : List Nat) (g : Gh) (b : Nat) (D : Dk) (p : Pth) (N : Nat) (w0 : World) (H0 : Heap)
    (hf : PDk K g H0 b D) (mx : MX mx_ H0) (bf_mx : BF (fun b => b = 0) H0.size) (dmx : DFL (fun b => b = 0) K) (hl : p.length ≤ 4294960000) (hB : Bs N D) (hN : N ≤ 80000000) :
    Ct Tryd.prog w0 16 #[ptr b, Str p] H0 (fun r H2 => ∃ lv : Value, ∃ kl : Nat, ∃ t : SV, ∃ l : List (SV × Rec), ∃ K2 : List Nat, ∃ g2 : Gh, ∃ G : Nat → Prop, r = .tuple #[lv, t.v, .int .i64 ((openD D p).1 : Int)] ∧ (PDk K2 g2 H2 b (openD D p).2.2) ∧ (NxK K H0.size K2) ∧ (LgP kl H2 lv b p l.length false) ∧ (Nx 0 H0.size kl) ∧ (DL kl K2) ∧ (((openD D p).1 = 0 → ∃ lb, kl = lb + 1 ∧ lv = ptr lb) ∧ ((openD D p).1 ≠ 0 → kl = 0 ∧ lv = .pointer none)) ∧ (recs l = (openD D p).2.1) ∧ (Rd G H2 fP 1 t.v l) ∧ (∀ x ∈ l, Rd G H2 fB 1 x.1.v x.2) ∧ (BF G H2.size) ∧ (∀ c, G c → H0.size ≤ c) ∧ (DFL G K2) ∧ (DF G kl) ∧ Mo (Ms K) H0 H2) := by
  refine Ct.enter (args := [ptr b, Str p]) Tryd.func16 rfl rfl rfl ?_
  intro Q0 hret
  have hm0 : Mo (Ms K) H0 H0 := Mo.refl _ _
  have nx_hm0_hf := NxK.refl K H0.size
  have hbk_hf := hf.bk
  have hrb := readL_bd hB p
  have hcm := (encN_parL_le (D.readL p)).2
  have hpm := parL_many (D.readL p)
  refine CW.seq (fun K1 hK1 hE1 => ?_)
  refine CW.region ?_
  refine LR.v (Y.assign rfl rfl) (Wd.u rfl) rfl rfl ?_
  refine LR.v (Y.assign rfl rfl) (Wd.u rfl) rfl rfl ?_
  refine LR.v (Y.assign rfl rfl) (Wd.u rfl) rfl rfl ?_
  refine LR.nil ?_
  refine hK1 _ _ ?_
  refine CW.seq (fun K2 hK2 hE2 => ?_)
  refine CW.seq (fun K3 hK3 hE3 => ?_)
  refine CW.region ?_
  refine LR.v (Y.move rfl rfl) (Wd.u rfl) rfl rfl ?_
  -- call selvage/simfs.Name
  refine LR.call rfl Tryd.call27 rfl (Wd.u rfl) rfl rfl (name_ct mx_ p w0 _ mx (bf_mx.mono (by omega)) (by omega)) (fun v13 H13 r13 => ?_)
  obtain ⟨rfl, hs13⟩ := r13
  replace hf := hf.nw hs13
  replace mx := mx.nw hs13
  replace hm0 := hm0.trN hs13
  have hz1 := hs13.size
  refine LR.v (Y.not rfl rfl) (Wd.u rfl) rfl rfl ?_
  refine LR.v (Y.move rfl rfl) (Wd.u rfl) rfl rfl ?_
  refine LR.split (d := 15) rfl (fun g15 => ?_) (fun g15 => ?_)
  ·
    have hop := open_a (D := D) (p := p) (.inl (by simpa using g15))
    refine LR.gs rfl rfl rfl rfl rfl rfl ?_
    refine LR.gs rfl rfl rfl rfl rfl rfl ?_
    refine LR.gs rfl rfl rfl rfl rfl rfl ?_
    refine LR.gs rfl rfl rfl rfl rfl rfl ?_
    refine LR.v (Y.pick_t rfl rfl rfl) (Wd.u rfl) rfl rfl ?_
    refine LR.nil ?_
    refine hK3 _ _ ?_
    refine CW.cond_t rfl ?_
    refine CW.seq (fun K4 hK4 hE4 => ?_)
    refine CW.region ?_
    refine LR.v (Y.assign rfl rfl) (Wd.u rfl) rfl rfl ?_
    refine LR.v (Y.assign rfl rfl) (Wd.u rfl) rfl rfl ?_
    refine LR.v (Y.assign rfl rfl) (Wd.u rfl) rfl rfl ?_
    refine LR.nil ?_
    refine hK4 _ _ ?_
    refine CW.ret (hE2 .ret nofun _ _ (hret .ret (.inr rfl) _ _ _ (res3 rfl rfl rfl rfl) ?_))
    exact ⟨.pointer none, 0, ⟨none, 0, 0⟩, [], _, _, (fun _ => False), by rw [hop]; rfl, by rw [hop]; exact hf, nx_hm0_hf, ⟨.inl ⟨rfl, rfl⟩⟩, (.inl rfl), DL.zK, ⟨fun h => absurd h (by rw [hop]; exact (Nat.succ_ne_zero 6)), fun _ => ⟨rfl, rfl⟩⟩, by rw [hop]; rfl, Rd.nil _ _ _ _, (fun x h => by cases h), (fun b h => h.elim), (fun c h => h.elim), (fun k hk b h => h.elim), (fun b h => h.elim), hm0⟩
  ·
    refine LR.v (Y.move rfl rfl) (Wd.g rfl rfl rfl) rfl rfl ?_
    refine LR.v (Y.cast (v2 := Str (newP p)) (Y.sadd rfl rfl rfl (by simp only [List.length_cons, List.length_nil]; omega)) (rfl)) (Wd.g rfl rfl rfl) rfl rfl ?_
    -- call selvage/simfs.Name
    refine LR.call rfl Tryd.call27 rfl (Wd.g rfl rfl rfl) rfl rfl (name_ct mx_ (newP p) w0 _ mx (bf_mx.mono (by omega)) (by rw [newP_len]; omega)) (fun v18 H18 r18 => ?_)
    obtain ⟨rfl, hs18⟩ := r18
    replace hf := hf.nw hs18
    replace mx := mx.nw hs18
    replace hm0 := hm0.trN hs18
    have hz2 := hs18.size
    refine LR.v (Y.not rfl rfl) (Wd.g rfl rfl rfl) rfl rfl ?_
    refine LR.v (Y.pick_f rfl rfl rfl) (Wd.u rfl) rfl rfl ?_
    refine LR.nil ?_
    refine hK3 _ _ ?_
    refine CW.cond rfl (fun c20 => ?_) (fun c20 => ?_)
    ·
      have hop := open_a (D := D) (p := p) (.inr (by simpa using c20))
      refine CW.seq (fun K5 hK5 hE5 => ?_)
      refine CW.region ?_
      refine LR.v (Y.assign rfl rfl) (Wd.u rfl) rfl rfl ?_
      refine LR.v (Y.assign rfl rfl) (Wd.u rfl) rfl rfl ?_
      refine LR.v (Y.assign rfl rfl) (Wd.u rfl) rfl rfl ?_
      refine LR.nil ?_
      refine hK5 _ _ ?_
      refine CW.ret (hE2 .ret nofun _ _ (hret .ret (.inr rfl) _ _ _ (res3 rfl rfl rfl rfl) ?_))
      exact ⟨.pointer none, 0, ⟨none, 0, 0⟩, [], _, _, (fun _ => False), by rw [hop]; rfl, by rw [hop]; exact hf, nx_hm0_hf, ⟨.inl ⟨rfl, rfl⟩⟩, (.inl rfl), DL.zK, ⟨fun h => absurd h (by rw [hop]; exact (Nat.succ_ne_zero 6)), fun _ => ⟨rfl, rfl⟩⟩, by rw [hop]; rfl, Rd.nil _ _ _ _, (fun x h => by cases h), (fun b h => h.elim), (fun c h => h.elim), (fun k hk b h => h.elim), (fun b h => h.elim), hm0⟩
    ·
      have hn1 : nameB p = true := by simpa using g15
      have hn2 : nameB (newP p) = true := by simpa using c20
      refine CW.skip ?_
      refine hK2 _ _ ?_
      refine CW.seq (fun K6 hK6 hE6 => ?_)
      refine CW.region ?_
      refine LR.v (Y.move rfl rfl) (Wd.u rfl) rfl rfl ?_
      refine LR.v (Y.move rfl rfl) (Wd.u rfl) rfl rfl ?_
      refine LR.v (Y.build (v := .agg #[ptr b, Str p, .int .i64 0, .bool false]) rfl rfl (by intro w; kernel_rfl)) (Wd.u rfl) rfl rfl ?_
      refine LR.z (Z.boxv rfl rfl) (Wd.u rfl) rfl rfl (fun v24 H24 r24 => ?_)
      obtain ⟨rfl, hlg, hs24, ob24, hH24⟩ := r24
      have hzs24 : H24.size = H18.size + 1 := by rw [hH24]; simp
      have dj1 : DL (H18.size + 1) K := DL.newK hf.bk
      have df2 := (DF.new (bf_mx.mono hm0.size) : DF _ (H18.size + 1))
      have nx3 : Nx 0 H0.size (H18.size + 1) := Nx.new hm0.size
      replace hf := hf.nw hs24
      replace mx := mx.nw hs24
      replace hm0 := hm0.trN hs24
      have hz3 := hs24.size
      replace hlg : Var 65 H24 H18.size ([ptr b, Str p, .int .i64 ((0 : Nat) : Int), .bool false]) := hlg
      refine LR.v (Y.assign rfl rfl) (Wd.u rfl) rfl rfl ?_
      refine LR.nil ?_
      refine hK6 _ _ ?_
      refine CW.seq (fun K7 hK7 hE7 => ?_)
      refine CW.region ?_
      refine LR.v (Y.move rfl rfl) (Wd.u rfl) rfl rfl ?_
      refine LR.v (Y.move rfl rfl) (Wd.u rfl) rfl rfl ?_
      -- call (*selvage/simfs.FS).Read
      refine LR.call rfl Tryd.call19 rfl (Wd.u rfl) rfl rfl (read_ct mx_ K g b D p w0 _ mx (bf_mx.mono (by omega)) hf (by omega) (fun i => by have := (hB.f i).1; omega)) (fun v28 H28 r28 => ?_)
      obtain ⟨s28, k28, rfl, ow28, hk28, hs28⟩ := r28
      have dj4 : DL k28 K := DL.app2 (DL.zK) hf.bk hk28
      have df5 := DF.app (DF.z) (bf_mx.mono hm0.size) hk28
      have dj6 : Dj (H18.size + 1) k28 := Dj.app (Dj.z) hlg.lt hk28
      have nx7 : Nx 0 H0.size k28 := Nx.tr (Nx.refl 0 _) hk28 hm0.size
      replace hf := hf.nw hs28
      replace mx := mx.nw hs28
      replace hlg := hlg.nw hs28
      replace hm0 := hm0.trN hs28
      have hz4 := hs28.size
      have hle_ow28 := ow28.le
      refine LR.v (Y.move rfl rfl) (Wd.u rfl) rfl rfl ?_
      refine LR.v (Y.extract rfl rfl rfl) (Wd.u rfl) rfl rfl ?_
      refine LR.v (Y.extract rfl rfl rfl) (Wd.u rfl) rfl rfl ?_
      refine LR.v (Y.assign rfl rfl) (Wd.u rfl) rfl rfl ?_
      refine LR.v (Y.assign rfl rfl) (Wd.u rfl) rfl rfl ?_
      refine LR.nil ?_
      refine hK7 _ _ ?_
      refine CW.seq (fun K8 hK8 hE8 => ?_)
      refine CW.seq (fun K9 hK9 hE9 => ?_)
      refine CW.region ?_
      refine LR.v (Y.move rfl rfl) (Wd.u rfl) rfl rfl ?_
      refine LR.v (Y.eql rfl rfl rfl) (Wd.u rfl) rfl rfl ?_
      refine LR.nil ?_
      refine hK9 _ _ ?_
      refine CW.condp rfl (fun c32 => ?_) (fun c32 => ?_)
      ·
        have hop := open_b (D := D) hn1 hn2 (by omega)
        refine CW.seq (fun K10 hK10 hE10 => ?_)
        refine CW.seq (fun K11 hK11 hE11 => ?_)
        refine CW.region ?_
        refine LR.v (Y.move rfl rfl) (Wd.u rfl) rfl rfl ?_
        -- call (*selvage/wal.Log).Checkpoint
        refine LR.call rfl Tryd.call28 rfl (Wd.u rfl) rfl rfl (ckpt_ct mx_ K g b D H18.size p 0 false ⟨none, 0, 0⟩ [] (fun _ => False) N w0 _ hf mx (bf_mx.mono (by omega)) (dmx) hlg (dj1) (df2) (Rd.nil _ _ _ _) (fun b h => h.elim) (fun k hk b h => h.elim) (fun x h => by cases h) (fun b h => h.elim) (fun k hk b h => h.elim) (fun x h => by cases h) (by simp [recs, encN]) (fun b h _ => h.elim) (fun b h _ => h.elim) hl hB (by simp [recs, encW, W8, encN]; omega) (by simp)) (fun v34 H34 r34 => ?_)
        have ql8 := hf.bk
        have ql9 := hlg.lt
        have ql10 := ow28.le
        obtain ⟨K34, g34, rfl, hf, hkd34, hlg, dl234, hs34⟩ := r34
        have df11 := DFL.appK (dmx) (bf_mx.mono hm0.size) hkd34
        have dj12 : DL (H18.size + 1) K34 := DL.appK (dj1) ql9 hkd34
        have dj13 : DL k28 K34 := DL.appK (dj4) ql10 hkd34
        have nx14 : NxK K H0.size K34 := NxK.tr (nx_hm0_hf) hkd34 hm0.size
        replace mx := mx.upL hs34 (DFL.app dmx (DFL.cons df2 DFL.nil))
        replace ow28 := ow28.upL hs34 (DL.app dj4 (DL.cons dj6.symm DL.nil))
        replace hm0 := hm0.trL hs34 (MIL.app (MIL.ofK (nx_hm0_hf) (by intro k hk; simp [hk])) (MIL.cons (MI.app MI.z (nx3) (Nat.le_refl _)) MIL.nil))
        have hz5 := hs34.size
        have hbk_hf := hf.bk
        refine LR.v (Y.assign rfl rfl) (Wd.u rfl) rfl rfl ?_
        refine LR.nil ?_
        refine hK11 _ _ ?_
        refine CW.seq (fun K12 hK12 hE12 => ?_)
        refine CW.region ?_
        refine LR.v (Y.move rfl rfl) (Wd.u rfl) rfl rfl ?_
        refine LR.v (Y.neq rfl rfl rfl) (Wd.u rfl) rfl rfl ?_
        refine LR.nil ?_
        refine hK12 _ _ ?_
        refine CW.condp rfl (fun c36 => ?_) (fun c36 => ?_)
        ·
          refine CW.seq (fun K13 hK13 hE13 => ?_)
          refine CW.region ?_
          refine LR.v (Y.move rfl rfl) (Wd.u rfl) rfl rfl ?_
          refine LR.v (Y.assign rfl rfl) (Wd.u rfl) rfl rfl ?_
          refine LR.v (Y.assign rfl rfl) (Wd.u rfl) rfl rfl ?_
          refine LR.v (Y.assign rfl rfl) (Wd.u rfl) rfl rfl ?_
          refine LR.nil ?_
          refine hK13 _ _ ?_
          refine CW.ret (hE10 .ret nofun _ _ (hE8 .ret nofun _ _ (hret .ret (.inr rfl) _ _ _ (res3 rfl rfl rfl rfl) ?_)))
          exact ⟨.pointer none, 0, ⟨none, 0, 0⟩, [], _, _, (fun _ => False), by rw [hop]; rfl, by rw [hop]; exact hf, nx14, ⟨.inl ⟨rfl, rfl⟩⟩, (.inl rfl), DL.zK, ⟨fun h => absurd h (by rw [hop]; exact (by have h9 := c36; simp only [recs, List.map_nil] at h9; show (freshD D p []).1 ≠ 0; omega)), fun _ => ⟨rfl, rfl⟩⟩, by rw [hop]; rfl, Rd.nil _ _ _ _, (fun x h => by cases h), (fun b h => h.elim), (fun c h => h.elim), (fun k hk b h => h.elim), (fun b h => h.elim), hm0⟩
        ·
          refine CW.skip ?_
          refine hK10 _ _ ?_
          refine CW.seq (fun K14 hK14 hE14 => ?_)
          refine CW.region ?_
          refine LR.v (Y.move rfl rfl) (Wd.u rfl) rfl rfl ?_
          refine LR.v (Y.assign rfl rfl) (Wd.u rfl) rfl rfl ?_
          refine LR.v (Y.assign rfl rfl) (Wd.u rfl) rfl rfl ?_
          refine LR.v (Y.assign rfl rfl) (Wd.u rfl) rfl rfl ?_
          refine LR.nil ?_
          refine hK14 _ _ ?_
          refine CW.ret (hE8 .ret nofun _ _ (hret .ret (.inr rfl) _ _ _ (res3 rfl rfl rfl rfl) ?_))
          have h8 : (freshD D p []).1 = 0 := by have h9 := c36; simp only [recs, List.map_nil] at h9; omega
          rw [h8] at hop
          exact ⟨ptr H18.size, (H18.size + 1), ⟨none, 0, 0⟩, [], _, _, (fun _ => False), by rw [hop]; rfl, by rw [hop]; exact hf, nx14, ⟨.inr ⟨_, rfl, rfl, by simp only [recs, List.map_nil] at hlg; rw [lgN_0 h8, lgB_0 h8] at hlg; exact hlg⟩⟩, nx3, dl234, ⟨fun _ => ⟨_, rfl, rfl⟩, fun h => absurd (by rw [hop]) h⟩, by rw [hop]; rfl, Rd.nil _ _ _ _, (fun x h => by cases h), (fun b h => h.elim), (fun c h => h.elim), (fun k hk b h => h.elim), (fun b h => h.elim), hm0⟩
      ·
        refine CW.skip ?_
        refine hK8 _ _ ?_
        refine CW.seq (fun K15 hK15 hE15 => ?_)
        refine CW.seq (fun K16 hK16 hE16 => ?_)
        refine CW.region ?_
        refine LR.v (Y.move rfl rfl) (Wd.u rfl) rfl rfl ?_
        refine LR.v (Y.neq rfl rfl rfl) (Wd.u rfl) rfl rfl ?_
        refine LR.nil ?_
        refine hK16 _ _ ?_
        refine CW.condp rfl (fun c40 => ?_) (fun c40 => ?_)
        ·
          refine CW.seq (fun K17 hK17 hE17 => ?_)
          refine CW.region ?_
          refine LR.v (Y.move rfl rfl) (Wd.u rfl) rfl rfl ?_
          refine LR.v (Y.assign rfl rfl) (Wd.u rfl) rfl rfl ?_
          refine LR.v (Y.assign rfl rfl) (Wd.u rfl) rfl rfl ?_
          refine LR.v (Y.assign rfl rfl) (Wd.u rfl) rfl rfl ?_
          refine LR.nil ?_
          refine hK17 _ _ ?_
          refine CW.ret (hE15 .ret nofun _ _ (hret .ret (.inr rfl) _ _ _ (res3 rfl rfl rfl rfl) ?_))
          have h8 : D.readE p ≠ 0 := by omega
          have hop := open_c (D := D) hn1 hn2 (by omega) h8
          exact ⟨.pointer none, 0, ⟨none, 0, 0⟩, [], _, _, (fun _ => False), by rw [hop]; rfl, by rw [hop]; exact hf, nx_hm0_hf, ⟨.inl ⟨rfl, rfl⟩⟩, (.inl rfl), DL.zK, ⟨fun h => absurd h (by rw [hop]; exact h8), fun _ => ⟨rfl, rfl⟩⟩, by rw [hop]; rfl, Rd.nil _ _ _ _, (fun x h => by cases h), (fun b h => h.elim), (fun c h => h.elim), (fun k hk b h => h.elim), (fun b h => h.elim), hm0⟩
        ·
          refine CW.skip ?_
          refine hK15 _ _ ?_
          refine CW.seq (fun K18 hK18 hE18 => ?_)
          refine CW.region ?_
          refine LR.v (Y.move rfl rfl) (Wd.u rfl) rfl rfl ?_
          -- call selvage/wal.Parse
          refine LR.call rfl Tryd.call9 rfl (Wd.u rfl) rfl rfl (parse_ct s28 (D.readL p) w0 _ ow28.rd.any (by have := readL_bd hB p; omega)) (fun v44 H44 r44 => ?_)
          obtain ⟨t44, l44, rfl, hrc44, hw44, hx44, hs44⟩ := r44
          replace hf := hf.nw hs44
          replace mx := mx.nw hs44
          replace hlg := hlg.nw hs44
          replace ow28 := ow28.nw hs44
          replace hm0 := hm0.trN hs44
          have hz6 := hs44.size
          replace hw44 := hw44.bnd
          have bf_hw44 := hw44.bf
          have df15 : DFL (fun b => H28.size ≤ b ∧ b < H44.size) K := DFL.above (fun b h => h.1) (by first | exact hbk_hf | exact fun k hk => Nat.le_trans (hbk_hf k hk) (by omega) | assumption)
          have df16 : DF (fun b => H28.size ≤ b ∧ b < H44.size) (H18.size + 1) := DF.above (fun b h => h.1) (by first | exact hle_hlg | exact hlt_hlg | omega)
          have df17 : DF (fun b => H28.size ≤ b ∧ b < H44.size) k28 := DF.above (fun b h => h.1) (by first | exact hle_ow28 | exact hlt_ow28 | omega)
          replace hx44 := fun x hx_ => (hx44 x hx_).bnd
          have bf_hx44 : BF (fun b => H28.size ≤ b ∧ b < H44.size) H44.size := fun b h => h.2
          have df18 : DFL (fun b => H28.size ≤ b ∧ b < H44.size) K := DFL.above (fun b h => h.1) (by first | exact hbk_hf | exact fun k hk => Nat.le_trans (hbk_hf k hk) (by omega) | assumption)
          have df19 : DF (fun b => H28.size ≤ b ∧ b < H44.size) (H18.size + 1) := DF.above (fun b h => h.1) (by first | exact hle_hlg | exact hlt_hlg | omega)
          have df20 : DF (fun b => H28.size ≤ b ∧ b < H44.size) k28 := DF.above (fun b h => h.1) (by first | exact hle_ow28 | exact hlt_ow28 | omega)
          refine LR.v (Y.move rfl rfl) (Wd.u rfl) rfl rfl ?_
          refine LR.v (Y.extract rfl rfl rfl) (Wd.u rfl) rfl rfl ?_
          refine LR.v (Y.extract rfl rfl rfl) (Wd.u rfl) rfl rfl ?_
          refine LR.v (Y.extract rfl rfl rfl) (Wd.u rfl) rfl rfl ?_
          have hlt44 := congrArg List.length hrc44
          simp only [recs, List.length_map] at hlt44
          refine LR.v (Y.assign rfl rfl) (Wd.u rfl) rfl rfl ?_
          refine LR.v (Y.assign rfl rfl) (Wd.u rfl) rfl rfl ?_
          refine LR.v (Y.assign rfl rfl) (Wd.u rfl) rfl rfl ?_
          refine LR.nil ?_
          refine hK18 _ _ ?_
          refine CW.seq (fun K19 hK19 hE19 => ?_)
          refine CW.seq (fun K20 hK20 hE20 => ?_)
          refine CW.region ?_
          refine LR.v (Y.move rfl rfl) (Wd.u rfl) rfl rfl ?_
          refine LR.v (Y.eql rfl rfl rfl) (Wd.u rfl) rfl rfl ?_
          refine LR.v (Y.move rfl rfl) (Wd.u rfl) rfl rfl ?_
          refine LR.splitp (d := 50) rfl (fun g50 => ?_) (fun g50 => ?_)
          ·
            refine LR.v (Y.move rfl rfl) (Wd.g rfl rfl rfl) rfl rfl ?_
            refine LR.v (Y.move rfl rfl) (Wd.g rfl rfl rfl) rfl rfl ?_
            refine LR.v (Y.len ow28.rd rfl Tryd.runUnderlying23 rfl) (Wd.g rfl rfl rfl) rfl rfl ?_
            refine LR.v (Y.lss rfl rfl rfl) (Wd.g rfl rfl rfl) rfl rfl ?_
            refine LR.v (Y.pick_t rfl rfl rfl) (Wd.u rfl) rfl rfl ?_
            refine LR.nil ?_
            refine hK20 _ _ ?_
            refine CW.condp rfl (fun c55 => ?_) (fun c55 => ?_)
            ·
              refine CW.region ?_
              refine LR.v (Y.move rfl rfl) (Wd.u rfl) rfl rfl ?_
              refine LR.v (Y.move rfl rfl) (Wd.u rfl) rfl rfl ?_
              -- call (*selvage/wal.Log).Checkpoint
              refine LR.call rfl Tryd.call28 rfl (Wd.u rfl) rfl rfl (ckpt_ct mx_ K g b D H18.size p 0 false t44 l44 _ N w0 _ hf mx (bf_mx.mono (by omega)) (dmx) hlg (dj1) (df2) hw44 (bf_hw44.mono (by omega)) (df15) hx44 (bf_hw44.mono (by omega)) (df18) (fun x h => parL_max _ _ (by rw [← hrc44]; exact List.mem_map_of_mem h)) (by rw [hrc44]; have h2 := (encN_parL_le (D.readL p)).1; omega) (df16) (df19) hl hB (by rw [hrc44]; omega) (by omega)) (fun v58 H58 r58 => ?_)
              have ql21 := hf.bk
              have ql22 := hlg.lt
              have ql23 := ow28.le
              obtain ⟨K58, g58, rfl, hf, hkd58, hlg, dl258, hs58⟩ := r58
              have df24 := DFL.appK (dmx) (bf_mx.mono hm0.size) hkd58
              have dj25 : DL (H18.size + 1) K58 := DL.appK (dj1) ql22 hkd58
              have dj26 : DL k28 K58 := DL.appK (dj4) ql23 hkd58
              have df27 := DFL.appK (df15) (bf_hw44.mono (by omega)) hkd58
              have df28 := DFL.appK (df18) (bf_hx44.mono (by omega)) hkd58
              have nx29 : NxK K H0.size K58 := NxK.tr (nx_hm0_hf) hkd58 hm0.size
              replace mx := mx.upL hs58 (DFL.app dmx (DFL.cons df2 DFL.nil))
              replace ow28 := ow28.upL hs58 (DL.app dj4 (DL.cons dj6.symm DL.nil))
              replace hw44 := hw44.upL hs58 (DFL.app df15 (DFL.cons df16 DFL.nil))
              replace hx44 := fun x hx_ => (hx44 x hx_).upL hs58 (DFL.app df18 (DFL.cons df19 DFL.nil))
              replace hm0 := hm0.trL hs58 (MIL.app (MIL.ofK (nx_hm0_hf) (by intro k hk; simp [hk])) (MIL.cons (MI.app MI.z (nx3) (Nat.le_refl _)) MIL.nil))
              have hz7 := hs58.size
              have hbk_hf := hf.bk
              refine LR.v (Y.assign rfl rfl) (Wd.u rfl) rfl rfl ?_
              refine LR.nil ?_
              refine hK19 _ _ ?_
              refine CW.seq (fun K21 hK21 hE21 => ?_)
              refine CW.seq (fun K22 hK22 hE22 => ?_)
              refine CW.region ?_
              refine LR.v (Y.move rfl rfl) (Wd.u rfl) rfl rfl ?_
              refine LR.v (Y.neq rfl rfl rfl) (Wd.u rfl) rfl rfl ?_
              refine LR.nil ?_
              refine hK22 _ _ ?_
              refine CW.condp rfl (fun c60 => ?_) (fun c60 => ?_)
              ·
                refine CW.seq (fun K23 hK23 hE23 => ?_)
                refine CW.region ?_
                refine LR.v (Y.move rfl rfl) (Wd.u rfl) rfl rfl ?_
                refine LR.v (Y.assign rfl rfl) (Wd.u rfl) rfl rfl ?_
                refine LR.v (Y.assign rfl rfl) (Wd.u rfl) rfl rfl ?_
                refine LR.v (Y.assign rfl rfl) (Wd.u rfl) rfl rfl ?_
                refine LR.nil ?_
                refine hK23 _ _ ?_
                refine CW.ret (hE21 .ret nofun _ _ (hret .ret (.inr rfl) _ _ _ (res3 rfl rfl rfl rfl) ?_))
                have h8 : (freshD D p (parL (D.readL p))).1 ≠ 0 := by rw [← hrc44]; omega
                have hop := open_e (D := D) hn1 hn2 (by omega) (by omega) (by omega)
                rw [if_neg h8] at hop
                rw [hrc44] at hf
                exact ⟨.pointer none, 0, ⟨none, 0, 0⟩, [], _, _, (fun _ => False), by rw [hop, hrc44], by rw [hop]; exact hf, nx29, ⟨.inl ⟨rfl, rfl⟩⟩, (.inl rfl), DL.zK, ⟨fun h => absurd h (by rw [hop]; exact h8), fun _ => ⟨rfl, rfl⟩⟩, by rw [hop]; rfl, Rd.nil _ _ _ _, (fun x h => by cases h), (fun b h => h.elim), (fun c h => h.elim), (fun k hk b h => h.elim), (fun b h => h.elim), hm0⟩
              ·
                try (have h8 : (freshD D p (recs l44)).1 = 0 := (by omega); rw [lgN_0 h8, lgB_0 h8] at hlg)
                refine CW.skip ?_
                refine hK21 _ _ ?_
                refine CW.seq (fun K24 hK24 hE24 => ?_)
                refine CW.region ?_
                refine LR.v (Y.move rfl rfl) (Wd.u rfl) rfl rfl ?_
                refine LR.v (Y.move rfl rfl) (Wd.u rfl) rfl rfl ?_
                refine LR.v (Y.len hw44 rfl Tryd.runUnderlying22 rfl) (Wd.u rfl) rfl rfl ?_
                refine LR.v (Y.nilCheck rfl rfl) (Wd.u rfl) rfl rfl ?_
                refine LR.v (Y.fieldAddr hlg.pt rfl Tryd.runUnderlying65 rfl rfl Tryd.sizeOf3 (by decide) rfl) (Wd.u rfl) rfl rfl ?_
                refine LR.s (S.var1 hlg 2 ([ptr b, Str p, .int .i64 ((l44.length : Nat) : Int), .bool false]) rfl rfl rfl (rfl) Tryd.sizeOf3 (by simp) (rfl)) (Wd.u rfl) rfl (fun H17_5 r17_5 => ?_)
                obtain ⟨hlg, hs17_5⟩ := r17_5
                replace hs17_5 := hs17_5.md1
                replace hf := hf.upL hs17_5 (DKL.cons dl258 DKL.nil)
                replace mx := mx.upL hs17_5 (DFL.cons df2 DFL.nil)
                replace ow28 := ow28.upL hs17_5 (DL.cons dj6.symm DL.nil)
                replace hw44 := hw44.upL hs17_5 (DFL.cons df16 DFL.nil)
                replace hx44 := fun x hx_ => (hx44 x hx_).upL hs17_5 (DFL.cons df19 DFL.nil)
                replace hm0 := hm0.trL hs17_5 (MIL.cons (MI.app MI.z (nx3) (Nat.le_refl _)) MIL.nil)
                have hz8 := hs17_5.size
                refine LR.nil ?_
                refine hK24 _ _ ?_
                refine CW.seq (fun K25 hK25 hE25 => ?_)
                refine CW.region ?_
                refine LR.v (Y.move rfl rfl) (Wd.u rfl) rfl rfl ?_
                refine LR.v (Y.move rfl rfl) (Wd.u rfl) rfl rfl ?_
                refine LR.v (Y.assign rfl rfl) (Wd.u rfl) rfl rfl ?_
                refine LR.v (Y.assign rfl rfl) (Wd.u rfl) rfl rfl ?_
                refine LR.v (Y.assign rfl rfl) (Wd.u rfl) rfl rfl ?_
                refine LR.nil ?_
                refine hK25 _ _ ?_
                refine CW.ret (hret .ret (.inr rfl) _ _ _ (res3 rfl rfl rfl rfl) ?_)
                have hop : (openD D p).1 = 0 ∧ (openD D p).2.1 = parL (D.readL p) := by
                  first
                  | (have h9 := open_e (D := D) hn1 hn2 (by omega) (by omega) (by omega); have h8 : (freshD D p (parL (D.readL p))).1 = 0 := (by rw [← hrc44]; omega); rw [h8, if_pos rfl] at h9; rw [h9]; exact ⟨rfl, rfl⟩)
                  | (have h9 := open_f (D := D) hn1 hn2 (by omega) (by omega) (by omega); rw [h9]; exact ⟨rfl, rfl⟩)
                exact ⟨ptr H18.size, (H18.size + 1), t44, l44, _, _, _, by rw [hop.1]; rfl, (by first | (have h9 := open_e (D := D) hn1 hn2 (by omega) (by omega) (by omega); rw [h9]; rw [hrc44] at hf; exact hf) | (have h9 := open_f (D := D) hn1 hn2 (by omega) (by omega) (by omega); rw [h9]; exact hf)), nx29, ⟨.inr ⟨_, rfl, rfl, hlg⟩⟩, nx3, dl258, ⟨fun _ => ⟨_, rfl, rfl⟩, fun h => absurd hop.1 h⟩, by rw [hop.2]; exact hrc44, hw44, (fun x h => hx44 x h), (bf_hw44.mono (by omega)), (fun c h => by have h9 := h.1; omega), (df27), (df16), hm0⟩
            ·
              refine CW.skip ?_
              refine hK19 _ _ ?_
              refine CW.seq (fun K26 hK26 hE26 => ?_)
              refine CW.seq (fun K27 hK27 hE27 => ?_)
              refine CW.region ?_
              refine LR.v (Y.move rfl rfl) (Wd.u rfl) rfl rfl ?_
              refine LR.v (Y.neq rfl rfl rfl) (Wd.u rfl) rfl rfl ?_
              refine LR.nil ?_
              refine hK27 _ _ ?_
              refine CW.condp rfl (fun c60 => ?_) (fun c60 => ?_)
              ·
                refine CW.seq (fun K28 hK28 hE28 => ?_)
                refine CW.region ?_
                refine LR.v (Y.move rfl rfl) (Wd.u rfl) rfl rfl ?_
                refine LR.v (Y.assign rfl rfl) (Wd.u rfl) rfl rfl ?_
                refine LR.v (Y.assign rfl rfl) (Wd.u rfl) rfl rfl ?_
                refine LR.v (Y.assign rfl rfl) (Wd.u rfl) rfl rfl ?_
                refine LR.nil ?_
                refine hK28 _ _ ?_
                refine CW.ret (hE26 .ret nofun _ _ (hret .ret (.inr rfl) _ _ _ (res3 rfl rfl rfl rfl) ?_))
                have h8 : parE (D.readL p) ≠ 0 := by omega
                have hop := open_d (D := D) hn1 hn2 (by omega) h8
                exact ⟨.pointer none, 0, ⟨none, 0, 0⟩, [], _, _, (fun _ => False), by rw [hop]; rfl, by rw [hop]; exact hf, nx_hm0_hf, ⟨.inl ⟨rfl, rfl⟩⟩, (.inl rfl), DL.zK, ⟨fun h => absurd h (by rw [hop]; exact h8), fun _ => ⟨rfl, rfl⟩⟩, by rw [hop]; rfl, Rd.nil _ _ _ _, (fun x h => by cases h), (fun b h => h.elim), (fun c h => h.elim), (fun k hk b h => h.elim), (fun b h => h.elim), hm0⟩
              ·
                try (have h8 : (freshD D p (recs l44)).1 = 0 := (by omega); rw [lgN_0 h8, lgB_0 h8] at hlg)
                refine CW.skip ?_
                refine hK26 _ _ ?_
                refine CW.seq (fun K29 hK29 hE29 => ?_)
                refine CW.region ?_
                refine LR.v (Y.move rfl rfl) (Wd.u rfl) rfl rfl ?_
                refine LR.v (Y.move rfl rfl) (Wd.u rfl) rfl rfl ?_
                refine LR.v (Y.len hw44 rfl Tryd.runUnderlying22 rfl) (Wd.u rfl) rfl rfl ?_
                refine LR.v (Y.nilCheck rfl rfl) (Wd.u rfl) rfl rfl ?_
                refine LR.v (Y.fieldAddr hlg.pt rfl Tryd.runUnderlying65 rfl rfl Tryd.sizeOf3 (by decide) rfl) (Wd.u rfl) rfl rfl ?_
                refine LR.s (S.var1 hlg 2 ([ptr b, Str p, .int .i64 ((l44.length : Nat) : Int), .bool false]) rfl rfl rfl (rfl) Tryd.sizeOf3 (by simp) (rfl)) (Wd.u rfl) rfl (fun H17_5 r17_5 => ?_)
                obtain ⟨hlg, hs17_5⟩ := r17_5
                replace hs17_5 := hs17_5.md1
                replace hf := hf.upL hs17_5 (DKL.cons dj1 DKL.nil)
                replace mx := mx.upL hs17_5 (DFL.cons df2 DFL.nil)
                replace ow28 := ow28.upL hs17_5 (DL.cons dj6.symm DL.nil)
                replace hw44 := hw44.upL hs17_5 (DFL.cons df16 DFL.nil)
                replace hx44 := fun x hx_ => (hx44 x hx_).upL hs17_5 (DFL.cons df19 DFL.nil)
                replace hm0 := hm0.trL hs17_5 (MIL.cons (MI.app MI.z (nx3) (Nat.le_refl _)) MIL.nil)
                have hz9 := hs17_5.size
                refine LR.nil ?_
                refine hK29 _ _ ?_
                refine CW.seq (fun K30 hK30 hE30 => ?_)
                refine CW.region ?_
                refine LR.v (Y.move rfl rfl) (Wd.u rfl) rfl rfl ?_
                refine LR.v (Y.move rfl rfl) (Wd.u rfl) rfl rfl ?_
                refine LR.v (Y.assign rfl rfl) (Wd.u rfl) rfl rfl ?_
                refine LR.v (Y.assign rfl rfl) (Wd.u rfl) rfl rfl ?_
                refine LR.v (Y.assign rfl rfl) (Wd.u rfl) rfl rfl ?_
                refine LR.nil ?_
                refine hK30 _ _ ?_
                refine CW.ret (hret .ret (.inr rfl) _ _ _ (res3 rfl rfl rfl rfl) ?_)
                have hop : (openD D p).1 = 0 ∧ (openD D p).2.1 = parL (D.readL p) := by
                  first
                  | (have h9 := open_e (D := D) hn1 hn2 (by omega) (by omega) (by omega); have h8 : (freshD D p (parL (D.readL p))).1 = 0 := (by rw [← hrc44]; omega); rw [h8, if_pos rfl] at h9; rw [h9]; exact ⟨rfl, rfl⟩)
                  | (have h9 := open_f (D := D) hn1 hn2 (by omega) (by omega) (by omega); rw [h9]; exact ⟨rfl, rfl⟩)
                exact ⟨ptr H18.size, (H18.size + 1), t44, l44, _, _, _, by rw [hop.1]; rfl, (by first | (have h9 := open_e (D := D) hn1 hn2 (by omega) (by omega) (by omega); rw [h9]; rw [hrc44] at hf; exact hf) | (have h9 := open_f (D := D) hn1 hn2 (by omega) (by omega) (by omega); rw [h9]; exact hf)), nx_hm0_hf, ⟨.inr ⟨_, rfl, rfl, hlg⟩⟩, nx3, dj1, ⟨fun _ => ⟨_, rfl, rfl⟩, fun h => absurd hop.1 h⟩, by rw [hop.2]; exact hrc44, hw44, (fun x h => hx44 x h), (bf_hw44.mono (by omega)), (fun c h => by have h9 := h.1; omega), (df15), (df16), hm0⟩
          ·
            refine LR.gs rfl rfl rfl rfl rfl rfl ?_
            refine LR.gs rfl rfl rfl rfl rfl rfl ?_
            refine LR.gs rfl rfl rfl rfl rfl rfl ?_
            refine LR.gs rfl rfl rfl rfl rfl rfl ?_
            refine LR.v (Y.pick_f rfl rfl rfl) (Wd.u rfl) rfl rfl ?_
            refine LR.nil ?_
            refine hK20 _ _ ?_
            refine CW.cond_f rfl ?_
            refine CW.skip ?_
            refine hK19 _ _ ?_
            refine CW.seq (fun K31 hK31 hE31 => ?_)
            refine CW.seq (fun K32 hK32 hE32 => ?_)
            refine CW.region ?_
            refine LR.v (Y.move rfl rfl) (Wd.u rfl) rfl rfl ?_
            refine LR.v (Y.neq rfl rfl rfl) (Wd.u rfl) rfl rfl ?_
            refine LR.nil ?_
            refine hK32 _ _ ?_
            refine CW.condp rfl (fun c60 => ?_) (fun c60 => ?_)
            ·
              refine CW.seq (fun K33 hK33 hE33 => ?_)
              refine CW.region ?_
              refine LR.v (Y.move rfl rfl) (Wd.u rfl) rfl rfl ?_
              refine LR.v (Y.assign rfl rfl) (Wd.u rfl) rfl rfl ?_
              refine LR.v (Y.assign rfl rfl) (Wd.u rfl) rfl rfl ?_
              refine LR.v (Y.assign rfl rfl) (Wd.u rfl) rfl rfl ?_
              refine LR.nil ?_
              refine hK33 _ _ ?_
              refine CW.ret (hE31 .ret nofun _ _ (hret .ret (.inr rfl) _ _ _ (res3 rfl rfl rfl rfl) ?_))
              have h8 : parE (D.readL p) ≠ 0 := by omega
              have hop := open_d (D := D) hn1 hn2 (by omega) h8
              exact ⟨.pointer none, 0, ⟨none, 0, 0⟩, [], _, _, (fun _ => False), by rw [hop]; rfl, by rw [hop]; exact hf, nx_hm0_hf, ⟨.inl ⟨rfl, rfl⟩⟩, (.inl rfl), DL.zK, ⟨fun h => absurd h (by rw [hop]; exact h8), fun _ => ⟨rfl, rfl⟩⟩, by rw [hop]; rfl, Rd.nil _ _ _ _, (fun x h => by cases h), (fun b h => h.elim), (fun c h => h.elim), (fun k hk b h => h.elim), (fun b h => h.elim), hm0⟩
            ·
              try (have h8 : (freshD D p (recs l44)).1 = 0 := (by omega); rw [lgN_0 h8, lgB_0 h8] at hlg)
              refine CW.skip ?_
              refine hK31 _ _ ?_
              refine CW.seq (fun K34 hK34 hE34 => ?_)
              refine CW.region ?_
              refine LR.v (Y.move rfl rfl) (Wd.u rfl) rfl rfl ?_
              refine LR.v (Y.move rfl rfl) (Wd.u rfl) rfl rfl ?_
              refine LR.v (Y.len hw44 rfl Tryd.runUnderlying22 rfl) (Wd.u rfl) rfl rfl ?_
              refine LR.v (Y.nilCheck rfl rfl) (Wd.u rfl) rfl rfl ?_
              refine LR.v (Y.fieldAddr hlg.pt rfl Tryd.runUnderlying65 rfl rfl Tryd.sizeOf3 (by decide) rfl) (Wd.u rfl) rfl rfl ?_
              refine LR.s (S.var1 hlg 2 ([ptr b, Str p, .int .i64 ((l44.length : Nat) : Int), .bool false]) rfl rfl rfl (rfl) Tryd.sizeOf3 (by simp) (rfl)) (Wd.u rfl) rfl (fun H17_5 r17_5 => ?_)
              obtain ⟨hlg, hs17_5⟩ := r17_5
              replace hs17_5 := hs17_5.md1
              replace hf := hf.upL hs17_5 (DKL.cons dj1 DKL.nil)
              replace mx := mx.upL hs17_5 (DFL.cons df2 DFL.nil)
              replace ow28 := ow28.upL hs17_5 (DL.cons dj6.symm DL.nil)
              replace hw44 := hw44.upL hs17_5 (DFL.cons df16 DFL.nil)
              replace hx44 := fun x hx_ => (hx44 x hx_).upL hs17_5 (DFL.cons df19 DFL.nil)
              replace hm0 := hm0.trL hs17_5 (MIL.cons (MI.app MI.z (nx3) (Nat.le_refl _)) MIL.nil)
              have hz10 := hs17_5.size
              refine LR.nil ?_
              refine hK34 _ _ ?_
              refine CW.seq (fun K35 hK35 hE35 => ?_)
              refine CW.region ?_
              refine LR.v (Y.move rfl rfl) (Wd.u rfl) rfl rfl ?_
              refine LR.v (Y.move rfl rfl) (Wd.u rfl) rfl rfl ?_
              refine LR.v (Y.assign rfl rfl) (Wd.u rfl) rfl rfl ?_
              refine LR.v (Y.assign rfl rfl) (Wd.u rfl) rfl rfl ?_
              refine LR.v (Y.assign rfl rfl) (Wd.u rfl) rfl rfl ?_
              refine LR.nil ?_
              refine hK35 _ _ ?_
              refine CW.ret (hret .ret (.inr rfl) _ _ _ (res3 rfl rfl rfl rfl) ?_)
              have hop : (openD D p).1 = 0 ∧ (openD D p).2.1 = parL (D.readL p) := by
                first
                | (have h9 := open_e (D := D) hn1 hn2 (by omega) (by omega) (by omega); have h8 : (freshD D p (parL (D.readL p))).1 = 0 := (by rw [← hrc44]; omega); rw [h8, if_pos rfl] at h9; rw [h9]; exact ⟨rfl, rfl⟩)
                | (have h9 := open_f (D := D) hn1 hn2 (by omega) (by omega) (by omega); rw [h9]; exact ⟨rfl, rfl⟩)
              exact ⟨ptr H18.size, (H18.size + 1), t44, l44, _, _, _, by rw [hop.1]; rfl, (by first | (have h9 := open_e (D := D) hn1 hn2 (by omega) (by omega) (by omega); rw [h9]; rw [hrc44] at hf; exact hf) | (have h9 := open_f (D := D) hn1 hn2 (by omega) (by omega) (by omega); rw [h9]; exact hf)), nx_hm0_hf, ⟨.inr ⟨_, rfl, rfl, hlg⟩⟩, nx3, dj1, ⟨fun _ => ⟨_, rfl, rfl⟩, fun h => absurd hop.1 h⟩, by rw [hop.2]; exact hrc44, hw44, (fun x h => hx44 x h), (bf_hw44.mono (by omega)), (fun c h => by have h9 := h.1; omega), (df15), (df16), hm0⟩


/-- opened: there is a journal -/
theorem wopen_ok (mx_ : Int) (K : List Nat) (g : Gh) (b : Nat) (D : Dk) (p : Pth) (N : Nat) (w0 : World) (H0 : Heap) (hf : PDk K g H0 b D) (mx : MX mx_ H0) (bf_mx : BF (fun b => b = 0) H0.size) (dmx : DFL (fun b => b = 0) K) (hl : p.length ≤ 4294960000) (hB : Bs N D) (hN : N ≤ 80000000) (he : (openD D p).1 = 0) :
    Ct Tryd.prog w0 16 #[ptr b, Str p] H0 (fun r H2 => ∃ (lb : Nat) (t : SV) (l : List (SV × Rec)) (K2 : List Nat) (g2 : Gh) (G : Nat → Prop), r = .tuple #[ptr lb, t.v, .int .i64 0] ∧ PDk K2 g2 H2 b (openD D p).2.2 ∧ NxK K H0.size K2 ∧ Var 65 H2 lb [ptr b, Str p, .int .i64 (l.length : Int), .bool false] ∧ Nx 0 H0.size (lb + 1) ∧ DL (lb + 1) K2 ∧ recs l = (openD D p).2.1 ∧ Rd G H2 fP 1 t.v l ∧ (∀ x ∈ l, Rd G H2 fB 1 x.1.v x.2) ∧ BF G H2.size ∧ (∀ c, G c → H0.size ≤ c) ∧ DFL G K2 ∧ DF G (lb + 1) ∧ Mo (Ms K) H0 H2) := by
  refine (wopen_ct mx_ K g b D p N w0 H0 hf mx bf_mx dmx hl hB hN).mono ?_
  rintro r H2 ⟨lv, kl, t, l, K2, g2, G, rfl, h1, h2, h3, h4, h5, h6, h7, h8, h9, h11, h12, h13, h14, h10⟩
  obtain ⟨lb, rfl, rfl⟩ := h6.1 he
  exact ⟨lb, t, l, K2, g2, G, by rw [he]; rfl, h1, h2, h3.var.2, h4, h5, h7, h8, h9, h11, h12, h13, h14, h10⟩
end Go.Proofs.YtdliddjkacbggaaDoor.WalG
/-
  The disk: what single steps of a disk that goes come to: plain data.
-/
namespace Go.Proofs.YtdliddjkacbggaaDoor.SimS
open Go.Proofs.YtdliddjkacbggaaDoor.E Go.RowKit Go.Proofs.YtdliddjkacbggaaDoor.SimA Go.Proofs.YtdliddjkacbggaaDoor.SimB Go.Proofs.YtdliddjkacbggaaDoor.SimC Go.Proofs.YtdliddjkacbggaaDoor.SimD Go.Proofs.YtdliddjkacbggaaDoor.SimE Go.Proofs.YtdliddjkacbggaaDoor.SimF Go.Proofs.YtdliddjkacbggaaDoor.SimG Go.Proofs.YtdliddjkacbggaaDoor.SimH Go.Proofs.YtdliddjkacbggaaDoor.SimI Go.Proofs.YtdliddjkacbggaaDoor.SimK Go.Proofs.YtdliddjkacbggaaDoor.SimN Go.Proofs.YtdliddjkacbggaaDoor.SimQ Go.Proofs.YtdliddjkacbggaaDoor.SimR
set_option maxRecDepth 20000
set_option linter.unusedVariables false
set_option linter.unusedSimpArgs false
set_option linter.unusedSectionVars false

theorem lay_a {c m : Nat} {fs : List Fdt} {nw st : Nms} {lg : List Chg} {op : Nat} {p : Pth} {w : Wr} (hn : nameB p = true) (h1 : (w.on (Dk.wasL ⟨c, m, fs, nw, st, lg, op + 1, 0, false⟩ p) w.d.length).length ≤ m) (h2 : usedL fs nw + (w.on (Dk.wasL ⟨c, m, fs, nw, st, lg, op + 1, 0, false⟩ p) w.d.length).length ≤ c + (Dk.wasL ⟨c, m, fs, nw, st, lg, op + 1, 0, false⟩ p).length) :
    Dk.lay ⟨c, m, fs, nw, st, lg, op, 0, false⟩ p w = (0, Dk.write ⟨c, m, fs, nw, st, lg, op + 1, 0, false⟩ p w) := by
  have hb : Dk.begin ⟨c, m, fs, nw, st, lg, op, 0, false⟩ = (true, ⟨c, m, fs, nw, st, lg, op + 1, 0, false⟩) := by simp [Dk.begin]
  have he := layE_0 (D := ⟨c, m, fs, nw, st, lg, op + 1, 0, false⟩) hn (Nat.not_lt.2 h1) (Nat.not_lt.2 h2)
  rw [lay_go (by rw [hb]), hb]
  simp only [he, if_true]
theorem on_f (b : List UInt8) (d : List UInt8) : (⟨false, d⟩ : Wr).on b d.length = d := by simp [Wr.on]
theorem on_t (b : List UInt8) (d : List UInt8) : (⟨true, d⟩ : Wr).on b d.length = b ++ d := by simp [Wr.on]
end Go.Proofs.YtdliddjkacbggaaDoor.SimS
/-
  The disk: a file is published (plain data).
-/
namespace Go.Proofs.YtdliddjkacbggaaDoor.SimU
open Go.Proofs.YtdliddjkacbggaaDoor.E Go.RowKit Go.Proofs.YtdliddjkacbggaaDoor.SimA Go.Proofs.YtdliddjkacbggaaDoor.SimB Go.Proofs.YtdliddjkacbggaaDoor.SimC Go.Proofs.YtdliddjkacbggaaDoor.SimD Go.Proofs.YtdliddjkacbggaaDoor.SimE Go.Proofs.YtdliddjkacbggaaDoor.SimF Go.Proofs.YtdliddjkacbggaaDoor.SimG Go.Proofs.YtdliddjkacbggaaDoor.SimH Go.Proofs.YtdliddjkacbggaaDoor.SimI Go.Proofs.YtdliddjkacbggaaDoor.SimK Go.Proofs.YtdliddjkacbggaaDoor.SimN Go.Proofs.YtdliddjkacbggaaDoor.SimQ Go.Proofs.YtdliddjkacbggaaDoor.SimR Go.Proofs.YtdliddjkacbggaaDoor.SimS
set_option maxRecDepth 20000
set_option linter.unusedVariables false
set_option linter.unusedSimpArgs false
set_option linter.unusedSectionVars false

def startD (p d : Pth) (x : List UInt8) : Dk := ((((Dk.empty 1048576 65536).lay p ⟨false, x⟩).2.sync p).2.syncDir d).2
theorem start_1 {p : Pth} {x : List UInt8} (hn : nameB p = true) (h : x.length ≤ 3000) : (Dk.empty 1048576 65536).lay p ⟨false, x⟩ = (0, ⟨1048576, 65536, [⟨x, [], [⟨false, x⟩]⟩], [(p, 0)], [], [⟨[], p, some 0⟩], 1, 0, false⟩) := by
  unfold Dk.empty
  rw [lay_a hn (by simp only [on_f]; omega) (by simp only [on_f]; simp [usedL, Dk.wasL, mget]; omega)]
  simp [Dk.write, Dk.make, mget, nput, Dk.change, Chg.ap, Dk.putF, fget, on_f]
theorem start_2 {p : Pth} {x : List UInt8} (hn : nameB p = true) : Dk.sync ⟨1048576, 65536, [⟨x, [], [⟨false, x⟩]⟩], [(p, 0)], [], [⟨[], p, some 0⟩], 1, 0, false⟩ p = (0, ⟨1048576, 65536, [⟨x, x, []⟩], [(p, 0)], [], [⟨[], p, some 0⟩], 2, 0, false⟩) := by
  simp [Dk.sync, Dk.begin, Dk.look, hn, mget, Dk.syncF, Dk.putF, fget]
theorem start_3 {p d : Pth} {x : List UInt8} (hd : dirP p = d) (he : dirE d = 0) : Dk.syncDir ⟨1048576, 65536, [⟨x, x, []⟩], [(p, 0)], [], [⟨[], p, some 0⟩], 2, 0, false⟩ d = (0, ⟨1048576, 65536, [⟨x, x, []⟩], [(p, 0)], [(p, 0)], [], 3, 0, false⟩) := by
  simp [Dk.syncDir, Dk.begin, he, Dk.stayD, merge, hd, nput, Chg.dir]
theorem start_all {p d : Pth} {x : List UInt8} (hn : nameB p = true) (hd : dirP p = d) (he : dirE d = 0) (h : x.length ≤ 3000) :
    ((Dk.empty 1048576 65536).lay p ⟨false, x⟩).1 = 0 ∧ (((Dk.empty 1048576 65536).lay p ⟨false, x⟩).2.sync p).1 = 0 ∧ ((((Dk.empty 1048576 65536).lay p ⟨false, x⟩).2.sync p).2.syncDir d).1 = 0 ∧ startD p d x = ⟨1048576, 65536, [⟨x, x, []⟩], [(p, 0)], [(p, 0)], [], 3, 0, false⟩ := by
  unfold startD
  rw [start_1 hn h]
  simp only
  rw [start_2 hn]
  simp only
  rw [start_3 hd he]
  simp
theorem dead_ops {D : Dk} (h : D.dead = true) : D.begin = (false, D) := by simp [Dk.begin, h]
theorem last_ops {D : Dk} (h : D.dead = false) (h2 : D.left = 1) : D.begin = (false, { D with left := 0, dead := true }) := by unfold Dk.begin; rw [if_neg (by rw [h]; decide), if_pos h2]
theorem read_of {D : Dk} {p : Pth} {i : Nat} {x : List UInt8} (hd : D.dead = false) (hn : nameB p = true) (hg : mget D.now p = some i) (hx : (fget D.fs i).now = x) : D.readE p = 0 ∧ D.readL p = x := by
  have h1 : D.readE p = 0 := by unfold Dk.readE; rw [hd]; simp [Dk.look, hn, hg]
  exact ⟨h1, by unfold Dk.readL; rw [if_pos h1, was_some hg, hx]⟩
end Go.Proofs.YtdliddjkacbggaaDoor.SimU
/-
  The disk: a row of calls as an argument; a file that was synced stays (plain data).
-/
namespace Go.Proofs.YtdliddjkacbggaaDoor.SimY
open Go.Proofs.YtdliddjkacbggaaDoor.E Go.RowKit Go.Proofs.YtdliddjkacbggaaDoor.SimA Go.Proofs.YtdliddjkacbggaaDoor.SimB Go.Proofs.YtdliddjkacbggaaDoor.SimC Go.Proofs.YtdliddjkacbggaaDoor.SimD Go.Proofs.YtdliddjkacbggaaDoor.SimE Go.Proofs.YtdliddjkacbggaaDoor.SimF Go.Proofs.YtdliddjkacbggaaDoor.SimG Go.Proofs.YtdliddjkacbggaaDoor.SimH Go.Proofs.YtdliddjkacbggaaDoor.SimI Go.Proofs.YtdliddjkacbggaaDoor.SimK Go.Proofs.YtdliddjkacbggaaDoor.SimN Go.Proofs.YtdliddjkacbggaaDoor.SimQ Go.Proofs.YtdliddjkacbggaaDoor.SimR Go.Proofs.YtdliddjkacbggaaDoor.SimS Go.Proofs.YtdliddjkacbggaaDoor.SimU
set_option maxRecDepth 20000
set_option linter.unusedVariables false
set_option linter.unusedSimpArgs false
set_option linter.unusedSectionVars false

section
variable {H : Type} {enc : TypeId × Value → H} {P : Program} {W : World} {base : Nat} {sp : Nat → Bool} {held : Bool}
open Go.ChangeShapes Go.WideShapes Go.ChangeAt Go.RowKit Go.Deep
end
/-! ### a file that was synced -/
def OnlyK (p : Pth) (l : Nms) : Prop := mget l p = some 0 ∧ ∀ q, q ≠ p → mget l q ≠ some 0
structure Kp (p : Pth) (x : List UInt8) (D : Dk) : Prop where
  dead : D.dead = false
  left : D.left = 0
  now : OnlyK p D.now
  st : OnlyK p D.stays
  f : fget D.fs 0 = ⟨x, x, []⟩
  fl : 1 ≤ D.fs.length
  lg : ∀ c ∈ D.log, c.g ≠ p ∧ ∀ i, c.f = some i → i ≠ 0 ∧ c.n ≠ p
theorem OnlyK.ap {p : Pth} {l : Nms} {c : Chg} (h : OnlyK p l) (hg : c.g ≠ p) (hc : ∀ i, c.f = some i → i ≠ 0 ∧ c.n ≠ p) : OnlyK p (c.ap l) := by
  refine ⟨?_, fun q hq => ?_⟩
  · rw [mget_ap]; unfold Chg.at
    cases hf : c.f with
    | none => simp only; rw [if_neg (fun e => hg e.2.symm)]; exact h.1
    | some i => simp only; rw [if_neg (fun e => (hc i hf).2 e.symm), if_neg (fun e => hg e.2.symm)]; exact h.1
  · rw [mget_ap]; unfold Chg.at
    cases hf : c.f with
    | none => simp only; split; exact nofun; exact h.2 q hq
    | some i =>
      simp only; split
      · exact fun e => (hc i hf).1 (Option.some.inj e)
      · split; exact nofun; exact h.2 q hq
theorem OnlyK.apl {p : Pth} : ∀ {cs : List Chg} {l : Nms}, OnlyK p l → (∀ c ∈ cs, c.g ≠ p ∧ ∀ i, c.f = some i → i ≠ 0 ∧ c.n ≠ p) → OnlyK p (apl cs l)
  | [], l, h, _ => h
  | c :: cs, l, h, hc => OnlyK.apl (cs := cs) (h.ap (hc c List.mem_cons_self).1 (hc c List.mem_cons_self).2) (fun d hd => hc d (List.mem_cons_of_mem _ hd))
theorem begin_go {D : Dk} (h : D.dead = false) (h2 : D.left = 0) : D.begin = (true, { D with left := D.left - 1, ops := D.ops + 1 }) := by
  unfold Dk.begin; rw [if_neg (by rw [h]; decide), if_neg (by omega)]
theorem Kp.begin {p : Pth} {x : List UInt8} {D : Dk} (h : Kp p x D) : D.begin.1 = true ∧ Kp p x D.begin.2 := by
  rw [begin_go h.dead h.left]
  exact ⟨rfl, h.dead, by show D.left - 1 = 0; rw [h.left], h.now, h.st, h.f, h.fl, h.lg⟩
theorem Kp.put {p : Pth} {x : List UInt8} {D : Dk} (h : Kp p x D) {i : Nat} (hi : i ≠ 0) (y : Fdt) : Kp p x (D.putF i y) :=
  ⟨h.dead, h.left, h.now, h.st, by
    show (D.fs.set i y).getD 0 _ = _
    rw [List.getD_eq_getElem?_getD, List.getElem?_set_ne hi, ← List.getD_eq_getElem?_getD]; exact h.f, by rw [fl_put]; exact h.fl, h.lg⟩
theorem Kp.change {p : Pth} {x : List UInt8} {D : Dk} (h : Kp p x D) (c : Chg) (hg : c.g ≠ p) (hc : ∀ i, c.f = some i → i ≠ 0 ∧ c.n ≠ p) : Kp p x (D.change c) :=
  ⟨h.dead, h.left, h.now.ap hg hc, h.st, h.f, h.fl, fun d hd => by
    rcases List.mem_append.1 hd with hd | hd
    · exact h.lg d hd
    · rw [List.mem_singleton.1 hd]; exact ⟨hg, hc⟩⟩
theorem Kp.make {p q : Pth} {x : List UInt8} {D : Dk} (h : Kp p x D) (hq : q ≠ p) (hp : p ≠ []) : Kp p x (D.make q).1 ∧ (D.make q).2 ≠ 0 := by
  unfold Dk.make
  cases hm : mget D.now q with
  | some i => exact ⟨h, fun e => h.now.2 q hq (by rw [hm]; exact congrArg some e)⟩
  | none =>
    have h1 : Kp p x ({ D with fs := D.fs ++ [⟨[], [], []⟩] } : Dk) := ⟨h.dead, h.left, h.now, h.st, by
      show (D.fs ++ [(⟨[], [], []⟩ : Fdt)]).getD 0 ⟨[], [], []⟩ = _
      rw [List.getD_eq_getElem?_getD, List.getElem?_append_left h.fl, ← List.getD_eq_getElem?_getD]; exact h.f, by show 1 ≤ (D.fs ++ [(⟨[], [], []⟩ : Fdt)]).length; have := h.fl; simp, h.lg⟩
    exact ⟨h1.change _ (fun e => hp e.symm) (fun i hi => ⟨by rw [← Option.some.inj hi]; have := h.fl; omega, hq⟩), by have := h.fl; simp only; omega⟩
theorem Kp.write {p q : Pth} {x : List UInt8} {D : Dk} (h : Kp p x D) (hq : q ≠ p) (hp : p ≠ []) (w : Wr) : Kp p x (D.write q w) := by
  unfold Dk.write
  obtain ⟨h1, h2⟩ := h.make hq hp
  exact h1.put h2 _
theorem Kp.lay {p q : Pth} {x : List UInt8} {D : Dk} (h : Kp p x D) (hq : q ≠ p) (hp : p ≠ []) (w : Wr) : Kp p x (D.lay q w).2 := by
  obtain ⟨h1, h2⟩ := h.begin
  rw [lay_go h1]
  simp only; split
  · exact h2.write hq hp w
  · exact h2
theorem Kp.sync {p q : Pth} {x : List UInt8} {D : Dk} (h : Kp p x D) (hq : q ≠ p) : Kp p x (D.sync q).2 := by
  obtain ⟨h1, h2⟩ := h.begin
  rw [sync_go h1]
  simp only; split
  · rename_i h3
    obtain ⟨_, i, hi⟩ := look_0 h3
    rw [hi]
    exact h2.put (fun e => h2.now.2 q hq (by rw [hi]; exact congrArg some e)) _
  · exact h2
theorem Kp.rename {p q r : Pth} {x : List UInt8} {D : Dk} (h : Kp p x D) (hq : q ≠ p) (hr : r ≠ p) : Kp p x (D.rename q r).2 := by
  obtain ⟨h1, h2⟩ := h.begin
  rw [ren_go h1]
  simp only; split
  · rename_i h3
    have h4 : D.begin.2.look q = 0 := by
      have := h3.1; unfold Dk.renE at this
      split at this
      · cases this
      · split at this
        · cases this
        · exact this
    obtain ⟨_, i, hi⟩ := look_0 h4
    refine h2.change _ hq (fun j hj => ⟨?_, hr⟩)
    rw [hi] at hj
    exact fun e => h2.now.2 q hq (by rw [hi]; have := Option.some.inj hj; simp at this; rw [this, e])
  · exact h2
theorem Kp.syncDir {p : Pth} {x : List UInt8} {D : Dk} (h : Kp p x D) (hA : Asc D.now) (n : Pth) : Kp p x (D.syncDir n).2 := by
  obtain ⟨h1, h2⟩ := h.begin
  have e := (begin_same D).2.2.2.1
  rw [sd_go h1]
  simp only; split
  · refine ⟨h2.dead, h2.left, h2.now, ?_, h2.f, h2.fl, fun c hc => h2.lg c (List.mem_filter.1 hc).1⟩
    have hA2 : Asc D.begin.2.now := by rw [e]; exact hA
    refine ⟨?_, fun q hq => ?_⟩
    · show mget (merge D.begin.2.now D.begin.2.stays n) p = some 0
      rw [mget_merge hA2]; split
      · exact h2.now.1
      · exact h2.st.1
    · show mget (merge D.begin.2.now D.begin.2.stays n) q ≠ some 0
      rw [mget_merge hA2]; split
      · exact h2.now.2 q hq
      · exact h2.st.2 q hq
  · exact h2
theorem crashD_keep {p : Pth} {picks : List Int} {D : Dk} (hU : ∀ c ∈ D.log, c.g ≠ p ∧ ∀ i, c.f = some i → i ≠ 0 ∧ c.n ≠ p) : ∀ (L : List Pth) (s : Nms × Nat), OnlyK p s.1 → OnlyK p (L.foldl (crashD picks D) s).1
  | [], s, h => h
  | y :: L, s, h => by
    rw [List.foldl_cons]
    refine crashD_keep hU L _ ?_
    rw [crashD_st]; exact h.apl (fun c hc => hU c (chgs_mem (List.mem_of_mem_take hc)).1)
theorem crashF_keep {x : List UInt8} (picks : List Int) : ∀ (L : Nms) (s : List Fdt × Nat), fget s.1 0 = ⟨x, x, []⟩ → fget (L.foldl (crashF picks) s).1 0 = ⟨x, x, []⟩
  | [], s, h => h
  | y :: L, s, h => by
    rw [List.foldl_cons]
    refine crashF_keep picks L _ ?_
    unfold crashF
    simp only
    split
    · exact h
    · rename_i hw
      have hy : y.2 ≠ 0 := fun e => hw (by rw [e, h])
      show (s.1.set y.2 _).getD 0 _ = _
      rw [List.getD_eq_getElem?_getD, List.getElem?_set_ne hy, ← List.getD_eq_getElem?_getD]; exact h
theorem Kp.crash {p : Pth} {x : List UInt8} {D : Dk} (h : Kp p x D) (picks : List Int) : Kp p x (D.crash picks) := by
  have c1 := crashD_keep (picks := picks) h.lg D.dirty (D.stays, 0) h.st
  exact ⟨rfl, rfl, c1, c1, crashF_keep picks _ _ h.f, by show 1 ≤ (D.crashA picks).1.length; unfold Dk.crashA; rw [crashF_len]; exact h.fl, nofun⟩
theorem Kp.read {p : Pth} {x : List UInt8} {D : Dk} (h : Kp p x D) (hn : nameB p = true) : D.readE p = 0 ∧ D.readL p = x := read_of h.dead hn h.now.1 (by rw [h.f])
abbrev pK : Pth := [100, 47, 107, 101, 101, 112]
theorem Kp.start {x : List UInt8} (h : x.length ≤ 3000) : Kp pK x (startD pK [100] x) := by
  rw [(start_all (p := pK) (d := [100]) (by decide) (by decide) (by decide) h).2.2.2]
  refine ⟨rfl, rfl, ⟨rfl, fun q hq => ?_⟩, ⟨rfl, fun q hq => ?_⟩, rfl, Nat.le_refl _, nofun⟩
  · simp [mget, hq]
  · simp [mget, hq]
end Go.Proofs.YtdliddjkacbggaaDoor.SimY
/-
  The disk: from the operation on at which it was to stop it is dead (plain data).
-/
namespace Go.Proofs.YtdliddjkacbggaaDoor.SimYA
open Go.Proofs.YtdliddjkacbggaaDoor.E Go.RowKit Go.Proofs.YtdliddjkacbggaaDoor.SimA Go.Proofs.YtdliddjkacbggaaDoor.SimB Go.Proofs.YtdliddjkacbggaaDoor.SimC Go.Proofs.YtdliddjkacbggaaDoor.SimD Go.Proofs.YtdliddjkacbggaaDoor.SimE Go.Proofs.YtdliddjkacbggaaDoor.SimF Go.Proofs.YtdliddjkacbggaaDoor.SimG Go.Proofs.YtdliddjkacbggaaDoor.SimH Go.Proofs.YtdliddjkacbggaaDoor.SimI Go.Proofs.YtdliddjkacbggaaDoor.SimK Go.Proofs.YtdliddjkacbggaaDoor.SimN Go.Proofs.YtdliddjkacbggaaDoor.SimQ Go.Proofs.YtdliddjkacbggaaDoor.SimR Go.Proofs.YtdliddjkacbggaaDoor.SimS Go.Proofs.YtdliddjkacbggaaDoor.SimU Go.Proofs.YtdliddjkacbggaaDoor.SimY
set_option maxRecDepth 20000
set_option linter.unusedVariables false
set_option linter.unusedSimpArgs false
set_option linter.unusedSectionVars false

structure St (n m : Nat) (D : Dk) : Prop where
  al : m < n → D.dead = false ∧ D.left = n - m ∧ D.ops = m
  de : n ≤ m → D.dead = true ∧ D.ops = n - 1
def Pns (D : Dk) : Prop := Inn paths D.now ∧ Inn paths D.stays ∧ ∀ c ∈ D.log, ∀ i, c.f = some i → c.n ∈ paths
def Sm (D E : Dk) : Prop := E.cap = D.cap ∧ E.most = D.most ∧ E.ops = D.ops ∧ E.left = D.left ∧ E.dead = D.dead
theorem Sm.rfl {D : Dk} : Sm D D := ⟨Eq.refl _, Eq.refl _, Eq.refl _, Eq.refl _, Eq.refl _⟩
structure Dd (n m : Nat) (D : Dk) : Prop where
  st : St n m D
  cap : D.cap = 65536
  most : D.most = 1024
  bs : Bs (504 * min m n) D
  pi : Pns D
theorem begin_alive {D : Dk} (h : D.dead = false) (h2 : D.left ≠ 1) : D.begin = (true, { D with left := D.left - 1, ops := D.ops + 1 }) := by
  unfold Dk.begin; rw [if_neg (by rw [h]; decide), if_neg h2]
theorem St.begin {n m : Nat} {D : Dk} (h : St n m D) (hn : 1 ≤ n) : St n (m + 1) D.begin.2 ∧ (D.begin.1 = true ↔ m + 1 < n) := by
  by_cases hm : m < n
  · obtain ⟨h1, h2, h3⟩ := h.al hm
    by_cases hl : D.left = 1
    · rw [last_ops h1 hl]
      refine ⟨⟨fun h4 => by omega, fun h4 => ⟨rfl, by show D.ops = n - 1; omega⟩⟩, by simp; omega⟩
    · rw [begin_alive h1 hl]
      refine ⟨⟨fun h4 => ⟨h1, by show D.left - 1 = n - (m + 1); omega, by show D.ops + 1 = m + 1; omega⟩, fun h4 => by omega⟩, by simp; omega⟩
  · obtain ⟨h1, h2⟩ := h.de (by omega)
    rw [dead_ops h1]
    exact ⟨⟨fun h4 => by omega, fun h4 => ⟨h1, h2⟩⟩, by simp; omega⟩
theorem bs_dead {k : Nat} {D : Dk} (h : Bs k D) (hb : D.begin.1 = false) : Bs k D.begin.2 := by
  unfold Dk.begin at hb ⊢
  split
  · exact h
  · rename_i h1
    split
    · exact ⟨h.an, h.ast, h.lg, h.op, h.fl, h.f, h.un, h.ld⟩
    · rename_i h2; rw [if_neg h1, if_neg h2] at hb; cases hb
theorem Dd.step {n m r : Nat} {D D2 : Dk} (h : Dd n m D) (hn : 1 ≤ n) (hs : Sm D.begin.2 D2 ∧ (r = 11 ↔ D.begin.1 = false) ∧ (D.begin.1 = false → D2 = D.begin.2)) (hB : Bs (504 * m + 504) D2) (hp : Pns D2) : Dd n (m + 1) D2 ∧ (r = 11 ↔ n ≤ m + 1) := by
  obtain ⟨⟨e1, e2, e3, e4, e5⟩, hr, hd⟩ := hs
  obtain ⟨s1, s2⟩ := h.st.begin hn
  obtain ⟨b1, b2, _⟩ := begin_same D
  refine ⟨⟨⟨fun h4 => ?_, fun h4 => ?_⟩, by rw [e1, b1]; exact h.cap, by rw [e2, b2]; exact h.most, ?_, hp⟩, ?_⟩
  · obtain ⟨q1, q2, q3⟩ := s1.al h4; exact ⟨by rw [e5]; exact q1, by rw [e4]; exact q2, by rw [e3]; exact q3⟩
  · obtain ⟨q1, q2⟩ := s1.de h4; exact ⟨by rw [e5]; exact q1, by rw [e3]; exact q2⟩
  · cases hb : D.begin.1 with
    | true => have := s2.1 hb; exact hB.mono (by omega)
    | false => rw [hd hb]; exact (bs_dead h.bs hb).mono (by omega)
  · rw [hr]
    cases hb : D.begin.1 with
    | true => have := s2.1 hb; simp; omega
    | false => simp; exact Classical.byContradiction (fun h5 => by have := s2.2 (by omega); rw [hb] at this; cases this)
theorem pns_begin {D : Dk} (h : Pns D) : Pns D.begin.2 := by
  obtain ⟨_, _, _, e4, e5, e6, _⟩ := begin_same D
  unfold Pns; rw [e4, e5, e6]; exact h
theorem pns_change {D : Dk} (h : Pns D) {c : Chg} (hc : ∀ i, c.f = some i → c.n ∈ paths) : Pns (D.change c) :=
  ⟨inn_ap h.1 hc, h.2.1, fun d hd i hi => by
    rcases List.mem_append.1 hd with hd | hd
    · exact h.2.2 d hd i hi
    · rw [List.mem_singleton.1 hd] at hi ⊢; exact hc i hi⟩
theorem sm_write (D : Dk) (p : Pth) (w : Wr) : Sm D (D.write p w) := by
  unfold Dk.write Dk.make
  cases mget D.now p with
  | some i => exact Sm.rfl
  | none => exact Sm.rfl
theorem pns_write {D : Dk} (h : Pns D) {p : Pth} (hp : p ∈ paths) (w : Wr) : Pns (D.write p w) := by
  unfold Dk.write Dk.make
  cases mget D.now p with
  | some i => exact h
  | none =>
    have h1 : Pns ({ D with fs := D.fs ++ [⟨[], [], []⟩] } : Dk) := h
    exact pns_change (c := ⟨[], p, some D.fs.length⟩) h1 (fun _ _ => hp)
theorem layE_ne (D : Dk) (p : Pth) (w : Wr) : D.layE p w ≠ 11 := by
  unfold Dk.layE; split; · decide
  split; · decide
  split <;> decide
theorem look_ne (D : Dk) (p : Pth) : D.look p ≠ 11 := by
  rcases look_or D p with e | e | e <;> rw [e] <;> decide
theorem dirE_ne (p : Pth) : dirE p ≠ 11 := by unfold dirE; split <;> decide
theorem step_lay (D : Dk) (p : Pth) (w : Wr) : Sm D.begin.2 (D.lay p w).2 ∧ ((D.lay p w).1 = 11 ↔ D.begin.1 = false) ∧ (D.begin.1 = false → (D.lay p w).2 = D.begin.2) := by
  cases hb : D.begin.1 with
  | false => rw [lay_dead hb]; exact ⟨Sm.rfl, by simp, fun _ => rfl⟩
  | true =>
    rw [lay_go hb]
    refine ⟨?_, by simp [layE_ne], nofun⟩
    simp only; split
    · exact sm_write _ _ _
    · exact Sm.rfl
theorem step_sync (D : Dk) (p : Pth) : Sm D.begin.2 (D.sync p).2 ∧ ((D.sync p).1 = 11 ↔ D.begin.1 = false) ∧ (D.begin.1 = false → (D.sync p).2 = D.begin.2) := by
  cases hb : D.begin.1 with
  | false => rw [sync_dead hb]; exact ⟨Sm.rfl, by simp, fun _ => rfl⟩
  | true =>
    rw [sync_go hb]
    refine ⟨?_, by simp [look_ne], nofun⟩
    simp only; split
    · exact Sm.rfl
    · exact Sm.rfl
theorem step_ren (D : Dk) (p q : Pth) : Sm D.begin.2 (D.rename p q).2 ∧ ((D.rename p q).1 = 11 ↔ D.begin.1 = false) ∧ (D.begin.1 = false → (D.rename p q).2 = D.begin.2) := by
  cases hb : D.begin.1 with
  | false => rw [ren_dead hb]; exact ⟨Sm.rfl, by simp, fun _ => rfl⟩
  | true =>
    rw [ren_go hb]
    have h : D.begin.2.renE p q ≠ 11 := by
      unfold Dk.renE; split; · decide
      split; · decide
      exact look_ne _ _
    refine ⟨?_, by simp [h], nofun⟩
    simp only; split
    · exact Sm.rfl
    · exact Sm.rfl
theorem step_sd (D : Dk) (p : Pth) : Sm D.begin.2 (D.syncDir p).2 ∧ ((D.syncDir p).1 = 11 ↔ D.begin.1 = false) ∧ (D.begin.1 = false → (D.syncDir p).2 = D.begin.2) := by
  cases hb : D.begin.1 with
  | false => rw [sd_dead hb]; exact ⟨Sm.rfl, by simp, fun _ => rfl⟩
  | true =>
    rw [sd_go hb]
    refine ⟨?_, by simp [dirE_ne], nofun⟩
    simp only; split
    · exact Sm.rfl
    · exact Sm.rfl
theorem Dd.lay {n m : Nat} {D : Dk} (h : Dd n m D) (hn : 1 ≤ n) {p : Pth} (hp : p ∈ paths) (w : Wr) (hw : w.d.length ≤ 500) : Dd n (m + 1) (D.lay p w).2 ∧ ((D.lay p w).1 = 11 ↔ n ≤ m + 1) := by
  refine h.step hn (step_lay D p w) ((h.bs.lay p w).mono (by omega)) ?_
  cases hb : D.begin.1 with
  | false => rw [lay_dead hb]; exact pns_begin h.pi
  | true =>
    rw [lay_go hb]; simp only; split
    · exact pns_write (pns_begin h.pi) hp w
    · exact pns_begin h.pi
theorem Dd.sync {n m : Nat} {D : Dk} (h : Dd n m D) (hn : 1 ≤ n) (p : Pth) : Dd n (m + 1) (D.sync p).2 ∧ ((D.sync p).1 = 11 ↔ n ≤ m + 1) := by
  refine h.step hn (step_sync D p) ((h.bs.sync p).mono (by omega)) ?_
  cases hb : D.begin.1 with
  | false => rw [sync_dead hb]; exact pns_begin h.pi
  | true =>
    rw [sync_go hb]; simp only; split
    · exact pns_begin h.pi
    · exact pns_begin h.pi
theorem Dd.rename {n m : Nat} {D : Dk} (h : Dd n m D) (hn : 1 ≤ n) (p : Pth) {q : Pth} (hq : q ∈ paths) : Dd n (m + 1) (D.rename p q).2 ∧ ((D.rename p q).1 = 11 ↔ n ≤ m + 1) := by
  refine h.step hn (step_ren D p q) ((h.bs.rename p q).mono (by omega)) ?_
  cases hb : D.begin.1 with
  | false => rw [ren_dead hb]; exact pns_begin h.pi
  | true =>
    rw [ren_go hb]; simp only; split
    · exact pns_change (pns_begin h.pi) (fun _ _ => hq)
    · exact pns_begin h.pi
theorem Dd.syncDir {n m : Nat} {D : Dk} (h : Dd n m D) (hn : 1 ≤ n) (p : Pth) : Dd n (m + 1) (D.syncDir p).2 ∧ ((D.syncDir p).1 = 11 ↔ n ≤ m + 1) := by
  refine h.step hn (step_sd D p) ((h.bs.syncDir p).mono (by omega)) ?_
  cases hb : D.begin.1 with
  | false => rw [sd_dead hb]; exact pns_begin h.pi
  | true =>
    rw [sd_go hb]; simp only; split
    · have h1 := pns_begin h.pi
      have hA : Asc D.begin.2.now := h.bs.begin.an
      refine ⟨h1.1, fun q hq => ?_, fun c hc => h1.2.2 c (List.mem_filter.1 hc).1⟩
      have hq : (mget (merge D.begin.2.now D.begin.2.stays p) q).isSome = true := hq
      rw [mget_merge hA] at hq
      split at hq
      · exact h1.1 q hq
      · exact h1.2.1 q hq
    · exact pns_begin h.pi
theorem Dd.dd {n m : Nat} {D : Dk} (h : Dd n m D) : D.dead = true ↔ n ≤ m := by
  constructor
  · intro h1
    exact Classical.byContradiction (fun h2 => by have := (h.st.al (by omega)).1; rw [h1] at this; cases this)
  · exact fun h1 => (h.st.de h1).1
theorem Dd.read {n m : Nat} {D : Dk} (h : Dd n m D) (p : Pth) : D.readE p = 11 ↔ n ≤ m := by
  rw [← h.dd]; unfold Dk.readE
  cases hd : D.dead with
  | true => simp
  | false => simp [look_ne]
theorem Dd.list {n m : Nat} {D : Dk} (h : Dd n m D) (p : Pth) : D.listE p = 11 ↔ n ≤ m := by
  rw [← h.dd]; unfold Dk.listE
  cases hd : D.dead with
  | true => simp
  | false => simp [dirE_ne]
theorem Dd.ops {n m : Nat} {D : Dk} (h : Dd n m D) : D.ops = min m (n - 1) := by
  by_cases hm : m < n
  · have := (h.st.al hm).2.2; omega
  · have := (h.st.de (by omega)).2; omega
theorem Dd.start (n : Nat) (hn : 1 ≤ n) : Dd n 0 ((Dk.empty 65536 1024).stop n) :=
  ⟨⟨fun _ => ⟨rfl, by show n = n - 0; omega, rfl⟩, fun h => by omega⟩, rfl, rfl, ((Bs.empty 65536 1024).stop n).mono (by omega), nofun, nofun, nofun⟩
end Go.Proofs.YtdliddjkacbggaaDoor.SimYA
/-
  The disk: how full it is (plain data).
-/
namespace Go.Proofs.YtdliddjkacbggaaDoor.SimYE
open Go.Proofs.YtdliddjkacbggaaDoor.E Go.RowKit Go.Proofs.YtdliddjkacbggaaDoor.SimA Go.Proofs.YtdliddjkacbggaaDoor.SimB Go.Proofs.YtdliddjkacbggaaDoor.SimC Go.Proofs.YtdliddjkacbggaaDoor.SimD Go.Proofs.YtdliddjkacbggaaDoor.SimE Go.Proofs.YtdliddjkacbggaaDoor.SimF Go.Proofs.YtdliddjkacbggaaDoor.SimG Go.Proofs.YtdliddjkacbggaaDoor.SimH Go.Proofs.YtdliddjkacbggaaDoor.SimI Go.Proofs.YtdliddjkacbggaaDoor.SimK Go.Proofs.YtdliddjkacbggaaDoor.SimN Go.Proofs.YtdliddjkacbggaaDoor.SimQ Go.Proofs.YtdliddjkacbggaaDoor.SimR Go.Proofs.YtdliddjkacbggaaDoor.SimS Go.Proofs.YtdliddjkacbggaaDoor.SimU Go.Proofs.YtdliddjkacbggaaDoor.SimY Go.Proofs.YtdliddjkacbggaaDoor.SimYA
set_option maxRecDepth 20000
set_option linter.unusedVariables false
set_option linter.unusedSimpArgs false
set_option linter.unusedSectionVars false

/-- each name has a file of its own -/
def Own1 (D : Dk) : Prop := (∀ p i, mget D.now p = some i → i < D.fs.length) ∧ ∀ p q i, mget D.now p = some i → mget D.now q = some i → p = q
theorem fget_set {fs : List Fdt} {i j : Nat} {x : Fdt} : fget (fs.set i x) j = if j = i ∧ i < fs.length then x else fget fs j := by
  unfold fget
  by_cases hi : i < fs.length
  · by_cases e : j = i
    · rw [if_pos ⟨e, hi⟩, e, List.getD_eq_getElem?_getD, List.getElem?_set_self hi]; rfl
    · rw [if_neg (fun h => e h.1), List.getD_eq_getElem?_getD, List.getElem?_set_ne (Ne.symm e), ← List.getD_eq_getElem?_getD]
  · rw [if_neg (fun h => hi h.2), List.set_eq_of_length_le (by omega)]
theorem fget_app {fs : List Fdt} {j : Nat} (h : j < fs.length) (x : Fdt) : fget (fs ++ [x]) j = fget fs j := by
  unfold fget; rw [List.getD_eq_getElem?_getD, List.getElem?_append_left h, ← List.getD_eq_getElem?_getD]
theorem wasL_eq (D : Dk) (p : Pth) : D.wasL p = match mget D.now p with | some i => (fget D.fs i).now | none => [] := rfl
theorem Own1.write {D : Dk} (h : Own1 D) (p : Pth) (w : Wr) : Own1 (D.write p w) ∧ ∀ q, (D.write p w).wasL q = if q = p then w.on (D.wasL p) w.d.length else D.wasL q := by
  cases hm : mget D.now p with
  | some i =>
    have hi := h.1 p i hm
    have e : D.write p w = D.putF i ⟨w.on (fget D.fs i).now w.d.length, (fget D.fs i).stays, (fget D.fs i).w ++ [w]⟩ := by unfold Dk.write Dk.make; rw [hm]
    rw [e]
    refine ⟨⟨fun q j hq => by rw [fl_put]; exact h.1 q j hq, h.2⟩, fun q => ?_⟩
    rw [wasL_eq, wasL_eq D q, was_some hm]
    show (match mget D.now q with | some j => (fget (D.fs.set i _) j).now | none => []) = _
    cases hq : mget D.now q with
    | none => rw [if_neg (fun e => by rw [e, hm] at hq; cases hq)]
    | some j =>
      simp only
      rw [fget_set]
      by_cases e : q = p
      · rw [e, hm] at hq
        rw [if_pos e, if_pos ⟨(Option.some.inj hq).symm, hi⟩]
      · rw [if_neg e, if_neg (fun h2 => e (h.2 q p i (by rw [hq, h2.1]) hm))]
  | none =>
    have e : D.write p w = (mk1 D p).putF D.fs.length ⟨w.on [] w.d.length, [], [w]⟩ := by
      unfold Dk.write Dk.make; rw [hm]
      show (mk1 D p).putF D.fs.length ⟨w.on (fget (mk1 D p).fs D.fs.length).now w.d.length, (fget (mk1 D p).fs D.fs.length).stays, (fget (mk1 D p).fs D.fs.length).w ++ [w]⟩ = _
      rw [mk1_get]; rfl
    have hn : (mk1 D p).now = nput D.now p D.fs.length := by simp [mk1, Dk.change, Chg.ap]
    have hfs : (mk1 D p).fs = D.fs ++ [⟨[], [], []⟩] := rfl
    rw [e]
    refine ⟨⟨fun q j hq => ?_, fun q r j hq hr => ?_⟩, fun q => ?_⟩
    · rw [fl_put, hfs]
      have hq : mget (mk1 D p).now q = some j := hq
      rw [hn, mget_nput] at hq
      simp only [List.length_append, List.length_cons, List.length_nil]
      split at hq
      · have := Option.some.inj hq; omega
      · have := h.1 q j hq; omega
    · have hq : mget (mk1 D p).now q = some j := hq
      have hr : mget (mk1 D p).now r = some j := hr
      rw [hn, mget_nput] at hq hr
      split at hq
      · rename_i e1
        split at hr
        · rename_i e2; rw [e1, e2]
        · have h3 := Option.some.inj hq; have := h.1 r j hr; omega
      · split at hr
        · have h3 := Option.some.inj hr; have := h.1 q j hq; omega
        · exact h.2 q r j hq hr
    · rw [wasL_eq, wasL_eq D q, was_none hm]
      show (match mget (mk1 D p).now q with | some j => (fget ((mk1 D p).fs.set D.fs.length _) j).now | none => []) = _
      rw [hn, mget_nput, hfs]
      by_cases e1 : q = p
      · rw [if_pos e1, if_pos e1]; simp only; rw [fget_set, if_pos ⟨rfl, by simp⟩]
      · rw [if_neg e1, if_neg e1]
        cases hq : mget D.now q with
        | none => rfl
        | some j =>
          have hj := h.1 q j hq
          simp only
          rw [fget_set, if_neg (fun h2 => by omega), fget_app hj]

end Go.Proofs.YtdliddjkacbggaaDoor.SimYE
/-
  A journal on a disk that goes on: what its steps come to (plain data).
-/
namespace Go.Proofs.YtdliddjkacbggaaDoor.WalH
open Go.Proofs.YtdliddjkacbggaaDoor.E Go.RowKit Go.Proofs.YtdliddjkacbggaaDoor.SimA Go.Proofs.YtdliddjkacbggaaDoor.SimB Go.Proofs.YtdliddjkacbggaaDoor.SimC Go.Proofs.YtdliddjkacbggaaDoor.SimD Go.Proofs.YtdliddjkacbggaaDoor.SimE Go.Proofs.YtdliddjkacbggaaDoor.SimF Go.Proofs.YtdliddjkacbggaaDoor.SimG Go.Proofs.YtdliddjkacbggaaDoor.SimH Go.Proofs.YtdliddjkacbggaaDoor.SimI Go.Proofs.YtdliddjkacbggaaDoor.SimQ Go.Proofs.YtdliddjkacbggaaDoor.SimR Go.Proofs.YtdliddjkacbggaaDoor.SimS Go.Proofs.YtdliddjkacbggaaDoor.SimU Go.Proofs.YtdliddjkacbggaaDoor.SimY Go.Proofs.YtdliddjkacbggaaDoor.SimYA Go.Proofs.YtdliddjkacbggaaDoor.SimYE Go.Proofs.YtdliddjkacbggaaDoor.WalA Go.Proofs.YtdliddjkacbggaaDoor.WalB Go.Proofs.YtdliddjkacbggaaDoor.WalC Go.Proofs.YtdliddjkacbggaaDoor.WalD Go.Proofs.YtdliddjkacbggaaDoor.WalE Go.Proofs.YtdliddjkacbggaaDoor.WalF Go.Proofs.YtdliddjkacbggaaDoor.WalG
set_option maxRecDepth 20000
set_option linter.unusedVariables false
set_option linter.unusedSimpArgs false
set_option linter.unusedSectionVars false

theorem tw_append {a b : List UInt8} {f : UInt8 → Bool} (h : ∀ x ∈ a, f x = true) : (a ++ b).takeWhile f = a ++ b.takeWhile f := by
  induction a with
  | nil => rfl
  | cons x a ih => rw [List.cons_append, List.takeWhile_cons, if_pos (h x List.mem_cons_self), ih (fun y hy => h y (List.mem_cons_of_mem _ hy)), List.cons_append]
theorem headP_new (p : Pth) : headP (newP p) = headP p := by
  unfold headP newP
  have h : ((p ++ [46, 110, 101, 119]).reverse.takeWhile (fun c => decide (c ≠ 47))).length = 4 + (p.reverse.takeWhile (fun c => decide (c ≠ 47))).length := by
    rw [List.reverse_append, tw_append (by decide), List.length_append]; rfl
  rw [h, List.length_append, List.length_cons, List.length_cons, List.length_cons, List.length_cons, List.length_nil]
  rw [List.take_append_of_le_length (by omega)]
  congr 1; omega
theorem dirP_new {p : Pth} (h : nameB p = true) (h2 : nameB (newP p) = true) : dirP (newP p) = dirP p := by unfold dirP; rw [if_pos h, if_pos h2, headP_new]
theorem blt_new (p : Pth) : blt p (newP p) := by
  unfold blt newP
  induction p with
  | nil => decide
  | cons x p ih => simp only [List.cons_append, Op.bytesLess]; simpa using ih
theorem new_ne (p : Pth) : newP p ≠ p := fun e => by have := congrArg List.length e; rw [newP_len] at this; omega
theorem new_nn (p : Pth) : ¬ newP p = [] := by simp [newP]
structure One (cap most : Nat) (p : Pth) (x : List UInt8) (D : Dk) : Prop where
  dead : D.dead = false
  left : D.left = 0
  cap : D.cap = cap
  most : D.most = most
  nw : ∃ i, D.now = [(p, i)] ∧ i < D.fs.length ∧ (fget D.fs i).now = x
section
variable {cap most : Nat} {p : Pth} {x : List UInt8} {D : Dk}
theorem One.used (h : One cap most p x D) : D.used = x.length := by
  obtain ⟨i, h1, _, h2⟩ := h.nw
  unfold Dk.used usedL; rw [h1]; simp [h2]
theorem One.was (h : One cap most p x D) : D.wasL p = x := by
  obtain ⟨i, h1, _, h2⟩ := h.nw
  unfold Dk.wasL; rw [h1]; simp [mget, h2]
theorem One.read (h : One cap most p x D) (hn : nameB p = true) : D.readE p = 0 ∧ D.readL p = x := by
  obtain ⟨i, h1, _, h2⟩ := h.nw
  exact read_of h.dead hn (by rw [h1]; simp [mget]) h2
theorem One.begin (h : One cap most p x D) : D.begin = (true, D.begin.2) ∧ One cap most p x D.begin.2 := by
  have e := begin_go h.dead h.left
  rw [e]
  exact ⟨rfl, h.dead, by show D.left - 1 = 0; rw [h.left], h.cap, h.most, h.nw⟩
theorem One.lay (h : One cap most p x D) (hn : nameB p = true) (w : Wr) :
    ((D.lay p w).1 = 5 ∧ most < (w.on x w.d.length).length ∧ One cap most p x (D.lay p w).2) ∨ ((D.lay p w).1 = 12 ∧ cap < (w.on x w.d.length).length ∧ One cap most p x (D.lay p w).2) ∨
    ((D.lay p w).1 = 0 ∧ (w.on x w.d.length).length ≤ cap ∧ One cap most p (w.on x w.d.length) (D.lay p w).2) := by
  obtain ⟨hb, h1⟩ := h.begin
  rw [lay_go (by rw [hb])]
  by_cases c1 : most < (w.on x w.d.length).length
  · rw [layE_5 hn (by rw [h1.was, h1.most]; exact c1)]
    exact .inl ⟨rfl, c1, h1⟩
  by_cases c2 : cap < (w.on x w.d.length).length
  · rw [layE_12 hn (by rw [h1.was, h1.most]; exact c1) (by rw [h1.was, h1.cap, h1.used]; omega)]
    exact .inr (.inl ⟨rfl, c2, h1⟩)
  rw [layE_0 hn (by rw [h1.was, h1.most]; exact c1) (by rw [h1.was, h1.cap, h1.used]; omega)]
  refine .inr (.inr ⟨rfl, by omega, ?_⟩)
  simp only [if_true]
  obtain ⟨s1, s2, s3, s4, s5⟩ := sm_write D.begin.2 p w
  obtain ⟨i, e1, e2, e3⟩ := h1.nw
  have hm : mget D.begin.2.now p = some i := by rw [e1]; simp [mget]
  refine ⟨by rw [s5]; exact h1.dead, by rw [s4]; exact h1.left, by rw [s1]; exact h1.cap, by rw [s2]; exact h1.most, i, ?_⟩
  unfold Dk.write Dk.make
  rw [hm]
  refine ⟨e1, by show i < (D.begin.2.fs.set i _).length; rw [List.length_set]; exact e2, ?_⟩
  show (fget (D.begin.2.fs.set i _) i).now = _
  rw [fget_set, if_pos ⟨rfl, e2⟩, e3]
theorem One.sync (h : One cap most p x D) (hn : nameB p = true) : (D.sync p).1 = 0 ∧ One cap most p x (D.sync p).2 := by
  obtain ⟨hb, h1⟩ := h.begin
  obtain ⟨i, e1, e2, e3⟩ := h1.nw
  have hm : mget D.begin.2.now p = some i := by rw [e1]; simp [mget]
  have hl : D.begin.2.look p = 0 := by unfold Dk.look; rw [if_pos hn, hm]; rfl
  rw [sync_go (by rw [hb]), hl]
  refine ⟨rfl, ?_⟩
  simp only [if_true]
  rw [hm]
  refine ⟨h1.dead, h1.left, h1.cap, h1.most, i, e1, by show i < (D.begin.2.fs.set i _).length; rw [List.length_set]; exact e2, ?_⟩
  show (fget (D.begin.2.fs.set i _) i).now = _
  rw [fget_set, if_pos ⟨rfl, e2⟩]; exact e3
/-- a new journal beside the elder one, or beside none -/
structure Two (cap most : Nat) (p : Pth) (x : List UInt8) (D : Dk) : Prop where
  dead : D.dead = false
  left : D.left = 0
  cap : D.cap = cap
  most : D.most = most
  nw : ∃ k, mget D.now (newP p) = some k ∧ k < D.fs.length ∧ (fget D.fs k).now = x ∧ (Chg.ap ⟨newP p, p, some k⟩ D.now) = [(p, k)]
theorem Two.begin (h : Two cap most p x D) : D.begin = (true, D.begin.2) ∧ Two cap most p x D.begin.2 := by
  have e := begin_go h.dead h.left
  rw [e]
  exact ⟨rfl, h.dead, by show D.left - 1 = 0; rw [h.left], h.cap, h.most, h.nw⟩
theorem Two.sync (h : Two cap most p x D) (hn : nameB (newP p) = true) : (D.sync (newP p)).1 = 0 ∧ Two cap most p x (D.sync (newP p)).2 := by
  obtain ⟨hb, h1⟩ := h.begin
  obtain ⟨k, e1, e2, e3, e4⟩ := h1.nw
  have hl : D.begin.2.look (newP p) = 0 := by unfold Dk.look; rw [if_pos hn, e1]; rfl
  rw [sync_go (by rw [hb]), hl]
  refine ⟨rfl, ?_⟩
  simp only [if_true]
  rw [e1]
  refine ⟨h1.dead, h1.left, h1.cap, h1.most, k, e1, by show k < (D.begin.2.fs.set k _).length; rw [List.length_set]; exact e2, ?_, e4⟩
  show (fget (D.begin.2.fs.set k _) k).now = _
  rw [fget_set, if_pos ⟨rfl, e2⟩]; exact e3
theorem Two.rename (h : Two cap most p x D) (n1 : nameB p = true) (n2 : nameB (newP p) = true) : (D.rename (newP p) p).1 = 0 ∧ One cap most p x (D.rename (newP p) p).2 := by
  obtain ⟨hb, h1⟩ := h.begin
  obtain ⟨k, e1, e2, e3, e4⟩ := h1.nw
  have hl : D.begin.2.renE (newP p) p = 0 := by rw [renE_l n2 n1 (dirP_new n1 n2)]; unfold Dk.look; rw [if_pos n2, e1]; rfl
  rw [ren_go (by rw [hb]), hl]
  refine ⟨rfl, ?_⟩
  rw [if_pos ⟨rfl, new_ne p⟩, e1]
  exact ⟨h1.dead, h1.left, h1.cap, h1.most, k, e4, e2, e3⟩
theorem One.syncDir (h : One cap most p x D) {d : Pth} (hd : dirE d = 0) : (D.syncDir d).1 = 0 ∧ One cap most p x (D.syncDir d).2 := by
  obtain ⟨hb, h1⟩ := h.begin
  rw [sd_go (by rw [hb]), hd]
  exact ⟨rfl, h1.dead, h1.left, h1.cap, h1.most, h1.nw⟩
theorem fresh_run {D1 : Dk} {l : List Rec} (h : D.lay (newP p) ⟨false, encW l⟩ = (0, D1)) (h1 : Two cap most p (encW l) D1) (n1 : nameB p = true) (n2 : nameB (newP p) = true) (hd : dirE (dirP p) = 0) : (freshD D p l).1 = 0 ∧ One cap most p (encW l) (freshD D p l).2 := by
  obtain ⟨a1, a2⟩ := h1.sync n2
  obtain ⟨b1, b2⟩ := a2.rename n1 n2
  obtain ⟨c1, c2⟩ := b2.syncDir hd
  unfold freshD frS
  simp only [runD, h, if_true, a1, b1, c1]
  exact ⟨trivial, c2⟩
theorem fresh_bad {l : List Rec} (h : (D.lay (newP p) ⟨false, encW l⟩).1 ≠ 0) : freshD D p l = D.lay (newP p) ⟨false, encW l⟩ := by
  unfold freshD frS runD; rw [if_neg h]
theorem write_two {q : Pth} {k : Nat} {w : Wr} (hm : mget D.now q = none) : D.write q w = ({ D with fs := (D.fs ++ [(⟨[], [], []⟩ : Fdt)]).set D.fs.length ⟨w.on [] w.d.length, [], [w]⟩, now := nput D.now q D.fs.length, log := D.log ++ [⟨[], q, some D.fs.length⟩] } : Dk) := by
  unfold Dk.write Dk.make
  rw [hm]
  simp only [Dk.change, Dk.putF, Chg.ap, if_true]
  rw [show fget (D.fs ++ [(⟨[], [], []⟩ : Fdt)]) D.fs.length = ⟨[], [], []⟩ by simp [fget]]
  rfl
theorem One.fresh (h : One cap most p x D) (n1 : nameB p = true) (n2 : nameB (newP p) = true) (hd : dirE (dirP p) = 0) (l : List Rec) (hm : (encW l).length ≤ most) :
    ((freshD D p l).1 = 12 ∧ cap < x.length + (encW l).length ∧ One cap most p x (freshD D p l).2) ∨ ((freshD D p l).1 = 0 ∧ x.length + (encW l).length ≤ cap ∧ One cap most p (encW l) (freshD D p l).2) := by
  obtain ⟨hb, h1⟩ := h.begin
  obtain ⟨i, e1, e2, e3⟩ := h1.nw
  have hq : mget D.begin.2.now (newP p) = none := by rw [e1]; simp [mget, new_ne]
  have hw : D.begin.2.wasL (newP p) = [] := by unfold Dk.wasL; rw [hq]
  have ho : ((⟨false, encW l⟩ : Wr).on [] (encW l).length) = encW l := on_f _ _
  have hlg := lay_go (D := D) (p := newP p) (w := ⟨false, encW l⟩) (by rw [hb])
  by_cases c2 : cap < x.length + (encW l).length
  · rw [layE_12 n2 (by rw [hw, h1.most]; simp only [ho]; omega) (by rw [hw, h1.cap, h1.used]; simp only [ho, List.length_nil]; omega)] at hlg
    have hbad : (D.lay (newP p) ⟨false, encW l⟩).1 ≠ 0 := by rw [hlg]; exact Nat.succ_ne_zero 11
    rw [fresh_bad hbad, hlg]
    exact .inl ⟨rfl, c2, h1⟩
  · rw [layE_0 n2 (by rw [hw, h1.most]; simp only [ho]; omega) (by rw [hw, h1.cap, h1.used]; simp only [ho, List.length_nil]; omega)] at hlg
    simp only [if_true] at hlg
    refine .inr ?_
    have hT : Two cap most p (encW l) (D.begin.2.write (newP p) ⟨false, encW l⟩) := by
      rw [write_two (k := 0) hq]
      refine ⟨h1.dead, h1.left, h1.cap, h1.most, D.begin.2.fs.length, ?_, ?_, ?_, ?_⟩
      · show mget (nput _ _ _) _ = _; rw [mget_nput, if_pos rfl]
      · simp
      · show (fget ((_ : List Fdt).set _ _) _).now = _
        rw [fget_set, if_pos ⟨rfl, by simp⟩]; exact ho
      · show Chg.ap _ (nput D.begin.2.now _ _) = _
        have h9 : ¬ p = newP p := fun e => new_ne p e.symm
        rw [e1]; simp [Chg.ap, nput, blt_new, mdel, new_ne, blt_irr, new_nn, h9]
    have := fresh_run hlg hT n1 n2 hd
    exact ⟨this.1, by omega, this.2⟩
theorem One.start (n1 : nameB p = true) (n2 : nameB (newP p) = true) (hd : dirE (dirP p) = 0) (hm : 8 ≤ most) (hc : 8 ≤ cap) : (openD (Dk.empty cap most) p).1 = 0 ∧ (openD (Dk.empty cap most) p).2.1 = [] ∧ One cap most p (encW []) (openD (Dk.empty cap most) p).2.2 := by
  have hr : (Dk.empty cap most).readE p = 2 := by simp [Dk.readE, Dk.empty, Dk.look, n1, mget]
  have e8 : encW [] = W8 := rfl
  have hlg : (Dk.empty cap most).lay (newP p) ⟨false, encW []⟩ = (0, Dk.write ⟨cap, most, [], [], [], [], 1, 0, false⟩ (newP p) ⟨false, encW []⟩) := by
    unfold Dk.empty
    rw [lay_a n2 (by simp only [on_f]; exact hm) (by simp only [on_f]; simp [usedL, Dk.wasL, mget]; exact hc)]
  have hT : Two cap most p (encW []) (Dk.write ⟨cap, most, [], [], [], [], 1, 0, false⟩ (newP p) ⟨false, encW []⟩) := by
    rw [write_two (k := 0) rfl]
    refine ⟨rfl, rfl, rfl, rfl, 0, ?_, ?_, ?_, ?_⟩
    · show mget (nput _ _ _) _ = _; rw [mget_nput, if_pos rfl]; rfl
    · simp
    · simp [fget, on_f]
    · simp [Chg.ap, nput, mdel, new_nn]
  have := fresh_run hlg hT n1 n2 hd
  rw [open_b n1 n2 hr]
  exact ⟨this.1, rfl, this.2⟩
theorem runD_c0 {f : Stp} {fs : List Stp} {D : Dk} (h : (f D).1 = 0) : runD (f :: fs) D = runD fs (f D).2 := by rw [runD, if_pos h]
theorem runD_c1 {f : Stp} {fs : List Stp} {D : Dk} (h : (f D).1 ≠ 0) : runD (f :: fs) D = f D := by rw [runD, if_neg h]
/-- a record more: done, or no room -/
theorem One.recd (h : One cap most p x D) (hn : nameB p = true) (n : Nat) (r : Rec) (hm : x.length + 13 + r.length ≤ most) :
    ((runD (apS p n r) D).1 = 12 ∧ (One cap most p x (runD (apS p n r) D).2 ∨ One cap most p (x ++ layW n r) (runD (apS p n r) D).2) ∧ cap < x.length + 13 + r.length) ∨ ((runD (apS p n r) D).1 = 0 ∧ One cap most p (x ++ recW n r) (runD (apS p n r) D).2) := by
  have hl := layW_len n r
  have on1 : ∀ b : List UInt8, (⟨true, [67]⟩ : Wr).on b 1 = b ++ [67] := fun b => by simp [Wr.on]
  unfold apS
  rcases h.lay hn ⟨true, layW n r⟩ with ⟨_, e, _⟩ | ⟨e1, e2, e3⟩ | ⟨e1, e2, e3⟩
  · simp only [on_t, List.length_append] at e; omega
  · simp only [on_t, List.length_append] at e2
    rw [runD_c1 (by rw [e1]; decide)]
    exact .inl ⟨e1, .inl e3, by omega⟩
  · simp only [on_t, List.length_append] at e3 e2
    obtain ⟨f1, f2⟩ := e3.sync hn
    rw [runD_c0 e1, runD_c0 f1]
    rcases f2.lay hn ⟨true, [67]⟩ with ⟨_, e, _⟩ | ⟨g1, g2, g3⟩ | ⟨g1, g2, g3⟩
    · simp only [List.length_singleton, on1, List.length_append] at e; omega
    · simp only [List.length_singleton, on1, List.length_append] at g2
      rw [runD_c1 (by rw [g1]; decide)]
      exact .inl ⟨g1, .inr g3, by omega⟩
    · simp only [List.length_singleton, on1] at g3
      obtain ⟨k1, k2⟩ := g3.sync hn
      rw [runD_c0 g1, runD_c0 k1]
      refine .inr ⟨rfl, ?_⟩
      unfold recW; rw [← List.append_assoc]; exact k2
theorem One.recd2 (h : One cap most p x D) (hn : nameB p = true) (n : Nat) (r : Rec) (hm : x.length + 13 + r.length ≤ most) :
    ((runD (apS p n r) D).1 = 12 ∧ (One cap most p x (runD (apS p n r) D).2 ∨ One cap most p (x ++ layW n r) (runD (apS p n r) D).2 ∧ (x ++ layW n r).length ≤ cap)) ∨ ((runD (apS p n r) D).1 = 0 ∧ One cap most p (x ++ recW n r) (runD (apS p n r) D).2 ∧ (x ++ recW n r).length ≤ cap) := by
  have hl := layW_len n r
  have on1 : ∀ b : List UInt8, (⟨true, [67]⟩ : Wr).on b 1 = b ++ [67] := fun b => by simp [Wr.on]
  unfold apS
  rcases h.lay hn ⟨true, layW n r⟩ with ⟨_, e, _⟩ | ⟨e1, e2, e3⟩ | ⟨e1, e2, e3⟩
  · simp only [on_t, List.length_append] at e; omega
  · simp only [on_t, List.length_append] at e2
    rw [runD_c1 (by rw [e1]; decide)]
    exact .inl ⟨e1, .inl e3⟩
  · simp only [on_t, List.length_append] at e3 e2
    obtain ⟨f1, f2⟩ := e3.sync hn
    rw [runD_c0 e1, runD_c0 f1]
    rcases f2.lay hn ⟨true, [67]⟩ with ⟨_, e, _⟩ | ⟨g1, g2, g3⟩ | ⟨g1, g2, g3⟩
    · simp only [List.length_singleton, on1, List.length_append] at e; omega
    · simp only [List.length_singleton, on1, List.length_append] at g2
      rw [runD_c1 (by rw [g1]; decide)]
      exact .inl ⟨g1, .inr ⟨g3, by rw [List.length_append]; omega⟩⟩
    · simp only [List.length_singleton, on1, List.length_append] at g3 g2
      obtain ⟨k1, k2⟩ := g3.sync hn
      rw [runD_c0 g1, runD_c0 k1]
      refine .inr ⟨rfl, ?_, by rw [List.length_append, recW_len]; omega⟩
      unfold recW; rw [← List.append_assoc]; exact k2
end

end Go.Proofs.YtdliddjkacbggaaDoor.WalH
/-
  A journal: the known example, and the statements' helpers.
-/
namespace Go.Proofs.YtdliddjkacbggaaDoor.WalI
open Go.Proofs.YtdliddjkacbggaaDoor.E Go.RowKit Go.Proofs.YtdliddjkacbggaaDoor.SimA Go.Proofs.YtdliddjkacbggaaDoor.SimB Go.Proofs.YtdliddjkacbggaaDoor.SimC Go.Proofs.YtdliddjkacbggaaDoor.SimD Go.Proofs.YtdliddjkacbggaaDoor.SimE Go.Proofs.YtdliddjkacbggaaDoor.SimF Go.Proofs.YtdliddjkacbggaaDoor.SimG Go.Proofs.YtdliddjkacbggaaDoor.SimH Go.Proofs.YtdliddjkacbggaaDoor.SimI Go.Proofs.YtdliddjkacbggaaDoor.SimQ Go.Proofs.YtdliddjkacbggaaDoor.SimR Go.Proofs.YtdliddjkacbggaaDoor.SimS Go.Proofs.YtdliddjkacbggaaDoor.SimU Go.Proofs.YtdliddjkacbggaaDoor.SimY Go.Proofs.YtdliddjkacbggaaDoor.SimYA Go.Proofs.YtdliddjkacbggaaDoor.SimYE Go.Proofs.YtdliddjkacbggaaDoor.WalA Go.Proofs.YtdliddjkacbggaaDoor.WalB Go.Proofs.YtdliddjkacbggaaDoor.WalC Go.Proofs.YtdliddjkacbggaaDoor.WalD Go.Proofs.YtdliddjkacbggaaDoor.WalE Go.Proofs.YtdliddjkacbggaaDoor.WalF Go.Proofs.YtdliddjkacbggaaDoor.WalG Go.Proofs.YtdliddjkacbggaaDoor.WalH
set_option maxRecDepth 20000
set_option linter.unusedVariables false
set_option linter.unusedSimpArgs false
set_option linter.unusedSectionVars false
set_option maxRecDepth 100000 in
theorem inf22 : Inf Tryd.prog 22 23 1 24 := ⟨Tryd.underlying22, _, _, rfl, rfl, rfl, rfl, rfl⟩
set_option maxRecDepth 100000 in
theorem inf23 : Inf Tryd.prog 23 5 1 1 := ⟨Tryd.underlying23, _, _, rfl, rfl, rfl, rfl, rfl⟩
theorem within3_ct (a : Int) (n : Nat) (w0 : World) (H0 : Heap)
    (hn : 1 ≤ n ∧ n ≤ 4611686018427387904) (ha : -9223372036854775808 ≤ a ∧ a ≤ 9223372036854775807) :
    Ct Tryd.prog w0 14 #[.int .i64 a, .int .i64 (n : Int)] H0 (fun r H2 => r = .int .i64 (wiN a n : Int) ∧ Nw H0 H2) := by
  refine Ct.enter (args := [.int .i64 a, .int .i64 (n : Int)]) Tryd.func14 rfl rfl rfl ?_
  intro Q0 hret
  have hm0 : Nw H0 H0 := Mo.refl _ _
  refine CW.seq (fun K1 hK1 hE1 => ?_)
  refine CW.region ?_
  refine LR.v (Y.assign rfl rfl) (Wd.u rfl) rfl rfl ?_
  refine LR.nil ?_
  refine hK1 _ _ ?_
  refine CW.seq (fun K2 hK2 hE2 => ?_)
  refine CW.region ?_
  refine LR.v (Y.move rfl rfl) (Wd.u rfl) rfl rfl ?_
  refine LR.v (Y.move rfl rfl) (Wd.u rfl) rfl rfl ?_
  refine LR.v (Y.rem rfl rfl rfl (by omega)) (Wd.u rfl) rfl rfl ?_
  have ht1 := Int.tmod_lt_of_pos a (show (0 : Int) < n by omega)
  have ht2 := Int.lt_tmod_of_pos a (show (0 : Int) < n by omega)
  refine LR.v (Y.assign rfl rfl) (Wd.u rfl) rfl rfl ?_
  refine LR.nil ?_
  refine hK2 _ _ ?_
  refine CW.seq (fun K3 hK3 hE3 => ?_)
  refine CW.seq (fun K4 hK4 hE4 => ?_)
  refine CW.region ?_
  refine LR.v (Y.move rfl rfl) (Wd.u rfl) rfl rfl ?_
  refine LR.v (Y.lss rfl rfl rfl) (Wd.u rfl) rfl rfl ?_
  refine LR.nil ?_
  refine hK4 _ _ ?_
  refine CW.condp rfl (fun c10 => ?_) (fun c10 => ?_)
  ·
    refine CW.region ?_
    refine LR.v (Y.move rfl rfl) (Wd.u rfl) rfl rfl ?_
    refine LR.v (Y.move rfl rfl) (Wd.u rfl) rfl rfl ?_
    refine LR.v (Y.addi rfl rfl rfl (by omega)) (Wd.u rfl) rfl rfl ?_
    refine LR.v (Y.assign rfl rfl) (Wd.u rfl) rfl rfl ?_
    refine LR.nil ?_
    refine hK3 _ _ ?_
    refine CW.seq (fun K5 hK5 hE5 => ?_)
    refine CW.region ?_
    refine LR.v (Y.move rfl rfl) (Wd.u rfl) rfl rfl ?_
    refine LR.v (Y.assign rfl rfl) (Wd.u rfl) rfl rfl ?_
    refine LR.nil ?_
    refine hK5 _ _ ?_
    refine CW.ret (hret .ret (.inr rfl) _ _ _ (res1 rfl rfl) ?_)
    exact ⟨by rw [wiN_neg (by omega) (by omega)], hm0⟩
  ·
    refine CW.skip ?_
    refine hK3 _ _ ?_
    refine CW.seq (fun K6 hK6 hE6 => ?_)
    refine CW.region ?_
    refine LR.v (Y.move rfl rfl) (Wd.u rfl) rfl rfl ?_
    refine LR.v (Y.assign rfl rfl) (Wd.u rfl) rfl rfl ?_
    refine LR.nil ?_
    refine hK6 _ _ ?_
    refine CW.ret (hret .ret (.inr rfl) _ _ _ (res1 rfl rfl) ?_)
    exact ⟨by rw [wiN_pos (by omega) (by omega)], hm0⟩


theorem one_opens {cap most : Nat} {p : Pth} {l : List Rec} {D : Dk} (h : One cap most p (encW l) D) (n1 : nameB p = true) (n2 : nameB (newP p) = true) (hl : ∀ r ∈ l, r.length ≤ 1048576) : openD D p = (0, l, D) := by
  obtain ⟨h1, h2⟩ := h.read n1
  have e1 : parE (D.readL p) = 0 := by rw [h2]; have := parE_enc l []; rwa [List.append_nil] at this
  have e2 : parL (D.readL p) = l := by rw [h2]; exact parL_all hl
  have e3 : ¬ parS (D.readL p) < (D.readL p).length := by
    unfold parS; unfold parE at e1; split at e1
    · rename_i h8; rw [if_pos h8, e2, h2]; omega
    · cases e1
  rw [open_f n1 n2 h1 e1 e3, e2]
theorem one_app {cap most : Nat} {p : Pth} {l : List Rec} {r : Rec} {D : Dk} (h : One cap most p (encW l) D) (n1 : nameB p = true) (hm : (encW l).length + 13 + r.length ≤ most) (hc : (encW l).length + 13 + r.length ≤ cap) : (appD D p l.length false r).1 = 0 ∧ (appD D p l.length false r).2.1 = l.length + 1 ∧ (appD D p l.length false r).2.2.1 = false ∧ One cap most p (encW (l ++ [r])) (appD D p l.length false r).2.2.2 := by
  rw [app_go (pre_0 rfl)]
  rcases h.recd n1 l.length r hm with ⟨_, _, h3⟩ | ⟨h1, h2⟩
  · omega
  · simp only [h1, if_true]
    refine ⟨trivial, trivial, trivial, ?_⟩
    rw [encW_snoc]; exact h2
def fewL (l : List Rec) : List Rec := (l.take 20).filter (fun r => decide (r.length < 3000))
theorem few_len (l : List Rec) : (fewL l).length ≤ 20 := Nat.le_trans (List.length_filter_le _ _) (by rw [List.length_take]; omega)
theorem few_mem {l : List Rec} : ∀ r ∈ fewL l, r.length < 3000 := fun r h => by simpa using (List.mem_filter.1 h).2
theorem few_sum {l : List Rec} (h : ∀ r ∈ l, r.length < 3000) : (l.map (fun r => 13 + r.length)).sum ≤ l.length * 3013 := by
  induction l with
  | nil => simp
  | cons r l ih =>
    have h1 := h r List.mem_cons_self
    have h2 := ih (fun x hx => h x (List.mem_cons_of_mem _ hx))
    simp only [List.map_cons, List.sum_cons, List.length_cons]; omega
theorem few_enc (l : List Rec) : (encW (fewL l)).length ≤ 60268 ∧ (encN 0 (fewL l)).length ≤ 60260 := by
  have h1 := few_len l
  have h2 := few_sum (few_mem (l := l))
  rw [encW_len, encN_len]; omega
theorem few_snoc {l : List Rec} {i : Nat} (h : i < l.length) : (l.take (i + 1)).filter (fun r => decide (r.length < 3000)) = (l.take i).filter (fun r => decide (r.length < 3000)) ++ (if l[i].length < 3000 then [l[i]] else []) := by
  rw [List.take_succ_eq_append_getElem h, List.filter_append, List.filter_cons, List.filter_nil]
  simp

set_option maxHeartbeats 4000000 in
theorem known3_ct (mx_ : Int) (w0 : World) (H0 : Heap)
    (mx : MX mx_ H0) (bf_mx : BF (fun b => b = 0) H0.size) :
    Ct Tryd.prog w0 7 #[] H0 (fun r H2 => r = .bool true ∧ Nw H0 H2) := by
  refine Ct.enter (args := []) Tryd.func7 rfl rfl rfl ?_
  intro Q0 hret
  have hm0 : Nw H0 H0 := Mo.refl _ _
  refine CW.seq (fun K1 hK1 hE1 => ?_)
  refine CW.region ?_
  refine LR.v (Y.assign rfl rfl) (Wd.u rfl) rfl rfl ?_
  refine LR.nil ?_
  refine hK1 _ _ ?_
  refine CW.seq (fun K2 hK2 hE2 => ?_)
  refine CW.region ?_
  -- call selvage/simfs.New
  refine LR.call rfl Tryd.call15 rfl (Wd.u rfl) rfl rfl (new_ct 65536 65536 w0 _ (by decide) (by decide)) (fun v7 H7 r7 => ?_)
  obtain ⟨Q7, g7, b7, rfl, hf, hkn7, hs7⟩ := r7
  have df1 := DFL.appK (DFL.nil) (bf_mx.mono hm0.size) hkn7
  have nx2 : NxK [] H0.size Q7 := NxK.tr (NxK.refl [] _) hkn7 hm0.size
  replace mx := mx.nw hs7
  replace hm0 := hm0.tr hs7
  have hz1 := hs7.size
  have hbk_hf := hf.bk
  have hS7 := Bs.empty 65536 65536
  have hst := One.start (p := [106]) (cap := 65536) (most := 65536) (by decide) (by decide) (by decide) (by decide) (by decide)
  refine LR.v (Y.move rfl rfl) (Wd.u rfl) rfl rfl ?_
  refine LR.v (Y.extract rfl rfl rfl) (Wd.u rfl) rfl rfl ?_
  refine LR.v (Y.extract rfl rfl rfl) (Wd.u rfl) rfl rfl ?_
  refine LR.v (Y.assign rfl rfl) (Wd.u rfl) rfl rfl ?_
  refine LR.v (Y.assign rfl rfl) (Wd.u rfl) rfl rfl ?_
  refine LR.nil ?_
  refine hK2 _ _ ?_
  refine CW.seq (fun K3 hK3 hE3 => ?_)
  refine CW.seq (fun K4 hK4 hE4 => ?_)
  refine CW.region ?_
  refine LR.v (Y.move rfl rfl) (Wd.u rfl) rfl rfl ?_
  refine LR.v ((Y.neq rfl rfl rfl).isF ((fun h => h rfl))) (Wd.u rfl) rfl rfl ?_
  refine LR.v (Y.move rfl rfl) (Wd.u rfl) rfl rfl ?_
  refine LR.v (Y.move rfl rfl) (Wd.g rfl rfl rfl) rfl rfl ?_
  refine LR.v (Y.peq rfl (by kernel_rfl) (by kernel_rfl) rfl rfl) (Wd.g rfl rfl rfl) rfl rfl ?_
  refine LR.v (Y.pick_f rfl rfl rfl) (Wd.u rfl) rfl rfl ?_
  refine LR.nil ?_
  refine hK4 _ _ ?_
  refine CW.cond_f rfl ?_
  refine CW.skip ?_
  refine hK3 _ _ ?_
  refine CW.seq (fun K5 hK5 hE5 => ?_)
  refine CW.region ?_
  refine LR.v (Y.move rfl rfl) (Wd.u rfl) rfl rfl ?_
  -- call selvage/wal.Open
  refine LR.call rfl Tryd.call16 rfl (Wd.u rfl) rfl rfl (wopen_ok mx_ Q7 g7 b7 (Dk.empty 65536 65536) [106] _ w0 _ hf mx (bf_mx.mono (by omega)) (df1) (by decide) hS7 (by decide) hst.1) (fun v18 H18 r18 => ?_)
  have ql3 := hf.bk
  obtain ⟨lb18, t18, l18, Q18, g18, G18, rfl, hf, hkd18, hlg, hkl18, dl218, hrl18, hw18, hx18, hGb18, hGf18, hGk18, hGl18, hs18⟩ := r18
  have df4 := DFL.appK (df1) (bf_mx.mono hm0.size) hkd18
  have nx5 : NxK [] H0.size Q18 := NxK.tr (nx2) hkd18 hm0.size
  have df6 := DF.app (DF.z) (bf_mx.mono hm0.size) hkl18
  have dj7 : DL (lb18 + 1) Q7 := DL.app2 (DL.zK) ql3 hkl18
  have nx8 : Nx 0 H0.size (lb18 + 1) := Nx.tr (Nx.refl 0 _) hkl18 hm0.size
  replace mx := mx.upL hs18 (df1)
  replace hm0 := (Mo.trL (ks := []) (hm0.mdn []) hs18 (MIL.ofK0 (nx2))).nil
  have hz2 := hs18.size
  have hbk_hf := hf.bk
  have hle_hlg := hlg.le
  have bf_hw18 := hGb18
  have bf_hx18 := hGb18
  have hS18 := bs_open hS7 [106]
  rw [hst.2.1] at hrl18
  have hl0 : l18.length = 0 := by have := congrArg List.length hrl18; simpa [recs] using this
  have hap := one_app hst.2.2 (l := []) (r := [97]) (by decide) (by decide) (by decide)
  rw [List.length_nil, ← hl0] at hap
  obtain ⟨ha1, ha2, ha3, ha4⟩ := hap
  refine LR.v (Y.move rfl rfl) (Wd.u rfl) rfl rfl ?_
  refine LR.v (Y.extract rfl rfl rfl) (Wd.u rfl) rfl rfl ?_
  refine LR.v (Y.extract rfl rfl rfl) (Wd.u rfl) rfl rfl ?_
  refine LR.v (Y.extract rfl rfl rfl) (Wd.u rfl) rfl rfl ?_
  refine LR.v (Y.assign rfl rfl) (Wd.u rfl) rfl rfl ?_
  refine LR.v (Y.assign rfl rfl) (Wd.u rfl) rfl rfl ?_
  refine LR.v (Y.assign rfl rfl) (Wd.u rfl) rfl rfl ?_
  refine LR.nil ?_
  refine hK5 _ _ ?_
  refine CW.seq (fun K6 hK6 hE6 => ?_)
  refine CW.seq (fun K7 hK7 hE7 => ?_)
  refine CW.region ?_
  refine LR.v (Y.move rfl rfl) (Wd.u rfl) rfl rfl ?_
  refine LR.v ((Y.neq rfl rfl rfl).isF ((fun h => h rfl))) (Wd.u rfl) rfl rfl ?_
  refine LR.v (Y.move rfl rfl) (Wd.u rfl) rfl rfl ?_
  refine LR.v (Y.move rfl rfl) (Wd.g rfl rfl rfl) rfl rfl ?_
  refine LR.v (Y.peq rfl (by kernel_rfl) (by kernel_rfl) rfl rfl) (Wd.g rfl rfl rfl) rfl rfl ?_
  refine LR.v (Y.pick_f rfl rfl rfl) (Wd.u rfl) rfl rfl ?_
  refine LR.v (Y.move rfl rfl) (Wd.u rfl) rfl rfl ?_
  refine LR.v (Y.move rfl rfl) (Wd.g rfl rfl rfl) rfl rfl ?_
  refine LR.v (Y.len hw18 rfl Tryd.runUnderlying22 rfl) (Wd.g rfl rfl rfl) rfl rfl ?_
  refine LR.v ((Y.neq rfl rfl rfl).isF ((fun h => h (by omega)))) (Wd.g rfl rfl rfl) rfl rfl ?_
  refine LR.v (Y.pick_f rfl rfl rfl) (Wd.u rfl) rfl rfl ?_
  refine LR.v (Y.move rfl rfl) (Wd.u rfl) rfl rfl ?_
  refine LR.v (Y.move rfl rfl) (Wd.g rfl rfl rfl) rfl rfl ?_
  refine LR.z (Z.litw _ ([(97 : UInt8)]) rfl inf23 rfl rfl rfl (by decide) (by decide) fB_len fB_one (rfl)) (Wd.g rfl rfl rfl) rfl rfl (fun v35 H35 r35 => ?_)
  obtain ⟨ow35, hs35, ob35, hH35⟩ := r35
  have hzs35 : H35.size = H18.size + 1 := by rw [hH35]; simp
  have df9 := (DF.new (bf_mx.mono hm0.size) : DF _ (H18.size + 1))
  have dj10 : DL (H18.size + 1) Q18 := DL.newK hf.bk
  have dj11 : Dj (lb18 + 1) (H18.size + 1) := Dj.new hlg.le
  have df12 := (DF.new (bf_hw18.mono (by omega)) : DF _ (H18.size + 1))
  have df13 := (DF.new (bf_hx18.mono (by omega)) : DF _ (H18.size + 1))
  have nx14 : Nx 0 H0.size (H18.size + 1) := Nx.new hm0.size
  replace mx := mx.nw hs35
  replace hf := hf.nw hs35
  replace hlg := hlg.nw hs35
  replace hw18 := hw18.nw hs35
  replace hx18 := fun x hx_ => (hx18 x hx_).nw hs35
  replace hm0 := hm0.tr hs35
  have hz3 := hs35.size
  refine LR.z (Z.bconst ow35 (by decide) rfl Tryd.underlying23 Tryd.underlying5 rfl) (Wd.g rfl rfl rfl) rfl rfl (fun v36 H36 r36 => ?_)
  obtain ⟨rfl, ow35, hs36⟩ := r36
  replace hs36 := hs36.md
  replace mx := mx.upL hs36 (DFL.cons df9 DFL.nil)
  replace hf := hf.upL hs36 (DKL.cons dj10 DKL.nil)
  replace hlg := hlg.upL hs36 (DL.cons dj11 DL.nil)
  replace hw18 := hw18.upL hs36 (DFL.cons df12 DFL.nil)
  replace hx18 := fun x hx_ => (hx18 x hx_).upL hs36 (DFL.cons df13 DFL.nil)
  replace hm0 := (Mo.trL (ks := []) (hm0.mdn []) hs36 (MIL.cons (MI.app MI.z (nx14) (Nat.le_refl _)) MIL.nil)).nil
  have hz4 := hs36.size
  obtain ⟨s36, rfl⟩ : ∃ s : SV, v36 = s.v := ⟨toSV v36, ow35.sv.symm⟩
  -- call (*selvage/wal.Log).Append
  refine LR.call rfl Tryd.call17 rfl (Wd.g rfl rfl rfl) rfl rfl (wapp_ct mx_ Q18 g18 b7 (openD (Dk.empty 65536 65536) [106]).2.2 lb18 [106] l18.length false s36 [97] _ _ w0 _ hf mx (bf_mx.mono (by omega)) (df4) hlg (dl218) (df6) ow35.rd (BF.of ow35.le) (DFL.of (dj10)) (DF.of (dj11.symm)) (by decide) (by decide) hS18 (by decide) (by omega)) (fun v37 H37 r37 => ?_)
  have ql15 := hf.bk
  have ql16 := hlg.le
  have ql17 := ow35.le
  obtain ⟨Q37, g37, rfl, hf, hkd37, hlg, dl237, hs37⟩ := r37
  have df18 := DFL.appK (df4) (bf_mx.mono hm0.size) hkd37
  have dj19 : DL (lb18 + 1) Q37 := DL.appK (dl218) ql16 hkd37
  have df20 := DFL.appK (hGk18) (bf_hw18.mono (by omega)) hkd37
  have df21 := DFL.appK (hGk18) (bf_hx18.mono (by omega)) hkd37
  have dj22 : DL (H18.size + 1) Q37 := DL.appK (dj10) ql17 hkd37
  have nx23 : NxK [] H0.size Q37 := NxK.tr (nx5) hkd37 hm0.size
  replace mx := mx.upL hs37 (DFL.app df4 (DFL.cons df6 DFL.nil))
  replace hw18 := hw18.upL hs37 (DFL.app hGk18 (DFL.cons hGl18 DFL.nil))
  replace hx18 := fun x hx_ => (hx18 x hx_).upL hs37 (DFL.app hGk18 (DFL.cons hGl18 DFL.nil))
  replace ow35 := ow35.upL hs37 (DL.app dj10 (DL.cons dj11.symm DL.nil))
  replace hm0 := (Mo.trL (ks := []) (hm0.mdn []) hs37 (MIL.app (MIL.ofK0 (nx5)) (MIL.cons (MI.app MI.z (nx8) (Nat.le_refl _)) MIL.nil))).nil
  have hz5 := hs37.size
  have hbk_hf := hf.bk
  have hS37 := bs_app hS18 [106] l18.length false [97]
  have hop2 : (openD (appD (openD (Dk.empty 65536 65536) [106]).2.2 [106] l18.length false [97]).2.2.2 [106]).1 = 0 ∧ (openD (appD (openD (Dk.empty 65536 65536) [106]).2.2 [106] l18.length false [97]).2.2.2 [106]).2.1 = [[97]] := by rw [one_opens ha4 (by decide) (by decide) (by decide)]; exact ⟨rfl, rfl⟩
  refine LR.v ((Y.neq rfl rfl rfl).isF ((fun h => h (by omega)))) (Wd.g rfl rfl rfl) rfl rfl ?_
  refine LR.v (Y.pick_f rfl rfl rfl) (Wd.u rfl) rfl rfl ?_
  refine LR.v (Y.move rfl rfl) (Wd.u rfl) rfl rfl ?_
  refine LR.v (Y.move rfl rfl) (Wd.g rfl rfl rfl) rfl rfl ?_
  -- call (*selvage/wal.Log).Count
  refine LR.call rfl Tryd.call18 rfl (Wd.g rfl rfl rfl) rfl rfl (count_ct lb18 _ _ _ _ w0 _ hlg) (fun v42 H42 r42 => ?_)
  obtain ⟨rfl, hs42⟩ := r42
  replace mx := mx.nw hs42
  replace hf := hf.nw hs42
  replace hlg := hlg.nw hs42
  replace hw18 := hw18.nw hs42
  replace hx18 := fun x hx_ => (hx18 x hx_).nw hs42
  replace ow35 := ow35.nw hs42
  replace hm0 := hm0.tr hs42
  have hz6 := hs42.size
  refine LR.v ((Y.neq rfl rfl rfl).isF ((fun h => h (by rw [ha2]; omega)))) (Wd.g rfl rfl rfl) rfl rfl ?_
  refine LR.v (Y.pick_f rfl rfl rfl) (Wd.u rfl) rfl rfl ?_
  refine LR.nil ?_
  refine hK7 _ _ ?_
  refine CW.cond_f rfl ?_
  refine CW.skip ?_
  refine hK6 _ _ ?_
  refine CW.seq (fun K8 hK8 hE8 => ?_)
  refine CW.region ?_
  refine LR.v (Y.move rfl rfl) (Wd.u rfl) rfl rfl ?_
  -- call selvage/wal.Open
  refine LR.call rfl Tryd.call16 rfl (Wd.u rfl) rfl rfl (wopen_ok mx_ Q37 g37 b7 (appD (openD (Dk.empty 65536 65536) [106]).2.2 [106] l18.length false [97]).2.2.2 [106] _ w0 _ hf mx (bf_mx.mono (by omega)) (df18) (by decide) hS37 (by decide) hop2.1) (fun v47 H47 r47 => ?_)
  have ql24 := hf.bk
  have ql25 := hlg.le
  have ql26 := ow35.le
  obtain ⟨lb47, t47, l47, Q47, g47, G47, rfl, hf, hkd47, hlh, hkl47, dl247, hrl47, hw47, hx47, hGb47, hGf47, hGk47, hGl47, hs47⟩ := r47
  have df27 := DFL.appK (df18) (bf_mx.mono hm0.size) hkd47
  have dj28 : DL (lb18 + 1) Q47 := DL.appK (dl237) ql25 hkd47
  have df29 := DFL.appK (df20) (bf_hw18.mono (by omega)) hkd47
  have df30 := DFL.appK (df21) (bf_hx18.mono (by omega)) hkd47
  have dj31 : DL (H18.size + 1) Q47 := DL.appK (dj22) ql26 hkd47
  have nx32 : NxK [] H0.size Q47 := NxK.tr (nx23) hkd47 hm0.size
  have df33 := DF.app (DF.z) (bf_mx.mono hm0.size) hkl47
  have dj34 : DL (lb47 + 1) Q37 := DL.app2 (DL.zK) ql24 hkl47
  have dj35 : Dj (lb18 + 1) (lb47 + 1) := Dj.app (Dj.z) ql25 hkl47
  have df36 := DF.app (DF.z) (bf_hw18.mono (by omega)) hkl47
  have df37 := DF.app (DF.z) (bf_hx18.mono (by omega)) hkl47
  have dj38 : Dj (H18.size + 1) (lb47 + 1) := Dj.app (Dj.z) ql26 hkl47
  have nx39 : Nx 0 H0.size (lb47 + 1) := Nx.tr (Nx.refl 0 _) hkl47 hm0.size
  replace mx := mx.upL hs47 (df18)
  replace hlg := hlg.upL hs47 (dl237)
  replace hw18 := hw18.upL hs47 (df20)
  replace hx18 := fun x hx_ => (hx18 x hx_).upL hs47 (df21)
  replace ow35 := ow35.upL hs47 (dj22)
  replace hm0 := (Mo.trL (ks := []) (hm0.mdn []) hs47 (MIL.ofK0 (nx23))).nil
  have hz7 := hs47.size
  have hbk_hf := hf.bk
  have hle_hlh := hlh.le
  have bf_hw47 := hGb47
  have df40 : DF _ (lb18 + 1) := DF.above hGf47 (by first | exact hle_hlg | exact hlt_hlg | omega)
  have df41 : DF _ (H18.size + 1) := DF.above hGf47 (by first | exact hle_ow35 | exact hlt_ow35 | omega)
  have bf_hx47 := hGb47
  have df42 : DF _ (lb18 + 1) := DF.above hGf47 (by first | exact hle_hlg | exact hlt_hlg | omega)
  have df43 : DF _ (H18.size + 1) := DF.above hGf47 (by first | exact hle_ow35 | exact hlt_ow35 | omega)
  rw [hop2.2] at hrl47
  have hl1 : l47.length = 1 := by have := congrArg List.length hrl47; simpa [recs] using this
  have hx1 := hx47 l47[0] (List.getElem_mem (by omega))
  have he1 : l47[0].2 = [97] := by have : (recs l47)[0]? = some [97] := (by rw [hrl47]; rfl); rw [List.getElem?_map, List.getElem?_eq_getElem (by omega)] at this; exact Option.some.inj this
  refine LR.v (Y.move rfl rfl) (Wd.u rfl) rfl rfl ?_
  refine LR.v (Y.extract rfl rfl rfl) (Wd.u rfl) rfl rfl ?_
  refine LR.v (Y.extract rfl rfl rfl) (Wd.u rfl) rfl rfl ?_
  refine LR.v (Y.extract rfl rfl rfl) (Wd.u rfl) rfl rfl ?_
  refine LR.v (Y.assign rfl rfl) (Wd.u rfl) rfl rfl ?_
  refine LR.v (Y.assign rfl rfl) (Wd.u rfl) rfl rfl ?_
  refine LR.nil ?_
  refine hK8 _ _ ?_
  refine CW.seq (fun K9 hK9 hE9 => ?_)
  refine CW.region ?_
  refine LR.v (Y.move rfl rfl) (Wd.u rfl) rfl rfl ?_
  refine LR.v ((Y.eql rfl rfl rfl).isT (rfl)) (Wd.u rfl) rfl rfl ?_
  refine LR.v (Y.move rfl rfl) (Wd.u rfl) rfl rfl ?_
  refine LR.v (Y.move rfl rfl) (Wd.g rfl rfl rfl) rfl rfl ?_
  refine LR.v (Y.len hw47 rfl Tryd.runUnderlying22 rfl) (Wd.g rfl rfl rfl) rfl rfl ?_
  refine LR.v ((Y.eql rfl rfl rfl).isT (by omega)) (Wd.g rfl rfl rfl) rfl rfl ?_
  refine LR.v (Y.pick_t rfl rfl rfl) (Wd.u rfl) rfl rfl ?_
  refine LR.v (Y.move rfl rfl) (Wd.u rfl) rfl rfl ?_
  refine LR.v (Y.move rfl rfl) (Wd.g rfl rfl rfl) rfl rfl ?_
  refine LR.e (g := fun ad => .pointer (some ad)) (Y.indexAddrF hw47 (0) rfl Tryd.runUnderlying22 Tryd.sizeOf23 rfl rfl (by first | rfl | omega) (by first | omega | (simp; omega) | (simp; done))) (Wd.g rfl rfl rfl) rfl rfl (fun ad60 pt60 => ?_)
  have bf_pt60 := bf_hw47
  refine LR.v (Y.load1 pt60.pt rfl Tryd.isAgg23 rfl) (Wd.g rfl rfl rfl) rfl rfl ?_
  refine LR.v (Y.cast (v2 := Str [97]) (Y.bstr hx1 rfl Tryd.underlying23 Tryd.underlying9 Tryd.underlying5 rfl) (by rw [he1])) (Wd.g rfl rfl rfl) rfl rfl ?_
  refine LR.v ((Y.seql rfl rfl rfl).isT (rfl)) (Wd.g rfl rfl rfl) rfl rfl ?_
  refine LR.v (Y.pick_t rfl rfl rfl) (Wd.u rfl) rfl rfl ?_
  refine LR.v (Y.assign rfl rfl) (Wd.u rfl) rfl rfl ?_
  refine LR.nil ?_
  refine hK9 _ _ ?_
  refine CW.ret (hret .ret (.inr rfl) _ _ _ (res1 rfl rfl) ?_)
  exact ⟨rfl, hm0⟩

theorem few_ct (s : SV) (l : List (SV × Rec)) (w0 : World) (H0 : Heap)
    (hl : RdT H0 fP 1 s.v l) (hx : ∀ x ∈ l, RdT H0 fB 1 x.1.v x.2) :
    Ct Tryd.prog w0 8 #[s.v] H0 (fun r H2 => ∃ t : SV, ∃ m : List (SV × Rec), r = t.v ∧ (recs m = fewL (recs l)) ∧ (Rd (fun b => H0.size ≤ b) H2 fP 1 t.v m) ∧ (∀ x ∈ m, Rd (fun b => H0.size ≤ b) H2 fB 1 x.1.v x.2) ∧ Nw H0 H2) := by
  refine Ct.enter (args := [s.v]) Tryd.func8 rfl rfl rfl ?_
  intro Q0 hret
  have hm0 : Nw H0 H0 := Mo.refl _ _
  replace hl := hl.bnd
  have bf_hl := hl.bf
  replace hx := fun x hx0 => (hx x hx0).bnd
  have bf_hx : BF (fun b => True ∧ b < H0.size) H0.size := fun b h => h.2
  have hll := hl.len
  have hln : (recs l).length = l.length := by simp [recs]
  refine CW.seq (fun K1 hK1 hE1 => ?_)
  refine CW.region ?_
  refine LR.v (Y.assign rfl rfl) (Wd.u rfl) rfl rfl ?_
  refine LR.nil ?_
  refine hK1 _ _ ?_
  refine CW.seq (fun K2 hK2 hE2 => ?_)
  refine CW.region ?_
  refine LR.v (Y.assign rfl rfl) (Wd.u rfl) rfl rfl ?_
  refine LR.nil ?_
  refine hK2 _ _ ?_
  refine CW.seq (fun K3 hK3 hE3 => ?_)
  refine CW.seq (fun K4 hK4 hE4 => ?_)
  refine CW.region ?_
  refine LR.v (Y.assign rfl rfl) (Wd.u rfl) rfl rfl ?_
  refine LR.nil ?_
  refine hK4 _ _ ?_
  refine CW.block (fun K5 hK5 hX5 hE5 => ?_)
  refine CW.loop (fun (s_ : (Nat) × (Value) × (Nat) × (List (SV × Rec)) × (Nat → Prop)) => match s_ with | (i, vo, ko, m, G) => [(0, s.v), (3, vo), (4, .int .i64 (i : Int))])
    (fun (s_ : (Nat) × (Value) × (Nat) × (List (SV × Rec)) × (Nat → Prop)) (H : Heap) => match s_ with | (i, vo, ko, m, G) => (i ≤ l.length ∧ i ≤ 20 ∧ m.length ≤ i) ∧ (recs m = ((recs l).take i).filter (fun r => decide (r.length < 3000))) ∧ (Ow ko 23 H fP 1 vo m) ∧ (∀ x ∈ m, Rd G H fB 1 x.1.v x.2) ∧ (BF G H.size) ∧ (DF G ko) ∧ (∀ c, G c → H0.size ≤ c) ∧ (Nx 0 H0.size ko) ∧ Nw H0 H)
    (fun (s_ : (Nat) × (Value) × (Nat) × (List (SV × Rec)) × (Nat → Prop)) => match s_ with | (i, vo, ko, m, G) => l.length - i) (0, .slice none 0 0, 0, [], fun _ => False) ⟨rfl, rfl, rfl, trivial⟩ ?_ ?_
  ·
    exact ⟨⟨by omega, by omega, by simp⟩, rfl, Ow.nil fP_len fP_one, (fun x h => by cases h), (fun b e => e.elim), (fun b e => e.elim), (fun c e => e.elim), Nx.refl _ _, Mo.refl _ _⟩
  rintro ⟨i, vo, ko, m, G⟩ HL1 hI1 K6 hN6 hE6
  obtain ⟨hi, hm, ow, hxa, bf_hxa, f1, hG, nxl_ow, hlm1⟩ := hI1
  have df1 := DF.app (DF.z) (bf_hl.mono hm0.size) nxl_ow
  have df2 := DF.app (DF.z) (bf_hx.mono hm0.size) nxl_ow
  have nx3 : Nx 0 H0.size ko := Nx.tr (Nx.refl 0 _) nxl_ow hm0.size
  replace hl := hl.nw hlm1
  replace hx := fun x hx0 => (hx x hx0).nw hlm1
  replace hm0 := hm0.tr hlm1
  have hz1 := hlm1.size
  have hle_ow := ow.le
  have nx4 := nxl_ow
  refine CW.seq (fun K7 hK7 hE7 => ?_)
  refine CW.seq (fun K8 hK8 hE8 => ?_)
  refine CW.region ?_
  refine LR.v (Y.move rfl rfl) (Wd.u rfl) rfl rfl ?_
  refine LR.v (Y.move rfl rfl) (Wd.u rfl) rfl rfl ?_
  refine LR.v (Y.len hl rfl Tryd.runUnderlying22 rfl) (Wd.u rfl) rfl rfl ?_
  refine LR.v (Y.lss rfl rfl rfl) (Wd.u rfl) rfl rfl ?_
  refine LR.v (Y.move rfl rfl) (Wd.u rfl) rfl rfl ?_
  refine LR.splitp (d := 9) rfl (fun g9 => ?_) (fun g9 => ?_)
  ·
    
    refine LR.v (Y.move rfl rfl) (Wd.g rfl rfl rfl) rfl rfl ?_
    refine LR.v (Y.lss rfl rfl rfl) (Wd.g rfl rfl rfl) rfl rfl ?_
    refine LR.v (Y.pick_t rfl rfl rfl) (Wd.u rfl) rfl rfl ?_
    refine LR.nil ?_
    refine hK8 _ _ ?_
    refine CW.condp rfl (fun c12 => ?_) (fun c12 => ?_)
    ·
      have hil : i < l.length := by omega
      have hxi := hx l[i] (List.getElem_mem hil)
      refine CW.skip ?_
      refine hK7 _ _ ?_
      refine CW.seq (fun K9 hK9 hE9 => ?_)
      refine CW.block (fun K10 hK10 hX10 hE10 => ?_)
      refine CW.seq (fun K11 hK11 hE11 => ?_)
      refine CW.region ?_
      refine LR.v (Y.move rfl rfl) (Wd.u rfl) rfl rfl ?_
      refine LR.v (Y.move rfl rfl) (Wd.u rfl) rfl rfl ?_
      refine LR.e (g := fun ad => .pointer (some ad)) (Y.indexAddrF hl (i) rfl Tryd.runUnderlying22 Tryd.sizeOf23 rfl rfl (by first | rfl | omega) (by first | omega | (simp; omega) | (simp; done))) (Wd.u rfl) rfl rfl (fun ad17 pt17 => ?_)
      have bf_pt17 := bf_hl
      refine LR.v (Y.load1 pt17.pt rfl Tryd.isAgg23 rfl) (Wd.u rfl) rfl rfl ?_
      refine LR.v (Y.len hxi rfl Tryd.runUnderlying23 rfl) (Wd.u rfl) rfl rfl ?_
      refine LR.v (Y.lss rfl rfl rfl) (Wd.u rfl) rfl rfl ?_
      refine LR.nil ?_
      refine hK11 _ _ ?_
      refine CW.condp rfl (fun c20 => ?_) (fun c20 => ?_)
      ·
        refine CW.region ?_
        refine LR.v (Y.move rfl rfl) (Wd.u rfl) rfl rfl ?_
        refine LR.z (Z.litw _ (([] : List UInt8)) rfl inf23 rfl rfl rfl (by decide) (by decide) fB_len fB_one (rfl)) (Wd.u rfl) rfl rfl (fun v22 H22 r22 => ?_)
        obtain ⟨nd, hs22, ob22, hH22⟩ := r22
        have hzs22 : H22.size = HL1.size + 1 := by rw [hH22]; simp
        have df5 := (DF.new (bf_hl.mono hm0.size) : DF _ (HL1.size + 1))
        have df6 := (DF.new (bf_hx.mono hm0.size) : DF _ (HL1.size + 1))
        have dj7 : Dj ko (HL1.size + 1) := Dj.new ow.le
        have df8 := (DF.new (bf_hxa.mono (by omega)) : DF _ (HL1.size + 1))
        have nx9 : Nx 0 H0.size (HL1.size + 1) := Nx.new hm0.size
        have nx10 : Nx 0 H0.size (HL1.size + 1) := Nx.new hlm1.size
        replace hl := hl.nw hs22
        replace hx := fun x hx0 => (hx x hx0).nw hs22
        replace ow := ow.nw hs22
        replace hxa := fun x hxa_ => (hxa x hxa_).nw hs22
        replace hm0 := hm0.tr hs22
        replace hlm1 := hlm1.tr hs22
        have hz2 := hs22.size
        refine LR.v (Y.move rfl rfl) (Wd.u rfl) rfl rfl ?_
        refine LR.v (Y.move rfl rfl) (Wd.u rfl) rfl rfl ?_
        refine LR.e (g := fun ad => .pointer (some ad)) (Y.indexAddrF hl (i) rfl Tryd.runUnderlying22 Tryd.sizeOf23 rfl rfl (by first | rfl | omega) (by first | omega | (simp; omega) | (simp; done))) (Wd.u rfl) rfl rfl (fun ad25 pt25 => ?_)
        have bf_pt25 := bf_hl
        refine LR.v (Y.load1 pt25.pt rfl Tryd.isAgg23 rfl) (Wd.u rfl) rfl rfl ?_
        refine LR.z (Z.apnd nd (hx l[i] (List.getElem_mem hil)) rfl inf23 rfl rfl (by simp only [List.length_nil]; omega) (by simp only [List.length_nil]; omega)) (Wd.u rfl) rfl rfl (fun v27 H27 r27 => ?_)
        obtain ⟨k27, nd, hk27, hs27⟩ := r27
        replace hk27 : Nx (HL1.size + 1) H22.size k27 := hk27
        replace hs27 := hs27.md
        have df11 := DF.app (df5) (bf_hl.mono hm0.size) hk27
        have df12 := DF.app (df6) (bf_hx.mono hm0.size) hk27
        have dj13 : Dj ko k27 := Dj.app (dj7) ow.le hk27
        have df14 := DF.app (df8) (bf_hxa.mono (by omega)) hk27
        have df15 := DF.app (df5) (bf_pt25.mono hm0.size) hk27
        have nx16 : Nx 0 H0.size k27 := Nx.tr (nx9) hk27 hm0.size
        have nx17 : Nx 0 H0.size k27 := Nx.tr (nx10) hk27 hlm1.size
        replace hl := hl.upL hs27 (DFL.cons df5 DFL.nil)
        replace hx := fun x hx0 => (hx x hx0).upL hs27 (DFL.cons df6 DFL.nil)
        replace ow := ow.upL hs27 (DL.cons dj7 DL.nil)
        replace hxa := fun x hxa_ => (hxa x hxa_).upL hs27 (DFL.cons df8 DFL.nil)
        replace pt25 := pt25.upL hs27 (DFL.cons df5 DFL.nil)
        replace hm0 := (Mo.trL (ks := []) (hm0.mdn []) hs27 (MIL.cons (MI.app MI.z (nx9) (Nat.le_refl _)) MIL.nil)).nil
        replace hlm1 := (Mo.trL (ks := []) (hlm1.mdn []) hs27 (MIL.cons (MI.app MI.z (nx10) (Nat.le_refl _)) MIL.nil)).nil
        have hz3 := hs27.size
        have hle_nd := nd.le
        rw [List.nil_append] at nd
        obtain ⟨s27, rfl⟩ : ∃ s : SV, v27 = s.v := ⟨toSV v27, nd.sv.symm⟩
        refine LR.z (Z.litw _ ([(s27, l[i].2)]) rfl inf22 rfl rfl rfl (by decide) (by decide) fP_len fP_one (rfl)) (Wd.u rfl) rfl rfl (fun v28 H28 r28 => ?_)
        obtain ⟨nw28, hs28, ob28, hH28⟩ := r28
        have hzs28 : H28.size = H27.size + 1 := by rw [hH28]; simp
        have df18 := (DF.new (bf_hl.mono hm0.size) : DF _ (H27.size + 1))
        have df19 := (DF.new (bf_hx.mono hm0.size) : DF _ (H27.size + 1))
        have dj20 : Dj ko (H27.size + 1) := Dj.new ow.le
        have df21 := (DF.new (bf_hxa.mono (by omega)) : DF _ (H27.size + 1))
        have dj22 : Dj k27 (H27.size + 1) := Dj.new nd.le
        have df23 := (DF.new (bf_pt25.mono hm0.size) : DF _ (H27.size + 1))
        have nx24 : Nx 0 H0.size (H27.size + 1) := Nx.new hm0.size
        have nx25 : Nx 0 H0.size (H27.size + 1) := Nx.new hlm1.size
        replace hl := hl.nw hs28
        replace hx := fun x hx0 => (hx x hx0).nw hs28
        replace ow := ow.nw hs28
        replace hxa := fun x hxa_ => (hxa x hxa_).nw hs28
        replace nd := nd.nw hs28
        replace pt25 := pt25.nw hs28
        replace hm0 := hm0.tr hs28
        replace hlm1 := hlm1.tr hs28
        have hz4 := hs28.size
        refine LR.z (Z.apnd ow nw28.rd rfl inf22 rfl rfl (by simp only [List.length_singleton]; omega) (by simp only [List.length_singleton]; omega)) (Wd.u rfl) rfl rfl (fun v29 H29 r29 => ?_)
        obtain ⟨k29, ow, hk29, hs29⟩ := r29
        replace hk29 : Nx ko H28.size k29 := hk29
        replace hs29 := hs29.md
        have df26 := DF.app (df1) (bf_hl.mono hm0.size) hk29
        have df27 := DF.app (df2) (bf_hx.mono hm0.size) hk29
        have df28 := DF.app (f1) (bf_hxa.mono (by omega)) hk29
        have dj29 : Dj k27 k29 := Dj.app (dj13.symm) nd.le hk29
        have df30 := DF.app (df1) (bf_pt25.mono hm0.size) hk29
        have dj31 : Dj (H27.size + 1) k29 := Dj.app (dj20.symm) nw28.le hk29
        have nx32 : Nx 0 H0.size k29 := Nx.tr (nx3) hk29 hm0.size
        have nx33 : Nx 0 H0.size k29 := Nx.tr (nx4) hk29 hlm1.size
        replace hl := hl.upL hs29 (DFL.cons df1 DFL.nil)
        replace hx := fun x hx0 => (hx x hx0).upL hs29 (DFL.cons df2 DFL.nil)
        replace hxa := fun x hxa_ => (hxa x hxa_).upL hs29 (DFL.cons f1 DFL.nil)
        replace nd := nd.upL hs29 (DL.cons dj13.symm DL.nil)
        replace pt25 := pt25.upL hs29 (DFL.cons df1 DFL.nil)
        replace nw28 := nw28.upL hs29 (DL.cons dj20.symm DL.nil)
        replace hm0 := (Mo.trL (ks := []) (hm0.mdn []) hs29 (MIL.cons (MI.app MI.z (nx3) (Nat.le_refl _)) MIL.nil)).nil
        replace hlm1 := (Mo.trL (ks := []) (hlm1.mdn []) hs29 (MIL.cons (MI.app MI.z (nx4) (Nat.le_refl _)) MIL.nil)).nil
        have hz5 := hs29.size
        have hle_ow := ow.le
        refine LR.v (Y.assign rfl rfl) (Wd.u rfl) rfl rfl ?_
        refine LR.nil ?_
        refine hK10 _ _ ?_
        refine hK9 _ _ ?_
        refine CW.region ?_
        refine LR.v (Y.move rfl rfl) (Wd.u rfl) rfl rfl ?_
        refine LR.v (Y.addi rfl rfl rfl (by omega)) (Wd.u rfl) rfl rfl ?_
        refine LR.v (Y.assign rfl rfl) (Wd.u rfl) rfl rfl ?_
        refine LR.nil ?_
        refine QN.sub (hN6 (i + 1, v29, k29, m ++ [(s27, l[i].2)], fun c => G c ∨ c + 1 = k27) _ ?_ ?_) ⟨rfl, rfl, (iv (by omega)), trivial⟩
        · exact ⟨⟨by omega, by omega, by simp; omega⟩, by rw [few_snoc (by omega)]; unfold recs at hm ⊢; rw [List.map_append, hm, List.getElem_map, if_pos (by omega)]; rfl, ow, snocP (α := Unit) (fb := fun _ => (s27, [])) hxa (fun c e => .inl e) (nd.rd.imp (fun c _ e => .inr e)), BF.or1 (bf_hxa.mono (by omega)) nd.le, DF.or1 (df28) (dj29.symm), fun c e => by rcases e with e | e; exact hG c e; exact (by have h9 := (nx16); unfold Nx at h9; omega), nx33, hlm1⟩
        · first | omega | (simp only; omega) | (simp; omega)
      ·
        refine CW.skip ?_
        refine hK10 _ _ ?_
        refine hK9 _ _ ?_
        refine CW.region ?_
        refine LR.v (Y.move rfl rfl) (Wd.u rfl) rfl rfl ?_
        refine LR.v (Y.addi rfl rfl rfl (by omega)) (Wd.u rfl) rfl rfl ?_
        refine LR.v (Y.assign rfl rfl) (Wd.u rfl) rfl rfl ?_
        refine LR.nil ?_
        refine QN.sub (hN6 (i + 1, vo, ko, m, G) _ ?_ ?_) ⟨rfl, rfl, (iv (by omega)), trivial⟩
        · exact ⟨⟨by omega, by omega, by omega⟩, by rw [few_snoc (by omega)]; unfold recs at hm ⊢; rw [hm, List.getElem_map, if_neg (by omega), List.append_nil], ow, hxa, (bf_hxa.mono (by omega)), f1, (by omega), nx4, hlm1⟩
        · first | omega | (simp only; omega) | (simp; omega)
    ·
      refine CW.exit (hE7 (.exit 0) nofun _ _ (hE6 (.exit 0) nofun _ _ (hX5 _ _ ?_)))
      refine hK3 _ _ ?_
      refine CW.seq (fun K12 hK12 hE12 => ?_)
      refine CW.region ?_
      refine LR.v (Y.move rfl rfl) (Wd.u rfl) rfl rfl ?_
      refine LR.v (Y.assign rfl rfl) (Wd.u rfl) rfl rfl ?_
      refine LR.nil ?_
      refine hK12 _ _ ?_
      refine CW.ret (hret .ret (.inr rfl) _ _ _ (res1 rfl rfl) ?_)
      obtain ⟨so, rfl⟩ : ∃ s : SV, vo = s.v := ⟨toSV vo, ow.sv.symm⟩
      have hfw : (recs l).take i = (recs l).take 20 := by
        rcases (show i = 20 ∨ i = l.length by omega) with e | e
        · rw [e]
        · rw [List.take_of_length_le (by omega), List.take_of_length_le (by omega)]
      exact ⟨so, m, rfl, by unfold fewL; rw [← hfw]; exact hm, (ow.rd.imp (fun c _ e => by have h9 := (nx3); unfold Nx at h9; omega)), (fun x h => (hxa x h).imp (fun c _ e => hG c e)), hm0⟩
  ·
    refine LR.gs rfl rfl rfl rfl rfl rfl ?_
    refine LR.gs rfl rfl rfl rfl rfl rfl ?_
    refine LR.v (Y.pick_f rfl rfl rfl) (Wd.u rfl) rfl rfl ?_
    refine LR.nil ?_
    refine hK8 _ _ ?_
    refine CW.cond_f rfl ?_
    refine CW.exit (hE7 (.exit 0) nofun _ _ (hE6 (.exit 0) nofun _ _ (hX5 _ _ ?_)))
    refine hK3 _ _ ?_
    refine CW.seq (fun K13 hK13 hE13 => ?_)
    refine CW.region ?_
    refine LR.v (Y.move rfl rfl) (Wd.u rfl) rfl rfl ?_
    refine LR.v (Y.assign rfl rfl) (Wd.u rfl) rfl rfl ?_
    refine LR.nil ?_
    refine hK13 _ _ ?_
    refine CW.ret (hret .ret (.inr rfl) _ _ _ (res1 rfl rfl) ?_)
    obtain ⟨so, rfl⟩ : ∃ s : SV, vo = s.v := ⟨toSV vo, ow.sv.symm⟩
    have hfw : (recs l).take i = (recs l).take 20 := by
      rcases (show i = 20 ∨ i = l.length by omega) with e | e
      · rw [e]
      · rw [List.take_of_length_le (by omega), List.take_of_length_le (by omega)]
    exact ⟨so, m, rfl, by unfold fewL; rw [← hfw]; exact hm, (ow.rd.imp (fun c _ e => by have h9 := (nx3); unfold Nx at h9; omega)), (fun x h => (hxa x h).imp (fun c _ e => hG c e)), hm0⟩

end Go.Proofs.YtdliddjkacbggaaDoor.WalI
/-
  A journal's bytes: the document's functions.
-/
namespace Go.Proofs.YtdliddjkacbggaaDoor.WalJ
open Go.Proofs.YtdliddjkacbggaaDoor.E Go.RowKit Go.Proofs.YtdliddjkacbggaaDoor.SumB Go.Proofs.YtdliddjkacbggaaDoor.SumC Go.Proofs.YtdliddjkacbggaaDoor.SumF Go.Proofs.YtdliddjkacbggaaDoor.SumG Go.Proofs.YtdliddjkacbggaaDoor.DelA Go.Proofs.YtdliddjkacbggaaDoor.SimA Go.Proofs.YtdliddjkacbggaaDoor.SimB Go.Proofs.YtdliddjkacbggaaDoor.SimR Go.Proofs.YtdliddjkacbggaaDoor.WalA Go.Proofs.YtdliddjkacbggaaDoor.WalB Go.Proofs.YtdliddjkacbggaaDoor.WalC Go.Proofs.YtdliddjkacbggaaDoor.WalI
set_option maxRecDepth 20000
set_option linter.unusedVariables false
set_option linter.unusedSimpArgs false
set_option linter.unusedSectionVars false
set_option maxRecDepth 100000 in
theorem inf23 : Inf Tryd.prog 23 5 1 1 := ⟨Tryd.underlying23, _, _, rfl, rfl, rfl, rfl, rfl⟩
theorem l32 : ∀ {k : List UInt8}, k.length = 32 → ∃ b0 b1 b2 b3 b4 b5 b6 b7 b8 b9 b10 b11 b12 b13 b14 b15 b16 b17 b18 b19 b20 b21 b22 b23 b24 b25 b26 b27 b28 b29 b30 b31 : UInt8, k = [b0, b1, b2, b3, b4, b5, b6, b7, b8, b9, b10, b11, b12, b13, b14, b15, b16, b17, b18, b19, b20, b21, b22, b23, b24, b25, b26, b27, b28, b29, b30, b31] := by
  intro k h
  match k, h with
  | [b0, b1, b2, b3, b4, b5, b6, b7, b8, b9, b10, b11, b12, b13, b14, b15, b16, b17, b18, b19, b20, b21, b22, b23, b24, b25, b26, b27, b28, b29, b30, b31], _ => exact ⟨b0, b1, b2, b3, b4, b5, b6, b7, b8, b9, b10, b11, b12, b13, b14, b15, b16, b17, b18, b19, b20, b21, b22, b23, b24, b25, b26, b27, b28, b29, b30, b31, rfl⟩


theorem spl2 {vs cs : List Value} (h : cs.length = vs.length) : splice cs 0 vs = vs := by simp [splice, h]


theorem sameR_ct (s t : SV) (a b : List (SV × Rec)) (w0 : World) (H0 : Heap)
    (ha : RdT H0 fP 1 s.v a) (hb : RdT H0 fP 1 t.v b) (hx : ∀ x ∈ a, RdT H0 fB 1 x.1.v x.2) (hy : ∀ x ∈ b, RdT H0 fB 1 x.1.v x.2) :
    Ct Tryd.prog w0 13 #[s.v, t.v] H0 (fun r H2 => r = .bool (decide (recs a = recs b)) ∧ Nw H0 H2) := by
  refine Ct.enter (args := [s.v, t.v]) Tryd.func13 rfl rfl rfl ?_
  intro Q0 hret
  have hm0 : Nw H0 H0 := Mo.refl _ _
  replace ha := ha.bnd
  have bf_ha := ha.bf
  replace hb := hb.bnd
  have bf_hb := hb.bf
  replace hx := fun x hx0 => (hx x hx0).bnd
  have bf_hx : BF (fun b => True ∧ b < H0.size) H0.size := fun b h => h.2
  replace hy := fun x hy0 => (hy x hy0).bnd
  have bf_hy : BF (fun b => True ∧ b < H0.size) H0.size := fun b h => h.2
  have hal := ha.len
  have hbl := hb.len
  have hla : (recs a).length = a.length := by simp [recs]
  have hlb : (recs b).length = b.length := by simp [recs]
  refine CW.seq (fun K1 hK1 hE1 => ?_)
  refine CW.region ?_
  refine LR.v (Y.assign rfl rfl) (Wd.u rfl) rfl rfl ?_
  refine LR.nil ?_
  refine hK1 _ _ ?_
  refine CW.seq (fun K2 hK2 hE2 => ?_)
  refine CW.seq (fun K3 hK3 hE3 => ?_)
  refine CW.region ?_
  refine LR.v (Y.move rfl rfl) (Wd.u rfl) rfl rfl ?_
  refine LR.v (Y.len ha rfl Tryd.runUnderlying22 rfl) (Wd.u rfl) rfl rfl ?_
  refine LR.v (Y.move rfl rfl) (Wd.u rfl) rfl rfl ?_
  refine LR.v (Y.len hb rfl Tryd.runUnderlying22 rfl) (Wd.u rfl) rfl rfl ?_
  refine LR.v (Y.neq rfl rfl rfl) (Wd.u rfl) rfl rfl ?_
  refine LR.nil ?_
  refine hK3 _ _ ?_
  refine CW.condp rfl (fun c10 => ?_) (fun c10 => ?_)
  ·
    refine CW.seq (fun K4 hK4 hE4 => ?_)
    refine CW.region ?_
    refine LR.v (Y.assign rfl rfl) (Wd.u rfl) rfl rfl ?_
    refine LR.nil ?_
    refine hK4 _ _ ?_
    refine CW.ret (hE2 .ret nofun _ _ (hret .ret (.inr rfl) _ _ _ (res1 rfl rfl) ?_))
    have hne : ¬ recs a = recs b := fun h => by have := congrArg List.length h; omega
    exact ⟨by rw [decide_eq_false hne], hm0⟩
  ·
    have hab : a.length = b.length := by omega
    refine CW.skip ?_
    refine hK2 _ _ ?_
    refine CW.seq (fun K5 hK5 hE5 => ?_)
    refine CW.seq (fun K6 hK6 hE6 => ?_)
    refine CW.region ?_
    refine LR.v (Y.assign rfl rfl) (Wd.u rfl) rfl rfl ?_
    refine LR.nil ?_
    refine hK6 _ _ ?_
    refine CW.block (fun K7 hK7 hX7 hE7 => ?_)
    refine CW.loop (fun (i : (Nat)) => [(0, s.v), (1, t.v), (5, .int .i64 (i : Int))])
      (fun (i : (Nat)) (H : Heap) => (i ≤ a.length) ∧ ((recs a).take i = (recs b).take i) ∧ Nw H0 H)
      (fun (i : (Nat)) => a.length - i) 0 ⟨rfl, rfl, rfl, trivial⟩ ?_ ?_
    ·
      exact ⟨(by omega), rfl, Mo.refl _ _⟩
    intro i HL1 hI1 K8 hN8 hE8
    obtain ⟨hi, he, hlm1⟩ := hI1
    replace ha := ha.nw hlm1
    replace hb := hb.nw hlm1
    replace hx := fun x hx0 => (hx x hx0).nw hlm1
    replace hy := fun x hy0 => (hy x hy0).nw hlm1
    replace hm0 := hm0.tr hlm1
    have hz1 := hlm1.size
    refine CW.seq (fun K9 hK9 hE9 => ?_)
    refine CW.seq (fun K10 hK10 hE10 => ?_)
    refine CW.region ?_
    refine LR.v (Y.move rfl rfl) (Wd.u rfl) rfl rfl ?_
    refine LR.v (Y.move rfl rfl) (Wd.u rfl) rfl rfl ?_
    refine LR.v (Y.len ha rfl Tryd.runUnderlying22 rfl) (Wd.u rfl) rfl rfl ?_
    refine LR.v (Y.lss rfl rfl rfl) (Wd.u rfl) rfl rfl ?_
    refine LR.nil ?_
    refine hK10 _ _ ?_
    refine CW.condp rfl (fun c14 => ?_) (fun c14 => ?_)
    ·
      have hil : i < a.length := by omega
      have hxi := hx a[i] (List.getElem_mem hil)
      have hyi := hy b[i] (List.getElem_mem (by omega))
      refine CW.skip ?_
      refine hK9 _ _ ?_
      refine CW.seq (fun K11 hK11 hE11 => ?_)
      refine CW.block (fun K12 hK12 hX12 hE12 => ?_)
      refine CW.seq (fun K13 hK13 hE13 => ?_)
      refine CW.region_draw rfl (by kernel_rfl) ?_
      refine LR.v (Y.move rfl rfl) (Wd.u rfl) rfl rfl ?_
      refine LR.v (Y.move rfl rfl) (Wd.u rfl) rfl rfl ?_
      refine LR.e (g := fun ad => .pointer (some ad)) (Y.indexAddrF ha (i) rfl Tryd.runUnderlying22 Tryd.sizeOf23 rfl rfl (by first | rfl | omega) (by first | omega | (simp; omega) | (simp; done))) (Wd.u rfl) rfl rfl (fun ad19 pt19 => ?_)
      have bf_pt19 := bf_ha
      refine LR.v (Y.load1 pt19.pt rfl Tryd.isAgg23 rfl) (Wd.u rfl) rfl rfl ?_
      refine LR.v (Y.bstr hxi rfl Tryd.underlying23 Tryd.underlying9 Tryd.underlying5 rfl) (Wd.u rfl) rfl rfl ?_
      refine LR.v (Y.move rfl rfl) (Wd.u rfl) rfl rfl ?_
      refine LR.v (Y.move rfl rfl) (Wd.u rfl) rfl rfl ?_
      refine LR.e (g := fun ad => .pointer (some ad)) (Y.indexAddrF hb (i) rfl Tryd.runUnderlying22 Tryd.sizeOf23 rfl rfl (by first | rfl | omega) (by first | omega | (simp; omega) | (simp; done))) (Wd.u rfl) rfl rfl (fun ad24 pt24 => ?_)
      have bf_pt24 := bf_hb
      refine LR.v (Y.load1 pt24.pt rfl Tryd.isAgg23 rfl) (Wd.u rfl) rfl rfl ?_
      refine LR.v (Y.bstr hyi rfl Tryd.underlying23 Tryd.underlying9 Tryd.underlying5 rfl) (Wd.u rfl) rfl rfl ?_
      refine LR.v (Y.sneq rfl rfl rfl) (Wd.u rfl) rfl rfl ?_
      refine LR.nil ?_
      refine hK13 _ _ ?_
      refine CW.condp rfl (fun c27 => ?_) (fun c27 => ?_)
      ·
        refine CW.seq (fun K14 hK14 hE14 => ?_)
        refine CW.region ?_
        refine LR.v (Y.assign rfl rfl) (Wd.u rfl) rfl rfl ?_
        refine LR.nil ?_
        refine hK14 _ _ ?_
        refine CW.ret (hE12 .ret nofun (by simp) _ _ (hE11 .ret nofun _ _ (hE8 .ret nofun _ _ (hE7 .ret nofun (by simp) _ _ (hE5 .ret nofun _ _ (hret .ret (.inr rfl) _ _ _ (res1 rfl rfl) ?_))))))
        have hne : ¬ recs a = recs b := fun h => c27 (by have : (recs a)[i]? = (recs b)[i]? := (by rw [h]); simp only [recs, List.getElem?_map] at this; rw [List.getElem?_eq_getElem hil, List.getElem?_eq_getElem (by omega)] at this; exact Option.some.inj this)
        exact ⟨by rw [decide_eq_false hne], hm0⟩
      ·
        refine CW.skip ?_
        refine hK12 _ _ ?_
        refine hK11 _ _ ?_
        refine CW.region ?_
        refine LR.v (Y.move rfl rfl) (Wd.u rfl) rfl rfl ?_
        refine LR.v (Y.addi rfl rfl rfl (by omega)) (Wd.u rfl) rfl rfl ?_
        refine LR.v (Y.assign rfl rfl) (Wd.u rfl) rfl rfl ?_
        refine LR.nil ?_
        refine QN.sub (hN8 (i + 1) _ ?_ ?_) ⟨rfl, rfl, (iv (by omega)), trivial⟩
        · exact ⟨(by omega), by rw [List.take_succ_eq_append_getElem (by omega), List.take_succ_eq_append_getElem (by omega), he]; simp only [recs, List.getElem_map]; rw [show a[i].2 = b[i].2 from Decidable.byContradiction (fun h => c27 h)], hlm1⟩
        · first | omega | (simp only; omega) | (simp; omega)
    ·
      refine CW.exit (hE9 (.exit 0) nofun _ _ (hE8 (.exit 0) nofun _ _ (hX7 _ _ ?_)))
      refine hK5 _ _ ?_
      refine CW.seq (fun K15 hK15 hE15 => ?_)
      refine CW.region ?_
      refine LR.v (Y.assign rfl rfl) (Wd.u rfl) rfl rfl ?_
      refine LR.nil ?_
      refine hK15 _ _ ?_
      refine CW.ret (hret .ret (.inr rfl) _ _ _ (res1 rfl rfl) ?_)
      have hil : i = a.length := by omega
      have he2 : recs a = recs b := by rw [← List.take_length (l := recs a), ← List.take_length (l := recs b), hla, hlb, ← hab, ← hil]; exact he
      exact ⟨by rw [decide_eq_true he2], hm0⟩

end Go.Proofs.YtdliddjkacbggaaDoor.WalJ
/-
  A journal's bytes: read by the document; any bytes; bytes that were turned.
-/
namespace Go.Proofs.YtdliddjkacbggaaDoor.WalK
open Go.Proofs.YtdliddjkacbggaaDoor.E Go.RowKit Go.Proofs.YtdliddjkacbggaaDoor.SumB Go.Proofs.YtdliddjkacbggaaDoor.SumC Go.Proofs.YtdliddjkacbggaaDoor.SumF Go.Proofs.YtdliddjkacbggaaDoor.SumG Go.Proofs.YtdliddjkacbggaaDoor.DelA Go.Proofs.YtdliddjkacbggaaDoor.SimA Go.Proofs.YtdliddjkacbggaaDoor.SimB Go.Proofs.YtdliddjkacbggaaDoor.SimR Go.Proofs.YtdliddjkacbggaaDoor.WalA Go.Proofs.YtdliddjkacbggaaDoor.WalB Go.Proofs.YtdliddjkacbggaaDoor.WalC Go.Proofs.YtdliddjkacbggaaDoor.WalI Go.Proofs.YtdliddjkacbggaaDoor.WalJ
set_option maxRecDepth 20000
set_option linter.unusedVariables false
set_option linter.unusedSimpArgs false
set_option linter.unusedSectionVars false
set_option maxRecDepth 100000 in
theorem inf22 : Inf Tryd.prog 22 23 1 24 := ⟨Tryd.underlying22, _, _, rfl, rfl, rfl, rfl, rfl⟩
set_option maxRecDepth 100000 in
theorem inf23 : Inf Tryd.prog 23 5 1 1 := ⟨Tryd.underlying23, _, _, rfl, rfl, rfl, rfl, rfl⟩

theorem par_hd {b : List UInt8} (h : ¬ b.take 8 = W8) : parE b = 16 ∧ parS b = 0 ∧ parL b = [] := by
  unfold parE parS parL; rw [if_neg h, if_neg h, if_neg h]; exact ⟨rfl, rfl, rfl⟩

end Go.Proofs.YtdliddjkacbggaaDoor.WalK
/-
  A journal: read as it was written, cut anywhere; on a disk that is too small.
-/
namespace Go.Proofs.YtdliddjkacbggaaDoor.WalL
open Go.Proofs.YtdliddjkacbggaaDoor.E Go.RowKit Go.Proofs.YtdliddjkacbggaaDoor.SumB Go.Proofs.YtdliddjkacbggaaDoor.SumC Go.Proofs.YtdliddjkacbggaaDoor.SumF Go.Proofs.YtdliddjkacbggaaDoor.SumG Go.Proofs.YtdliddjkacbggaaDoor.DelA Go.Proofs.YtdliddjkacbggaaDoor.SimA Go.Proofs.YtdliddjkacbggaaDoor.SimB Go.Proofs.YtdliddjkacbggaaDoor.SimC Go.Proofs.YtdliddjkacbggaaDoor.SimD Go.Proofs.YtdliddjkacbggaaDoor.SimE Go.Proofs.YtdliddjkacbggaaDoor.SimF Go.Proofs.YtdliddjkacbggaaDoor.SimG Go.Proofs.YtdliddjkacbggaaDoor.SimH Go.Proofs.YtdliddjkacbggaaDoor.SimI Go.Proofs.YtdliddjkacbggaaDoor.SimQ Go.Proofs.YtdliddjkacbggaaDoor.SimR Go.Proofs.YtdliddjkacbggaaDoor.SimS Go.Proofs.YtdliddjkacbggaaDoor.SimU Go.Proofs.YtdliddjkacbggaaDoor.SimY Go.Proofs.YtdliddjkacbggaaDoor.SimYA Go.Proofs.YtdliddjkacbggaaDoor.SimYE Go.Proofs.YtdliddjkacbggaaDoor.WalA Go.Proofs.YtdliddjkacbggaaDoor.WalB Go.Proofs.YtdliddjkacbggaaDoor.WalC Go.Proofs.YtdliddjkacbggaaDoor.WalD Go.Proofs.YtdliddjkacbggaaDoor.WalE Go.Proofs.YtdliddjkacbggaaDoor.WalF Go.Proofs.YtdliddjkacbggaaDoor.WalG Go.Proofs.YtdliddjkacbggaaDoor.WalH Go.Proofs.YtdliddjkacbggaaDoor.WalI Go.Proofs.YtdliddjkacbggaaDoor.WalJ Go.Proofs.YtdliddjkacbggaaDoor.WalK
set_option maxRecDepth 20000
set_option linter.unusedVariables false
set_option linter.unusedSimpArgs false
set_option linter.unusedSectionVars false
set_option maxRecDepth 100000 in
theorem inf22 : Inf Tryd.prog 22 23 1 24 := ⟨Tryd.underlying22, _, _, rfl, rfl, rfl, rfl, rfl⟩

theorem cut_par {l : List Rec} {k j : Nat} (hl : ∀ r ∈ l, r.length ≤ 1048576) (hk : k ≤ l.length) (h1 : (encW (l.take k)).length ≤ j) (h2 : k < l.length → j < (encW (l.take (k + 1))).length) (hj : j ≤ (encW l).length) :
    parE ((encW l).take j) = 0 ∧ parL ((encW l).take j) = l.take k ∧ parS ((encW l).take j) = (encW (l.take k)).length := by
  obtain ⟨t, ht, hn⟩ : ∃ t, (encW l).take j = encW (l.take k) ++ t ∧ oneW k t = none := by
    by_cases hkl : k < l.length
    · have e : encW l = encW (l.take k) ++ (recW k l[k] ++ encN (k + 1) (l.drop (k + 1))) := by
        conv => lhs; rw [← List.take_append_drop k l, List.drop_eq_getElem_cons hkl]
        unfold encW
        rw [encN_app, Nat.zero_add, List.length_take, Nat.min_eq_left hk, encN, List.append_assoc]
      have h3 := h2 hkl
      rw [List.take_succ_eq_append_getElem hkl, encW_snoc, List.length_append, recW_len] at h3
      refine ⟨(layW k l[k]).take (j - (encW (l.take k)).length), ?_, ?_⟩
      · rw [e, List.take_append, List.take_of_length_le h1]
        congr 1
        unfold recW
        rw [List.append_assoc, List.take_append_of_le_length (by rw [layW_len]; omega)]
      · have := torn_none k l[k] (j - (encW (l.take k)).length) 0 (by omega) (hl _ (List.getElem_mem hkl))
        rwa [List.replicate_zero, List.append_nil] at this
    · obtain rfl : k = l.length := by omega
      rw [List.take_length] at h1 ⊢
      refine ⟨[], ?_, by simp [oneW]⟩
      rw [List.append_nil, List.take_of_length_le h1]
  have e0 := parE_enc (l.take k) t
  have e1 := parL_enc (l.take k) t (fun r h => hl r (List.mem_of_mem_take h))
  have hlk : (l.take k).length = k := by rw [List.length_take]; omega
  rw [hlk, parP_stop hn, List.append_nil] at e1
  rw [ht]
  refine ⟨e0, e1, ?_⟩
  unfold parS; unfold parE at e0; split at e0
  · rename_i h8; rw [if_pos h8, e1]
  · cases e0
theorem cut_short {l : List Rec} {j : Nat} (h : j < 8) : parE ((encW l).take j) = 16 ∧ parS ((encW l).take j) = 0 ∧ parL ((encW l).take j) = [] := by
  refine par_hd (fun e => ?_)
  have h2 := congrArg List.length e
  have h8 : W8.length = 8 := rfl
  rw [List.length_take, List.length_take] at h2; omega
theorem encW_take {l : List (SV × Rec)} {k : Nat} (h : k < l.length) : (encW (recs (l.take (k + 1)))).length = (encW (recs (l.take k))).length + (13 + l[k].2.length) := by
  unfold encW; rw [encN_take h, List.length_append, List.length_append, List.length_append, recW_len]; omega
theorem recs_tk (l : List (SV × Rec)) (k : Nat) : recs (l.take k) = (recs l).take k := by unfold recs; rw [List.map_take]
theorem bs_mend2 {N M : Nat} {D : Dk} (h : Bs N D) (p : Pth) (n : Nat) (hM : (D.readL p).length + 8 ≤ M) : Bs (N + 4 * (M + 20)) (mendD D p n).2 := by
  unfold mendD; split
  · exact h.mono (by omega)
  · split
    · exact h.mono (by omega)
    · exact (bs_fresh h p _).mono (by have := encW_bd (D.readL p) n; omega)
theorem bs_app2 {N M : Nat} {D : Dk} (h : Bs N D) (p : Pth) (n : Nat) (br : Bool) (r : Rec) (hM : (D.readL p).length + 8 ≤ M) : Bs (N + 4 * (M + 20) + 4 * (r.length + 20)) (appD D p n br r).2.2.2 := by
  have h1 : Bs (N + 4 * (M + 20)) (preD D p n br).2.2 := by
    unfold preD; split
    · exact bs_mend2 h p n hM
    · exact h.mono (by omega)
  unfold appD; split
  · exact h1.mono (by omega)
  · exact (bs_run (apS_bs p _ r) h1).mono (by simp [apS]; omega)
/-- a journal, and what stands behind it -/
structure Fj (cap : Nat) (p : Pth) (l : List Rec) (br : Bool) (D : Dk) : Prop where
  ex : ∃ t, One cap 65536 p (encW l ++ t) D ∧ oneW l.length t = none ∧ (br = false → t = []) ∧ (encW l ++ t).length ≤ cap
theorem Fj.parse {cap : Nat} {p : Pth} {l : List Rec} {br : Bool} {D : Dk} (h : Fj cap p l br D) (n1 : nameB p = true) (hl : ∀ r ∈ l, r.length ≤ 1048576) : D.readE p = 0 ∧ parE (D.readL p) = 0 ∧ parL (D.readL p) = l ∧ (D.readL p).length ≤ cap := by
  obtain ⟨t, h1, h2, _, h4⟩ := h.ex
  obtain ⟨r1, r2⟩ := h1.read n1
  rw [r2]
  have := parL_enc l t hl
  rw [parP_stop h2, List.append_nil] at this
  exact ⟨r1, parE_enc l t, this, h4⟩
theorem Fj.step {cap : Nat} {p : Pth} {l : List Rec} {br : Bool} {D : Dk} {r : Rec} (h : Fj cap p l br D) (n1 : nameB p = true) (n2 : nameB (newP p) = true) (hd : dirE (dirP p) = 0) (hl : ∀ r ∈ l, r.length ≤ 1048576) (hr : r.length ≤ 1048576) (hr3 : r.length ≤ 3000) (hc : cap ≤ 4000) :
    ((appD D p l.length br r).1 = 0 ∧ (appD D p l.length br r).2.1 = l.length + 1 ∧ Fj cap p (l ++ [r]) (appD D p l.length br r).2.2.1 (appD D p l.length br r).2.2.2) ∨ ((appD D p l.length br r).1 = 12 ∧ (appD D p l.length br r).2.1 = l.length ∧ Fj cap p l (appD D p l.length br r).2.2.1 (appD D p l.length br r).2.2.2) := by
  -- a journal that is whole
  have main : ∀ {D : Dk} {br0 : Bool} {D0 : Dk}, One cap 65536 p (encW l) D → (encW l).length ≤ cap → preD D0 p l.length br0 = (0, l.length, D) →
      ((appD D0 p l.length br0 r).1 = 0 ∧ (appD D0 p l.length br0 r).2.1 = l.length + 1 ∧ Fj cap p (l ++ [r]) (appD D0 p l.length br0 r).2.2.1 (appD D0 p l.length br0 r).2.2.2) ∨ ((appD D0 p l.length br0 r).1 = 12 ∧ (appD D0 p l.length br0 r).2.1 = l.length ∧ Fj cap p l (appD D0 p l.length br0 r).2.2.1 (appD D0 p l.length br0 r).2.2.2) := by
    intro D br0 D0 hO hle hp
    rw [app_go hp]
    rcases hO.recd2 n1 l.length r (by omega) with ⟨h1, h2⟩ | ⟨h1, h2, h3⟩
    · rw [if_neg (by rw [h1]; decide), if_neg (by rw [h1]; decide)]
      refine .inr ⟨h1, rfl, ?_⟩
      rcases h2 with h2 | ⟨h2, h3⟩
      · exact ⟨[], by rw [List.append_nil]; exact h2, by simp [oneW], fun _ => rfl, by rw [List.append_nil]; exact hle⟩
      · exact ⟨layW l.length r, h2, lay_none _ _ hr, fun h => (by cases h), h3⟩
    · rw [if_pos h1, if_pos h1]
      exact .inl ⟨h1, rfl, [], by rw [List.append_nil, encW_snoc]; exact h2, by simp [oneW], fun _ => rfl, by rw [List.append_nil, encW_snoc]; exact h3⟩
  obtain ⟨t, h1, h2, h3, h4⟩ := h.ex
  cases hb : br with
  | false =>
    have e := h3 hb
    rw [e, List.append_nil] at h1 h4
    exact main h1 h4 (pre_0 rfl)
  | true =>
    obtain ⟨q1, q2, q3, q4⟩ := h.parse n1 hl
    have hm := mend_3 (n := l.length) q1 q2
    rw [q3, List.take_length] at hm
    have hmn : mendN D p l.length = l.length := by unfold mendN; rw [q3, List.take_length]
    have hlen : (encW l).length ≤ 65536 := by rw [List.length_append] at h4; omega
    rcases h1.fresh n1 n2 hd l hlen with ⟨f1, f2, f3⟩ | ⟨f1, f2, f3⟩
    · have hz : (mendD D p l.length).1 ≠ 0 := by rw [hm, f1]; decide
      rw [app_bad rfl hz, hm]
      exact .inr ⟨f1, rfl, t, f3, h2, fun h => (by cases h), h4⟩
    · refine main f3 (by omega) ?_
      rw [pre_1 rfl, hm, f1, hmn]
theorem Fj.start {cap : Nat} {p : Pth} (n1 : nameB p = true) (n2 : nameB (newP p) = true) (hd : dirE (dirP p) = 0) (hc : 8 ≤ cap) : (openD (Dk.empty cap 65536) p).1 = 0 ∧ (openD (Dk.empty cap 65536) p).2.1 = [] ∧ Fj cap p [] false (openD (Dk.empty cap 65536) p).2.2 := by
  obtain ⟨h1, h2, h3⟩ := One.start (cap := cap) (most := 65536) n1 n2 hd (by decide) hc
  exact ⟨h1, h2, [], by rw [List.append_nil]; exact h3, by simp [oneW], fun _ => rfl, by rw [List.append_nil]; exact hc⟩

set_option maxHeartbeats 4000000 in
theorem walBack_ct (mx_ : Int) (s0 : SV) (l : List (SV × Rec)) (ct : Int) (w0 : World) (H0 : Heap)
    (mx : MX mx_ H0) (bf_mx : BF (fun b => b = 0) H0.size) (hl : RdT H0 fP 1 s0.v l) (hx : ∀ x ∈ l, RdT H0 fB 1 x.1.v x.2) (hct : -9223372036854775808 ≤ ct ∧ ct ≤ 9223372036854775807) :
    Ct Tryd.prog w0 6 #[s0.v, .int .i64 ct] H0 (fun r H2 => r = .bool true ∧ Nw H0 H2) := by
  refine Ct.enter (args := [s0.v, .int .i64 ct]) Tryd.func6 rfl rfl rfl ?_
  intro Q0 hret
  have hm0 : Nw H0 H0 := Mo.refl _ _
  replace hl := hl.bnd
  have bf_hl := hl.bf
  replace hx := fun x hx0 => (hx x hx0).bnd
  have bf_hx : BF (fun b => True ∧ b < H0.size) H0.size := fun b h => h.2
  refine CW.seq (fun K1 hK1 hE1 => ?_)
  refine CW.region ?_
  refine LR.v (Y.assign rfl rfl) (Wd.u rfl) rfl rfl ?_
  refine LR.nil ?_
  refine hK1 _ _ ?_
  refine CW.seq (fun K2 hK2 hE2 => ?_)
  refine CW.seq (fun K3 hK3 hE3 => ?_)
  refine CW.region ?_
  -- call selvage/selvagelaw3.known
  refine LR.call rfl Tryd.call7 rfl (Wd.u rfl) rfl rfl (known3_ct mx_ w0 _ mx bf_mx) (fun v15 H15 r15 => ?_)
  obtain ⟨rfl, hs15⟩ := r15
  replace mx := mx.nw hs15
  replace hl := hl.nw hs15
  replace hx := fun x hx0 => (hx x hx0).nw hs15
  replace hm0 := hm0.tr hs15
  have hz1 := hs15.size
  refine LR.v (Y.not rfl rfl) (Wd.u rfl) rfl rfl ?_
  refine LR.nil ?_
  refine hK3 _ _ ?_
  refine CW.cond_f rfl ?_
  refine CW.skip ?_
  refine hK2 _ _ ?_
  refine CW.seq (fun K4 hK4 hE4 => ?_)
  refine CW.region ?_
  refine LR.v (Y.move rfl rfl) (Wd.u rfl) rfl rfl ?_
  -- call selvage/selvagelaw3.few
  refine LR.call rfl Tryd.call8 rfl (Wd.u rfl) rfl rfl (few_ct s0 l w0 _ hl.any (fun x h => (hx x h).any)) (fun v18 H18 r18 => ?_)
  obtain ⟨t18, m, rfl, hrm, hm, hxm, hs18⟩ := r18
  replace mx := mx.nw hs18
  replace hl := hl.nw hs18
  replace hx := fun x hx0 => (hx x hx0).nw hs18
  replace hm0 := hm0.tr hs18
  have hz2 := hs18.size
  replace hm := hm.bnd
  have bf_hm := hm.bf
  replace hxm := fun x hx_ => (hxm x hx_).bnd
  have bf_hxm : BF (fun b => H15.size ≤ b ∧ b < H18.size) H18.size := fun b h => h.2
  have hfe := few_enc (recs l)
  have hfm : ∀ x ∈ m, x.2.length < 3000 := fun x h => few_mem (l := recs l) _ (by rw [← hrm]; exact List.mem_map_of_mem h)
  rw [← hrm] at hfe
  refine LR.v (Y.assign rfl rfl) (Wd.u rfl) rfl rfl ?_
  refine LR.nil ?_
  refine hK4 _ _ ?_
  refine CW.seq (fun K5 hK5 hE5 => ?_)
  refine CW.region ?_
  refine LR.v (Y.move rfl rfl) (Wd.u rfl) rfl rfl ?_
  -- call selvage/wal.Encode
  refine LR.call rfl Tryd.call11 rfl (Wd.u rfl) rfl rfl (encode_ct t18 m w0 _ hm.any (fun x h => (hxm x h).any) (fun x h => by have := hfm x h; omega) (by omega)) (fun v20 H20 r20 => ?_)
  obtain ⟨t20, k20, rfl, ow, hk20, hs20⟩ := r20
  have df1 := DF.app (DF.z) (bf_mx.mono hm0.size) hk20
  have df2 := DF.app (DF.z) (bf_hl.mono hm0.size) hk20
  have df3 := DF.app (DF.z) (bf_hx.mono hm0.size) hk20
  have df4 := DF.app (DF.z) (bf_hm.mono (by omega)) hk20
  have df5 := DF.app (DF.z) (bf_hxm.mono (by omega)) hk20
  have nx6 : Nx 0 H0.size k20 := Nx.tr (Nx.refl 0 _) hk20 hm0.size
  replace mx := mx.nw hs20
  replace hl := hl.nw hs20
  replace hx := fun x hx0 => (hx x hx0).nw hs20
  replace hm := hm.nw hs20
  replace hxm := fun x hx_ => (hxm x hx_).nw hs20
  replace hm0 := hm0.tr hs20
  have hz3 := hs20.size
  have hle_ow := ow.le
  have he8 : 8 ≤ (encW (recs m)).length := by rw [encW_len]; omega
  have hmm : ∀ r ∈ recs m, r.length ≤ 1048576 := fun r h => by rw [hrm] at h; have := few_mem r h; omega
  have hmk : (recs m).length = m.length := by simp [recs]
  have hcp := cut_par (k := (recs m).length) (j := (encW (recs m)).length) hmm (Nat.le_refl _) (by rw [List.take_length]; exact Nat.le_refl _) (by omega) (Nat.le_refl _)
  rw [List.take_length, List.take_length] at hcp
  obtain ⟨p1, p2, p3⟩ := hcp
  refine LR.v (Y.assign rfl rfl) (Wd.u rfl) rfl rfl ?_
  refine LR.nil ?_
  refine hK5 _ _ ?_
  refine CW.seq (fun K6 hK6 hE6 => ?_)
  refine CW.region ?_
  refine LR.v (Y.move rfl rfl) (Wd.u rfl) rfl rfl ?_
  -- call selvage/wal.Parse
  refine LR.call rfl Tryd.call9 rfl (Wd.u rfl) rfl rfl (parse_ct t20 (encW (recs m)) w0 _ ow.rd.any (by omega)) (fun v23 H23 r23 => ?_)
  obtain ⟨t23, l23, rfl, hrl23, hw23, hx23, hs23⟩ := r23
  replace mx := mx.nw hs23
  replace hl := hl.nw hs23
  replace hx := fun x hx0 => (hx x hx0).nw hs23
  replace hm := hm.nw hs23
  replace hxm := fun x hx_ => (hxm x hx_).nw hs23
  replace ow := ow.nw hs23
  replace hm0 := hm0.tr hs23
  have hz4 := hs23.size
  replace hw23 := hw23.bnd
  have bf_hw23 := hw23.bf
  have df7 : DF (fun b => H20.size ≤ b ∧ b < H23.size) k20 := DF.above (fun b h => h.1) (by first | exact hle_ow | exact hlt_ow | omega)
  replace hx23 := fun x hx_ => (hx23 x hx_).bnd
  have bf_hx23 : BF (fun b => H20.size ≤ b ∧ b < H23.size) H23.size := fun b h => h.2
  have df8 : DF (fun b => H20.size ≤ b ∧ b < H23.size) k20 := DF.above (fun b h => h.1) (by first | exact hle_ow | exact hlt_ow | omega)
  refine LR.v (Y.move rfl rfl) (Wd.u rfl) rfl rfl ?_
  refine LR.v (Y.extract rfl rfl rfl) (Wd.u rfl) rfl rfl ?_
  refine LR.v (Y.extract rfl rfl rfl) (Wd.u rfl) rfl rfl ?_
  refine LR.v (Y.extract rfl rfl rfl) (Wd.u rfl) rfl rfl ?_
  refine LR.v (Y.assign rfl rfl) (Wd.u rfl) rfl rfl ?_
  refine LR.v (Y.assign rfl rfl) (Wd.u rfl) rfl rfl ?_
  refine LR.v (Y.assign rfl rfl) (Wd.u rfl) rfl rfl ?_
  refine LR.nil ?_
  refine hK6 _ _ ?_
  refine CW.seq (fun K7 hK7 hE7 => ?_)
  refine CW.seq (fun K8 hK8 hE8 => ?_)
  refine CW.region ?_
  refine LR.v (Y.move rfl rfl) (Wd.u rfl) rfl rfl ?_
  refine LR.v ((Y.neq rfl rfl rfl).isF ((fun h => h (by rw [p1]; rfl)))) (Wd.u rfl) rfl rfl ?_
  refine LR.v (Y.move rfl rfl) (Wd.u rfl) rfl rfl ?_
  refine LR.v (Y.move rfl rfl) (Wd.g rfl rfl rfl) rfl rfl ?_
  refine LR.v (Y.move rfl rfl) (Wd.g rfl rfl rfl) rfl rfl ?_
  refine LR.v (Y.len ow.rd rfl Tryd.runUnderlying23 rfl) (Wd.g rfl rfl rfl) rfl rfl ?_
  refine LR.v ((Y.neq rfl rfl rfl).isF ((fun h => h (by rw [p3])))) (Wd.g rfl rfl rfl) rfl rfl ?_
  refine LR.v (Y.pick_f rfl rfl rfl) (Wd.u rfl) rfl rfl ?_
  refine LR.v (Y.move rfl rfl) (Wd.u rfl) rfl rfl ?_
  refine LR.v (Y.move rfl rfl) (Wd.g rfl rfl rfl) rfl rfl ?_
  refine LR.v (Y.move rfl rfl) (Wd.g rfl rfl rfl) rfl rfl ?_
  -- call selvage/selvagelaw3.sameRows
  refine LR.call rfl Tryd.call13 rfl (Wd.g rfl rfl rfl) rfl rfl (sameR_ct t23 t18 l23 m w0 _ hw23.any hm.any (fun x h => (hx23 x h).any) (fun x h => (hxm x h).any)) (fun v38 H38 r38 => ?_)
  obtain ⟨rfl, hs38⟩ := r38
  replace mx := mx.nw hs38
  replace hl := hl.nw hs38
  replace hx := fun x hx0 => (hx x hx0).nw hs38
  replace hm := hm.nw hs38
  replace hxm := fun x hx_ => (hxm x hx_).nw hs38
  replace ow := ow.nw hs38
  replace hw23 := hw23.nw hs38
  replace hx23 := fun x hx_ => (hx23 x hx_).nw hs38
  replace hm0 := hm0.tr hs38
  have hz5 := hs38.size
  rw [hrl23, p2, decide_eq_true rfl]
  refine LR.v (Y.not rfl rfl) (Wd.g rfl rfl rfl) rfl rfl ?_
  refine LR.v (Y.pick_f rfl rfl rfl) (Wd.u rfl) rfl rfl ?_
  refine LR.nil ?_
  refine hK8 _ _ ?_
  refine CW.cond_f rfl ?_
  refine CW.skip ?_
  refine hK7 _ _ ?_
  refine CW.seq (fun K9 hK9 hE9 => ?_)
  refine CW.region ?_
  refine LR.v (Y.move rfl rfl) (Wd.u rfl) rfl rfl ?_
  refine LR.v (Y.move rfl rfl) (Wd.u rfl) rfl rfl ?_
  refine LR.v (Y.len ow.rd rfl Tryd.runUnderlying23 rfl) (Wd.u rfl) rfl rfl ?_
  refine LR.v (Y.move rfl rfl) (Wd.u rfl) rfl rfl ?_
  refine LR.v (Y.move rfl rfl) (Wd.u rfl) rfl rfl ?_
  refine LR.v (Y.len ow.rd rfl Tryd.runUnderlying23 rfl) (Wd.u rfl) rfl rfl ?_
  -- call selvage/selvagelaw3.within
  refine LR.call rfl Tryd.call14 rfl (Wd.u rfl) rfl rfl (within3_ct ct (encW (recs m)).length w0 _ (by omega) hct) (fun v47 H47 r47 => ?_)
  obtain ⟨rfl, hs47⟩ := r47
  replace mx := mx.nw hs47
  replace hl := hl.nw hs47
  replace hx := fun x hx0 => (hx x hx0).nw hs47
  replace hm := hm.nw hs47
  replace hxm := fun x hx_ => (hxm x hx_).nw hs47
  replace ow := ow.nw hs47
  replace hw23 := hw23.nw hs47
  replace hx23 := fun x hx_ => (hx23 x hx_).nw hs47
  replace hm0 := hm0.tr hs47
  have hz6 := hs47.size
  have hwc := wiN_lt (a := ct) (show 0 < (encW (recs m)).length by omega)
  refine LR.v (Y.cast (v2 := .int .i64 (((encW (recs m)).length - wiN ct (encW (recs m)).length) : Nat)) (Y.subi rfl rfl rfl (by omega)) (ivv (by omega))) (Wd.u rfl) rfl rfl ?_
  refine LR.e (g := fun v => v) (Y.slice ow.rd (0) (((encW (recs m)).length - wiN ct (encW (recs m)).length)) rfl Tryd.runUnderlying23 Tryd.sizeOf5 rfl (.inl ⟨rfl, rfl⟩) (.inr ⟨_, _, _, rfl, rfl, by first | rfl | omega⟩) (by omega) (by omega)) (Wd.u rfl) rfl rfl (fun v49 rd49 => ?_)
  have bf_rd49 := BF.of ow.le
  rw [List.drop_zero] at rd49
  obtain ⟨s49, rfl⟩ : ∃ s : SV, v49 = s.v := ⟨toSV v49, rd49.sv.symm⟩
  obtain ⟨j, hj⟩ : ∃ j, j = ((encW (recs m)).length - wiN ct (encW (recs m)).length) := ⟨_, rfl⟩
  rw [← hj] at rd49
  have hcl : ((encW (recs m)).take j).length = j := by rw [List.length_take]; omega
  refine LR.v (Y.assign rfl rfl) (Wd.u rfl) rfl rfl ?_
  refine LR.nil ?_
  refine hK9 _ _ ?_
  refine CW.seq (fun K10 hK10 hE10 => ?_)
  refine CW.region ?_
  refine LR.v (Y.move rfl rfl) (Wd.u rfl) rfl rfl ?_
  -- call selvage/wal.Parse
  refine LR.call rfl Tryd.call9 rfl (Wd.u rfl) rfl rfl (parse_ct s49 ((encW (recs m)).take j) w0 _ rd49.any (by omega)) (fun v52 H52 r52 => ?_)
  obtain ⟨t52, l52, rfl, hrl52, hw52, hx52, hs52⟩ := r52
  replace mx := mx.nw hs52
  replace hl := hl.nw hs52
  replace hx := fun x hx0 => (hx x hx0).nw hs52
  replace hm := hm.nw hs52
  replace hxm := fun x hx_ => (hxm x hx_).nw hs52
  replace ow := ow.nw hs52
  replace hw23 := hw23.nw hs52
  replace hx23 := fun x hx_ => (hx23 x hx_).nw hs52
  replace rd49 := rd49.nw hs52
  replace hm0 := hm0.tr hs52
  have hz7 := hs52.size
  replace hw52 := hw52.bnd
  have bf_hw52 := hw52.bf
  have df9 : DF (fun b => H47.size ≤ b ∧ b < H52.size) k20 := DF.above (fun b h => h.1) (by first | exact hle_ow | exact hlt_ow | omega)
  replace hx52 := fun x hx_ => (hx52 x hx_).bnd
  have bf_hx52 : BF (fun b => H47.size ≤ b ∧ b < H52.size) H52.size := fun b h => h.2
  have df10 : DF (fun b => H47.size ≤ b ∧ b < H52.size) k20 := DF.above (fun b h => h.1) (by first | exact hle_ow | exact hlt_ow | omega)
  refine LR.v (Y.move rfl rfl) (Wd.u rfl) rfl rfl ?_
  refine LR.v (Y.extract rfl rfl rfl) (Wd.u rfl) rfl rfl ?_
  refine LR.v (Y.extract rfl rfl rfl) (Wd.u rfl) rfl rfl ?_
  refine LR.v (Y.extract rfl rfl rfl) (Wd.u rfl) rfl rfl ?_
  refine LR.v (Y.assign rfl rfl) (Wd.u rfl) rfl rfl ?_
  refine LR.v (Y.assign rfl rfl) (Wd.u rfl) rfl rfl ?_
  refine LR.v (Y.assign rfl rfl) (Wd.u rfl) rfl rfl ?_
  refine LR.nil ?_
  refine hK10 _ _ ?_
  refine CW.seq (fun K11 hK11 hE11 => ?_)
  refine CW.seq (fun K12 hK12 hE12 => ?_)
  refine CW.region ?_
  refine LR.v (Y.move rfl rfl) (Wd.u rfl) rfl rfl ?_
  refine LR.v (Y.len rd49 rfl Tryd.runUnderlying23 rfl) (Wd.u rfl) rfl rfl ?_
  refine LR.v (Y.lss rfl rfl rfl) (Wd.u rfl) rfl rfl ?_
  refine LR.nil ?_
  refine hK12 _ _ ?_
  refine CW.condp rfl (fun c58 => ?_) (fun c58 => ?_)
  ·
    obtain ⟨q1, q2, q3⟩ := cut_short (l := recs m) (show j < 8 by omega)
    have hl0 : l52.length = 0 := by have := congrArg List.length (hrl52.trans q3); simpa [recs] using this
    refine CW.seq (fun K13 hK13 hE13 => ?_)
    refine CW.region ?_
    refine LR.v (Y.move rfl rfl) (Wd.u rfl) rfl rfl ?_
    refine LR.v ((Y.eql rfl rfl rfl).isT ((by rw [q1]; rfl))) (Wd.u rfl) rfl rfl ?_
    refine LR.v (Y.move rfl rfl) (Wd.u rfl) rfl rfl ?_
    refine LR.v (Y.move rfl rfl) (Wd.g rfl rfl rfl) rfl rfl ?_
    refine LR.v (Y.len hw52 rfl Tryd.runUnderlying22 rfl) (Wd.g rfl rfl rfl) rfl rfl ?_
    refine LR.v ((Y.eql rfl rfl rfl).isT ((by omega))) (Wd.g rfl rfl rfl) rfl rfl ?_
    refine LR.v (Y.pick_t rfl rfl rfl) (Wd.u rfl) rfl rfl ?_
    refine LR.v (Y.assign rfl rfl) (Wd.u rfl) rfl rfl ?_
    refine LR.nil ?_
    refine hK13 _ _ ?_
    refine CW.ret (hE11 .ret nofun _ _ (hret .ret (.inr rfl) _ _ _ (res1 rfl rfl) ?_))
    exact ⟨rfl, hm0⟩
  ·
    refine CW.skip ?_
    refine hK11 _ _ ?_
    refine CW.seq (fun K14 hK14 hE14 => ?_)
    refine CW.region ?_
    refine LR.v (Y.assign rfl rfl) (Wd.u rfl) rfl rfl ?_
    refine LR.v (Y.assign rfl rfl) (Wd.u rfl) rfl rfl ?_
    refine LR.nil ?_
    refine hK14 _ _ ?_
    refine CW.seq (fun K15 hK15 hE15 => ?_)
    refine CW.block (fun K16 hK16 hX16 hE16 => ?_)
    refine CW.loop (fun (k : (Nat)) => [(0, t18.v), (9, s49.v), (10, t52.v), (11, .int .i64 (parS (((encW (recs m)).take j)) : Int)), (12, .int .i64 (parE (((encW (recs m)).take j)) : Int)), (13, .int .i64 ((encW (recs (m.take k))).length : Int)), (14, .int .i64 (k : Int))])
      (fun (k : (Nat)) (H : Heap) => (k ≤ m.length) ∧ ((encW (recs (m.take k))).length ≤ j) ∧ Nw H52 H)
      (fun (k : (Nat)) => m.length - k) 0 ⟨rfl, rfl, rfl, rfl, rfl, rfl, rfl, trivial⟩ ?_ ?_
    ·
      exact ⟨(by omega), (by show 8 ≤ j; omega), Mo.refl _ _⟩
    intro k HL1 hI1 K17 hN17 hE17
    obtain ⟨hk, hka, hlm1⟩ := hI1
    replace mx := mx.nw hlm1
    replace hl := hl.nw hlm1
    replace hx := fun x hx0 => (hx x hx0).nw hlm1
    replace hm := hm.nw hlm1
    replace hxm := fun x hx_ => (hxm x hx_).nw hlm1
    replace ow := ow.nw hlm1
    replace hw23 := hw23.nw hlm1
    replace hx23 := fun x hx_ => (hx23 x hx_).nw hlm1
    replace rd49 := rd49.nw hlm1
    replace hw52 := hw52.nw hlm1
    replace hx52 := fun x hx_ => (hx52 x hx_).nw hlm1
    replace hm0 := hm0.tr hlm1
    have hz8 := hlm1.size
    have hml : m.length ≤ 20 := by have := few_len (recs l); rw [← hrm, hmk] at this; exact this
    refine CW.seq (fun K18 hK18 hE18 => ?_)
    refine CW.seq (fun K19 hK19 hE19 => ?_)
    refine CW.region ?_
    refine LR.v (Y.move rfl rfl) (Wd.u rfl) rfl rfl ?_
    refine LR.v (Y.move rfl rfl) (Wd.u rfl) rfl rfl ?_
    refine LR.v (Y.len hm rfl Tryd.runUnderlying22 rfl) (Wd.u rfl) rfl rfl ?_
    refine LR.v (Y.lss rfl rfl rfl) (Wd.u rfl) rfl rfl ?_
    refine LR.v (Y.move rfl rfl) (Wd.u rfl) rfl rfl ?_
    refine LR.splitp (d := 70) rfl (fun g70 => ?_) (fun g70 => ?_)
    ·
      have hkm : k < m.length := by omega
      have hek := encW_take hkm
      have hxk := hxm m[k] (List.getElem_mem hkm)
      have hrk := hfm m[k] (List.getElem_mem hkm)
      refine LR.v (Y.move rfl rfl) (Wd.g rfl rfl rfl) rfl rfl ?_
      refine LR.v (Y.addi rfl rfl rfl (by omega)) (Wd.g rfl rfl rfl) rfl rfl ?_
      refine LR.v (Y.move rfl rfl) (Wd.g rfl rfl rfl) rfl rfl ?_
      refine LR.v (Y.move rfl rfl) (Wd.g rfl rfl rfl) rfl rfl ?_
      refine LR.e (g := fun ad => .pointer (some ad)) (Y.indexAddrF hm (k) rfl Tryd.runUnderlying22 Tryd.sizeOf23 rfl rfl (by first | rfl | omega) (by first | omega | (simp; omega) | (simp; done))) (Wd.g rfl rfl rfl) rfl rfl (fun ad75 pt75 => ?_)
      have bf_pt75 := bf_hm
      refine LR.v (Y.load1 pt75.pt rfl Tryd.isAgg23 rfl) (Wd.g rfl rfl rfl) rfl rfl ?_
      refine LR.v (Y.len hxk rfl Tryd.runUnderlying23 rfl) (Wd.g rfl rfl rfl) rfl rfl ?_
      refine LR.v (Y.addi rfl rfl rfl (by omega)) (Wd.g rfl rfl rfl) rfl rfl ?_
      refine LR.v (Y.move rfl rfl) (Wd.g rfl rfl rfl) rfl rfl ?_
      refine LR.v (Y.len rd49 rfl Tryd.runUnderlying23 rfl) (Wd.g rfl rfl rfl) rfl rfl ?_
      refine LR.v (Y.leq rfl rfl rfl) (Wd.g rfl rfl rfl) rfl rfl ?_
      refine LR.v (Y.pick_t rfl rfl rfl) (Wd.u rfl) rfl rfl ?_
      refine LR.nil ?_
      refine hK19 _ _ ?_
      refine CW.condp rfl (fun c82 => ?_) (fun c82 => ?_)
      ·
        refine CW.skip ?_
        refine hK18 _ _ ?_
        refine CW.block (fun K20 hK20 hX20 hE20 => ?_)
        refine CW.seq (fun K21 hK21 hE21 => ?_)
        refine CW.region ?_
        refine LR.v (Y.move rfl rfl) (Wd.u rfl) rfl rfl ?_
        refine LR.v (Y.addi rfl rfl rfl (by omega)) (Wd.u rfl) rfl rfl ?_
        refine LR.v (Y.move rfl rfl) (Wd.u rfl) rfl rfl ?_
        refine LR.v (Y.move rfl rfl) (Wd.u rfl) rfl rfl ?_
        refine LR.e (g := fun ad => .pointer (some ad)) (Y.indexAddrF hm (k) rfl Tryd.runUnderlying22 Tryd.sizeOf23 rfl rfl (by first | rfl | omega) (by first | omega | (simp; omega) | (simp; done))) (Wd.u rfl) rfl rfl (fun ad87 pt87 => ?_)
        have bf_pt87 := bf_hm
        refine LR.v (Y.load1 pt87.pt rfl Tryd.isAgg23 rfl) (Wd.u rfl) rfl rfl ?_
        refine LR.v (Y.len hxk rfl Tryd.runUnderlying23 rfl) (Wd.u rfl) rfl rfl ?_
        refine LR.v (Y.cast (v2 := .int .i64 ((encW (recs (m.take (k + 1)))).length : Int)) (Y.addi rfl rfl rfl (by omega)) (ivv (by rw [hek]; omega))) (Wd.u rfl) rfl rfl ?_
        refine LR.v (Y.assign rfl rfl) (Wd.u rfl) rfl rfl ?_
        refine LR.nil ?_
        refine hK21 _ _ ?_
        refine CW.region ?_
        refine LR.v (Y.move rfl rfl) (Wd.u rfl) rfl rfl ?_
        refine LR.v (Y.addi rfl rfl rfl (by omega)) (Wd.u rfl) rfl rfl ?_
        refine LR.v (Y.assign rfl rfl) (Wd.u rfl) rfl rfl ?_
        refine LR.nil ?_
        refine hK20 _ _ ?_
        refine QN.sub (hN17 (k + 1) _ ?_ ?_) ⟨rfl, rfl, rfl, (iv (by omega)), (iv (by omega)), (iv (by omega)), (iv (by omega)), trivial⟩
        · exact ⟨(by omega), by rw [hek]; omega, hlm1⟩
        · first | omega | (simp only; omega) | (simp; omega)
      ·
        have hcp := cut_par (k := k) (j := j) hmm (by omega) (by rw [← recs_tk]; exact hka) (fun h => by rw [← recs_tk, hek]; omega) (by omega)
        rw [← recs_tk] at hcp
        obtain ⟨q1, q2, q3⟩ := hcp
        refine CW.exit (hE18 (.exit 0) nofun _ _ (hE17 (.exit 0) nofun _ _ (hX16 _ _ ?_)))
        refine hK15 _ _ ?_
        refine CW.seq (fun K22 hK22 hE22 => ?_)
        refine CW.region ?_
        refine LR.v (Y.move rfl rfl) (Wd.u rfl) rfl rfl ?_
        refine LR.v ((Y.eql rfl rfl rfl).isT ((by rw [q1]; rfl))) (Wd.u rfl) rfl rfl ?_
        refine LR.v (Y.move rfl rfl) (Wd.u rfl) rfl rfl ?_
        refine LR.v (Y.move rfl rfl) (Wd.g rfl rfl rfl) rfl rfl ?_
        refine LR.v (Y.move rfl rfl) (Wd.g rfl rfl rfl) rfl rfl ?_
        refine LR.v ((Y.eql rfl rfl rfl).isT ((by rw [q3]))) (Wd.g rfl rfl rfl) rfl rfl ?_
        refine LR.v (Y.pick_t rfl rfl rfl) (Wd.u rfl) rfl rfl ?_
        refine LR.v (Y.move rfl rfl) (Wd.u rfl) rfl rfl ?_
        refine LR.v (Y.move rfl rfl) (Wd.g rfl rfl rfl) rfl rfl ?_
        refine LR.v (Y.move rfl rfl) (Wd.g rfl rfl rfl) rfl rfl ?_
        refine LR.v (Y.move rfl rfl) (Wd.g rfl rfl rfl) rfl rfl ?_
        refine LR.e (g := fun v => v) (Y.slice hm (0) (k) rfl Tryd.runUnderlying22 Tryd.sizeOf23 rfl (.inl ⟨rfl, rfl⟩) (.inr ⟨_, _, _, rfl, rfl, by first | rfl | omega⟩) (by omega) (by omega)) (Wd.g rfl rfl rfl) rfl rfl (fun v104 rd104 => ?_)
        have bf_rd104 := bf_hm
        rw [List.drop_zero] at rd104
        obtain ⟨s104, rfl⟩ : ∃ s : SV, v104 = s.v := ⟨toSV v104, rd104.sv.symm⟩
        -- call selvage/selvagelaw3.sameRows
        refine LR.call rfl Tryd.call13 rfl (Wd.g rfl rfl rfl) rfl rfl (sameR_ct t52 s104 l52 (m.take k) w0 _ hw52.any rd104.any (fun x h => (hx52 x h).any) (fun x h => (hxm x (List.mem_of_mem_take h)).any)) (fun v105 H105 r105 => ?_)
        obtain ⟨rfl, hs105⟩ := r105
        replace mx := mx.nw hs105
        replace hl := hl.nw hs105
        replace hx := fun x hx0 => (hx x hx0).nw hs105
        replace hm := hm.nw hs105
        replace hxm := fun x hx_ => (hxm x hx_).nw hs105
        replace ow := ow.nw hs105
        replace hw23 := hw23.nw hs105
        replace hx23 := fun x hx_ => (hx23 x hx_).nw hs105
        replace rd49 := rd49.nw hs105
        replace hw52 := hw52.nw hs105
        replace hx52 := fun x hx_ => (hx52 x hx_).nw hs105
        replace rd104 := rd104.nw hs105
        replace hm0 := hm0.tr hs105
        have hz9 := hs105.size
        rw [hrl52, q2, decide_eq_true rfl]
        refine LR.v (Y.pick_t rfl rfl rfl) (Wd.u rfl) rfl rfl ?_
        refine LR.v (Y.assign rfl rfl) (Wd.u rfl) rfl rfl ?_
        refine LR.nil ?_
        refine hK22 _ _ ?_
        refine CW.ret (hret .ret (.inr rfl) _ _ _ (res1 rfl rfl) ?_)
        exact ⟨rfl, hm0⟩
    ·
      have hcp := cut_par (k := k) (j := j) hmm (by omega) (by rw [← recs_tk]; exact hka) (fun h => by omega) (by omega)
      rw [← recs_tk] at hcp
      obtain ⟨q1, q2, q3⟩ := hcp
      refine LR.gs rfl rfl rfl rfl rfl rfl ?_
      refine LR.gs rfl rfl rfl rfl rfl rfl ?_
      refine LR.gs rfl rfl rfl rfl rfl rfl ?_
      refine LR.gs rfl rfl rfl rfl rfl rfl ?_
      refine LR.gs rfl rfl rfl rfl rfl rfl ?_
      refine LR.gs rfl rfl rfl rfl rfl rfl ?_
      refine LR.gs rfl rfl rfl rfl rfl rfl ?_
      refine LR.gs rfl rfl rfl rfl rfl rfl ?_
      refine LR.gs rfl rfl rfl rfl rfl rfl ?_
      refine LR.gs rfl rfl rfl rfl rfl rfl ?_
      refine LR.gs rfl rfl rfl rfl rfl rfl ?_
      refine LR.v (Y.pick_f rfl rfl rfl) (Wd.u rfl) rfl rfl ?_
      refine LR.nil ?_
      refine hK19 _ _ ?_
      refine CW.cond_f rfl ?_
      refine CW.exit (hE18 (.exit 0) nofun _ _ (hE17 (.exit 0) nofun _ _ (hX16 _ _ ?_)))
      refine hK15 _ _ ?_
      refine CW.seq (fun K23 hK23 hE23 => ?_)
      refine CW.region ?_
      refine LR.v (Y.move rfl rfl) (Wd.u rfl) rfl rfl ?_
      refine LR.v ((Y.eql rfl rfl rfl).isT ((by rw [q1]; rfl))) (Wd.u rfl) rfl rfl ?_
      refine LR.v (Y.move rfl rfl) (Wd.u rfl) rfl rfl ?_
      refine LR.v (Y.move rfl rfl) (Wd.g rfl rfl rfl) rfl rfl ?_
      refine LR.v (Y.move rfl rfl) (Wd.g rfl rfl rfl) rfl rfl ?_
      refine LR.v ((Y.eql rfl rfl rfl).isT ((by rw [q3]))) (Wd.g rfl rfl rfl) rfl rfl ?_
      refine LR.v (Y.pick_t rfl rfl rfl) (Wd.u rfl) rfl rfl ?_
      refine LR.v (Y.move rfl rfl) (Wd.u rfl) rfl rfl ?_
      refine LR.v (Y.move rfl rfl) (Wd.g rfl rfl rfl) rfl rfl ?_
      refine LR.v (Y.move rfl rfl) (Wd.g rfl rfl rfl) rfl rfl ?_
      refine LR.v (Y.move rfl rfl) (Wd.g rfl rfl rfl) rfl rfl ?_
      refine LR.e (g := fun v => v) (Y.slice hm (0) (k) rfl Tryd.runUnderlying22 Tryd.sizeOf23 rfl (.inl ⟨rfl, rfl⟩) (.inr ⟨_, _, _, rfl, rfl, by first | rfl | omega⟩) (by omega) (by omega)) (Wd.g rfl rfl rfl) rfl rfl (fun v104 rd104 => ?_)
      have bf_rd104 := bf_hm
      rw [List.drop_zero] at rd104
      obtain ⟨s104, rfl⟩ : ∃ s : SV, v104 = s.v := ⟨toSV v104, rd104.sv.symm⟩
      -- call selvage/selvagelaw3.sameRows
      refine LR.call rfl Tryd.call13 rfl (Wd.g rfl rfl rfl) rfl rfl (sameR_ct t52 s104 l52 (m.take k) w0 _ hw52.any rd104.any (fun x h => (hx52 x h).any) (fun x h => (hxm x (List.mem_of_mem_take h)).any)) (fun v105 H105 r105 => ?_)
      obtain ⟨rfl, hs105⟩ := r105
      replace mx := mx.nw hs105
      replace hl := hl.nw hs105
      replace hx := fun x hx0 => (hx x hx0).nw hs105
      replace hm := hm.nw hs105
      replace hxm := fun x hx_ => (hxm x hx_).nw hs105
      replace ow := ow.nw hs105
      replace hw23 := hw23.nw hs105
      replace hx23 := fun x hx_ => (hx23 x hx_).nw hs105
      replace rd49 := rd49.nw hs105
      replace hw52 := hw52.nw hs105
      replace hx52 := fun x hx_ => (hx52 x hx_).nw hs105
      replace rd104 := rd104.nw hs105
      replace hm0 := hm0.tr hs105
      have hz10 := hs105.size
      rw [hrl52, q2, decide_eq_true rfl]
      refine LR.v (Y.pick_t rfl rfl rfl) (Wd.u rfl) rfl rfl ?_
      refine LR.v (Y.assign rfl rfl) (Wd.u rfl) rfl rfl ?_
      refine LR.nil ?_
      refine hK23 _ _ ?_
      refine CW.ret (hret .ret (.inr rfl) _ _ _ (res1 rfl rfl) ?_)
      exact ⟨rfl, hm0⟩

set_option maxHeartbeats 4000000 in
theorem walFull_ct (mx_ : Int) (ca : Int) (s0 : SV) (l : List (SV × Rec)) (w0 : World) (H0 : Heap)
    (mx : MX mx_ H0) (bf_mx : BF (fun b => b = 0) H0.size) (hl : RdT H0 fP 1 s0.v l) (hx : ∀ x ∈ l, RdT H0 fB 1 x.1.v x.2) (hca : -9223372036854775808 ≤ ca ∧ ca ≤ 9223372036854775807) :
    Ct Tryd.prog w0 5 #[.int .i64 ca, s0.v] H0 (fun r H2 => r = .bool true ∧ Nw H0 H2) := by
  refine Ct.enter (args := [.int .i64 ca, s0.v]) Tryd.func5 rfl rfl rfl ?_
  intro Q0 hret
  have hm0 : Nw H0 H0 := Mo.refl _ _
  replace hl := hl.bnd
  have bf_hl := hl.bf
  replace hx := fun x hx0 => (hx x hx0).bnd
  have bf_hx : BF (fun b => True ∧ b < H0.size) H0.size := fun b h => h.2
  refine CW.seq (fun K1 hK1 hE1 => ?_)
  refine CW.region ?_
  refine LR.v (Y.assign rfl rfl) (Wd.u rfl) rfl rfl ?_
  refine LR.nil ?_
  refine hK1 _ _ ?_
  refine CW.seq (fun K2 hK2 hE2 => ?_)
  refine CW.seq (fun K3 hK3 hE3 => ?_)
  refine CW.region ?_
  -- call selvage/selvagelaw3.known
  refine LR.call rfl Tryd.call7 rfl (Wd.u rfl) rfl rfl (known3_ct mx_ w0 _ mx bf_mx) (fun v17 H17 r17 => ?_)
  obtain ⟨rfl, hs17⟩ := r17
  replace mx := mx.nw hs17
  replace hl := hl.nw hs17
  replace hx := fun x hx0 => (hx x hx0).nw hs17
  replace hm0 := hm0.tr hs17
  have hz1 := hs17.size
  refine LR.v (Y.not rfl rfl) (Wd.u rfl) rfl rfl ?_
  refine LR.nil ?_
  refine hK3 _ _ ?_
  refine CW.cond_f rfl ?_
  refine CW.skip ?_
  refine hK2 _ _ ?_
  refine CW.seq (fun K4 hK4 hE4 => ?_)
  refine CW.region ?_
  refine LR.v (Y.move rfl rfl) (Wd.u rfl) rfl rfl ?_
  -- call selvage/selvagelaw3.few
  refine LR.call rfl Tryd.call8 rfl (Wd.u rfl) rfl rfl (few_ct s0 l w0 _ hl.any (fun x h => (hx x h).any)) (fun v20 H20 r20 => ?_)
  obtain ⟨t20, m, rfl, hrm, hm, hxm, hs20⟩ := r20
  replace mx := mx.nw hs20
  replace hl := hl.nw hs20
  replace hx := fun x hx0 => (hx x hx0).nw hs20
  replace hm0 := hm0.tr hs20
  have hz2 := hs20.size
  replace hm := hm.bnd
  have bf_hm := hm.bf
  replace hxm := fun x hx_ => (hxm x hx_).bnd
  have bf_hxm : BF (fun b => H17.size ≤ b ∧ b < H20.size) H20.size := fun b h => h.2
  have hfe := few_enc (recs l)
  have hfm : ∀ x ∈ m, x.2.length < 3000 := fun x h => few_mem (l := recs l) _ (by rw [← hrm]; exact List.mem_map_of_mem h)
  rw [← hrm] at hfe
  refine LR.v (Y.assign rfl rfl) (Wd.u rfl) rfl rfl ?_
  refine LR.nil ?_
  refine hK4 _ _ ?_
  refine CW.seq (fun K5 hK5 hE5 => ?_)
  refine CW.region ?_
  refine LR.v (Y.move rfl rfl) (Wd.u rfl) rfl rfl ?_
  -- call selvage/selvagelaw3.within
  refine LR.call rfl Tryd.call14 rfl (Wd.u rfl) rfl rfl (within3_ct ca 2000 w0 _ (by omega) hca) (fun v23 H23 r23 => ?_)
  obtain ⟨rfl, hs23⟩ := r23
  replace mx := mx.nw hs23
  replace hl := hl.nw hs23
  replace hx := fun x hx0 => (hx x hx0).nw hs23
  replace hm := hm.nw hs23
  replace hxm := fun x hx_ => (hxm x hx_).nw hs23
  replace hm0 := hm0.tr hs23
  have hz3 := hs23.size
  have hwc := wiN_lt (a := ca) (show 0 < 2000 by omega)
  obtain ⟨c, hc⟩ : ∃ c, c = 100 + wiN ca 2000 := ⟨_, rfl⟩
  refine LR.v (Y.cast (v2 := .int .i64 (c : Int)) (Y.addi rfl rfl rfl (by omega)) (ivv (by omega))) (Wd.u rfl) rfl rfl ?_
  -- call selvage/simfs.New
  refine LR.call rfl Tryd.call15 rfl (Wd.u rfl) rfl rfl (new_ct c 65536 w0 _ (by omega) (by decide)) (fun v25 H25 r25 => ?_)
  obtain ⟨Q25, g25, b25, rfl, hf, hkn25, hs25⟩ := r25
  have df1 := DFL.appK (DFL.nil) (bf_mx.mono hm0.size) hkn25
  have df2 := DFL.appK (DFL.nil) (bf_hl.mono hm0.size) hkn25
  have df3 := DFL.appK (DFL.nil) (bf_hx.mono hm0.size) hkn25
  have df4 := DFL.appK (DFL.nil) (bf_hm.mono (by omega)) hkn25
  have df5 := DFL.appK (DFL.nil) (bf_hxm.mono (by omega)) hkn25
  have nx6 : NxK [] H0.size Q25 := NxK.tr (NxK.refl [] _) hkn25 hm0.size
  replace mx := mx.nw hs25
  replace hl := hl.nw hs25
  replace hx := fun x hx0 => (hx x hx0).nw hs25
  replace hm := hm.nw hs25
  replace hxm := fun x hx_ => (hxm x hx_).nw hs25
  replace hm0 := hm0.tr hs25
  have hz4 := hs25.size
  have hbk_hf := hf.bk
  have hS25 := Bs.empty c 65536
  have hst := Fj.start (cap := c) (p := [106]) (by decide) (by decide) (by decide) (by omega)
  refine LR.v (Y.move rfl rfl) (Wd.u rfl) rfl rfl ?_
  refine LR.v (Y.extract rfl rfl rfl) (Wd.u rfl) rfl rfl ?_
  refine LR.v (Y.extract rfl rfl rfl) (Wd.u rfl) rfl rfl ?_
  refine LR.v (Y.assign rfl rfl) (Wd.u rfl) rfl rfl ?_
  refine LR.v (Y.assign rfl rfl) (Wd.u rfl) rfl rfl ?_
  refine LR.nil ?_
  refine hK5 _ _ ?_
  refine CW.seq (fun K6 hK6 hE6 => ?_)
  refine CW.seq (fun K7 hK7 hE7 => ?_)
  refine CW.region ?_
  refine LR.v (Y.move rfl rfl) (Wd.u rfl) rfl rfl ?_
  refine LR.v (Y.peq rfl (by kernel_rfl) (by kernel_rfl) rfl rfl) (Wd.u rfl) rfl rfl ?_
  refine LR.nil ?_
  refine hK7 _ _ ?_
  refine CW.cond_f rfl ?_
  refine CW.skip ?_
  refine hK6 _ _ ?_
  refine CW.seq (fun K8 hK8 hE8 => ?_)
  refine CW.region ?_
  refine LR.v (Y.move rfl rfl) (Wd.u rfl) rfl rfl ?_
  -- call selvage/wal.Open
  refine LR.call rfl Tryd.call16 rfl (Wd.u rfl) rfl rfl (wopen_ok mx_ Q25 g25 b25 (Dk.empty c 65536) [106] _ w0 _ hf mx (bf_mx.mono (by omega)) (df1) (by decide) hS25 (by decide) hst.1) (fun v32 H32 r32 => ?_)
  have ql7 := hf.bk
  obtain ⟨lb32, t32, l32, Q32, g32, G32, rfl, hf, hkd32, hlg, hkl32, dl232, hrl32, hw32, hx32, hGb32, hGf32, hGk32, hGl32, hs32⟩ := r32
  have df8 := DFL.appK (df1) (bf_mx.mono hm0.size) hkd32
  have df9 := DFL.appK (df2) (bf_hl.mono hm0.size) hkd32
  have df10 := DFL.appK (df3) (bf_hx.mono hm0.size) hkd32
  have df11 := DFL.appK (df4) (bf_hm.mono (by omega)) hkd32
  have df12 := DFL.appK (df5) (bf_hxm.mono (by omega)) hkd32
  have nx13 : NxK [] H0.size Q32 := NxK.tr (nx6) hkd32 hm0.size
  have df14 := DF.app (DF.z) (bf_mx.mono hm0.size) hkl32
  have df15 := DF.app (DF.z) (bf_hl.mono hm0.size) hkl32
  have df16 := DF.app (DF.z) (bf_hx.mono hm0.size) hkl32
  have df17 := DF.app (DF.z) (bf_hm.mono (by omega)) hkl32
  have df18 := DF.app (DF.z) (bf_hxm.mono (by omega)) hkl32
  have dj19 : DL (lb32 + 1) Q25 := DL.app2 (DL.zK) ql7 hkl32
  have nx20 : Nx 0 H0.size (lb32 + 1) := Nx.tr (Nx.refl 0 _) hkl32 hm0.size
  replace mx := mx.upL hs32 (df1)
  replace hl := hl.upL hs32 (df2)
  replace hx := fun x hx0 => (hx x hx0).upL hs32 (df3)
  replace hm := hm.upL hs32 (df4)
  replace hxm := fun x hx_ => (hxm x hx_).upL hs32 (df5)
  replace hm0 := (Mo.trL (ks := []) (hm0.mdn []) hs32 (MIL.ofK0 (nx6))).nil
  have hz5 := hs32.size
  have hbk_hf := hf.bk
  have hle_hlg := hlg.le
  have bf_hw32 := hGb32
  have bf_hx32 := hGb32
  have hS32 := bs_open hS25 [106]
  rw [hst.2.1] at hrl32
  have hl0 : l32.length = 0 := by have := congrArg List.length hrl32; simpa [recs] using this
  refine LR.v (Y.move rfl rfl) (Wd.u rfl) rfl rfl ?_
  refine LR.v (Y.extract rfl rfl rfl) (Wd.u rfl) rfl rfl ?_
  refine LR.v (Y.extract rfl rfl rfl) (Wd.u rfl) rfl rfl ?_
  refine LR.v (Y.extract rfl rfl rfl) (Wd.u rfl) rfl rfl ?_
  refine LR.v (Y.assign rfl rfl) (Wd.u rfl) rfl rfl ?_
  refine LR.v (Y.assign rfl rfl) (Wd.u rfl) rfl rfl ?_
  refine LR.v (Y.assign rfl rfl) (Wd.u rfl) rfl rfl ?_
  refine LR.nil ?_
  refine hK8 _ _ ?_
  refine CW.seq (fun K9 hK9 hE9 => ?_)
  refine CW.seq (fun K10 hK10 hE10 => ?_)
  refine CW.region ?_
  refine LR.v (Y.move rfl rfl) (Wd.u rfl) rfl rfl ?_
  refine LR.v ((Y.neq rfl rfl rfl).isF ((fun h => h rfl))) (Wd.u rfl) rfl rfl ?_
  refine LR.nil ?_
  refine hK10 _ _ ?_
  refine CW.cond_f rfl ?_
  refine CW.skip ?_
  refine hK9 _ _ ?_
  refine CW.seq (fun K11 hK11 hE11 => ?_)
  refine CW.region ?_
  refine LR.v (Y.assign rfl rfl) (Wd.u rfl) rfl rfl ?_
  refine LR.nil ?_
  refine hK11 _ _ ?_
  refine CW.seq (fun K12 hK12 hE12 => ?_)
  refine CW.seq (fun K13 hK13 hE13 => ?_)
  refine CW.region ?_
  refine LR.v (Y.assign rfl rfl) (Wd.u rfl) rfl rfl ?_
  refine LR.nil ?_
  refine hK13 _ _ ?_
  refine CW.block (fun K14 hK14 hX14 hE14 => ?_)
  refine CW.loop (fun (s_ : (Nat) × (List Nat) × (Gh) × (Dk) × (Bool) × (Value) × (Nat) × (List (SV × Rec))) => match s_ with | (i, Ki, gi, Di, br, vo, ko, hv) => [(1, t20.v), (5, ptr b25), (7, ptr lb32), (10, vo), (11, .int .i64 (i : Int))])
    (fun (s_ : (Nat) × (List Nat) × (Gh) × (Dk) × (Bool) × (Value) × (Nat) × (List (SV × Rec))) (H : Heap) => match s_ with | (i, Ki, gi, Di, br, vo, ko, hv) => (PDk Ki gi H b25 Di) ∧ (Var 65 H lb32 [ptr b25, Str [106], .int .i64 (hv.length : Int), .bool br]) ∧ (Ow ko 23 H fP 1 vo hv) ∧ (i ≤ m.length ∧ hv.length ≤ i) ∧ (∀ x ∈ hv, x ∈ m) ∧ (Fj c [106] (recs hv) br Di) ∧ (Bs (112 + i * 30000) Di) ∧ (NxK Q32 H32.size Ki) ∧ (Nx (lb32 + 1) H32.size ((lb32 + 1))) ∧ (Nx 0 H32.size ko) ∧ (DL ((lb32 + 1)) Ki) ∧ (DL ko Ki) ∧ (Dj ((lb32 + 1)) ko) ∧ Mo (Ms (Q32 ++ [(lb32 + 1)])) H32 H)
    (fun (s_ : (Nat) × (List Nat) × (Gh) × (Dk) × (Bool) × (Value) × (Nat) × (List (SV × Rec))) => match s_ with | (i, Ki, gi, Di, br, vo, ko, hv) => m.length - i) (0, Q32, g32, (openD (Dk.empty c 65536) [106]).2.2, false, .slice none 0 0, 0, []) ⟨rfl, rfl, rfl, rfl, rfl, trivial⟩ ?_ ?_
  ·
    exact ⟨hf, by rw [hl0] at hlg; exact hlg, Ow.nil fP_len fP_one, ⟨by omega, by simp⟩, (fun x h => by cases h), hst.2.2, hS32.mono (by omega), NxK.refl _ _, Nx.refl _ _, Nx.refl _ _, dl232, DL.zK, Dj.z, Mo.refl _ _⟩
  rintro ⟨i, Ki, gi, Di, br, vo, ko, hv⟩ HL1 hI1 K15 hN15 hE15
  obtain ⟨hf, hlg, ow, hi, hsub, hfj, hB, nxl_hf, nxl_hlg, nxl_ow, dj_hf_hlg, dj_hf_ow, dj_hlg_ow, hlm1⟩ := hI1
  have df21 := DFL.appK (df8) (bf_mx.mono hm0.size) nxl_hf
  have df22 := DFL.appK (df9) (bf_hl.mono hm0.size) nxl_hf
  have df23 := DFL.appK (df10) (bf_hx.mono hm0.size) nxl_hf
  have df24 := DFL.appK (df11) (bf_hm.mono (by omega)) nxl_hf
  have df25 := DFL.appK (df12) (bf_hxm.mono (by omega)) nxl_hf
  have df26 := DFL.appK (hGk32) (bf_hw32.mono (by omega)) nxl_hf
  have df27 := DFL.appK (hGk32) (bf_hx32.mono (by omega)) nxl_hf
  have nx28 : NxK [] H0.size Ki := NxK.tr (nx13) nxl_hf hm0.size
  have df29 := DF.app (df14) (bf_mx.mono hm0.size) nxl_hlg
  have df30 := DF.app (df15) (bf_hl.mono hm0.size) nxl_hlg
  have df31 := DF.app (df16) (bf_hx.mono hm0.size) nxl_hlg
  have df32 := DF.app (df17) (bf_hm.mono (by omega)) nxl_hlg
  have df33 := DF.app (df18) (bf_hxm.mono (by omega)) nxl_hlg
  have df34 := DF.app (hGl32) (bf_hw32.mono (by omega)) nxl_hlg
  have df35 := DF.app (hGl32) (bf_hx32.mono (by omega)) nxl_hlg
  have nx36 : Nx 0 H0.size ((lb32 + 1)) := Nx.tr (nx20) nxl_hlg hm0.size
  have df37 := DF.app (DF.z) (bf_mx.mono hm0.size) nxl_ow
  have df38 := DF.app (DF.z) (bf_hl.mono hm0.size) nxl_ow
  have df39 := DF.app (DF.z) (bf_hx.mono hm0.size) nxl_ow
  have df40 := DF.app (DF.z) (bf_hm.mono (by omega)) nxl_ow
  have df41 := DF.app (DF.z) (bf_hxm.mono (by omega)) nxl_ow
  have df42 := DF.app (DF.z) (bf_hw32.mono (by omega)) nxl_ow
  have df43 := DF.app (DF.z) (bf_hx32.mono (by omega)) nxl_ow
  have nx44 : Nx 0 H0.size ko := Nx.tr (Nx.refl 0 _) nxl_ow hm0.size
  replace mx := mx.upL hlm1 (DFL.app df8 (DFL.cons df14 DFL.nil))
  replace hl := hl.upL hlm1 (DFL.app df9 (DFL.cons df15 DFL.nil))
  replace hx := fun x hx0 => (hx x hx0).upL hlm1 (DFL.app df10 (DFL.cons df16 DFL.nil))
  replace hm := hm.upL hlm1 (DFL.app df11 (DFL.cons df17 DFL.nil))
  replace hxm := fun x hx_ => (hxm x hx_).upL hlm1 (DFL.app df12 (DFL.cons df18 DFL.nil))
  replace hw32 := hw32.upL hlm1 (DFL.app hGk32 (DFL.cons hGl32 DFL.nil))
  replace hx32 := fun x hx_ => (hx32 x hx_).upL hlm1 (DFL.app hGk32 (DFL.cons hGl32 DFL.nil))
  replace hm0 := (Mo.trL (ks := []) (hm0.mdn []) hlm1 (MIL.app (MIL.ofK0 (nx13)) (MIL.cons (MI.app MI.z (nx20) (Nat.le_refl _)) MIL.nil))).nil
  have hz6 := hlm1.size
  have hbk_hf := hf.bk
  have hle_hlg := hlg.le
  have hle_ow := ow.le
  have dj45 := dj_hf_hlg
  have dj46 := dj_hf_ow
  have dj47 := dj_hlg_ow
  have nx48 := nxl_hf
  have nx49 := nxl_hlg
  have nx50 := nxl_ow
  have hml : m.length ≤ 20 := by have h1 := few_len (recs l); rw [← hrm] at h1; simpa [recs] using h1
  have hvl : (recs hv).length = hv.length := by simp [recs]
  have hvm : ∀ r ∈ recs hv, r.length ≤ 1048576 := fun r h => by obtain ⟨x, hx1, rfl⟩ := List.mem_map.1 h; have := hfm x (hsub x hx1); omega
  obtain ⟨p1, p2, p3, p4⟩ := hfj.parse (by decide) hvm
  refine CW.seq (fun K16 hK16 hE16 => ?_)
  refine CW.seq (fun K17 hK17 hE17 => ?_)
  refine CW.region ?_
  refine LR.v (Y.move rfl rfl) (Wd.u rfl) rfl rfl ?_
  refine LR.v (Y.move rfl rfl) (Wd.u rfl) rfl rfl ?_
  refine LR.v (Y.len hm rfl Tryd.runUnderlying22 rfl) (Wd.u rfl) rfl rfl ?_
  refine LR.v (Y.lss rfl rfl rfl) (Wd.u rfl) rfl rfl ?_
  refine LR.nil ?_
  refine hK17 _ _ ?_
  refine CW.condp rfl (fun c41 => ?_) (fun c41 => ?_)
  ·
    have hil : i < m.length := by omega
    have hxi := hxm m[i] (List.getElem_mem hil)
    have hri := hfm m[i] (List.getElem_mem hil)
    refine CW.skip ?_
    refine hK16 _ _ ?_
    refine CW.seq (fun K18 hK18 hE18 => ?_)
    refine CW.block (fun K19 hK19 hX19 hE19 => ?_)
    refine CW.seq (fun K20 hK20 hE20 => ?_)
    refine CW.region ?_
    refine LR.v (Y.move rfl rfl) (Wd.u rfl) rfl rfl ?_
    refine LR.v (Y.move rfl rfl) (Wd.u rfl) rfl rfl ?_
    refine LR.v (Y.move rfl rfl) (Wd.u rfl) rfl rfl ?_
    refine LR.e (g := fun ad => .pointer (some ad)) (Y.indexAddrF hm (i) rfl Tryd.runUnderlying22 Tryd.sizeOf23 rfl rfl (by first | rfl | omega) (by first | omega | (simp; omega) | (simp; done))) (Wd.u rfl) rfl rfl (fun ad47 pt47 => ?_)
    have bf_pt47 := bf_hm
    refine LR.v (Y.load1 pt47.pt rfl Tryd.isAgg23 rfl) (Wd.u rfl) rfl rfl ?_
    -- call (*selvage/wal.Log).Append
    refine LR.call rfl Tryd.call17 rfl (Wd.u rfl) rfl rfl (wapp_ct mx_ Ki gi b25 Di lb32 [106] hv.length br m[i].1 m[i].2 _ _ w0 _ hf mx (bf_mx.mono (by omega)) (df21) hlg (dj45) (df29) hxi (bf_hxm.mono (by omega)) (df25) (df33) (by omega) (by decide) hB (by omega) (by omega)) (fun v49 H49 r49 => ?_)
    have ql51 := hf.bk
    have ql52 := hlg.le
    have ql53 := ow.le
    obtain ⟨Q49, g49, rfl, hf, hkd49, hlg, dl249, hs49⟩ := r49
    have df54 := DFL.appK (df21) (bf_mx.mono hm0.size) hkd49
    have df55 := DFL.appK (df22) (bf_hl.mono hm0.size) hkd49
    have df56 := DFL.appK (df23) (bf_hx.mono hm0.size) hkd49
    have df57 := DFL.appK (df24) (bf_hm.mono (by omega)) hkd49
    have df58 := DFL.appK (df25) (bf_hxm.mono (by omega)) hkd49
    have df59 := DFL.appK (df26) (bf_hw32.mono (by omega)) hkd49
    have df60 := DFL.appK (df27) (bf_hx32.mono (by omega)) hkd49
    have dj61 : DL ((lb32 + 1)) Q49 := DL.appK (dj45) ql52 hkd49
    have dj62 : DL ko Q49 := DL.appK (dj46) ql53 hkd49
    have df63 := DFL.appK (df24) (bf_pt47.mono (by omega)) hkd49
    have nx64 : NxK [] H0.size Q49 := NxK.tr (nx28) hkd49 hm0.size
    have nx65 : NxK Q32 H32.size Q49 := NxK.tr (nx48) hkd49 hlm1.size
    replace mx := mx.upL hs49 (DFL.app df21 (DFL.cons df29 DFL.nil))
    replace hl := hl.upL hs49 (DFL.app df22 (DFL.cons df30 DFL.nil))
    replace hx := fun x hx0 => (hx x hx0).upL hs49 (DFL.app df23 (DFL.cons df31 DFL.nil))
    replace hm := hm.upL hs49 (DFL.app df24 (DFL.cons df32 DFL.nil))
    replace hxm := fun x hx_ => (hxm x hx_).upL hs49 (DFL.app df25 (DFL.cons df33 DFL.nil))
    replace hw32 := hw32.upL hs49 (DFL.app df26 (DFL.cons df34 DFL.nil))
    replace hx32 := fun x hx_ => (hx32 x hx_).upL hs49 (DFL.app df27 (DFL.cons df35 DFL.nil))
    replace ow := ow.upL hs49 (DL.app dj46 (DL.cons dj47.symm DL.nil))
    replace pt47 := pt47.upL hs49 (DFL.app df24 (DFL.cons df32 DFL.nil))
    replace hm0 := (Mo.trL (ks := []) (hm0.mdn []) hs49 (MIL.app (MIL.ofK0 (nx28)) (MIL.cons (MI.app MI.z (nx36) (Nat.le_refl _)) MIL.nil))).nil
    replace hlm1 := hlm1.trL hs49 (MIL.app (MIL.ofK (nx48) (by intro k hk; simp [hk])) (MIL.cons (MI.app (MI.root (by simp)) (nx49) (Nat.le_refl _)) MIL.nil))
    have hz7 := hs49.size
    have hbk_hf := hf.bk
    have hst_ := hfj.step (r := m[i].2) (by decide) (by decide) (by decide) hvm (by omega) (by omega) (by omega)
    rw [hvl] at hst_
    have hB2 := bs_app2 hB [106] hv.length br m[i].2 (M := 4008) (by omega)
    refine LR.v (Y.assign rfl rfl) (Wd.u rfl) rfl rfl ?_
    refine LR.nil ?_
    refine hK20 _ _ ?_
    refine CW.seq (fun K21 hK21 hE21 => ?_)
    refine CW.seq (fun K22 hK22 hE22 => ?_)
    refine CW.region ?_
    refine LR.v (Y.move rfl rfl) (Wd.u rfl) rfl rfl ?_
    refine LR.v (Y.eql rfl rfl rfl) (Wd.u rfl) rfl rfl ?_
    refine LR.nil ?_
    refine hK22 _ _ ?_
    refine CW.condp rfl (fun c51 => ?_) (fun c51 => ?_)
    ·
      obtain ⟨a1, a2, a3⟩ := hst_.resolve_right (fun h => by omega)
      have hcnt : (appD Di [106] hv.length br m[i].2).2.1 = (hv ++ [m[i]]).length := by rw [a2]; simp
      refine CW.region ?_
      refine LR.v (Y.move rfl rfl) (Wd.u rfl) rfl rfl ?_
      refine LR.v (Y.move rfl rfl) (Wd.u rfl) rfl rfl ?_
      refine LR.v (Y.move rfl rfl) (Wd.u rfl) rfl rfl ?_
      refine LR.e (g := fun ad => .pointer (some ad)) (Y.indexAddrF hm (i) rfl Tryd.runUnderlying22 Tryd.sizeOf23 rfl rfl (by first | rfl | omega) (by first | omega | (simp; omega) | (simp; done))) (Wd.u rfl) rfl rfl (fun ad55 pt55 => ?_)
      have bf_pt55 := bf_hm
      refine LR.v (Y.load1 pt55.pt rfl Tryd.isAgg23 rfl) (Wd.u rfl) rfl rfl ?_
      refine LR.z (Z.litw _ ([m[i]]) rfl inf22 rfl rfl rfl (by decide) (by decide) fP_len fP_one (rfl)) (Wd.u rfl) rfl rfl (fun v57 H57 r57 => ?_)
      obtain ⟨nw57, hs57, ob57, hH57⟩ := r57
      have hzs57 : H57.size = H49.size + 1 := by rw [hH57]; simp
      have df66 := (DF.new (bf_mx.mono hm0.size) : DF _ (H49.size + 1))
      have df67 := (DF.new (bf_hl.mono hm0.size) : DF _ (H49.size + 1))
      have df68 := (DF.new (bf_hx.mono hm0.size) : DF _ (H49.size + 1))
      have df69 := (DF.new (bf_hm.mono (by omega)) : DF _ (H49.size + 1))
      have df70 := (DF.new (bf_hxm.mono (by omega)) : DF _ (H49.size + 1))
      have df71 := (DF.new (bf_hw32.mono (by omega)) : DF _ (H49.size + 1))
      have df72 := (DF.new (bf_hx32.mono (by omega)) : DF _ (H49.size + 1))
      have dj73 : DL (H49.size + 1) Q49 := DL.newK hf.bk
      have dj74 : Dj ((lb32 + 1)) (H49.size + 1) := Dj.new hlg.le
      have dj75 : Dj ko (H49.size + 1) := Dj.new ow.le
      have df76 := (DF.new (bf_pt55.mono (by omega)) : DF _ (H49.size + 1))
      have nx77 : Nx 0 H0.size (H49.size + 1) := Nx.new hm0.size
      have nx78 : Nx 0 H32.size (H49.size + 1) := Nx.new hlm1.size
      replace mx := mx.nw hs57
      replace hl := hl.nw hs57
      replace hx := fun x hx0 => (hx x hx0).nw hs57
      replace hm := hm.nw hs57
      replace hxm := fun x hx_ => (hxm x hx_).nw hs57
      replace hw32 := hw32.nw hs57
      replace hx32 := fun x hx_ => (hx32 x hx_).nw hs57
      replace hf := hf.nw hs57
      replace hlg := hlg.nw hs57
      replace ow := ow.nw hs57
      replace pt55 := pt55.nw hs57
      replace hm0 := hm0.tr hs57
      replace hlm1 := hlm1.trN hs57
      have hz8 := hs57.size
      refine LR.z (Z.apnd ow nw57.rd rfl inf22 rfl rfl (by simp only [List.length_singleton]; omega) (by simp only [List.length_singleton]; omega)) (Wd.u rfl) rfl rfl (fun v58 H58 r58 => ?_)
      obtain ⟨k58, ow, hk58, hs58⟩ := r58
      replace hk58 : Nx ko H57.size k58 := hk58
      replace hs58 := hs58.md
      have df79 := DF.app (df37) (bf_mx.mono hm0.size) hk58
      have df80 := DF.app (df38) (bf_hl.mono hm0.size) hk58
      have df81 := DF.app (df39) (bf_hx.mono hm0.size) hk58
      have df82 := DF.app (df40) (bf_hm.mono (by omega)) hk58
      have df83 := DF.app (df41) (bf_hxm.mono (by omega)) hk58
      have df84 := DF.app (df42) (bf_hw32.mono (by omega)) hk58
      have df85 := DF.app (df43) (bf_hx32.mono (by omega)) hk58
      have dj86 : DL k58 Q49 := DL.app2 (dj62) hf.bk hk58
      have dj87 : Dj ((lb32 + 1)) k58 := Dj.app (dj47) hlg.le hk58
      have df88 := DF.app (df40) (bf_pt55.mono (by omega)) hk58
      have dj89 : Dj (H49.size + 1) k58 := Dj.app (dj75.symm) nw57.le hk58
      have nx90 : Nx 0 H0.size k58 := Nx.tr (nx44) hk58 hm0.size
      have nx91 : Nx 0 H32.size k58 := Nx.tr (nx50) hk58 hlm1.size
      replace mx := mx.upL hs58 (DFL.cons df37 DFL.nil)
      replace hl := hl.upL hs58 (DFL.cons df38 DFL.nil)
      replace hx := fun x hx0 => (hx x hx0).upL hs58 (DFL.cons df39 DFL.nil)
      replace hm := hm.upL hs58 (DFL.cons df40 DFL.nil)
      replace hxm := fun x hx_ => (hxm x hx_).upL hs58 (DFL.cons df41 DFL.nil)
      replace hw32 := hw32.upL hs58 (DFL.cons df42 DFL.nil)
      replace hx32 := fun x hx_ => (hx32 x hx_).upL hs58 (DFL.cons df43 DFL.nil)
      replace hf := hf.upL hs58 (DKL.cons dj62 DKL.nil)
      replace hlg := hlg.upL hs58 (DL.cons dj47 DL.nil)
      replace pt55 := pt55.upL hs58 (DFL.cons df40 DFL.nil)
      replace nw57 := nw57.upL hs58 (DL.cons dj75.symm DL.nil)
      replace hm0 := (Mo.trL (ks := []) (hm0.mdn []) hs58 (MIL.cons (MI.app MI.z (nx44) (Nat.le_refl _)) MIL.nil)).nil
      replace hlm1 := hlm1.trL hs58 (MIL.cons (MI.app MI.z (nx50) (Nat.le_refl _)) MIL.nil)
      have hz9 := hs58.size
      have hle_ow := ow.le
      refine LR.v (Y.assign rfl rfl) (Wd.u rfl) rfl rfl ?_
      refine LR.nil ?_
      refine hK21 _ _ ?_
      refine CW.seq (fun K23 hK23 hE23 => ?_)
      refine CW.region ?_
      refine LR.v (Y.move rfl rfl) (Wd.u rfl) rfl rfl ?_
      -- call (*selvage/wal.Log).Count
      refine LR.call rfl Tryd.call18 rfl (Wd.u rfl) rfl rfl (count_ct lb32 _ _ _ _ w0 _ hlg) (fun v62 H62 r62 => ?_)
      obtain ⟨rfl, hs62⟩ := r62
      replace mx := mx.nw hs62
      replace hl := hl.nw hs62
      replace hx := fun x hx0 => (hx x hx0).nw hs62
      replace hm := hm.nw hs62
      replace hxm := fun x hx_ => (hxm x hx_).nw hs62
      replace hw32 := hw32.nw hs62
      replace hx32 := fun x hx_ => (hx32 x hx_).nw hs62
      replace hf := hf.nw hs62
      replace hlg := hlg.nw hs62
      replace ow := ow.nw hs62
      replace hm0 := hm0.tr hs62
      replace hlm1 := hlm1.trN hs62
      have hz10 := hs62.size
      refine LR.v (Y.move rfl rfl) (Wd.u rfl) rfl rfl ?_
      refine LR.v (Y.len ow.rd rfl Tryd.runUnderlying22 rfl) (Wd.u rfl) rfl rfl ?_
      refine LR.v ((Y.neq rfl rfl rfl).isF ((fun h => h (by rw [hcnt])))) (Wd.u rfl) rfl rfl ?_
      refine LR.nil ?_
      refine hK23 _ _ ?_
      refine CW.cond_f rfl ?_
      refine CW.skip ?_
      refine hK19 _ _ ?_
      refine hK18 _ _ ?_
      refine CW.region ?_
      refine LR.v (Y.move rfl rfl) (Wd.u rfl) rfl rfl ?_
      refine LR.v (Y.addi rfl rfl rfl (by omega)) (Wd.u rfl) rfl rfl ?_
      refine LR.v (Y.assign rfl rfl) (Wd.u rfl) rfl rfl ?_
      refine LR.nil ?_
      refine QN.sub (hN15 (i + 1, Q49, g49, (appD Di [106] hv.length br m[i].2).2.2.2, (appD Di [106] hv.length br m[i].2).2.2.1, v58, k58, hv ++ [m[i]]) _ ?_ ?_) ⟨rfl, rfl, rfl, rfl, (iv (by omega)), trivial⟩
      · exact ⟨hf, by rw [hcnt] at hlg; exact hlg, ow, ⟨by omega, by simp; omega⟩, (fun x h => by rcases List.mem_append.1 h with h | h; exact hsub x h; rw [List.mem_singleton.1 h]; exact List.getElem_mem _), by unfold recs; rw [List.map_append]; exact a3, hB2.mono (by omega), nx65, nx49, nx91, dl249, dj86, dj87, hlm1⟩
      · first | omega | (simp only; omega) | (simp; omega)
    ·
      obtain ⟨a1, a2, a3⟩ := hst_.resolve_left (fun h => by omega)
      have hcnt : (appD Di [106] hv.length br m[i].2).2.1 = hv.length := a2
      refine CW.seq (fun K24 hK24 hE24 => ?_)
      refine CW.region ?_
      refine LR.v (Y.move rfl rfl) (Wd.u rfl) rfl rfl ?_
      refine LR.v ((Y.neq rfl rfl rfl).isF ((fun h => h (by omega)))) (Wd.u rfl) rfl rfl ?_
      refine LR.nil ?_
      refine hK24 _ _ ?_
      refine CW.cond_f rfl ?_
      refine CW.skip ?_
      refine hK21 _ _ ?_
      refine CW.seq (fun K25 hK25 hE25 => ?_)
      refine CW.region ?_
      refine LR.v (Y.move rfl rfl) (Wd.u rfl) rfl rfl ?_
      -- call (*selvage/wal.Log).Count
      refine LR.call rfl Tryd.call18 rfl (Wd.u rfl) rfl rfl (count_ct lb32 _ _ _ _ w0 _ hlg) (fun v62 H62 r62 => ?_)
      obtain ⟨rfl, hs62⟩ := r62
      replace mx := mx.nw hs62
      replace hl := hl.nw hs62
      replace hx := fun x hx0 => (hx x hx0).nw hs62
      replace hm := hm.nw hs62
      replace hxm := fun x hx_ => (hxm x hx_).nw hs62
      replace hw32 := hw32.nw hs62
      replace hx32 := fun x hx_ => (hx32 x hx_).nw hs62
      replace hf := hf.nw hs62
      replace hlg := hlg.nw hs62
      replace ow := ow.nw hs62
      replace hm0 := hm0.tr hs62
      replace hlm1 := hlm1.trN hs62
      have hz11 := hs62.size
      refine LR.v (Y.move rfl rfl) (Wd.u rfl) rfl rfl ?_
      refine LR.v (Y.len ow.rd rfl Tryd.runUnderlying22 rfl) (Wd.u rfl) rfl rfl ?_
      refine LR.v ((Y.neq rfl rfl rfl).isF ((fun h => h (by rw [hcnt])))) (Wd.u rfl) rfl rfl ?_
      refine LR.nil ?_
      refine hK25 _ _ ?_
      refine CW.cond_f rfl ?_
      refine CW.skip ?_
      refine hK19 _ _ ?_
      refine hK18 _ _ ?_
      refine CW.region ?_
      refine LR.v (Y.move rfl rfl) (Wd.u rfl) rfl rfl ?_
      refine LR.v (Y.addi rfl rfl rfl (by omega)) (Wd.u rfl) rfl rfl ?_
      refine LR.v (Y.assign rfl rfl) (Wd.u rfl) rfl rfl ?_
      refine LR.nil ?_
      refine QN.sub (hN15 (i + 1, Q49, g49, (appD Di [106] hv.length br m[i].2).2.2.2, (appD Di [106] hv.length br m[i].2).2.2.1, vo, ko, hv) _ ?_ ?_) ⟨rfl, rfl, rfl, rfl, (iv (by omega)), trivial⟩
      · exact ⟨hf, by rw [hcnt] at hlg; exact hlg, ow, ⟨by omega, by omega⟩, hsub, a3, hB2.mono (by omega), nx65, nx49, nx50, dl249, dj62, dj47, hlm1⟩
      · first | omega | (simp only; omega) | (simp; omega)
  ·
    obtain ⟨so, rfl⟩ : ∃ s : SV, vo = s.v := ⟨toSV vo, ow.sv.symm⟩
    refine CW.exit (hE16 (.exit 0) nofun _ _ (hE15 (.exit 0) nofun _ _ (hX14 _ _ ?_)))
    refine hK12 _ _ ?_
    refine CW.seq (fun K26 hK26 hE26 => ?_)
    refine CW.region ?_
    refine LR.v (Y.move rfl rfl) (Wd.u rfl) rfl rfl ?_
    -- call (*selvage/simfs.FS).Read
    refine LR.call rfl Tryd.call19 rfl (Wd.u rfl) rfl rfl (read_ct mx_ Ki gi b25 Di [106] w0 _ mx (bf_mx.mono (by omega)) hf (by decide) (fun q => by have := (hB.f q).1; omega)) (fun v68 H68 r68 => ?_)
    obtain ⟨s68, k68, rfl, ow68, hk68, hs68⟩ := r68
    have df92 := DF.app (DF.z) (bf_mx.mono hm0.size) hk68
    have df93 := DF.app (DF.z) (bf_hl.mono hm0.size) hk68
    have df94 := DF.app (DF.z) (bf_hx.mono hm0.size) hk68
    have df95 := DF.app (DF.z) (bf_hm.mono (by omega)) hk68
    have df96 := DF.app (DF.z) (bf_hxm.mono (by omega)) hk68
    have df97 := DF.app (DF.z) (bf_hw32.mono (by omega)) hk68
    have df98 := DF.app (DF.z) (bf_hx32.mono (by omega)) hk68
    have dj99 : DL k68 Ki := DL.app2 (DL.zK) hf.bk hk68
    have dj100 : Dj ((lb32 + 1)) k68 := Dj.app (Dj.z) hlg.le hk68
    have dj101 : Dj ko k68 := Dj.app (Dj.z) ow.le hk68
    have nx102 : Nx 0 H0.size k68 := Nx.tr (Nx.refl 0 _) hk68 hm0.size
    replace mx := mx.nw hs68
    replace hl := hl.nw hs68
    replace hx := fun x hx0 => (hx x hx0).nw hs68
    replace hm := hm.nw hs68
    replace hxm := fun x hx_ => (hxm x hx_).nw hs68
    replace hw32 := hw32.nw hs68
    replace hx32 := fun x hx_ => (hx32 x hx_).nw hs68
    replace hf := hf.nw hs68
    replace hlg := hlg.nw hs68
    replace ow := ow.nw hs68
    replace hm0 := hm0.tr hs68
    have hz12 := hs68.size
    have hle_ow68 := ow68.le
    refine LR.v (Y.move rfl rfl) (Wd.u rfl) rfl rfl ?_
    refine LR.v (Y.extract rfl rfl rfl) (Wd.u rfl) rfl rfl ?_
    refine LR.v (Y.extract rfl rfl rfl) (Wd.u rfl) rfl rfl ?_
    refine LR.v (Y.assign rfl rfl) (Wd.u rfl) rfl rfl ?_
    refine LR.v (Y.assign rfl rfl) (Wd.u rfl) rfl rfl ?_
    refine LR.nil ?_
    refine hK26 _ _ ?_
    refine CW.seq (fun K27 hK27 hE27 => ?_)
    refine CW.region ?_
    refine LR.v (Y.move rfl rfl) (Wd.u rfl) rfl rfl ?_
    -- call selvage/wal.Parse
    refine LR.call rfl Tryd.call9 rfl (Wd.u rfl) rfl rfl (parse_ct s68 (Di.readL [106]) w0 _ ow68.rd.any (by omega)) (fun v73 H73 r73 => ?_)
    obtain ⟨t73, l73, rfl, hrl73, hw73, hx73, hs73⟩ := r73
    replace mx := mx.nw hs73
    replace hl := hl.nw hs73
    replace hx := fun x hx0 => (hx x hx0).nw hs73
    replace hm := hm.nw hs73
    replace hxm := fun x hx_ => (hxm x hx_).nw hs73
    replace hw32 := hw32.nw hs73
    replace hx32 := fun x hx_ => (hx32 x hx_).nw hs73
    replace hf := hf.nw hs73
    replace hlg := hlg.nw hs73
    replace ow := ow.nw hs73
    replace ow68 := ow68.nw hs73
    replace hm0 := hm0.tr hs73
    have hz13 := hs73.size
    replace hw73 := hw73.bnd
    have bf_hw73 := hw73.bf
    have df103 : DFL (fun b => H68.size ≤ b ∧ b < H73.size) Ki := DFL.above (fun b h => h.1) (by first | exact hbk_hf | exact fun k hk => Nat.le_trans (hbk_hf k hk) (by omega) | assumption)
    have df104 : DF (fun b => H68.size ≤ b ∧ b < H73.size) ((lb32 + 1)) := DF.above (fun b h => h.1) (by first | exact hle_hlg | exact hlt_hlg | omega)
    have df105 : DF (fun b => H68.size ≤ b ∧ b < H73.size) ko := DF.above (fun b h => h.1) (by first | exact hle_ow | exact hlt_ow | omega)
    have df106 : DF (fun b => H68.size ≤ b ∧ b < H73.size) k68 := DF.above (fun b h => h.1) (by first | exact hle_ow68 | exact hlt_ow68 | omega)
    replace hx73 := fun x hx_ => (hx73 x hx_).bnd
    have bf_hx73 : BF (fun b => H68.size ≤ b ∧ b < H73.size) H73.size := fun b h => h.2
    have df107 : DFL (fun b => H68.size ≤ b ∧ b < H73.size) Ki := DFL.above (fun b h => h.1) (by first | exact hbk_hf | exact fun k hk => Nat.le_trans (hbk_hf k hk) (by omega) | assumption)
    have df108 : DF (fun b => H68.size ≤ b ∧ b < H73.size) ((lb32 + 1)) := DF.above (fun b h => h.1) (by first | exact hle_hlg | exact hlt_hlg | omega)
    have df109 : DF (fun b => H68.size ≤ b ∧ b < H73.size) ko := DF.above (fun b h => h.1) (by first | exact hle_ow | exact hlt_ow | omega)
    have df110 : DF (fun b => H68.size ≤ b ∧ b < H73.size) k68 := DF.above (fun b h => h.1) (by first | exact hle_ow68 | exact hlt_ow68 | omega)
    refine LR.v (Y.move rfl rfl) (Wd.u rfl) rfl rfl ?_
    refine LR.v (Y.extract rfl rfl rfl) (Wd.u rfl) rfl rfl ?_
    refine LR.v (Y.extract rfl rfl rfl) (Wd.u rfl) rfl rfl ?_
    refine LR.v (Y.extract rfl rfl rfl) (Wd.u rfl) rfl rfl ?_
    refine LR.v (Y.assign rfl rfl) (Wd.u rfl) rfl rfl ?_
    refine LR.v (Y.assign rfl rfl) (Wd.u rfl) rfl rfl ?_
    refine LR.v (Y.assign rfl rfl) (Wd.u rfl) rfl rfl ?_
    refine LR.nil ?_
    refine hK27 _ _ ?_
    refine CW.seq (fun K28 hK28 hE28 => ?_)
    refine CW.region ?_
    refine LR.v (Y.move rfl rfl) (Wd.u rfl) rfl rfl ?_
    refine LR.v ((Y.eql rfl rfl rfl).isT ((by rw [p1]; rfl))) (Wd.u rfl) rfl rfl ?_
    refine LR.v (Y.move rfl rfl) (Wd.u rfl) rfl rfl ?_
    refine LR.v (Y.move rfl rfl) (Wd.g rfl rfl rfl) rfl rfl ?_
    refine LR.v ((Y.eql rfl rfl rfl).isT ((by rw [p2]; rfl))) (Wd.g rfl rfl rfl) rfl rfl ?_
    refine LR.v (Y.pick_t rfl rfl rfl) (Wd.u rfl) rfl rfl ?_
    refine LR.v (Y.move rfl rfl) (Wd.u rfl) rfl rfl ?_
    refine LR.v (Y.move rfl rfl) (Wd.g rfl rfl rfl) rfl rfl ?_
    refine LR.v (Y.move rfl rfl) (Wd.g rfl rfl rfl) rfl rfl ?_
    -- call selvage/selvagelaw3.sameRows
    refine LR.call rfl Tryd.call13 rfl (Wd.g rfl rfl rfl) rfl rfl (sameR_ct t73 so l73 hv w0 _ hw73.any ow.rd.any (fun x h => (hx73 x h).any) (fun x h => (hxm x (hsub x h)).any)) (fun v86 H86 r86 => ?_)
    obtain ⟨rfl, hs86⟩ := r86
    replace mx := mx.nw hs86
    replace hl := hl.nw hs86
    replace hx := fun x hx0 => (hx x hx0).nw hs86
    replace hm := hm.nw hs86
    replace hxm := fun x hx_ => (hxm x hx_).nw hs86
    replace hw32 := hw32.nw hs86
    replace hx32 := fun x hx_ => (hx32 x hx_).nw hs86
    replace hf := hf.nw hs86
    replace hlg := hlg.nw hs86
    replace ow := ow.nw hs86
    replace ow68 := ow68.nw hs86
    replace hw73 := hw73.nw hs86
    replace hx73 := fun x hx_ => (hx73 x hx_).nw hs86
    replace hm0 := hm0.tr hs86
    have hz14 := hs86.size
    rw [hrl73, p3, decide_eq_true rfl]
    refine LR.v (Y.pick_t rfl rfl rfl) (Wd.u rfl) rfl rfl ?_
    refine LR.v (Y.assign rfl rfl) (Wd.u rfl) rfl rfl ?_
    refine LR.nil ?_
    refine hK28 _ _ ?_
    refine CW.ret (hret .ret (.inr rfl) _ _ _ (res1 rfl rfl) ?_)
    exact ⟨rfl, hm0⟩

end Go.Proofs.YtdliddjkacbggaaDoor.WalL
/-
  How the arguments of a statement read, with what their reach says of their sizes: no condition.
-/
namespace Go.Proofs.YtdliddjkacbggaaDoor.E
set_option linter.unusedVariables false
set_option linter.unusedSimpArgs false
set_option linter.unusedSectionVars false
open Go.ChangeShapes Go.WideShapes Go.ChangeAt Go.RowKit Go.Deep
section
variable {H : Type} {enc : TypeId × Value → H} {P : Program} {W : World} {base : Nat} {sp : Nat → Bool} {held : Bool}
theorem mem_weightsAll {e : TypeId} {d : DataW H} : ∀ {ds : List (DataW H)}, d ∈ ds → ∀ n ∈ d.weights P e, n ∈ DataW.weightsAll P e ds
  | x :: ds, h, n, hn => by
    simp only [DataW.weightsAll, List.mem_append]
    rcases List.mem_cons.1 h with rfl | h
    · exact .inl hn
    · exact .inr (mem_weightsAll h n hn)
/-- what a datum weighs lies within the reach -/
def Wt (P : Program) (t : TypeId) (d : DataW H) : Prop := ∀ n ∈ d.weights P t, n ≤ reachBytes
theorem Wt.of {ts : List TypeId} {ds : List (DataW H)} {j : Nat} {t : TypeId} {d : DataW H} (h : (DataW.weightsEach P ts ds).all (· ≤ reachBytes) = true) (ht : ts[j]? = some t) (hd : ds[j]? = some d) : Wt P t d := fun n hn => by
  have := List.all_eq_true.1 h _ (DataW.weights_mem_each ht hd n hn)
  simpa using this
theorem Wt.slice {t e : TypeId} {els spr : List (DataW H)} (hu : P.underlying t = some (.slice e)) (h : Wt P t (.slice els spr)) : (els.length + spr.length) * P.bytesOf e ≤ reachBytes ∧ ∀ x ∈ els, Wt P e x :=
  ⟨h _ (by simp [DataW.weights, hu]), fun x hx n hn => h n (by simp only [DataW.weights, hu, List.mem_cons, List.mem_append]; exact .inr (.inl (mem_weightsAll hx n hn)))⟩
theorem Wt.each {t : TypeId} {fs : Array Field} {ds : List (DataW H)} {j : Nat} {f : TypeId} {d : DataW H} (hu : P.underlying t = some (.struct fs)) (h : Wt P t (.agg ds)) (hf : (fs.toList.map (·.type))[j]? = some f) (hd : ds[j]? = some d) : Wt P f d := fun n hn =>
  h n (by simp only [DataW.weights, hu]; exact DataW.weights_mem_each hf hd n hn)
end
end Go.Proofs.YtdliddjkacbggaaDoor.E
