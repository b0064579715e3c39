/-
  Contracts of functions of the program, and plain laws: put together of several texts.
-/
import Derived.Test.YtdliddjkacbggaaDoorGe
import Derived.Test.YtdliddjkacbggaaDoorGb
import Derived.SizedLaws
/-
  A journal: the known example, and the statements' helpers.
-/
namespace Go.Proofs.YtdliddjkacbggaaDoor.WalI
open Go.Proofs.YtdliddjkacbggaaDoor.E Go.RowKit Go.Proofs.YtdliddjkacbggaaDoor.SimA Go.Proofs.YtdliddjkacbggaaDoor.SimB Go.Proofs.YtdliddjkacbggaaDoor.SimC Go.Proofs.YtdliddjkacbggaaDoor.SimD Go.Proofs.YtdliddjkacbggaaDoor.SimE Go.Proofs.YtdliddjkacbggaaDoor.SimF Go.Proofs.YtdliddjkacbggaaDoor.SimG Go.Proofs.YtdliddjkacbggaaDoor.SimH Go.Proofs.YtdliddjkacbggaaDoor.SimI Go.Proofs.YtdliddjkacbggaaDoor.SimQ Go.Proofs.YtdliddjkacbggaaDoor.SimR Go.Proofs.YtdliddjkacbggaaDoor.SimS Go.Proofs.YtdliddjkacbggaaDoor.SimU Go.Proofs.YtdliddjkacbggaaDoor.SimY Go.Proofs.YtdliddjkacbggaaDoor.SimYA Go.Proofs.YtdliddjkacbggaaDoor.SimYE Go.Proofs.YtdliddjkacbggaaDoor.WalA Go.Proofs.YtdliddjkacbggaaDoor.WalB Go.Proofs.YtdliddjkacbggaaDoor.WalC Go.Proofs.YtdliddjkacbggaaDoor.WalD Go.Proofs.YtdliddjkacbggaaDoor.WalE Go.Proofs.YtdliddjkacbggaaDoor.WalF Go.Proofs.YtdliddjkacbggaaDoor.WalG Go.Proofs.YtdliddjkacbggaaDoor.WalH
set_option maxRecDepth 20000
set_option linter.unusedVariables false
set_option linter.unusedSimpArgs false
set_option linter.unusedSectionVars false
set_option maxRecDepth 100000 in
theorem inf22 : Inf Tryd.prog 22 23 1 24 := ⟨Tryd.underlying22, _, _, rfl, rfl, rfl, rfl, rfl⟩
set_option maxRecDepth 100000 in
theorem inf23 : Inf Tryd.prog 23 5 1 1 := ⟨Tryd.underlying23, _, _, rfl, rfl, rfl, rfl, rfl⟩
theorem within3_ct (a : Int) (n : Nat) (w0 : World) (H0 : Heap)
    (hn : 1 ≤ n ∧ n ≤ 4611686018427387904) (ha : -9223372036854775808 ≤ a ∧ a ≤ 9223372036854775807) :
    Ct Tryd.prog w0 14 #[.int .i64 a, .int .i64 (n : Int)] H0 (fun r H2 => r = .int .i64 (wiN a n : Int) ∧ Nw H0 H2) := by
  refine Ct.enter (args := [.int .i64 a, .int .i64 (n : Int)]) Tryd.func14 rfl rfl rfl ?_
  intro Q0 hret
  have hm0 : Nw H0 H0 := Mo.refl _ _
  refine CW.seq (fun K1 hK1 hE1 => ?_)
  refine CW.region ?_
  refine LR.v (Y.assign rfl rfl) (Wd.u rfl) rfl rfl ?_
  refine LR.nil ?_
  refine hK1 _ _ ?_
  refine CW.seq (fun K2 hK2 hE2 => ?_)
  refine CW.region ?_
  refine LR.v (Y.move rfl rfl) (Wd.u rfl) rfl rfl ?_
  refine LR.v (Y.move rfl rfl) (Wd.u rfl) rfl rfl ?_
  refine LR.v (Y.rem rfl rfl rfl (by omega)) (Wd.u rfl) rfl rfl ?_
  have ht1 := Int.tmod_lt_of_pos a (show (0 : Int) < n by omega)
  have ht2 := Int.lt_tmod_of_pos a (show (0 : Int) < n by omega)
  refine LR.v (Y.assign rfl rfl) (Wd.u rfl) rfl rfl ?_
  refine LR.nil ?_
  refine hK2 _ _ ?_
  refine CW.seq (fun K3 hK3 hE3 => ?_)
  refine CW.seq (fun K4 hK4 hE4 => ?_)
  refine CW.region ?_
  refine LR.v (Y.move rfl rfl) (Wd.u rfl) rfl rfl ?_
  refine LR.v (Y.lss rfl rfl rfl) (Wd.u rfl) rfl rfl ?_
  refine LR.nil ?_
  refine hK4 _ _ ?_
  refine CW.condp rfl (fun c10 => ?_) (fun c10 => ?_)
  ·
    refine CW.region ?_
    refine LR.v (Y.move rfl rfl) (Wd.u rfl) rfl rfl ?_
    refine LR.v (Y.move rfl rfl) (Wd.u rfl) rfl rfl ?_
    refine LR.v (Y.addi rfl rfl rfl (by omega)) (Wd.u rfl) rfl rfl ?_
    refine LR.v (Y.assign rfl rfl) (Wd.u rfl) rfl rfl ?_
    refine LR.nil ?_
    refine hK3 _ _ ?_
    refine CW.seq (fun K5 hK5 hE5 => ?_)
    refine CW.region ?_
    refine LR.v (Y.move rfl rfl) (Wd.u rfl) rfl rfl ?_
    refine LR.v (Y.assign rfl rfl) (Wd.u rfl) rfl rfl ?_
    refine LR.nil ?_
    refine hK5 _ _ ?_
    refine CW.ret (hret .ret (.inr rfl) _ _ _ (res1 rfl rfl) ?_)
    exact ⟨by rw [wiN_neg (by omega) (by omega)], hm0⟩
  ·
    refine CW.skip ?_
    refine hK3 _ _ ?_
    refine CW.seq (fun K6 hK6 hE6 => ?_)
    refine CW.region ?_
    refine LR.v (Y.move rfl rfl) (Wd.u rfl) rfl rfl ?_
    refine LR.v (Y.assign rfl rfl) (Wd.u rfl) rfl rfl ?_
    refine LR.nil ?_
    refine hK6 _ _ ?_
    refine CW.ret (hret .ret (.inr rfl) _ _ _ (res1 rfl rfl) ?_)
    exact ⟨by rw [wiN_pos (by omega) (by omega)], hm0⟩


theorem one_opens {cap most : Nat} {p : Pth} {l : List Rec} {D : Dk} (h : One cap most p (encW l) D) (n1 : nameB p = true) (n2 : nameB (newP p) = true) (hl : ∀ r ∈ l, r.length ≤ 1048576) : openD D p = (0, l, D) := by
  obtain ⟨h1, h2⟩ := h.read n1
  have e1 : parE (D.readL p) = 0 := by rw [h2]; have := parE_enc l []; rwa [List.append_nil] at this
  have e2 : parL (D.readL p) = l := by rw [h2]; exact parL_all hl
  have e3 : ¬ parS (D.readL p) < (D.readL p).length := by
    unfold parS; unfold parE at e1; split at e1
    · rename_i h8; rw [if_pos h8, e2, h2]; omega
    · cases e1
  rw [open_f n1 n2 h1 e1 e3, e2]
theorem one_app {cap most : Nat} {p : Pth} {l : List Rec} {r : Rec} {D : Dk} (h : One cap most p (encW l) D) (n1 : nameB p = true) (hm : (encW l).length + 13 + r.length ≤ most) (hc : (encW l).length + 13 + r.length ≤ cap) : (appD D p l.length false r).1 = 0 ∧ (appD D p l.length false r).2.1 = l.length + 1 ∧ (appD D p l.length false r).2.2.1 = false ∧ One cap most p (encW (l ++ [r])) (appD D p l.length false r).2.2.2 := by
  rw [app_go (pre_0 rfl)]
  rcases h.recd n1 l.length r hm with ⟨_, _, h3⟩ | ⟨h1, h2⟩
  · omega
  · simp only [h1, if_true]
    refine ⟨trivial, trivial, trivial, ?_⟩
    rw [encW_snoc]; exact h2
def fewL (l : List Rec) : List Rec := (l.take 20).filter (fun r => decide (r.length < 3000))
theorem few_len (l : List Rec) : (fewL l).length ≤ 20 := Nat.le_trans (List.length_filter_le _ _) (by rw [List.length_take]; omega)
theorem few_mem {l : List Rec} : ∀ r ∈ fewL l, r.length < 3000 := fun r h => by simpa using (List.mem_filter.1 h).2
theorem few_sum {l : List Rec} (h : ∀ r ∈ l, r.length < 3000) : (l.map (fun r => 13 + r.length)).sum ≤ l.length * 3013 := by
  induction l with
  | nil => simp
  | cons r l ih =>
    have h1 := h r List.mem_cons_self
    have h2 := ih (fun x hx => h x (List.mem_cons_of_mem _ hx))
    simp only [List.map_cons, List.sum_cons, List.length_cons]; omega
theorem few_enc (l : List Rec) : (encW (fewL l)).length ≤ 60268 ∧ (encN 0 (fewL l)).length ≤ 60260 := by
  have h1 := few_len l
  have h2 := few_sum (few_mem (l := l))
  rw [encW_len, encN_len]; omega
theorem few_snoc {l : List Rec} {i : Nat} (h : i < l.length) : (l.take (i + 1)).filter (fun r => decide (r.length < 3000)) = (l.take i).filter (fun r => decide (r.length < 3000)) ++ (if l[i].length < 3000 then [l[i]] else []) := by
  rw [List.take_succ_eq_append_getElem h, List.filter_append, List.filter_cons, List.filter_nil]
  simp

set_option maxHeartbeats 4000000 in
theorem known3_ct (mx_ : Int) (w0 : World) (H0 : Heap)
    (mx : MX mx_ H0) (bf_mx : BF (fun b => b = 0) H0.size) :
    Ct Tryd.prog w0 7 #[] H0 (fun r H2 => r = .bool true ∧ Nw H0 H2) := by
  refine Ct.enter (args := []) Tryd.func7 rfl rfl rfl ?_
  intro Q0 hret
  have hm0 : Nw H0 H0 := Mo.refl _ _
  refine CW.seq (fun K1 hK1 hE1 => ?_)
  refine CW.region ?_
  refine LR.v (Y.assign rfl rfl) (Wd.u rfl) rfl rfl ?_
  refine LR.nil ?_
  refine hK1 _ _ ?_
  refine CW.seq (fun K2 hK2 hE2 => ?_)
  refine CW.region ?_
  -- call selvage/simfs.New
  refine LR.call rfl Tryd.call15 rfl (Wd.u rfl) rfl rfl (new_ct 65536 65536 w0 _ (by decide) (by decide)) (fun v7 H7 r7 => ?_)
  obtain ⟨Q7, g7, b7, rfl, hf, hkn7, hs7⟩ := r7
  have df1 := DFL.appK (DFL.nil) (bf_mx.mono hm0.size) hkn7
  have nx2 : NxK [] H0.size Q7 := NxK.tr (NxK.refl [] _) hkn7 hm0.size
  replace mx := mx.nw hs7
  replace hm0 := hm0.tr hs7
  have hz1 := hs7.size
  have hbk_hf := hf.bk
  have hS7 := Bs.empty 65536 65536
  have hst := One.start (p := [106]) (cap := 65536) (most := 65536) (by decide) (by decide) (by decide) (by decide) (by decide)
  refine LR.v (Y.move rfl rfl) (Wd.u rfl) rfl rfl ?_
  refine LR.v (Y.extract rfl rfl rfl) (Wd.u rfl) rfl rfl ?_
  refine LR.v (Y.extract rfl rfl rfl) (Wd.u rfl) rfl rfl ?_
  refine LR.v (Y.assign rfl rfl) (Wd.u rfl) rfl rfl ?_
  refine LR.v (Y.assign rfl rfl) (Wd.u rfl) rfl rfl ?_
  refine LR.nil ?_
  refine hK2 _ _ ?_
  refine CW.seq (fun K3 hK3 hE3 => ?_)
  refine CW.seq (fun K4 hK4 hE4 => ?_)
  refine CW.region ?_
  refine LR.v (Y.move rfl rfl) (Wd.u rfl) rfl rfl ?_
  refine LR.v ((Y.neq rfl rfl rfl).isF ((fun h => h rfl))) (Wd.u rfl) rfl rfl ?_
  refine LR.v (Y.move rfl rfl) (Wd.u rfl) rfl rfl ?_
  refine LR.v (Y.move rfl rfl) (Wd.g rfl rfl rfl) rfl rfl ?_
  refine LR.v (Y.peq rfl (by kernel_rfl) (by kernel_rfl) rfl rfl) (Wd.g rfl rfl rfl) rfl rfl ?_
  refine LR.v (Y.pick_f rfl rfl rfl) (Wd.u rfl) rfl rfl ?_
  refine LR.nil ?_
  refine hK4 _ _ ?_
  refine CW.cond_f rfl ?_
  refine CW.skip ?_
  refine hK3 _ _ ?_
  refine CW.seq (fun K5 hK5 hE5 => ?_)
  refine CW.region ?_
  refine LR.v (Y.move rfl rfl) (Wd.u rfl) rfl rfl ?_
  -- call selvage/wal.Open
  refine LR.call rfl Tryd.call16 rfl (Wd.u rfl) rfl rfl (wopen_ok mx_ Q7 g7 b7 (Dk.empty 65536 65536) [106] _ w0 _ hf mx (bf_mx.mono (by omega)) (df1) (by decide) hS7 (by decide) hst.1) (fun v18 H18 r18 => ?_)
  have ql3 := hf.bk
  obtain ⟨lb18, t18, l18, Q18, g18, G18, rfl, hf, hkd18, hlg, hkl18, dl218, hrl18, hw18, hx18, hGb18, hGf18, hGk18, hGl18, hs18⟩ := r18
  have df4 := DFL.appK (df1) (bf_mx.mono hm0.size) hkd18
  have nx5 : NxK [] H0.size Q18 := NxK.tr (nx2) hkd18 hm0.size
  have df6 := DF.app (DF.z) (bf_mx.mono hm0.size) hkl18
  have dj7 : DL (lb18 + 1) Q7 := DL.app2 (DL.zK) ql3 hkl18
  have nx8 : Nx 0 H0.size (lb18 + 1) := Nx.tr (Nx.refl 0 _) hkl18 hm0.size
  replace mx := mx.upL hs18 (df1)
  replace hm0 := (Mo.trL (ks := []) (hm0.mdn []) hs18 (MIL.ofK0 (nx2))).nil
  have hz2 := hs18.size
  have hbk_hf := hf.bk
  have hle_hlg := hlg.le
  have bf_hw18 := hGb18
  have bf_hx18 := hGb18
  have hS18 := bs_open hS7 [106]
  rw [hst.2.1] at hrl18
  have hl0 : l18.length = 0 := by have := congrArg List.length hrl18; simpa [recs] using this
  have hap := one_app hst.2.2 (l := []) (r := [97]) (by decide) (by decide) (by decide)
  rw [List.length_nil, ← hl0] at hap
  obtain ⟨ha1, ha2, ha3, ha4⟩ := hap
  refine LR.v (Y.move rfl rfl) (Wd.u rfl) rfl rfl ?_
  refine LR.v (Y.extract rfl rfl rfl) (Wd.u rfl) rfl rfl ?_
  refine LR.v (Y.extract rfl rfl rfl) (Wd.u rfl) rfl rfl ?_
  refine LR.v (Y.extract rfl rfl rfl) (Wd.u rfl) rfl rfl ?_
  refine LR.v (Y.assign rfl rfl) (Wd.u rfl) rfl rfl ?_
  refine LR.v (Y.assign rfl rfl) (Wd.u rfl) rfl rfl ?_
  refine LR.v (Y.assign rfl rfl) (Wd.u rfl) rfl rfl ?_
  refine LR.nil ?_
  refine hK5 _ _ ?_
  refine CW.seq (fun K6 hK6 hE6 => ?_)
  refine CW.seq (fun K7 hK7 hE7 => ?_)
  refine CW.region ?_
  refine LR.v (Y.move rfl rfl) (Wd.u rfl) rfl rfl ?_
  refine LR.v ((Y.neq rfl rfl rfl).isF ((fun h => h rfl))) (Wd.u rfl) rfl rfl ?_
  refine LR.v (Y.move rfl rfl) (Wd.u rfl) rfl rfl ?_
  refine LR.v (Y.move rfl rfl) (Wd.g rfl rfl rfl) rfl rfl ?_
  refine LR.v (Y.peq rfl (by kernel_rfl) (by kernel_rfl) rfl rfl) (Wd.g rfl rfl rfl) rfl rfl ?_
  refine LR.v (Y.pick_f rfl rfl rfl) (Wd.u rfl) rfl rfl ?_
  refine LR.v (Y.move rfl rfl) (Wd.u rfl) rfl rfl ?_
  refine LR.v (Y.move rfl rfl) (Wd.g rfl rfl rfl) rfl rfl ?_
  refine LR.v (Y.len hw18 rfl Tryd.runUnderlying22 rfl) (Wd.g rfl rfl rfl) rfl rfl ?_
  refine LR.v ((Y.neq rfl rfl rfl).isF ((fun h => h (by omega)))) (Wd.g rfl rfl rfl) rfl rfl ?_
  refine LR.v (Y.pick_f rfl rfl rfl) (Wd.u rfl) rfl rfl ?_
  refine LR.v (Y.move rfl rfl) (Wd.u rfl) rfl rfl ?_
  refine LR.v (Y.move rfl rfl) (Wd.g rfl rfl rfl) rfl rfl ?_
  refine LR.z (Z.litw _ ([(97 : UInt8)]) rfl inf23 rfl rfl rfl (by decide) (by decide) fB_len fB_one (rfl)) (Wd.g rfl rfl rfl) rfl rfl (fun v35 H35 r35 => ?_)
  obtain ⟨ow35, hs35, ob35, hH35⟩ := r35
  have hzs35 : H35.size = H18.size + 1 := by rw [hH35]; simp
  have df9 := (DF.new (bf_mx.mono hm0.size) : DF _ (H18.size + 1))
  have dj10 : DL (H18.size + 1) Q18 := DL.newK hf.bk
  have dj11 : Dj (lb18 + 1) (H18.size + 1) := Dj.new hlg.le
  have df12 := (DF.new (bf_hw18.mono (by omega)) : DF _ (H18.size + 1))
  have df13 := (DF.new (bf_hx18.mono (by omega)) : DF _ (H18.size + 1))
  have nx14 : Nx 0 H0.size (H18.size + 1) := Nx.new hm0.size
  replace mx := mx.nw hs35
  replace hf := hf.nw hs35
  replace hlg := hlg.nw hs35
  replace hw18 := hw18.nw hs35
  replace hx18 := fun x hx_ => (hx18 x hx_).nw hs35
  replace hm0 := hm0.tr hs35
  have hz3 := hs35.size
  refine LR.z (Z.bconst ow35 (by decide) rfl Tryd.underlying23 Tryd.underlying5 rfl) (Wd.g rfl rfl rfl) rfl rfl (fun v36 H36 r36 => ?_)
  obtain ⟨rfl, ow35, hs36⟩ := r36
  replace hs36 := hs36.md
  replace mx := mx.upL hs36 (DFL.cons df9 DFL.nil)
  replace hf := hf.upL hs36 (DKL.cons dj10 DKL.nil)
  replace hlg := hlg.upL hs36 (DL.cons dj11 DL.nil)
  replace hw18 := hw18.upL hs36 (DFL.cons df12 DFL.nil)
  replace hx18 := fun x hx_ => (hx18 x hx_).upL hs36 (DFL.cons df13 DFL.nil)
  replace hm0 := (Mo.trL (ks := []) (hm0.mdn []) hs36 (MIL.cons (MI.app MI.z (nx14) (Nat.le_refl _)) MIL.nil)).nil
  have hz4 := hs36.size
  obtain ⟨s36, rfl⟩ : ∃ s : SV, v36 = s.v := ⟨toSV v36, ow35.sv.symm⟩
  -- call (*selvage/wal.Log).Append
  refine LR.call rfl Tryd.call17 rfl (Wd.g rfl rfl rfl) rfl rfl (wapp_ct mx_ Q18 g18 b7 (openD (Dk.empty 65536 65536) [106]).2.2 lb18 [106] l18.length false s36 [97] _ _ w0 _ hf mx (bf_mx.mono (by omega)) (df4) hlg (dl218) (df6) ow35.rd (BF.of ow35.le) (DFL.of (dj10)) (DF.of (dj11.symm)) (by decide) (by decide) hS18 (by decide) (by omega)) (fun v37 H37 r37 => ?_)
  have ql15 := hf.bk
  have ql16 := hlg.le
  have ql17 := ow35.le
  obtain ⟨Q37, g37, rfl, hf, hkd37, hlg, dl237, hs37⟩ := r37
  have df18 := DFL.appK (df4) (bf_mx.mono hm0.size) hkd37
  have dj19 : DL (lb18 + 1) Q37 := DL.appK (dl218) ql16 hkd37
  have df20 := DFL.appK (hGk18) (bf_hw18.mono (by omega)) hkd37
  have df21 := DFL.appK (hGk18) (bf_hx18.mono (by omega)) hkd37
  have dj22 : DL (H18.size + 1) Q37 := DL.appK (dj10) ql17 hkd37
  have nx23 : NxK [] H0.size Q37 := NxK.tr (nx5) hkd37 hm0.size
  replace mx := mx.upL hs37 (DFL.app df4 (DFL.cons df6 DFL.nil))
  replace hw18 := hw18.upL hs37 (DFL.app hGk18 (DFL.cons hGl18 DFL.nil))
  replace hx18 := fun x hx_ => (hx18 x hx_).upL hs37 (DFL.app hGk18 (DFL.cons hGl18 DFL.nil))
  replace ow35 := ow35.upL hs37 (DL.app dj10 (DL.cons dj11.symm DL.nil))
  replace hm0 := (Mo.trL (ks := []) (hm0.mdn []) hs37 (MIL.app (MIL.ofK0 (nx5)) (MIL.cons (MI.app MI.z (nx8) (Nat.le_refl _)) MIL.nil))).nil
  have hz5 := hs37.size
  have hbk_hf := hf.bk
  have hS37 := bs_app hS18 [106] l18.length false [97]
  have hop2 : (openD (appD (openD (Dk.empty 65536 65536) [106]).2.2 [106] l18.length false [97]).2.2.2 [106]).1 = 0 ∧ (openD (appD (openD (Dk.empty 65536 65536) [106]).2.2 [106] l18.length false [97]).2.2.2 [106]).2.1 = [[97]] := by rw [one_opens ha4 (by decide) (by decide) (by decide)]; exact ⟨rfl, rfl⟩
  refine LR.v ((Y.neq rfl rfl rfl).isF ((fun h => h (by omega)))) (Wd.g rfl rfl rfl) rfl rfl ?_
  refine LR.v (Y.pick_f rfl rfl rfl) (Wd.u rfl) rfl rfl ?_
  refine LR.v (Y.move rfl rfl) (Wd.u rfl) rfl rfl ?_
  refine LR.v (Y.move rfl rfl) (Wd.g rfl rfl rfl) rfl rfl ?_
  -- call (*selvage/wal.Log).Count
  refine LR.call rfl Tryd.call18 rfl (Wd.g rfl rfl rfl) rfl rfl (count_ct lb18 _ _ _ _ w0 _ hlg) (fun v42 H42 r42 => ?_)
  obtain ⟨rfl, hs42⟩ := r42
  replace mx := mx.nw hs42
  replace hf := hf.nw hs42
  replace hlg := hlg.nw hs42
  replace hw18 := hw18.nw hs42
  replace hx18 := fun x hx_ => (hx18 x hx_).nw hs42
  replace ow35 := ow35.nw hs42
  replace hm0 := hm0.tr hs42
  have hz6 := hs42.size
  refine LR.v ((Y.neq rfl rfl rfl).isF ((fun h => h (by rw [ha2]; omega)))) (Wd.g rfl rfl rfl) rfl rfl ?_
  refine LR.v (Y.pick_f rfl rfl rfl) (Wd.u rfl) rfl rfl ?_
  refine LR.nil ?_
  refine hK7 _ _ ?_
  refine CW.cond_f rfl ?_
  refine CW.skip ?_
  refine hK6 _ _ ?_
  refine CW.seq (fun K8 hK8 hE8 => ?_)
  refine CW.region ?_
  refine LR.v (Y.move rfl rfl) (Wd.u rfl) rfl rfl ?_
  -- call selvage/wal.Open
  refine LR.call rfl Tryd.call16 rfl (Wd.u rfl) rfl rfl (wopen_ok mx_ Q37 g37 b7 (appD (openD (Dk.empty 65536 65536) [106]).2.2 [106] l18.length false [97]).2.2.2 [106] _ w0 _ hf mx (bf_mx.mono (by omega)) (df18) (by decide) hS37 (by decide) hop2.1) (fun v47 H47 r47 => ?_)
  have ql24 := hf.bk
  have ql25 := hlg.le
  have ql26 := ow35.le
  obtain ⟨lb47, t47, l47, Q47, g47, G47, rfl, hf, hkd47, hlh, hkl47, dl247, hrl47, hw47, hx47, hGb47, hGf47, hGk47, hGl47, hs47⟩ := r47
  have df27 := DFL.appK (df18) (bf_mx.mono hm0.size) hkd47
  have dj28 : DL (lb18 + 1) Q47 := DL.appK (dl237) ql25 hkd47
  have df29 := DFL.appK (df20) (bf_hw18.mono (by omega)) hkd47
  have df30 := DFL.appK (df21) (bf_hx18.mono (by omega)) hkd47
  have dj31 : DL (H18.size + 1) Q47 := DL.appK (dj22) ql26 hkd47
  have nx32 : NxK [] H0.size Q47 := NxK.tr (nx23) hkd47 hm0.size
  have df33 := DF.app (DF.z) (bf_mx.mono hm0.size) hkl47
  have dj34 : DL (lb47 + 1) Q37 := DL.app2 (DL.zK) ql24 hkl47
  have dj35 : Dj (lb18 + 1) (lb47 + 1) := Dj.app (Dj.z) ql25 hkl47
  have df36 := DF.app (DF.z) (bf_hw18.mono (by omega)) hkl47
  have df37 := DF.app (DF.z) (bf_hx18.mono (by omega)) hkl47
  have dj38 : Dj (H18.size + 1) (lb47 + 1) := Dj.app (Dj.z) ql26 hkl47
  have nx39 : Nx 0 H0.size (lb47 + 1) := Nx.tr (Nx.refl 0 _) hkl47 hm0.size
  replace mx := mx.upL hs47 (df18)
  replace hlg := hlg.upL hs47 (dl237)
  replace hw18 := hw18.upL hs47 (df20)
  replace hx18 := fun x hx_ => (hx18 x hx_).upL hs47 (df21)
  replace ow35 := ow35.upL hs47 (dj22)
  replace hm0 := (Mo.trL (ks := []) (hm0.mdn []) hs47 (MIL.ofK0 (nx23))).nil
  have hz7 := hs47.size
  have hbk_hf := hf.bk
  have hle_hlh := hlh.le
  have bf_hw47 := hGb47
  have df40 : DF _ (lb18 + 1) := DF.above hGf47 (by first | exact hle_hlg | exact hlt_hlg | omega)
  have df41 : DF _ (H18.size + 1) := DF.above hGf47 (by first | exact hle_ow35 | exact hlt_ow35 | omega)
  have bf_hx47 := hGb47
  have df42 : DF _ (lb18 + 1) := DF.above hGf47 (by first | exact hle_hlg | exact hlt_hlg | omega)
  have df43 : DF _ (H18.size + 1) := DF.above hGf47 (by first | exact hle_ow35 | exact hlt_ow35 | omega)
  rw [hop2.2] at hrl47
  have hl1 : l47.length = 1 := by have := congrArg List.length hrl47; simpa [recs] using this
  have hx1 := hx47 l47[0] (List.getElem_mem (by omega))
  have he1 : l47[0].2 = [97] := by have : (recs l47)[0]? = some [97] := (by rw [hrl47]; rfl); rw [List.getElem?_map, List.getElem?_eq_getElem (by omega)] at this; exact Option.some.inj this
  refine LR.v (Y.move rfl rfl) (Wd.u rfl) rfl rfl ?_
  refine LR.v (Y.extract rfl rfl rfl) (Wd.u rfl) rfl rfl ?_
  refine LR.v (Y.extract rfl rfl rfl) (Wd.u rfl) rfl rfl ?_
  refine LR.v (Y.extract rfl rfl rfl) (Wd.u rfl) rfl rfl ?_
  refine LR.v (Y.assign rfl rfl) (Wd.u rfl) rfl rfl ?_
  refine LR.v (Y.assign rfl rfl) (Wd.u rfl) rfl rfl ?_
  refine LR.nil ?_
  refine hK8 _ _ ?_
  refine CW.seq (fun K9 hK9 hE9 => ?_)
  refine CW.region ?_
  refine LR.v (Y.move rfl rfl) (Wd.u rfl) rfl rfl ?_
  refine LR.v ((Y.eql rfl rfl rfl).isT (rfl)) (Wd.u rfl) rfl rfl ?_
  refine LR.v (Y.move rfl rfl) (Wd.u rfl) rfl rfl ?_
  refine LR.v (Y.move rfl rfl) (Wd.g rfl rfl rfl) rfl rfl ?_
  refine LR.v (Y.len hw47 rfl Tryd.runUnderlying22 rfl) (Wd.g rfl rfl rfl) rfl rfl ?_
  refine LR.v ((Y.eql rfl rfl rfl).isT (by omega)) (Wd.g rfl rfl rfl) rfl rfl ?_
  refine LR.v (Y.pick_t rfl rfl rfl) (Wd.u rfl) rfl rfl ?_
  refine LR.v (Y.move rfl rfl) (Wd.u rfl) rfl rfl ?_
  refine LR.v (Y.move rfl rfl) (Wd.g rfl rfl rfl) rfl rfl ?_
  refine LR.e (g := fun ad => .pointer (some ad)) (Y.indexAddrF hw47 (0) rfl Tryd.runUnderlying22 Tryd.sizeOf23 rfl rfl (by first | rfl | omega) (by first | omega | (simp; omega) | (simp; done))) (Wd.g rfl rfl rfl) rfl rfl (fun ad60 pt60 => ?_)
  have bf_pt60 := bf_hw47
  refine LR.v (Y.load1 pt60.pt rfl Tryd.isAgg23 rfl) (Wd.g rfl rfl rfl) rfl rfl ?_
  refine LR.v (Y.cast (v2 := Str [97]) (Y.bstr hx1 rfl Tryd.underlying23 Tryd.underlying9 Tryd.underlying5 rfl) (by rw [he1])) (Wd.g rfl rfl rfl) rfl rfl ?_
  refine LR.v ((Y.seql rfl rfl rfl).isT (rfl)) (Wd.g rfl rfl rfl) rfl rfl ?_
  refine LR.v (Y.pick_t rfl rfl rfl) (Wd.u rfl) rfl rfl ?_
  refine LR.v (Y.assign rfl rfl) (Wd.u rfl) rfl rfl ?_
  refine LR.nil ?_
  refine hK9 _ _ ?_
  refine CW.ret (hret .ret (.inr rfl) _ _ _ (res1 rfl rfl) ?_)
  exact ⟨rfl, hm0⟩

theorem few_ct (s : SV) (l : List (SV × Rec)) (w0 : World) (H0 : Heap)
    (hl : RdT H0 fP 1 s.v l) (hx : ∀ x ∈ l, RdT H0 fB 1 x.1.v x.2) :
    Ct Tryd.prog w0 8 #[s.v] H0 (fun r H2 => ∃ t : SV, ∃ m : List (SV × Rec), r = t.v ∧ (recs m = fewL (recs l)) ∧ (Rd (fun b => H0.size ≤ b) H2 fP 1 t.v m) ∧ (∀ x ∈ m, Rd (fun b => H0.size ≤ b) H2 fB 1 x.1.v x.2) ∧ Nw H0 H2) := by
  refine Ct.enter (args := [s.v]) Tryd.func8 rfl rfl rfl ?_
  intro Q0 hret
  have hm0 : Nw H0 H0 := Mo.refl _ _
  replace hl := hl.bnd
  have bf_hl := hl.bf
  replace hx := fun x hx0 => (hx x hx0).bnd
  have bf_hx : BF (fun b => True ∧ b < H0.size) H0.size := fun b h => h.2
  have hll := hl.len
  have hln : (recs l).length = l.length := by simp [recs]
  refine CW.seq (fun K1 hK1 hE1 => ?_)
  refine CW.region ?_
  refine LR.v (Y.assign rfl rfl) (Wd.u rfl) rfl rfl ?_
  refine LR.nil ?_
  refine hK1 _ _ ?_
  refine CW.seq (fun K2 hK2 hE2 => ?_)
  refine CW.region ?_
  refine LR.v (Y.assign rfl rfl) (Wd.u rfl) rfl rfl ?_
  refine LR.nil ?_
  refine hK2 _ _ ?_
  refine CW.seq (fun K3 hK3 hE3 => ?_)
  refine CW.seq (fun K4 hK4 hE4 => ?_)
  refine CW.region ?_
  refine LR.v (Y.assign rfl rfl) (Wd.u rfl) rfl rfl ?_
  refine LR.nil ?_
  refine hK4 _ _ ?_
  refine CW.block (fun K5 hK5 hX5 hE5 => ?_)
  refine CW.loop (fun (s_ : (Nat) × (Value) × (Nat) × (List (SV × Rec)) × (Nat → Prop)) => match s_ with | (i, vo, ko, m, G) => [(0, s.v), (3, vo), (4, .int .i64 (i : Int))])
    (fun (s_ : (Nat) × (Value) × (Nat) × (List (SV × Rec)) × (Nat → Prop)) (H : Heap) => match s_ with | (i, vo, ko, m, G) => (i ≤ l.length ∧ i ≤ 20 ∧ m.length ≤ i) ∧ (recs m = ((recs l).take i).filter (fun r => decide (r.length < 3000))) ∧ (Ow ko 23 H fP 1 vo m) ∧ (∀ x ∈ m, Rd G H fB 1 x.1.v x.2) ∧ (BF G H.size) ∧ (DF G ko) ∧ (∀ c, G c → H0.size ≤ c) ∧ (Nx 0 H0.size ko) ∧ Nw H0 H)
    (fun (s_ : (Nat) × (Value) × (Nat) × (List (SV × Rec)) × (Nat → Prop)) => match s_ with | (i, vo, ko, m, G) => l.length - i) (0, .slice none 0 0, 0, [], fun _ => False) ⟨rfl, rfl, rfl, trivial⟩ ?_ ?_
  ·
    exact ⟨⟨by omega, by omega, by simp⟩, rfl, Ow.nil fP_len fP_one, (fun x h => by cases h), (fun b e => e.elim), (fun b e => e.elim), (fun c e => e.elim), Nx.refl _ _, Mo.refl _ _⟩
  rintro ⟨i, vo, ko, m, G⟩ HL1 hI1 K6 hN6 hE6
  obtain ⟨hi, hm, ow, hxa, bf_hxa, f1, hG, nxl_ow, hlm1⟩ := hI1
  have df1 := DF.app (DF.z) (bf_hl.mono hm0.size) nxl_ow
  have df2 := DF.app (DF.z) (bf_hx.mono hm0.size) nxl_ow
  have nx3 : Nx 0 H0.size ko := Nx.tr (Nx.refl 0 _) nxl_ow hm0.size
  replace hl := hl.nw hlm1
  replace hx := fun x hx0 => (hx x hx0).nw hlm1
  replace hm0 := hm0.tr hlm1
  have hz1 := hlm1.size
  have hle_ow := ow.le
  have nx4 := nxl_ow
  refine CW.seq (fun K7 hK7 hE7 => ?_)
  refine CW.seq (fun K8 hK8 hE8 => ?_)
  refine CW.region ?_
  refine LR.v (Y.move rfl rfl) (Wd.u rfl) rfl rfl ?_
  refine LR.v (Y.move rfl rfl) (Wd.u rfl) rfl rfl ?_
  refine LR.v (Y.len hl rfl Tryd.runUnderlying22 rfl) (Wd.u rfl) rfl rfl ?_
  refine LR.v (Y.lss rfl rfl rfl) (Wd.u rfl) rfl rfl ?_
  refine LR.v (Y.move rfl rfl) (Wd.u rfl) rfl rfl ?_
  refine LR.splitp (d := 9) rfl (fun g9 => ?_) (fun g9 => ?_)
  ·
    
    refine LR.v (Y.move rfl rfl) (Wd.g rfl rfl rfl) rfl rfl ?_
    refine LR.v (Y.lss rfl rfl rfl) (Wd.g rfl rfl rfl) rfl rfl ?_
    refine LR.v (Y.pick_t rfl rfl rfl) (Wd.u rfl) rfl rfl ?_
    refine LR.nil ?_
    refine hK8 _ _ ?_
    refine CW.condp rfl (fun c12 => ?_) (fun c12 => ?_)
    ·
      have hil : i < l.length := by omega
      have hxi := hx l[i] (List.getElem_mem hil)
      refine CW.skip ?_
      refine hK7 _ _ ?_
      refine CW.seq (fun K9 hK9 hE9 => ?_)
      refine CW.block (fun K10 hK10 hX10 hE10 => ?_)
      refine CW.seq (fun K11 hK11 hE11 => ?_)
      refine CW.region ?_
      refine LR.v (Y.move rfl rfl) (Wd.u rfl) rfl rfl ?_
      refine LR.v (Y.move rfl rfl) (Wd.u rfl) rfl rfl ?_
      refine LR.e (g := fun ad => .pointer (some ad)) (Y.indexAddrF hl (i) rfl Tryd.runUnderlying22 Tryd.sizeOf23 rfl rfl (by first | rfl | omega) (by first | omega | (simp; omega) | (simp; done))) (Wd.u rfl) rfl rfl (fun ad17 pt17 => ?_)
      have bf_pt17 := bf_hl
      refine LR.v (Y.load1 pt17.pt rfl Tryd.isAgg23 rfl) (Wd.u rfl) rfl rfl ?_
      refine LR.v (Y.len hxi rfl Tryd.runUnderlying23 rfl) (Wd.u rfl) rfl rfl ?_
      refine LR.v (Y.lss rfl rfl rfl) (Wd.u rfl) rfl rfl ?_
      refine LR.nil ?_
      refine hK11 _ _ ?_
      refine CW.condp rfl (fun c20 => ?_) (fun c20 => ?_)
      ·
        refine CW.region ?_
        refine LR.v (Y.move rfl rfl) (Wd.u rfl) rfl rfl ?_
        refine LR.z (Z.litw _ (([] : List UInt8)) rfl inf23 rfl rfl rfl (by decide) (by decide) fB_len fB_one (rfl)) (Wd.u rfl) rfl rfl (fun v22 H22 r22 => ?_)
        obtain ⟨nd, hs22, ob22, hH22⟩ := r22
        have hzs22 : H22.size = HL1.size + 1 := by rw [hH22]; simp
        have df5 := (DF.new (bf_hl.mono hm0.size) : DF _ (HL1.size + 1))
        have df6 := (DF.new (bf_hx.mono hm0.size) : DF _ (HL1.size + 1))
        have dj7 : Dj ko (HL1.size + 1) := Dj.new ow.le
        have df8 := (DF.new (bf_hxa.mono (by omega)) : DF _ (HL1.size + 1))
        have nx9 : Nx 0 H0.size (HL1.size + 1) := Nx.new hm0.size
        have nx10 : Nx 0 H0.size (HL1.size + 1) := Nx.new hlm1.size
        replace hl := hl.nw hs22
        replace hx := fun x hx0 => (hx x hx0).nw hs22
        replace ow := ow.nw hs22
        replace hxa := fun x hxa_ => (hxa x hxa_).nw hs22
        replace hm0 := hm0.tr hs22
        replace hlm1 := hlm1.tr hs22
        have hz2 := hs22.size
        refine LR.v (Y.move rfl rfl) (Wd.u rfl) rfl rfl ?_
        refine LR.v (Y.move rfl rfl) (Wd.u rfl) rfl rfl ?_
        refine LR.e (g := fun ad => .pointer (some ad)) (Y.indexAddrF hl (i) rfl Tryd.runUnderlying22 Tryd.sizeOf23 rfl rfl (by first | rfl | omega) (by first | omega | (simp; omega) | (simp; done))) (Wd.u rfl) rfl rfl (fun ad25 pt25 => ?_)
        have bf_pt25 := bf_hl
        refine LR.v (Y.load1 pt25.pt rfl Tryd.isAgg23 rfl) (Wd.u rfl) rfl rfl ?_
        refine LR.z (Z.apnd nd (hx l[i] (List.getElem_mem hil)) rfl inf23 rfl rfl (by simp only [List.length_nil]; omega) (by simp only [List.length_nil]; omega)) (Wd.u rfl) rfl rfl (fun v27 H27 r27 => ?_)
        obtain ⟨k27, nd, hk27, hs27⟩ := r27
        replace hk27 : Nx (HL1.size + 1) H22.size k27 := hk27
        replace hs27 := hs27.md
        have df11 := DF.app (df5) (bf_hl.mono hm0.size) hk27
        have df12 := DF.app (df6) (bf_hx.mono hm0.size) hk27
        have dj13 : Dj ko k27 := Dj.app (dj7) ow.le hk27
        have df14 := DF.app (df8) (bf_hxa.mono (by omega)) hk27
        have df15 := DF.app (df5) (bf_pt25.mono hm0.size) hk27
        have nx16 : Nx 0 H0.size k27 := Nx.tr (nx9) hk27 hm0.size
        have nx17 : Nx 0 H0.size k27 := Nx.tr (nx10) hk27 hlm1.size
        replace hl := hl.upL hs27 (DFL.cons df5 DFL.nil)
        replace hx := fun x hx0 => (hx x hx0).upL hs27 (DFL.cons df6 DFL.nil)
        replace ow := ow.upL hs27 (DL.cons dj7 DL.nil)
        replace hxa := fun x hxa_ => (hxa x hxa_).upL hs27 (DFL.cons df8 DFL.nil)
        replace pt25 := pt25.upL hs27 (DFL.cons df5 DFL.nil)
        replace hm0 := (Mo.trL (ks := []) (hm0.mdn []) hs27 (MIL.cons (MI.app MI.z (nx9) (Nat.le_refl _)) MIL.nil)).nil
        replace hlm1 := (Mo.trL (ks := []) (hlm1.mdn []) hs27 (MIL.cons (MI.app MI.z (nx10) (Nat.le_refl _)) MIL.nil)).nil
        have hz3 := hs27.size
        have hle_nd := nd.le
        rw [List.nil_append] at nd
        obtain ⟨s27, rfl⟩ : ∃ s : SV, v27 = s.v := ⟨toSV v27, nd.sv.symm⟩
        refine LR.z (Z.litw _ ([(s27, l[i].2)]) rfl inf22 rfl rfl rfl (by decide) (by decide) fP_len fP_one (rfl)) (Wd.u rfl) rfl rfl (fun v28 H28 r28 => ?_)
        obtain ⟨nw28, hs28, ob28, hH28⟩ := r28
        have hzs28 : H28.size = H27.size + 1 := by rw [hH28]; simp
        have df18 := (DF.new (bf_hl.mono hm0.size) : DF _ (H27.size + 1))
        have df19 := (DF.new (bf_hx.mono hm0.size) : DF _ (H27.size + 1))
        have dj20 : Dj ko (H27.size + 1) := Dj.new ow.le
        have df21 := (DF.new (bf_hxa.mono (by omega)) : DF _ (H27.size + 1))
        have dj22 : Dj k27 (H27.size + 1) := Dj.new nd.le
        have df23 := (DF.new (bf_pt25.mono hm0.size) : DF _ (H27.size + 1))
        have nx24 : Nx 0 H0.size (H27.size + 1) := Nx.new hm0.size
        have nx25 : Nx 0 H0.size (H27.size + 1) := Nx.new hlm1.size
        replace hl := hl.nw hs28
        replace hx := fun x hx0 => (hx x hx0).nw hs28
        replace ow := ow.nw hs28
        replace hxa := fun x hxa_ => (hxa x hxa_).nw hs28
        replace nd := nd.nw hs28
        replace pt25 := pt25.nw hs28
        replace hm0 := hm0.tr hs28
        replace hlm1 := hlm1.tr hs28
        have hz4 := hs28.size
        refine LR.z (Z.apnd ow nw28.rd rfl inf22 rfl rfl (by simp only [List.length_singleton]; omega) (by simp only [List.length_singleton]; omega)) (Wd.u rfl) rfl rfl (fun v29 H29 r29 => ?_)
        obtain ⟨k29, ow, hk29, hs29⟩ := r29
        replace hk29 : Nx ko H28.size k29 := hk29
        replace hs29 := hs29.md
        have df26 := DF.app (df1) (bf_hl.mono hm0.size) hk29
        have df27 := DF.app (df2) (bf_hx.mono hm0.size) hk29
        have df28 := DF.app (f1) (bf_hxa.mono (by omega)) hk29
        have dj29 : Dj k27 k29 := Dj.app (dj13.symm) nd.le hk29
        have df30 := DF.app (df1) (bf_pt25.mono hm0.size) hk29
        have dj31 : Dj (H27.size + 1) k29 := Dj.app (dj20.symm) nw28.le hk29
        have nx32 : Nx 0 H0.size k29 := Nx.tr (nx3) hk29 hm0.size
        have nx33 : Nx 0 H0.size k29 := Nx.tr (nx4) hk29 hlm1.size
        replace hl := hl.upL hs29 (DFL.cons df1 DFL.nil)
        replace hx := fun x hx0 => (hx x hx0).upL hs29 (DFL.cons df2 DFL.nil)
        replace hxa := fun x hxa_ => (hxa x hxa_).upL hs29 (DFL.cons f1 DFL.nil)
        replace nd := nd.upL hs29 (DL.cons dj13.symm DL.nil)
        replace pt25 := pt25.upL hs29 (DFL.cons df1 DFL.nil)
        replace nw28 := nw28.upL hs29 (DL.cons dj20.symm DL.nil)
        replace hm0 := (Mo.trL (ks := []) (hm0.mdn []) hs29 (MIL.cons (MI.app MI.z (nx3) (Nat.le_refl _)) MIL.nil)).nil
        replace hlm1 := (Mo.trL (ks := []) (hlm1.mdn []) hs29 (MIL.cons (MI.app MI.z (nx4) (Nat.le_refl _)) MIL.nil)).nil
        have hz5 := hs29.size
        have hle_ow := ow.le
        refine LR.v (Y.assign rfl rfl) (Wd.u rfl) rfl rfl ?_
        refine LR.nil ?_
        refine hK10 _ _ ?_
        refine hK9 _ _ ?_
        refine CW.region ?_
        refine LR.v (Y.move rfl rfl) (Wd.u rfl) rfl rfl ?_
        refine LR.v (Y.addi rfl rfl rfl (by omega)) (Wd.u rfl) rfl rfl ?_
        refine LR.v (Y.assign rfl rfl) (Wd.u rfl) rfl rfl ?_
        refine LR.nil ?_
        refine QN.sub (hN6 (i + 1, v29, k29, m ++ [(s27, l[i].2)], fun c => G c ∨ c + 1 = k27) _ ?_ ?_) ⟨rfl, rfl, (iv (by omega)), trivial⟩
        · exact ⟨⟨by omega, by omega, by simp; omega⟩, by rw [few_snoc (by omega)]; unfold recs at hm ⊢; rw [List.map_append, hm, List.getElem_map, if_pos (by omega)]; rfl, ow, snocP (α := Unit) (fb := fun _ => (s27, [])) hxa (fun c e => .inl e) (nd.rd.imp (fun c _ e => .inr e)), BF.or1 (bf_hxa.mono (by omega)) nd.le, DF.or1 (df28) (dj29.symm), fun c e => by rcases e with e | e; exact hG c e; exact (by have h9 := (nx16); unfold Nx at h9; omega), nx33, hlm1⟩
        · first | omega | (simp only; omega) | (simp; omega)
      ·
        refine CW.skip ?_
        refine hK10 _ _ ?_
        refine hK9 _ _ ?_
        refine CW.region ?_
        refine LR.v (Y.move rfl rfl) (Wd.u rfl) rfl rfl ?_
        refine LR.v (Y.addi rfl rfl rfl (by omega)) (Wd.u rfl) rfl rfl ?_
        refine LR.v (Y.assign rfl rfl) (Wd.u rfl) rfl rfl ?_
        refine LR.nil ?_
        refine QN.sub (hN6 (i + 1, vo, ko, m, G) _ ?_ ?_) ⟨rfl, rfl, (iv (by omega)), trivial⟩
        · exact ⟨⟨by omega, by omega, by omega⟩, by rw [few_snoc (by omega)]; unfold recs at hm ⊢; rw [hm, List.getElem_map, if_neg (by omega), List.append_nil], ow, hxa, (bf_hxa.mono (by omega)), f1, (by omega), nx4, hlm1⟩
        · first | omega | (simp only; omega) | (simp; omega)
    ·
      refine CW.exit (hE7 (.exit 0) nofun _ _ (hE6 (.exit 0) nofun _ _ (hX5 _ _ ?_)))
      refine hK3 _ _ ?_
      refine CW.seq (fun K12 hK12 hE12 => ?_)
      refine CW.region ?_
      refine LR.v (Y.move rfl rfl) (Wd.u rfl) rfl rfl ?_
      refine LR.v (Y.assign rfl rfl) (Wd.u rfl) rfl rfl ?_
      refine LR.nil ?_
      refine hK12 _ _ ?_
      refine CW.ret (hret .ret (.inr rfl) _ _ _ (res1 rfl rfl) ?_)
      obtain ⟨so, rfl⟩ : ∃ s : SV, vo = s.v := ⟨toSV vo, ow.sv.symm⟩
      have hfw : (recs l).take i = (recs l).take 20 := by
        rcases (show i = 20 ∨ i = l.length by omega) with e | e
        · rw [e]
        · rw [List.take_of_length_le (by omega), List.take_of_length_le (by omega)]
      exact ⟨so, m, rfl, by unfold fewL; rw [← hfw]; exact hm, (ow.rd.imp (fun c _ e => by have h9 := (nx3); unfold Nx at h9; omega)), (fun x h => (hxa x h).imp (fun c _ e => hG c e)), hm0⟩
  ·
    refine LR.gs rfl rfl rfl rfl rfl rfl ?_
    refine LR.gs rfl rfl rfl rfl rfl rfl ?_
    refine LR.v (Y.pick_f rfl rfl rfl) (Wd.u rfl) rfl rfl ?_
    refine LR.nil ?_
    refine hK8 _ _ ?_
    refine CW.cond_f rfl ?_
    refine CW.exit (hE7 (.exit 0) nofun _ _ (hE6 (.exit 0) nofun _ _ (hX5 _ _ ?_)))
    refine hK3 _ _ ?_
    refine CW.seq (fun K13 hK13 hE13 => ?_)
    refine CW.region ?_
    refine LR.v (Y.move rfl rfl) (Wd.u rfl) rfl rfl ?_
    refine LR.v (Y.assign rfl rfl) (Wd.u rfl) rfl rfl ?_
    refine LR.nil ?_
    refine hK13 _ _ ?_
    refine CW.ret (hret .ret (.inr rfl) _ _ _ (res1 rfl rfl) ?_)
    obtain ⟨so, rfl⟩ : ∃ s : SV, vo = s.v := ⟨toSV vo, ow.sv.symm⟩
    have hfw : (recs l).take i = (recs l).take 20 := by
      rcases (show i = 20 ∨ i = l.length by omega) with e | e
      · rw [e]
      · rw [List.take_of_length_le (by omega), List.take_of_length_le (by omega)]
    exact ⟨so, m, rfl, by unfold fewL; rw [← hfw]; exact hm, (ow.rd.imp (fun c _ e => by have h9 := (nx3); unfold Nx at h9; omega)), (fun x h => (hxa x h).imp (fun c _ e => hG c e)), hm0⟩

end Go.Proofs.YtdliddjkacbggaaDoor.WalI
/-
  A journal's bytes: the document's functions.
-/
namespace Go.Proofs.YtdliddjkacbggaaDoor.WalJ
open Go.Proofs.YtdliddjkacbggaaDoor.E Go.RowKit Go.Proofs.YtdliddjkacbggaaDoor.SumB Go.Proofs.YtdliddjkacbggaaDoor.SumC Go.Proofs.YtdliddjkacbggaaDoor.SumF Go.Proofs.YtdliddjkacbggaaDoor.SumG Go.Proofs.YtdliddjkacbggaaDoor.DelA Go.Proofs.YtdliddjkacbggaaDoor.SimA Go.Proofs.YtdliddjkacbggaaDoor.SimB Go.Proofs.YtdliddjkacbggaaDoor.SimR Go.Proofs.YtdliddjkacbggaaDoor.WalA Go.Proofs.YtdliddjkacbggaaDoor.WalB Go.Proofs.YtdliddjkacbggaaDoor.WalC Go.Proofs.YtdliddjkacbggaaDoor.WalI
set_option maxRecDepth 20000
set_option linter.unusedVariables false
set_option linter.unusedSimpArgs false
set_option linter.unusedSectionVars false
set_option maxRecDepth 100000 in
theorem inf23 : Inf Tryd.prog 23 5 1 1 := ⟨Tryd.underlying23, _, _, rfl, rfl, rfl, rfl, rfl⟩
theorem l32 : ∀ {k : List UInt8}, k.length = 32 → ∃ b0 b1 b2 b3 b4 b5 b6 b7 b8 b9 b10 b11 b12 b13 b14 b15 b16 b17 b18 b19 b20 b21 b22 b23 b24 b25 b26 b27 b28 b29 b30 b31 : UInt8, k = [b0, b1, b2, b3, b4, b5, b6, b7, b8, b9, b10, b11, b12, b13, b14, b15, b16, b17, b18, b19, b20, b21, b22, b23, b24, b25, b26, b27, b28, b29, b30, b31] := by
  intro k h
  match k, h with
  | [b0, b1, b2, b3, b4, b5, b6, b7, b8, b9, b10, b11, b12, b13, b14, b15, b16, b17, b18, b19, b20, b21, b22, b23, b24, b25, b26, b27, b28, b29, b30, b31], _ => exact ⟨b0, b1, b2, b3, b4, b5, b6, b7, b8, b9, b10, b11, b12, b13, b14, b15, b16, b17, b18, b19, b20, b21, b22, b23, b24, b25, b26, b27, b28, b29, b30, b31, rfl⟩


theorem spl2 {vs cs : List Value} (h : cs.length = vs.length) : splice cs 0 vs = vs := by simp [splice, h]


theorem oneW_ref {n : Nat} {R : List UInt8} (h0 : 12 + big R < R.length) (h1 : big R ≤ 1048576) (h2 : layW n ((R.drop 12).take (big R)) = R.take (12 + big R)) (h3 : R.getD (12 + big R) 0 = 67) : oneW n R = some ((R.drop 12).take (big R)) := by
  have hl : ((R.drop 12).take (big R)).length = big R := by rw [List.length_take, List.length_drop]; omega
  refine oneW_iff.2 ⟨by omega, R.drop (13 + big R), ?_⟩
  conv => lhs; rw [← List.take_append_drop (12 + big R) R, ← h2, List.drop_eq_getElem_cons h0]
  rw [getD_at h0] at h3
  rw [h3, show 12 + big R + 1 = 13 + big R by omega]
  unfold recW; simp
theorem oneW_ref1 {n : Nat} {R : List UInt8} (h2 : layW n ((R.drop 12).take (big R)) ≠ R.take (12 + big R)) : oneW n R = none := by
  cases h : oneW n R with
  | none => rfl
  | some r =>
    exfalso; apply h2
    have e := oneW_some h
    have h9 := oneW_len h
    have hr : r.length < 4294967296 := by omega
    have hb : big R = r.length := h9.1.symm
    have e2 : R = layW n r ++ (67 :: R.drop (13 + r.length)) := by conv => lhs; rw [e]
                                                                   unfold recW; simp
    have e3 : (R.drop 12).take r.length = r := by
      rw [e2]; unfold layW
      rw [← List.append_assoc (be32 r.length), List.append_assoc (be32 r.length ++ chkW n r), List.drop_left' (by rw [List.length_append, be32_len, chkW_len]), List.take_left' rfl]
    rw [hb, e3]
    conv => rhs; rw [e2]
    rw [List.take_left' (layW_len n r)]

theorem sameR_ct (s t : SV) (a b : List (SV × Rec)) (w0 : World) (H0 : Heap)
    (ha : RdT H0 fP 1 s.v a) (hb : RdT H0 fP 1 t.v b) (hx : ∀ x ∈ a, RdT H0 fB 1 x.1.v x.2) (hy : ∀ x ∈ b, RdT H0 fB 1 x.1.v x.2) :
    Ct Tryd.prog w0 13 #[s.v, t.v] H0 (fun r H2 => r = .bool (decide (recs a = recs b)) ∧ Nw H0 H2) := by
  refine Ct.enter (args := [s.v, t.v]) Tryd.func13 rfl rfl rfl ?_
  intro Q0 hret
  have hm0 : Nw H0 H0 := Mo.refl _ _
  replace ha := ha.bnd
  have bf_ha := ha.bf
  replace hb := hb.bnd
  have bf_hb := hb.bf
  replace hx := fun x hx0 => (hx x hx0).bnd
  have bf_hx : BF (fun b => True ∧ b < H0.size) H0.size := fun b h => h.2
  replace hy := fun x hy0 => (hy x hy0).bnd
  have bf_hy : BF (fun b => True ∧ b < H0.size) H0.size := fun b h => h.2
  have hal := ha.len
  have hbl := hb.len
  have hla : (recs a).length = a.length := by simp [recs]
  have hlb : (recs b).length = b.length := by simp [recs]
  refine CW.seq (fun K1 hK1 hE1 => ?_)
  refine CW.region ?_
  refine LR.v (Y.assign rfl rfl) (Wd.u rfl) rfl rfl ?_
  refine LR.nil ?_
  refine hK1 _ _ ?_
  refine CW.seq (fun K2 hK2 hE2 => ?_)
  refine CW.seq (fun K3 hK3 hE3 => ?_)
  refine CW.region ?_
  refine LR.v (Y.move rfl rfl) (Wd.u rfl) rfl rfl ?_
  refine LR.v (Y.len ha rfl Tryd.runUnderlying22 rfl) (Wd.u rfl) rfl rfl ?_
  refine LR.v (Y.move rfl rfl) (Wd.u rfl) rfl rfl ?_
  refine LR.v (Y.len hb rfl Tryd.runUnderlying22 rfl) (Wd.u rfl) rfl rfl ?_
  refine LR.v (Y.neq rfl rfl rfl) (Wd.u rfl) rfl rfl ?_
  refine LR.nil ?_
  refine hK3 _ _ ?_
  refine CW.condp rfl (fun c10 => ?_) (fun c10 => ?_)
  ·
    refine CW.seq (fun K4 hK4 hE4 => ?_)
    refine CW.region ?_
    refine LR.v (Y.assign rfl rfl) (Wd.u rfl) rfl rfl ?_
    refine LR.nil ?_
    refine hK4 _ _ ?_
    refine CW.ret (hE2 .ret nofun _ _ (hret .ret (.inr rfl) _ _ _ (res1 rfl rfl) ?_))
    have hne : ¬ recs a = recs b := fun h => by have := congrArg List.length h; omega
    exact ⟨by rw [decide_eq_false hne], hm0⟩
  ·
    have hab : a.length = b.length := by omega
    refine CW.skip ?_
    refine hK2 _ _ ?_
    refine CW.seq (fun K5 hK5 hE5 => ?_)
    refine CW.seq (fun K6 hK6 hE6 => ?_)
    refine CW.region ?_
    refine LR.v (Y.assign rfl rfl) (Wd.u rfl) rfl rfl ?_
    refine LR.nil ?_
    refine hK6 _ _ ?_
    refine CW.block (fun K7 hK7 hX7 hE7 => ?_)
    refine CW.loop (fun (i : (Nat)) => [(0, s.v), (1, t.v), (5, .int .i64 (i : Int))])
      (fun (i : (Nat)) (H : Heap) => (i ≤ a.length) ∧ ((recs a).take i = (recs b).take i) ∧ Nw H0 H)
      (fun (i : (Nat)) => a.length - i) 0 ⟨rfl, rfl, rfl, trivial⟩ ?_ ?_
    ·
      exact ⟨(by omega), rfl, Mo.refl _ _⟩
    intro i HL1 hI1 K8 hN8 hE8
    obtain ⟨hi, he, hlm1⟩ := hI1
    replace ha := ha.nw hlm1
    replace hb := hb.nw hlm1
    replace hx := fun x hx0 => (hx x hx0).nw hlm1
    replace hy := fun x hy0 => (hy x hy0).nw hlm1
    replace hm0 := hm0.tr hlm1
    have hz1 := hlm1.size
    refine CW.seq (fun K9 hK9 hE9 => ?_)
    refine CW.seq (fun K10 hK10 hE10 => ?_)
    refine CW.region ?_
    refine LR.v (Y.move rfl rfl) (Wd.u rfl) rfl rfl ?_
    refine LR.v (Y.move rfl rfl) (Wd.u rfl) rfl rfl ?_
    refine LR.v (Y.len ha rfl Tryd.runUnderlying22 rfl) (Wd.u rfl) rfl rfl ?_
    refine LR.v (Y.lss rfl rfl rfl) (Wd.u rfl) rfl rfl ?_
    refine LR.nil ?_
    refine hK10 _ _ ?_
    refine CW.condp rfl (fun c14 => ?_) (fun c14 => ?_)
    ·
      have hil : i < a.length := by omega
      have hxi := hx a[i] (List.getElem_mem hil)
      have hyi := hy b[i] (List.getElem_mem (by omega))
      refine CW.skip ?_
      refine hK9 _ _ ?_
      refine CW.seq (fun K11 hK11 hE11 => ?_)
      refine CW.block (fun K12 hK12 hX12 hE12 => ?_)
      refine CW.seq (fun K13 hK13 hE13 => ?_)
      refine CW.region_draw rfl (by kernel_rfl) ?_
      refine LR.v (Y.move rfl rfl) (Wd.u rfl) rfl rfl ?_
      refine LR.v (Y.move rfl rfl) (Wd.u rfl) rfl rfl ?_
      refine LR.e (g := fun ad => .pointer (some ad)) (Y.indexAddrF ha (i) rfl Tryd.runUnderlying22 Tryd.sizeOf23 rfl rfl (by first | rfl | omega) (by first | omega | (simp; omega) | (simp; done))) (Wd.u rfl) rfl rfl (fun ad19 pt19 => ?_)
      have bf_pt19 := bf_ha
      refine LR.v (Y.load1 pt19.pt rfl Tryd.isAgg23 rfl) (Wd.u rfl) rfl rfl ?_
      refine LR.v (Y.bstr hxi rfl Tryd.underlying23 Tryd.underlying9 Tryd.underlying5 rfl) (Wd.u rfl) rfl rfl ?_
      refine LR.v (Y.move rfl rfl) (Wd.u rfl) rfl rfl ?_
      refine LR.v (Y.move rfl rfl) (Wd.u rfl) rfl rfl ?_
      refine LR.e (g := fun ad => .pointer (some ad)) (Y.indexAddrF hb (i) rfl Tryd.runUnderlying22 Tryd.sizeOf23 rfl rfl (by first | rfl | omega) (by first | omega | (simp; omega) | (simp; done))) (Wd.u rfl) rfl rfl (fun ad24 pt24 => ?_)
      have bf_pt24 := bf_hb
      refine LR.v (Y.load1 pt24.pt rfl Tryd.isAgg23 rfl) (Wd.u rfl) rfl rfl ?_
      refine LR.v (Y.bstr hyi rfl Tryd.underlying23 Tryd.underlying9 Tryd.underlying5 rfl) (Wd.u rfl) rfl rfl ?_
      refine LR.v (Y.sneq rfl rfl rfl) (Wd.u rfl) rfl rfl ?_
      refine LR.nil ?_
      refine hK13 _ _ ?_
      refine CW.condp rfl (fun c27 => ?_) (fun c27 => ?_)
      ·
        refine CW.seq (fun K14 hK14 hE14 => ?_)
        refine CW.region ?_
        refine LR.v (Y.assign rfl rfl) (Wd.u rfl) rfl rfl ?_
        refine LR.nil ?_
        refine hK14 _ _ ?_
        refine CW.ret (hE12 .ret nofun (by simp) _ _ (hE11 .ret nofun _ _ (hE8 .ret nofun _ _ (hE7 .ret nofun (by simp) _ _ (hE5 .ret nofun _ _ (hret .ret (.inr rfl) _ _ _ (res1 rfl rfl) ?_))))))
        have hne : ¬ recs a = recs b := fun h => c27 (by have : (recs a)[i]? = (recs b)[i]? := (by rw [h]); simp only [recs, List.getElem?_map] at this; rw [List.getElem?_eq_getElem hil, List.getElem?_eq_getElem (by omega)] at this; exact Option.some.inj this)
        exact ⟨by rw [decide_eq_false hne], hm0⟩
      ·
        refine CW.skip ?_
        refine hK12 _ _ ?_
        refine hK11 _ _ ?_
        refine CW.region ?_
        refine LR.v (Y.move rfl rfl) (Wd.u rfl) rfl rfl ?_
        refine LR.v (Y.addi rfl rfl rfl (by omega)) (Wd.u rfl) rfl rfl ?_
        refine LR.v (Y.assign rfl rfl) (Wd.u rfl) rfl rfl ?_
        refine LR.nil ?_
        refine QN.sub (hN8 (i + 1) _ ?_ ?_) ⟨rfl, rfl, (iv (by omega)), trivial⟩
        · exact ⟨(by omega), by rw [List.take_succ_eq_append_getElem (by omega), List.take_succ_eq_append_getElem (by omega), he]; simp only [recs, List.getElem_map]; rw [show a[i].2 = b[i].2 from Decidable.byContradiction (fun h => c27 h)], hlm1⟩
        · first | omega | (simp only; omega) | (simp; omega)
    ·
      refine CW.exit (hE9 (.exit 0) nofun _ _ (hE8 (.exit 0) nofun _ _ (hX7 _ _ ?_)))
      refine hK5 _ _ ?_
      refine CW.seq (fun K15 hK15 hE15 => ?_)
      refine CW.region ?_
      refine LR.v (Y.assign rfl rfl) (Wd.u rfl) rfl rfl ?_
      refine LR.nil ?_
      refine hK15 _ _ ?_
      refine CW.ret (hret .ret (.inr rfl) _ _ _ (res1 rfl rfl) ?_)
      have hil : i = a.length := by omega
      have he2 : recs a = recs b := by rw [← List.take_length (l := recs a), ← List.take_length (l := recs b), hla, hlb, ← hab, ← hil]; exact he
      exact ⟨by rw [decide_eq_true he2], hm0⟩

set_option maxHeartbeats 2000000 in
theorem record_ct (n : Nat) (s : SV) (rc : List UInt8) (w0 : World) (H0 : Heap)
    (hr : RdT H0 fB 1 s.v rc) (hrl : rc.length ≤ 1000000) :
    Ct Tryd.prog w0 25 #[.int .i64 (n : Int), s.v] H0 (fun r H2 => ∃ t : SV, ∃ k : Nat, r = t.v ∧ (Ow k 5 H2 fB 1 t.v (layW n rc)) ∧ (Nx 0 H0.size k) ∧ Nw H0 H2) := by
  refine Ct.enter (args := [.int .i64 (n : Int), s.v]) Tryd.func25 rfl rfl rfl ?_
  intro Q0 hret
  have hm0 : Nw H0 H0 := Mo.refl _ _
  replace hr := hr.bnd
  have bf_hr := hr.bf
  refine CW.seq (fun K1 hK1 hE1 => ?_)
  refine CW.region ?_
  refine LR.v (Y.assign rfl rfl) (Wd.u rfl) rfl rfl ?_
  refine LR.nil ?_
  refine hK1 _ _ ?_
  refine CW.seq (fun K2 hK2 hE2 => ?_)
  refine CW.region ?_
  refine LR.v (Y.move rfl rfl) (Wd.u rfl) rfl rfl ?_
  refine LR.v (Y.cast (v2 := .int .u64 (UInt64.ofNat n).toNat) (Y.conv_u64 rfl Tryd.runUnderlying3 Tryd.runUnderlying83 rfl) (rfl)) (Wd.u rfl) rfl rfl ?_
  -- call selvage/selvageref1.Num
  refine LR.call rfl Tryd.call40 rfl (Wd.u rfl) rfl rfl (Num.num_ct 0 _ [] 8 (UInt64.ofNat (n)) w0 _ (Ow.nil fB_len fB_one) (by omega) (by simp)) (fun v9 H9 r9 => ?_)
  obtain ⟨v29, k9, rfl, ow9a, hk9, hs9⟩ := r9
  have df1 := DF.app (DF.z) (bf_hr.mono hm0.size) hk9
  have nx2 : Nx 0 H0.size k9 := Nx.tr (Nx.refl 0 _) hk9 hm0.size
  replace hr := hr.upL hs9 (DFL.cons DF.z DFL.nil)
  replace hm0 := (Mo.trL (ks := []) (hm0.mdn []) hs9 (MIL.cons MI.z MIL.nil)).nil
  have hz1 := hs9.size
  have hle_ow9a := ow9a.le
  rw [List.nil_append] at ow9a
  obtain ⟨s9, rfl⟩ : ∃ s : SV, v9 = s.v := ⟨toSV v9, ow9a.sv.symm⟩
  refine LR.v (Y.move rfl rfl) (Wd.u rfl) rfl rfl ?_
  refine LR.z (Z.apnd ow9a hr rfl inf23 rfl rfl (by rw [Num.numL_len]; omega) (by rw [Num.numL_len]; omega)) (Wd.u rfl) rfl rfl (fun v11 H11 r11 => ?_)
  obtain ⟨k11, ow11, hk11, hs11⟩ := r11
  replace hk11 : Nx k9 H9.size k11 := hk11
  replace hs11 := hs11.md
  have df3 := DF.app (df1) (bf_hr.mono hm0.size) hk11
  have nx4 : Nx 0 H0.size k11 := Nx.tr (nx2) hk11 hm0.size
  replace hr := hr.upL hs11 (DFL.cons df1 DFL.nil)
  replace hm0 := (Mo.trL (ks := []) (hm0.mdn []) hs11 (MIL.cons (MI.app MI.z (nx2) (Nat.le_refl _)) MIL.nil)).nil
  have hz2 := hs11.size
  have hle_ow11 := ow11.le
  -- call selvage/selvageref1.Of
  refine LR.call rfl Tryd.call39 rfl (Wd.u rfl) rfl rfl (rof_ct _ (Num.numL 8 (UInt64.ofNat n) ++ rc) w0 _ ow11.rd.any (by rw [List.length_append, Num.numL_len]; omega)) (fun v12 H12 r12 => ?_)
  obtain ⟨rfl, hs12⟩ := r12
  replace hr := hr.nw hs12
  replace ow11 := ow11.nw hs12
  replace hm0 := hm0.tr hs12
  have hz3 := hs12.size
  obtain ⟨b0, b1, b2, b3, b4, b5, b6, b7, b8, b9, b10, b11, b12, b13, b14, b15, b16, b17, b18, b19, b20, b21, b22, b23, b24, b25, b26, b27, b28, b29, b30, b31, hS⟩ : ∃ b0 b1 b2 b3 b4 b5 b6 b7 b8 b9 b10 b11 b12 b13 b14 b15 b16 b17 b18 b19 b20 b21 b22 b23 b24 b25 b26 b27 b28 b29 b30 b31 : UInt8, sumOf (Num.numL 8 (UInt64.ofNat n) ++ rc) = [b0, b1, b2, b3, b4, b5, b6, b7, b8, b9, b10, b11, b12, b13, b14, b15, b16, b17, b18, b19, b20, b21, b22, b23, b24, b25, b26, b27, b28, b29, b30, b31] := l32 (sumOf_len _)
  have hck : chkW n rc = [b0, b1, b2, b3, b4, b5, b6, b7] := by unfold chkW; rw [hS]; rfl
  rw [hS]
  refine LR.z (Z.allocv rfl Tryd.zeroValue80) (Wd.u rfl) rfl rfl (fun v5 H5 r5 => ?_)
  obtain ⟨rfl, va5, hs5, ob5, hH5⟩ := r5
  have hzs5 : H5.size = H12.size + 1 := by rw [hH5]; simp
  have df5 := (DF.new (bf_hr.mono hm0.size) : DF _ (H12.size + 1))
  have dj6 : Dj k11 (H12.size + 1) := Dj.new ow11.le
  have nx7 : Nx 0 H0.size (H12.size + 1) := Nx.new hm0.size
  replace hr := hr.nw hs5
  replace ow11 := ow11.nw hs5
  replace hm0 := hm0.tr hs5
  have hz4 := hs5.size
  replace va5 : Var 80 H5 H12.size ((List.replicate 32 (0 : UInt8)).map V8) := va5
  refine LR.s (S.var va5 (([b0, b1, b2, b3, b4, b5, b6, b7, b8, b9, b10, b11, b12, b13, b14, b15, b16, b17, b18, b19, b20, b21, b22, b23, b24, b25, b26, b27, b28, b29, b30, b31] : List UInt8).map V8) (([b0, b1, b2, b3, b4, b5, b6, b7, b8, b9, b10, b11, b12, b13, b14, b15, b16, b17, b18, b19, b20, b21, b22, b23, b24, b25, b26, b27, b28, b29, b30, b31] : List UInt8).map V8) rfl rfl rfl rfl (by intro u hu; obtain ⟨x, _, rfl⟩ := List.mem_map.1 hu; rfl) Tryd.sizeOf80 (rfl) (by decide) (rfl)) (Wd.u rfl) rfl (fun H1_7 r1_7 => ?_)
  obtain ⟨va5, hs1_7⟩ := r1_7
  replace hs1_7 := hs1_7.md1
  replace hr := hr.upL hs1_7 (DFL.cons df5 DFL.nil)
  replace ow11 := ow11.upL hs1_7 (DL.cons dj6 DL.nil)
  replace hm0 := (Mo.trL (ks := []) (hm0.mdn []) hs1_7 (MIL.cons (MI.app MI.z (nx7) (Nat.le_refl _)) MIL.nil)).nil
  have hz5 := hs1_7.size
  refine LR.nil ?_
  refine hK2 _ _ ?_
  refine CW.seq (fun K3 hK3 hE3 => ?_)
  refine CW.region ?_
  refine LR.v (Y.move rfl rfl) (Wd.u rfl) rfl rfl ?_
  refine LR.v (Y.len hr rfl Tryd.runUnderlying23 rfl) (Wd.u rfl) rfl rfl ?_
  refine LR.v (Y.cast (v2 := .int .u64 (UInt64.ofNat rc.length).toNat) (Y.conv_u64 rfl Tryd.runUnderlying3 Tryd.runUnderlying83 rfl) (rfl)) (Wd.u rfl) rfl rfl ?_
  -- call selvage/selvageref1.Num
  refine LR.call rfl Tryd.call40 rfl (Wd.u rfl) rfl rfl (Num.num_ct 0 _ [] 4 (UInt64.ofNat (rc.length)) w0 _ (Ow.nil fB_len fB_one) (by omega) (by simp)) (fun v16 H16 r16 => ?_)
  obtain ⟨v216, k16, rfl, ow16, hk16, hs16⟩ := r16
  have df8 := DF.app (DF.z) (bf_hr.mono hm0.size) hk16
  have dj9 : Dj (H12.size + 1) k16 := Dj.app (Dj.z) va5.lt hk16
  have nx10 : Nx 0 H0.size k16 := Nx.tr (Nx.refl 0 _) hk16 hm0.size
  replace hr := hr.upL hs16 (DFL.cons DF.z DFL.nil)
  replace va5 := va5.upL hs16 (DL.cons Dj.z DL.nil)
  replace hm0 := (Mo.trL (ks := []) (hm0.mdn []) hs16 (MIL.cons MI.z MIL.nil)).nil
  have hz6 := hs16.size
  have hle_ow16 := ow16.le
  rw [List.nil_append] at ow16
  obtain ⟨s16, rfl⟩ : ∃ s : SV, v16 = s.v := ⟨toSV v16, ow16.sv.symm⟩
  rw [num_be32 _ (by omega)] at ow16
  refine LR.v (Y.assign rfl rfl) (Wd.u rfl) rfl rfl ?_
  refine LR.nil ?_
  refine hK3 _ _ ?_
  refine CW.seq (fun K4 hK4 hE4 => ?_)
  refine CW.region ?_
  refine LR.v (Y.move rfl rfl) (Wd.u rfl) rfl rfl ?_
  refine LR.v (Y.arrAddr va5.pt (0) rfl Tryd.runUnderlying80 Tryd.sizeOf5 rfl rfl (by first | rfl | omega) (by first | omega | (simp; omega) | (simp; done))) (Wd.u rfl) rfl rfl ?_
  refine LR.v (Y.load1 va5.pt rfl Tryd.isAgg5 rfl) (Wd.u rfl) rfl rfl ?_
  refine LR.v (Y.arrAddr va5.pt (1) rfl Tryd.runUnderlying80 Tryd.sizeOf5 rfl rfl (by first | rfl | omega) (by first | omega | (simp; omega) | (simp; done))) (Wd.u rfl) rfl rfl ?_
  refine LR.v (Y.load1 (va5.pt.drop 1) rfl Tryd.isAgg5 rfl) (Wd.u rfl) rfl rfl ?_
  refine LR.v (Y.arrAddr va5.pt (2) rfl Tryd.runUnderlying80 Tryd.sizeOf5 rfl rfl (by first | rfl | omega) (by first | omega | (simp; omega) | (simp; done))) (Wd.u rfl) rfl rfl ?_
  refine LR.v (Y.load1 (va5.pt.drop 2) rfl Tryd.isAgg5 rfl) (Wd.u rfl) rfl rfl ?_
  refine LR.v (Y.arrAddr va5.pt (3) rfl Tryd.runUnderlying80 Tryd.sizeOf5 rfl rfl (by first | rfl | omega) (by first | omega | (simp; omega) | (simp; done))) (Wd.u rfl) rfl rfl ?_
  refine LR.v (Y.load1 (va5.pt.drop 3) rfl Tryd.isAgg5 rfl) (Wd.u rfl) rfl rfl ?_
  refine LR.v (Y.arrAddr va5.pt (4) rfl Tryd.runUnderlying80 Tryd.sizeOf5 rfl rfl (by first | rfl | omega) (by first | omega | (simp; omega) | (simp; done))) (Wd.u rfl) rfl rfl ?_
  refine LR.v (Y.load1 (va5.pt.drop 4) rfl Tryd.isAgg5 rfl) (Wd.u rfl) rfl rfl ?_
  refine LR.v (Y.arrAddr va5.pt (5) rfl Tryd.runUnderlying80 Tryd.sizeOf5 rfl rfl (by first | rfl | omega) (by first | omega | (simp; omega) | (simp; done))) (Wd.u rfl) rfl rfl ?_
  refine LR.v (Y.load1 (va5.pt.drop 5) rfl Tryd.isAgg5 rfl) (Wd.u rfl) rfl rfl ?_
  refine LR.v (Y.arrAddr va5.pt (6) rfl Tryd.runUnderlying80 Tryd.sizeOf5 rfl rfl (by first | rfl | omega) (by first | omega | (simp; omega) | (simp; done))) (Wd.u rfl) rfl rfl ?_
  refine LR.v (Y.load1 (va5.pt.drop 6) rfl Tryd.isAgg5 rfl) (Wd.u rfl) rfl rfl ?_
  refine LR.v (Y.arrAddr va5.pt (7) rfl Tryd.runUnderlying80 Tryd.sizeOf5 rfl rfl (by first | rfl | omega) (by first | omega | (simp; omega) | (simp; done))) (Wd.u rfl) rfl rfl ?_
  refine LR.v (Y.load1 (va5.pt.drop 7) rfl Tryd.isAgg5 rfl) (Wd.u rfl) rfl rfl ?_
  refine LR.z (Z.litw _ (([b0, b1, b2, b3, b4, b5, b6, b7] : List UInt8)) rfl inf23 rfl rfl rfl (by decide) (by decide) fB_len fB_one (rfl)) (Wd.u rfl) rfl rfl (fun v34 H34 r34 => ?_)
  obtain ⟨ow34, hs34, ob34, hH34⟩ := r34
  have hzs34 : H34.size = H16.size + 1 := by rw [hH34]; simp
  have df11 := (DF.new (bf_hr.mono hm0.size) : DF _ (H16.size + 1))
  have dj12 : Dj (H12.size + 1) (H16.size + 1) := Dj.new va5.lt
  have dj13 : Dj k16 (H16.size + 1) := Dj.new ow16.le
  have nx14 : Nx 0 H0.size (H16.size + 1) := Nx.new hm0.size
  replace hr := hr.nw hs34
  replace va5 := va5.nw hs34
  replace ow16 := ow16.nw hs34
  replace hm0 := hm0.tr hs34
  have hz7 := hs34.size
  refine LR.z (Z.apnd ow16 ow34.rd rfl inf23 rfl rfl (by rw [be32_len]; simp) (by rw [be32_len]; simp)) (Wd.u rfl) rfl rfl (fun v35 H35 r35 => ?_)
  obtain ⟨k35, ow16, hk35, hs35⟩ := r35
  replace hk35 : Nx k16 H34.size k35 := hk35
  replace hs35 := hs35.md
  have df15 := DF.app (df8) (bf_hr.mono hm0.size) hk35
  have dj16 : Dj (H12.size + 1) k35 := Dj.app (dj9) va5.lt hk35
  have dj17 : Dj (H16.size + 1) k35 := Dj.app (dj13.symm) ow34.le hk35
  have nx18 : Nx 0 H0.size k35 := Nx.tr (nx10) hk35 hm0.size
  replace hr := hr.upL hs35 (DFL.cons df8 DFL.nil)
  replace va5 := va5.upL hs35 (DL.cons dj9 DL.nil)
  replace ow34 := ow34.upL hs35 (DL.cons dj13.symm DL.nil)
  replace hm0 := (Mo.trL (ks := []) (hm0.mdn []) hs35 (MIL.cons (MI.app MI.z (nx10) (Nat.le_refl _)) MIL.nil)).nil
  have hz8 := hs35.size
  have hle_ow16 := ow16.le
  refine LR.v (Y.assign rfl rfl) (Wd.u rfl) rfl rfl ?_
  refine LR.nil ?_
  refine hK4 _ _ ?_
  refine CW.seq (fun K5 hK5 hE5 => ?_)
  refine CW.region ?_
  refine LR.v (Y.move rfl rfl) (Wd.u rfl) rfl rfl ?_
  refine LR.v (Y.move rfl rfl) (Wd.u rfl) rfl rfl ?_
  refine LR.z (Z.apnd ow16 hr rfl inf23 rfl rfl (by rw [List.length_append, be32_len]; simp; omega) (by rw [List.length_append, be32_len]; simp; omega)) (Wd.u rfl) rfl rfl (fun v38 H38 r38 => ?_)
  obtain ⟨k38, ow16, hk38, hs38⟩ := r38
  replace hk38 : Nx k35 H35.size k38 := hk38
  replace hs38 := hs38.md
  have df19 := DF.app (df15) (bf_hr.mono hm0.size) hk38
  have nx20 : Nx 0 H0.size k38 := Nx.tr (nx18) hk38 hm0.size
  replace hr := hr.upL hs38 (DFL.cons df15 DFL.nil)
  replace hm0 := (Mo.trL (ks := []) (hm0.mdn []) hs38 (MIL.cons (MI.app MI.z (nx18) (Nat.le_refl _)) MIL.nil)).nil
  have hz9 := hs38.size
  have hle_ow16 := ow16.le
  refine LR.v (Y.assign rfl rfl) (Wd.u rfl) rfl rfl ?_
  refine LR.nil ?_
  refine hK5 _ _ ?_
  refine CW.ret (hret .ret (.inr rfl) _ _ _ (res1 rfl rfl) ?_)
  obtain ⟨so, rfl⟩ : ∃ s : SV, v38 = s.v := ⟨toSV v38, ow16.sv.symm⟩
  exact ⟨so, k38, rfl, by unfold layW; rw [hck, ← List.append_assoc]; exact ow16, nx20, hm0⟩

theorem rencode_ct (s : SV) (l : List (SV × Rec)) (w0 : World) (H0 : Heap)
    (hl : RdT H0 fP 1 s.v l) (hx : ∀ x ∈ l, RdT H0 fB 1 x.1.v x.2) (hrl : ∀ x ∈ l, x.2.length ≤ 1000000) (hel : (encN 0 (recs l)).length ≤ 1099510000000) :
    Ct Tryd.prog w0 12 #[s.v] H0 (fun r H2 => ∃ t : SV, ∃ k : Nat, r = t.v ∧ (Ow k 5 H2 fB 1 t.v (encW (recs l))) ∧ (Nx 0 H0.size k) ∧ Nw H0 H2) := by
  refine Ct.enter (args := [s.v]) Tryd.func12 rfl rfl rfl ?_
  intro Q0 hret
  have hm0 : Nw H0 H0 := Mo.refl _ _
  replace hl := hl.bnd
  have bf_hl := hl.bf
  replace hx := fun x hx0 => (hx x hx0).bnd
  have bf_hx : BF (fun b => True ∧ b < H0.size) H0.size := fun b h => h.2
  have hll := hl.len
  refine CW.seq (fun K1 hK1 hE1 => ?_)
  refine CW.region ?_
  refine LR.v (Y.assign rfl rfl) (Wd.u rfl) rfl rfl ?_
  refine LR.nil ?_
  refine hK1 _ _ ?_
  refine CW.seq (fun K2 hK2 hE2 => ?_)
  refine CW.region ?_
  refine LR.z (Z.litw _ (W8) rfl inf23 rfl rfl rfl (by decide) (by decide) fB_len fB_one (rfl)) (Wd.u rfl) rfl rfl (fun v5 H5 r5 => ?_)
  obtain ⟨ow, hs5, ob5, hH5⟩ := r5
  have hzs5 : H5.size = H0.size + 1 := by rw [hH5]; simp
  have df1 := (DF.new (bf_hl.mono hm0.size) : DF _ (H0.size + 1))
  have df2 := (DF.new (bf_hx.mono hm0.size) : DF _ (H0.size + 1))
  have nx3 : Nx 0 H0.size (H0.size + 1) := Nx.new hm0.size
  replace hl := hl.nw hs5
  replace hx := fun x hx0 => (hx x hx0).nw hs5
  replace hm0 := hm0.tr hs5
  have hz1 := hs5.size
  refine LR.z (Z.bconst ow (by decide) rfl Tryd.underlying23 Tryd.underlying5 rfl) (Wd.u rfl) rfl rfl (fun v6 H6 r6 => ?_)
  obtain ⟨rfl, ow, hs6⟩ := r6
  replace hs6 := hs6.md
  replace hl := hl.upL hs6 (DFL.cons df1 DFL.nil)
  replace hx := fun x hx0 => (hx x hx0).upL hs6 (DFL.cons df2 DFL.nil)
  replace hm0 := (Mo.trL (ks := []) (hm0.mdn []) hs6 (MIL.cons (MI.app MI.z (nx3) (Nat.le_refl _)) MIL.nil)).nil
  have hz2 := hs6.size
  refine LR.v (Y.assign rfl rfl) (Wd.u rfl) rfl rfl ?_
  refine LR.nil ?_
  refine hK2 _ _ ?_
  refine CW.seq (fun K3 hK3 hE3 => ?_)
  refine CW.seq (fun K4 hK4 hE4 => ?_)
  refine CW.region ?_
  refine LR.v (Y.assign rfl rfl) (Wd.u rfl) rfl rfl ?_
  refine LR.nil ?_
  refine hK4 _ _ ?_
  refine CW.block (fun K5 hK5 hX5 hE5 => ?_)
  refine CW.loop (fun (s_ : (Nat) × (Value) × (Nat)) => match s_ with | (i, vo, ko) => [(0, s.v), (3, vo), (4, .int .i64 (i : Int))])
    (fun (s_ : (Nat) × (Value) × (Nat)) (H : Heap) => match s_ with | (i, vo, ko) => (i ≤ l.length) ∧ (Ow ko 5 H fB 1 vo (W8 ++ encN 0 (recs (l.take i)))) ∧ (Nx (H0.size + 1) H6.size ko) ∧ Mo (Ms [(H0.size + 1)]) H6 H)
    (fun (s_ : (Nat) × (Value) × (Nat)) => match s_ with | (i, vo, ko) => l.length - i) (0, v6, (H0.size + 1)) ⟨rfl, rfl, rfl, trivial⟩ ?_ ?_
  ·
    exact ⟨(by omega), by simpa only [List.take_zero, recs, List.map_nil, encN, List.append_nil] using ow, Nx.refl _ _, Mo.refl _ _⟩
  rintro ⟨i, vo, ko⟩ HL1 hI1 K6 hN6 hE6
  obtain ⟨hi, ow, nxl_ow, hlm1⟩ := hI1
  have df4 := DF.app (df1) (bf_hl.mono hm0.size) nxl_ow
  have df5 := DF.app (df2) (bf_hx.mono hm0.size) nxl_ow
  have nx6 : Nx 0 H0.size ko := Nx.tr (nx3) nxl_ow hm0.size
  replace hl := hl.upL hlm1 (DFL.cons df1 DFL.nil)
  replace hx := fun x hx0 => (hx x hx0).upL hlm1 (DFL.cons df2 DFL.nil)
  replace hm0 := (Mo.trL (ks := []) (hm0.mdn []) hlm1 (MIL.cons (MI.app MI.z (nx3) (Nat.le_refl _)) MIL.nil)).nil
  have hz3 := hlm1.size
  have hle_ow := ow.le
  have nx7 := nxl_ow
  refine CW.seq (fun K7 hK7 hE7 => ?_)
  refine CW.seq (fun K8 hK8 hE8 => ?_)
  refine CW.region ?_
  refine LR.v (Y.move rfl rfl) (Wd.u rfl) rfl rfl ?_
  refine LR.v (Y.move rfl rfl) (Wd.u rfl) rfl rfl ?_
  refine LR.v (Y.len hl rfl Tryd.runUnderlying22 rfl) (Wd.u rfl) rfl rfl ?_
  refine LR.v (Y.lss rfl rfl rfl) (Wd.u rfl) rfl rfl ?_
  refine LR.nil ?_
  refine hK8 _ _ ?_
  refine CW.condp rfl (fun c10 => ?_) (fun c10 => ?_)
  ·
    refine CW.skip ?_
    refine hK7 _ _ ?_
    refine CW.seq (fun K9 hK9 hE9 => ?_)
    refine CW.block (fun K10 hK10 hX10 hE10 => ?_)
    refine CW.region ?_
    refine LR.v (Y.move rfl rfl) (Wd.u rfl) rfl rfl ?_
    refine LR.v (Y.move rfl rfl) (Wd.u rfl) rfl rfl ?_
    refine LR.v (Y.move rfl rfl) (Wd.u rfl) rfl rfl ?_
    refine LR.v (Y.move rfl rfl) (Wd.u rfl) rfl rfl ?_
    have hil : i < l.length := by omega
    have hel2 := encN_take_le2 hil
    have hxi := hx l[i] (List.getElem_mem hil)
    have hri := hrl l[i] (List.getElem_mem hil)
    have h8 : W8.length = 8 := rfl
    have hwl := layW_len i l[i].2
    refine LR.e (g := fun ad => .pointer (some ad)) (Y.indexAddrF hl (i) rfl Tryd.runUnderlying22 Tryd.sizeOf23 rfl rfl (by first | rfl | omega) (by first | omega | (simp; omega) | (simp; done))) (Wd.u rfl) rfl rfl (fun ad17 pt17 => ?_)
    have bf_pt17 := bf_hl
    refine LR.v (Y.load1 pt17.pt rfl Tryd.isAgg23 rfl) (Wd.u rfl) rfl rfl ?_
    -- call selvage/selvageref3.record
    refine LR.call rfl Tryd.call25 rfl (Wd.u rfl) rfl rfl (record_ct i l[i].1 l[i].2 w0 _ hxi.any (by omega)) (fun v19 H19 r19 => ?_)
    obtain ⟨t18, k18, rfl, ow18, hk19, hs19⟩ := r19
    have df8 := DF.app (DF.z) (bf_hl.mono hm0.size) hk19
    have df9 := DF.app (DF.z) (bf_hx.mono hm0.size) hk19
    have dj10 : Dj ko k18 := Dj.app (Dj.z) ow.le hk19
    have df11 := DF.app (DF.z) (bf_pt17.mono hm0.size) hk19
    have nx12 : Nx 0 H0.size k18 := Nx.tr (Nx.refl 0 _) hk19 hm0.size
    have nx13 : Nx 0 H6.size k18 := Nx.tr (Nx.refl 0 _) hk19 hlm1.size
    replace hl := hl.nw hs19
    replace hx := fun x hx0 => (hx x hx0).nw hs19
    replace ow := ow.nw hs19
    replace pt17 := pt17.nw hs19
    replace hm0 := hm0.tr hs19
    replace hlm1 := hlm1.trN hs19
    have hz4 := hs19.size
    have hle_ow18 := ow18.le
    refine LR.z (Z.apnd ow ow18.rd rfl inf23 rfl rfl (by simp only [List.length_append]; omega) (by simp only [List.length_append]; omega)) (Wd.u rfl) rfl rfl (fun v20 H20 r20 => ?_)
    obtain ⟨k20, ow, hk20, hs20⟩ := r20
    replace hk20 : Nx ko H19.size k20 := hk20
    replace hs20 := hs20.md
    have df14 := DF.app (df4) (bf_hl.mono hm0.size) hk20
    have df15 := DF.app (df5) (bf_hx.mono hm0.size) hk20
    have df16 := DF.app (df4) (bf_pt17.mono hm0.size) hk20
    have dj17 : Dj k18 k20 := Dj.app (dj10.symm) ow18.le hk20
    have nx18 : Nx 0 H0.size k20 := Nx.tr (nx6) hk20 hm0.size
    have nx19 : Nx (H0.size + 1) H6.size k20 := Nx.tr (nx7) hk20 hlm1.size
    replace hl := hl.upL hs20 (DFL.cons df4 DFL.nil)
    replace hx := fun x hx0 => (hx x hx0).upL hs20 (DFL.cons df5 DFL.nil)
    replace pt17 := pt17.upL hs20 (DFL.cons df4 DFL.nil)
    replace ow18 := ow18.upL hs20 (DL.cons dj10.symm DL.nil)
    replace hm0 := (Mo.trL (ks := []) (hm0.mdn []) hs20 (MIL.cons (MI.app MI.z (nx6) (Nat.le_refl _)) MIL.nil)).nil
    replace hlm1 := hlm1.trL hs20 (MIL.cons (MI.app (MI.root (by simp)) (nx7) (Nat.le_refl _)) MIL.nil)
    have hz5 := hs20.size
    have hle_ow := ow.le
    refine LR.z (Z.litw _ ([(67 : UInt8)]) rfl inf23 rfl rfl rfl (by decide) (by decide) fB_len fB_one (rfl)) (Wd.u rfl) rfl rfl (fun v21 H21 r21 => ?_)
    obtain ⟨ow20, hs21, ob21, hH21⟩ := r21
    have hzs21 : H21.size = H20.size + 1 := by rw [hH21]; simp
    have df20 := (DF.new (bf_hl.mono hm0.size) : DF _ (H20.size + 1))
    have df21 := (DF.new (bf_hx.mono hm0.size) : DF _ (H20.size + 1))
    have dj22 : Dj k20 (H20.size + 1) := Dj.new ow.le
    have df23 := (DF.new (bf_pt17.mono hm0.size) : DF _ (H20.size + 1))
    have dj24 : Dj k18 (H20.size + 1) := Dj.new ow18.le
    have nx25 : Nx 0 H0.size (H20.size + 1) := Nx.new hm0.size
    have nx26 : Nx 0 H6.size (H20.size + 1) := Nx.new hlm1.size
    replace hl := hl.nw hs21
    replace hx := fun x hx0 => (hx x hx0).nw hs21
    replace ow := ow.nw hs21
    replace pt17 := pt17.nw hs21
    replace ow18 := ow18.nw hs21
    replace hm0 := hm0.tr hs21
    replace hlm1 := hlm1.trN hs21
    have hz6 := hs21.size
    refine LR.z (Z.apnd ow ow20.rd rfl inf23 rfl rfl (by simp only [List.length_append, List.length_singleton]; omega) (by simp only [List.length_append, List.length_singleton]; omega)) (Wd.u rfl) rfl rfl (fun v22 H22 r22 => ?_)
    obtain ⟨k22, ow, hk22, hs22⟩ := r22
    replace hk22 : Nx k20 H21.size k22 := hk22
    replace hs22 := hs22.md
    have df27 := DF.app (df14) (bf_hl.mono hm0.size) hk22
    have df28 := DF.app (df15) (bf_hx.mono hm0.size) hk22
    have df29 := DF.app (df16) (bf_pt17.mono hm0.size) hk22
    have dj30 : Dj k18 k22 := Dj.app (dj17) ow18.le hk22
    have dj31 : Dj (H20.size + 1) k22 := Dj.app (dj22.symm) ow20.le hk22
    have nx32 : Nx 0 H0.size k22 := Nx.tr (nx18) hk22 hm0.size
    have nx33 : Nx (H0.size + 1) H6.size k22 := Nx.tr (nx19) hk22 hlm1.size
    replace hl := hl.upL hs22 (DFL.cons df14 DFL.nil)
    replace hx := fun x hx0 => (hx x hx0).upL hs22 (DFL.cons df15 DFL.nil)
    replace pt17 := pt17.upL hs22 (DFL.cons df16 DFL.nil)
    replace ow18 := ow18.upL hs22 (DL.cons dj17 DL.nil)
    replace ow20 := ow20.upL hs22 (DL.cons dj22.symm DL.nil)
    replace hm0 := (Mo.trL (ks := []) (hm0.mdn []) hs22 (MIL.cons (MI.app MI.z (nx18) (Nat.le_refl _)) MIL.nil)).nil
    replace hlm1 := hlm1.trL hs22 (MIL.cons (MI.app (MI.root (by simp)) (nx19) (Nat.le_refl _)) MIL.nil)
    have hz7 := hs22.size
    have hle_ow := ow.le
    refine LR.v (Y.assign rfl rfl) (Wd.u rfl) rfl rfl ?_
    refine LR.nil ?_
    refine hK10 _ _ ?_
    refine hK9 _ _ ?_
    refine CW.region ?_
    refine LR.v (Y.move rfl rfl) (Wd.u rfl) rfl rfl ?_
    refine LR.v (Y.addi rfl rfl rfl (by omega)) (Wd.u rfl) rfl rfl ?_
    refine LR.v (Y.assign rfl rfl) (Wd.u rfl) rfl rfl ?_
    refine LR.nil ?_
    refine QN.sub (hN6 (i + 1, v22, k22) _ ?_ ?_) ⟨rfl, rfl, (iv (by omega)), trivial⟩
    · exact ⟨(by omega), by rw [encN_take hil, ← List.append_assoc]; unfold recW; rw [← List.append_assoc]; exact ow, nx33, hlm1⟩
    · first | omega | (simp only; omega) | (simp; omega)
  ·
    refine CW.exit (hE7 (.exit 0) nofun _ _ (hE6 (.exit 0) nofun _ _ (hX5 _ _ ?_)))
    refine hK3 _ _ ?_
    refine CW.seq (fun K11 hK11 hE11 => ?_)
    refine CW.region ?_
    refine LR.v (Y.move rfl rfl) (Wd.u rfl) rfl rfl ?_
    refine LR.v (Y.assign rfl rfl) (Wd.u rfl) rfl rfl ?_
    refine LR.nil ?_
    refine hK11 _ _ ?_
    refine CW.ret (hret .ret (.inr rfl) _ _ _ (res1 rfl rfl) ?_)
    have hil : i = l.length := by omega
    rw [hil, List.take_length] at ow
    obtain ⟨so, rfl⟩ : ∃ s : SV, vo = s.v := ⟨toSV vo, ow.sv.symm⟩
    exact ⟨so, ko, rfl, ow, nx6, hm0⟩

end Go.Proofs.YtdliddjkacbggaaDoor.WalJ
/-
  A journal's bytes: read by the document; any bytes; bytes that were turned.
-/
namespace Go.Proofs.YtdliddjkacbggaaDoor.WalK
open Go.Proofs.YtdliddjkacbggaaDoor.E Go.RowKit Go.Proofs.YtdliddjkacbggaaDoor.SumB Go.Proofs.YtdliddjkacbggaaDoor.SumC Go.Proofs.YtdliddjkacbggaaDoor.SumF Go.Proofs.YtdliddjkacbggaaDoor.SumG Go.Proofs.YtdliddjkacbggaaDoor.DelA Go.Proofs.YtdliddjkacbggaaDoor.SimA Go.Proofs.YtdliddjkacbggaaDoor.SimB Go.Proofs.YtdliddjkacbggaaDoor.SimR Go.Proofs.YtdliddjkacbggaaDoor.WalA Go.Proofs.YtdliddjkacbggaaDoor.WalB Go.Proofs.YtdliddjkacbggaaDoor.WalC Go.Proofs.YtdliddjkacbggaaDoor.WalI Go.Proofs.YtdliddjkacbggaaDoor.WalJ
set_option maxRecDepth 20000
set_option linter.unusedVariables false
set_option linter.unusedSimpArgs false
set_option linter.unusedSectionVars false
set_option maxRecDepth 100000 in
theorem inf22 : Inf Tryd.prog 22 23 1 24 := ⟨Tryd.underlying22, _, _, rfl, rfl, rfl, rfl, rfl⟩
set_option maxRecDepth 100000 in
theorem inf23 : Inf Tryd.prog 23 5 1 1 := ⟨Tryd.underlying23, _, _, rfl, rfl, rfl, rfl, rfl⟩

theorem take_drop2 (b : List UInt8) (i j n : Nat) : (b.take (i + (j + n))).drop (i + j) = ((b.drop i).drop j).take n := by
  rw [List.drop_drop, ← take_drop', Nat.add_assoc]
theorem par_hd {b : List UInt8} (h : ¬ b.take 8 = W8) : parE b = 16 ∧ parS b = 0 ∧ parL b = [] := by
  unfold parE parS parL; rw [if_neg h, if_neg h, if_neg h]; exact ⟨rfl, rfl, rfl⟩

set_option maxHeartbeats 2000000 in
theorem rparse_ct (s : SV) (b : List UInt8) (w0 : World) (H0 : Heap)
    (hb : RdT H0 fB 1 s.v b) (hbl : b.length ≤ 900000) :
    Ct Tryd.prog w0 10 #[s.v] H0 (fun r H2 => ∃ t : SV, ∃ l : List (SV × Rec), r = .tuple #[t.v, .int .i64 (parS b : Int), .int .i64 (parE b : Int)] ∧ (recs l = parL b) ∧ (Rd (fun b => H0.size ≤ b) H2 fP 1 t.v l) ∧ (∀ x ∈ l, Rd (fun b => H0.size ≤ b) H2 fB 1 x.1.v x.2) ∧ Nw H0 H2) := by
  refine Ct.enter (args := [s.v]) Tryd.func10 rfl rfl rfl ?_
  intro Q0 hret
  have hm0 : Nw H0 H0 := Mo.refl _ _
  replace hb := hb.bnd
  have bf_hb := hb.bf
  refine CW.seq (fun K1 hK1 hE1 => ?_)
  refine CW.region ?_
  refine LR.v (Y.assign rfl rfl) (Wd.u rfl) rfl rfl ?_
  refine LR.v (Y.assign rfl rfl) (Wd.u rfl) rfl rfl ?_
  refine LR.v (Y.assign rfl rfl) (Wd.u rfl) rfl rfl ?_
  refine LR.nil ?_
  refine hK1 _ _ ?_
  refine CW.seq (fun K2 hK2 hE2 => ?_)
  refine CW.seq (fun K3 hK3 hE3 => ?_)
  refine CW.region ?_
  refine LR.v (Y.move rfl rfl) (Wd.u rfl) rfl rfl ?_
  refine LR.v (Y.len hb rfl Tryd.runUnderlying23 rfl) (Wd.u rfl) rfl rfl ?_
  refine LR.v (Y.lss rfl rfl rfl) (Wd.u rfl) rfl rfl ?_
  refine LR.v (Y.move rfl rfl) (Wd.u rfl) rfl rfl ?_
  refine LR.splitp (d := 12) rfl (fun g12 => ?_) (fun g12 => ?_)
  ·
    have h8 : ¬ b.take 8 = W8 := fun h => by have := congrArg List.length h; rw [List.length_take] at this; have h9 : W8.length = 8 := rfl; omega
    refine LR.gs rfl rfl rfl rfl rfl rfl ?_
    refine LR.gs rfl rfl rfl rfl rfl rfl ?_
    refine LR.gs rfl rfl rfl rfl rfl rfl ?_
    refine LR.gs rfl rfl rfl rfl rfl rfl ?_
    refine LR.v (Y.pick_t rfl rfl rfl) (Wd.u rfl) rfl rfl ?_
    refine LR.nil ?_
    refine hK3 _ _ ?_
    refine CW.cond_t rfl ?_
    refine CW.seq (fun K4 hK4 hE4 => ?_)
    refine CW.region ?_
    refine LR.v (Y.assign rfl rfl) (Wd.u rfl) rfl rfl ?_
    refine LR.v (Y.assign rfl rfl) (Wd.u rfl) rfl rfl ?_
    refine LR.v (Y.assign rfl rfl) (Wd.u rfl) rfl rfl ?_
    refine LR.nil ?_
    refine hK4 _ _ ?_
    refine CW.ret (hE2 .ret nofun _ _ (hret .ret (.inr rfl) _ _ _ (res3 rfl rfl rfl rfl) ?_))
    obtain ⟨q1, q2, q3⟩ := par_hd h8
    exact ⟨⟨none, 0, 0⟩, [], by rw [q1, q2]; rfl, by rw [q3]; rfl, Rd.nil _ _ _ _, (fun x h => by cases h), hm0⟩
  ·
    refine LR.v (Y.move rfl rfl) (Wd.g rfl rfl rfl) rfl rfl ?_
    refine LR.e (g := fun v => v) (Y.slice hb (0) (8) rfl Tryd.runUnderlying23 Tryd.sizeOf5 rfl (.inl ⟨rfl, rfl⟩) (.inr ⟨_, _, _, rfl, rfl, by first | rfl | omega⟩) (by omega) (by omega)) (Wd.g rfl rfl rfl) rfl rfl (fun v14 rd14 => ?_)
    have bf_rd14 := bf_hb
    rw [List.drop_zero] at rd14
    refine LR.v (Y.bstr rd14 rfl Tryd.underlying23 Tryd.underlying9 Tryd.underlying5 rfl) (Wd.g rfl rfl rfl) rfl rfl ?_
    refine LR.v (Y.sneq rfl rfl rfl) (Wd.g rfl rfl rfl) rfl rfl ?_
    refine LR.v (Y.pick_f rfl rfl rfl) (Wd.u rfl) rfl rfl ?_
    refine LR.nil ?_
    refine hK3 _ _ ?_
    refine CW.condp rfl (fun c17 => ?_) (fun c17 => ?_)
    ·
      have h8 : ¬ b.take 8 = W8 := c17
      refine CW.seq (fun K5 hK5 hE5 => ?_)
      refine CW.region ?_
      refine LR.v (Y.assign rfl rfl) (Wd.u rfl) rfl rfl ?_
      refine LR.v (Y.assign rfl rfl) (Wd.u rfl) rfl rfl ?_
      refine LR.v (Y.assign rfl rfl) (Wd.u rfl) rfl rfl ?_
      refine LR.nil ?_
      refine hK5 _ _ ?_
      refine CW.ret (hE2 .ret nofun _ _ (hret .ret (.inr rfl) _ _ _ (res3 rfl rfl rfl rfl) ?_))
      obtain ⟨q1, q2, q3⟩ := par_hd h8
      exact ⟨⟨none, 0, 0⟩, [], by rw [q1, q2]; rfl, by rw [q3]; rfl, Rd.nil _ _ _ _, (fun x h => by cases h), hm0⟩
    ·
      have h8 : b.take 8 = W8 := Decidable.byContradiction (fun h => c17 h)
      refine CW.skip ?_
      refine hK2 _ _ ?_
      refine CW.seq (fun K6 hK6 hE6 => ?_)
      refine CW.region ?_
      refine LR.v (Y.assign rfl rfl) (Wd.u rfl) rfl rfl ?_
      refine LR.nil ?_
      refine hK6 _ _ ?_
      refine CW.seq (fun K7 hK7 hE7 => ?_)
      refine CW.region ?_
      refine LR.v (Y.assign rfl rfl) (Wd.u rfl) rfl rfl ?_
      refine LR.nil ?_
      refine hK7 _ _ ?_
      refine CW.seq (fun K8 hK8 hE8 => ?_)
      refine CW.block (fun K9 hK9 hX9 hE9 => ?_)
      refine CW.loop (fun (s_ : (Nat) × (Value) × (Nat) × (List (SV × Rec)) × (Nat → Prop)) => match s_ with | (a, vo, ko, l, G) => [(0, s.v), (5, .int .i64 (a : Int)), (6, vo)])
        (fun (s_ : (Nat) × (Value) × (Nat) × (List (SV × Rec)) × (Nat → Prop)) (H : Heap) => match s_ with | (a, vo, ko, l, G) => (PS b (recs l) a) ∧ (Ow ko 23 H fP 1 vo l) ∧ (∀ x ∈ l, Rd G H fB 1 x.1.v x.2) ∧ (BF G H.size) ∧ (DF G ko) ∧ (∀ c, G c → H0.size ≤ c) ∧ (Nx 0 H0.size ko) ∧ Nw H0 H)
        (fun (s_ : (Nat) × (Value) × (Nat) × (List (SV × Rec)) × (Nat → Prop)) => match s_ with | (a, vo, ko, l, G) => b.length - a) (8, .slice none 0 0, 0, [], fun _ => False) ⟨rfl, rfl, rfl, trivial⟩ ?_ ?_
      ·
        exact ⟨PS.start h8, Ow.nil fP_len fP_one, (fun x h => by cases h), (fun b e => e.elim), (fun b e => e.elim), (fun c e => e.elim), Nx.refl _ _, Mo.refl _ _⟩
      rintro ⟨a, vo, ko, l, G⟩ HL1 hI1 K10 hN10 hE10
      obtain ⟨hps, ow, hxa, bf_hxa, f1, hG, nxl_ow, hlm1⟩ := hI1
      have df1 := DF.app (DF.z) (bf_hb.mono hm0.size) nxl_ow
      have nx2 : Nx 0 H0.size ko := Nx.tr (Nx.refl 0 _) nxl_ow hm0.size
      replace hb := hb.nw hlm1
      replace hm0 := hm0.tr hlm1
      have hz1 := hlm1.size
      have hle_ow := ow.le
      have nx3 := nxl_ow
      have hal := hps.le
      have hrl : (b.drop a).length = b.length - a := List.length_drop
      have hln : (recs l).length = l.length := by simp [recs]
      have hll := hps.ln
      have hle8 : l.length ≤ (encW (recs l)).length := by rw [← hln]; exact encW_many _
      refine CW.seq (fun K11 hK11 hE11 => ?_)
      refine CW.seq (fun K12 hK12 hE12 => ?_)
      refine CW.region ?_
      refine LR.v (Y.move rfl rfl) (Wd.u rfl) rfl rfl ?_
      refine LR.v (Y.len hb rfl Tryd.runUnderlying23 rfl) (Wd.u rfl) rfl rfl ?_
      refine LR.v (Y.move rfl rfl) (Wd.u rfl) rfl rfl ?_
      refine LR.v (Y.subi rfl rfl rfl (by omega)) (Wd.u rfl) rfl rfl ?_
      refine LR.v (Y.geq rfl rfl rfl) (Wd.u rfl) rfl rfl ?_
      refine LR.nil ?_
      refine hK12 _ _ ?_
      refine CW.condp rfl (fun c22 => ?_) (fun c22 => ?_)
      ·
        have hR : 12 < (b.drop a).length := by omega
        have hb4 : big (b.drop a) < 4294967296 := bev4 _ (by rw [List.length_take]; omega)
        refine CW.skip ?_
        refine hK11 _ _ ?_
        refine CW.block (fun K13 hK13 hX13 hE13 => ?_)
        refine CW.seq (fun K14 hK14 hE14 => ?_)
        refine CW.region ?_
        refine LR.v (Y.move rfl rfl) (Wd.u rfl) rfl rfl ?_
        refine LR.v (Y.move rfl rfl) (Wd.u rfl) rfl rfl ?_
        -- call selvage/selvageref1.Get
        refine LR.call rfl Tryd.call24 rfl (Wd.u rfl) rfl rfl (get_ct _ b a 4 w0 _ hb.any (by omega) (by omega)) (fun v25 H25 r25 => ?_)
        obtain ⟨rfl, hs25⟩ := r25
        replace hb := hb.nw hs25
        replace ow := ow.nw hs25
        replace hxa := fun x hxa_ => (hxa x hxa_).nw hs25
        replace hm0 := hm0.tr hs25
        replace hlm1 := hlm1.tr hs25
        have hz2 := hs25.size
        refine LR.v (Y.cast (v2 := .int .i64 (big (b.drop a) : Int)) (Y.assign rfl rfl) (rfl)) (Wd.u rfl) rfl rfl ?_
        refine LR.nil ?_
        refine hK14 _ _ ?_
        refine CW.seq (fun K15 hK15 hE15 => ?_)
        refine CW.seq (fun K16 hK16 hE16 => ?_)
        refine CW.region ?_
        refine LR.v (Y.move rfl rfl) (Wd.u rfl) rfl rfl ?_
        refine LR.v (Y.gtr rfl rfl rfl) (Wd.u rfl) rfl rfl ?_
        refine LR.v (Y.move rfl rfl) (Wd.u rfl) rfl rfl ?_
        refine LR.splitp (d := 28) rfl (fun g28 => ?_) (fun g28 => ?_)
        ·
          have hno : oneW (recs l).length (b.drop a) = none := oneW_big (.inl (by omega))
          refine LR.gs rfl rfl rfl rfl rfl rfl ?_
          refine LR.gs rfl rfl rfl rfl rfl rfl ?_
          refine LR.gs rfl rfl rfl rfl rfl rfl ?_
          refine LR.gs rfl rfl rfl rfl rfl rfl ?_
          refine LR.gs rfl rfl rfl rfl rfl rfl ?_
          refine LR.gs rfl rfl rfl rfl rfl rfl ?_
          refine LR.gs rfl rfl rfl rfl rfl rfl ?_
          refine LR.v (Y.pick_t rfl rfl rfl) (Wd.u rfl) rfl rfl ?_
          refine LR.nil ?_
          refine hK16 _ _ ?_
          refine CW.cond_t rfl ?_
          refine CW.exit (hE15 (.exit 0) nofun _ _ (hE13 (.exit 0) nofun (by simp) _ _ (hE10 (.exit 0) nofun _ _ (hX9 _ _ ?_))))
          refine hK8 _ _ ?_
          refine CW.seq (fun K17 hK17 hE17 => ?_)
          refine CW.region ?_
          refine LR.v (Y.move rfl rfl) (Wd.u rfl) rfl rfl ?_
          refine LR.v (Y.move rfl rfl) (Wd.u rfl) rfl rfl ?_
          refine LR.v (Y.assign rfl rfl) (Wd.u rfl) rfl rfl ?_
          refine LR.v (Y.assign rfl rfl) (Wd.u rfl) rfl rfl ?_
          refine LR.v (Y.assign rfl rfl) (Wd.u rfl) rfl rfl ?_
          refine LR.nil ?_
          refine hK17 _ _ ?_
          refine CW.ret (hret .ret (.inr rfl) _ _ _ (res3 rfl rfl rfl rfl) ?_)
          obtain ⟨q1, q2⟩ := hps.stop hno
          obtain ⟨so, rfl⟩ : ∃ s : SV, vo = s.v := ⟨toSV vo, ow.sv.symm⟩
          exact ⟨so, l, by rw [hps.e, ← q2]; rfl, q1, (ow.rd.imp (fun c _ e => by have h9 := (nx2); unfold Nx at h9; omega)), (fun x h => (hxa x h).imp (fun c _ e => hG c e)), hm0⟩
        ·
          refine LR.v (Y.move rfl rfl) (Wd.g rfl rfl rfl) rfl rfl ?_
          refine LR.v (Y.move rfl rfl) (Wd.g rfl rfl rfl) rfl rfl ?_
          refine LR.v (Y.len hb rfl Tryd.runUnderlying23 rfl) (Wd.g rfl rfl rfl) rfl rfl ?_
          refine LR.v (Y.move rfl rfl) (Wd.g rfl rfl rfl) rfl rfl ?_
          refine LR.v (Y.subi rfl rfl rfl (by omega)) (Wd.g rfl rfl rfl) rfl rfl ?_
          refine LR.v (Y.subi rfl rfl rfl (by omega)) (Wd.g rfl rfl rfl) rfl rfl ?_
          refine LR.v (Y.gtr rfl rfl rfl) (Wd.g rfl rfl rfl) rfl rfl ?_
          refine LR.v (Y.pick_f rfl rfl rfl) (Wd.u rfl) rfl rfl ?_
          refine LR.nil ?_
          refine hK16 _ _ ?_
          refine CW.condp rfl (fun c36 => ?_) (fun c36 => ?_)
          ·
            have hno : oneW (recs l).length (b.drop a) = none := oneW_big (.inr (by omega))
            refine CW.exit (hE15 (.exit 0) nofun _ _ (hE13 (.exit 0) nofun (by simp) _ _ (hE10 (.exit 0) nofun _ _ (hX9 _ _ ?_))))
            refine hK8 _ _ ?_
            refine CW.seq (fun K18 hK18 hE18 => ?_)
            refine CW.region ?_
            refine LR.v (Y.move rfl rfl) (Wd.u rfl) rfl rfl ?_
            refine LR.v (Y.move rfl rfl) (Wd.u rfl) rfl rfl ?_
            refine LR.v (Y.assign rfl rfl) (Wd.u rfl) rfl rfl ?_
            refine LR.v (Y.assign rfl rfl) (Wd.u rfl) rfl rfl ?_
            refine LR.v (Y.assign rfl rfl) (Wd.u rfl) rfl rfl ?_
            refine LR.nil ?_
            refine hK18 _ _ ?_
            refine CW.ret (hret .ret (.inr rfl) _ _ _ (res3 rfl rfl rfl rfl) ?_)
            obtain ⟨q1, q2⟩ := hps.stop hno
            obtain ⟨so, rfl⟩ : ∃ s : SV, vo = s.v := ⟨toSV vo, ow.sv.symm⟩
            exact ⟨so, l, by rw [hps.e, ← q2]; rfl, q1, (ow.rd.imp (fun c _ e => by have h9 := (nx2); unfold Nx at h9; omega)), (fun x h => (hxa x h).imp (fun c _ e => hG c e)), hm0⟩
          ·
            have hrcl : (((b.drop a).drop 12).take (big (b.drop a))).length = big (b.drop a) := by rw [List.length_take, List.length_drop]; omega
            refine CW.skip ?_
            refine hK15 _ _ ?_
            refine CW.seq (fun K19 hK19 hE19 => ?_)
            refine CW.region ?_
            refine LR.z (Z.litw _ (([] : List UInt8)) rfl inf23 rfl rfl rfl (by decide) (by decide) fB_len fB_one (rfl)) (Wd.u rfl) rfl rfl (fun v37 H37 r37 => ?_)
            obtain ⟨nd, hs37, ob37, hH37⟩ := r37
            have hzs37 : H37.size = H25.size + 1 := by rw [hH37]; simp
            have df4 := (DF.new (bf_hb.mono hm0.size) : DF _ (H25.size + 1))
            have dj5 : Dj ko (H25.size + 1) := Dj.new ow.le
            have df6 := (DF.new (bf_hxa.mono (by omega)) : DF _ (H25.size + 1))
            have nx7 : Nx 0 H0.size (H25.size + 1) := Nx.new hm0.size
            have nx8 : Nx 0 H0.size (H25.size + 1) := Nx.new hlm1.size
            replace hb := hb.nw hs37
            replace ow := ow.nw hs37
            replace hxa := fun x hxa_ => (hxa x hxa_).nw hs37
            replace hm0 := hm0.tr hs37
            replace hlm1 := hlm1.tr hs37
            have hz3 := hs37.size
            refine LR.v (Y.move rfl rfl) (Wd.u rfl) rfl rfl ?_
            refine LR.v (Y.move rfl rfl) (Wd.u rfl) rfl rfl ?_
            refine LR.v (Y.cast (v2 := .int .i64 ((a + 12 : Nat) : Int)) (Y.addi rfl rfl rfl (by omega)) (ivv (by omega))) (Wd.u rfl) rfl rfl ?_
            refine LR.v (Y.move rfl rfl) (Wd.u rfl) rfl rfl ?_
            refine LR.v (Y.addi rfl rfl rfl (by omega)) (Wd.u rfl) rfl rfl ?_
            refine LR.v (Y.move rfl rfl) (Wd.u rfl) rfl rfl ?_
            refine LR.v (Y.cast (v2 := .int .i64 ((a + (12 + big (b.drop a)) : Nat) : Int)) (Y.addi rfl rfl rfl (by omega)) (ivv (by omega))) (Wd.u rfl) rfl rfl ?_
            refine LR.e (g := fun v => v) (Y.slice hb (a + 12) (a + (12 + big (b.drop a))) rfl Tryd.runUnderlying23 Tryd.sizeOf5 rfl (.inr ⟨_, _, _, rfl, rfl, by first | rfl | omega⟩) (.inr ⟨_, _, _, rfl, rfl, by first | rfl | omega⟩) (by omega) (by omega)) (Wd.u rfl) rfl rfl (fun v45 rd45 => ?_)
            have bf_rd45 := bf_hb
            rw [take_drop2] at rd45
            refine LR.z (Z.apnd nd rd45 rfl inf23 rfl rfl (by simp only [List.length_nil]; omega) (by simp only [List.length_nil]; omega)) (Wd.u rfl) rfl rfl (fun v46 H46 r46 => ?_)
            obtain ⟨k46, nd, hk46, hs46⟩ := r46
            replace hk46 : Nx (H25.size + 1) H37.size k46 := hk46
            replace hs46 := hs46.md
            have df9 := DF.app (df4) (bf_hb.mono hm0.size) hk46
            have dj10 : Dj ko k46 := Dj.app (dj5) ow.le hk46
            have df11 := DF.app (df6) (bf_hxa.mono (by omega)) hk46
            have df12 := DF.app (df4) (bf_rd45.mono hm0.size) hk46
            have nx13 : Nx 0 H0.size k46 := Nx.tr (nx7) hk46 hm0.size
            have nx14 : Nx 0 H0.size k46 := Nx.tr (nx8) hk46 hlm1.size
            replace hb := hb.upL hs46 (DFL.cons df4 DFL.nil)
            replace ow := ow.upL hs46 (DL.cons dj5 DL.nil)
            replace hxa := fun x hxa_ => (hxa x hxa_).upL hs46 (DFL.cons df6 DFL.nil)
            replace rd45 := rd45.upL hs46 (DFL.cons df4 DFL.nil)
            replace hm0 := (Mo.trL (ks := []) (hm0.mdn []) hs46 (MIL.cons (MI.app MI.z (nx7) (Nat.le_refl _)) MIL.nil)).nil
            replace hlm1 := (Mo.trL (ks := []) (hlm1.mdn []) hs46 (MIL.cons (MI.app MI.z (nx8) (Nat.le_refl _)) MIL.nil)).nil
            have hz4 := hs46.size
            have hle_nd := nd.le
            rw [List.nil_append] at nd
            obtain ⟨s46, rfl⟩ : ∃ s : SV, v46 = s.v := ⟨toSV v46, nd.sv.symm⟩
            refine LR.v (Y.assign rfl rfl) (Wd.u rfl) rfl rfl ?_
            refine LR.nil ?_
            refine hK19 _ _ ?_
            refine CW.seq (fun K20 hK20 hE20 => ?_)
            refine CW.seq (fun K21 hK21 hE21 => ?_)
            refine CW.region_any (fun Hq => Nw H46 Hq) [] rfl ?_
            have hqs := Nw.refl H46
            refine LH.take 0 (by kernel_rfl) rfl (by kernel_rfl) (by kernel_rfl) (by kernel_rfl) (fun Hq hq => Y.move rfl rfl) (Wd.u rfl) rfl rfl hqs ?_
            refine LH.take 1 (by kernel_rfl) rfl (by kernel_rfl) (by kernel_rfl) (by kernel_rfl) (fun Hq hq => Y.cast (v2 := .int .i64 (l.length : Int)) (Y.len (ow.rd.nw hq) rfl Tryd.runUnderlying22 rfl) (rfl)) (Wd.u rfl) rfl rfl hqs ?_
            refine LH.take 2 (by kernel_rfl) rfl (by kernel_rfl) (by kernel_rfl) (by kernel_rfl) (fun Hq hq => Y.move rfl rfl) (Wd.u rfl) rfl rfl hqs ?_
            refine LH.take 5 (by kernel_rfl) rfl (by kernel_rfl) (by kernel_rfl) (by kernel_rfl) (fun Hq hq => Y.move rfl rfl) (Wd.u rfl) rfl rfl hqs ?_
            refine LH.take 6 (by kernel_rfl) rfl (by kernel_rfl) (by kernel_rfl) (by kernel_rfl) (fun Hq hq => Y.move rfl rfl) (Wd.u rfl) rfl rfl hqs ?_
            refine LH.take 7 (by kernel_rfl) rfl (by kernel_rfl) (by kernel_rfl) (by kernel_rfl) (fun Hq hq => Y.move rfl rfl) (Wd.u rfl) rfl rfl hqs ?_
            refine LH.take 8 (by kernel_rfl) rfl (by kernel_rfl) (by kernel_rfl) (by kernel_rfl) (fun Hq hq => Y.addi rfl rfl rfl (by omega)) (Wd.u rfl) rfl rfl hqs ?_
            refine LH.take 9 (by kernel_rfl) rfl (by kernel_rfl) (by kernel_rfl) (by kernel_rfl) (fun Hq hq => Y.move rfl rfl) (Wd.u rfl) rfl rfl hqs ?_
            refine LH.take 10 (by kernel_rfl) rfl (by kernel_rfl) (by kernel_rfl) (by kernel_rfl) (fun Hq hq => Y.cast (v2 := .int .i64 ((a + (12 + big (b.drop a)) : Nat) : Int)) (Y.addi rfl rfl rfl (by omega)) (ivv (by omega))) (Wd.u rfl) rfl rfl hqs ?_
            refine LH.e (g := fun v => v) 11 (by kernel_rfl) rfl (by kernel_rfl) (by kernel_rfl) (by kernel_rfl) (Y.slice hb (a) (a + (12 + big (b.drop a))) rfl Tryd.runUnderlying23 Tryd.sizeOf5 rfl (.inr ⟨_, _, _, rfl, rfl, by first | rfl | omega⟩) (.inr ⟨_, _, _, rfl, rfl, by first | rfl | omega⟩) (by omega) (by omega)) (Wd.u rfl) rfl rfl hqs (fun v58 rd58 => ?_)
            have bf_rd58 := bf_hb
            rw [take_drop'] at rd58
            refine LH.take 12 (by kernel_rfl) rfl (by kernel_rfl) (by kernel_rfl) (by kernel_rfl) (fun Hq hq => Y.bstr (rd58.nw hq) rfl Tryd.underlying23 Tryd.underlying9 Tryd.underlying5 rfl) (Wd.u rfl) rfl rfl hqs ?_
            refine LH.one (i := 3) (by kernel_rfl) ?_
            -- call selvage/selvageref3.record
            refine LO.call rfl rfl Tryd.call25 rfl (Wd.u rfl) rfl rfl (record_ct l.length s46 (((b.drop a).drop 12).take (big (b.drop a))) w0 _ nd.rd.any (by omega)) (fun v50 H50 r50 => ?_)
            obtain ⟨t50, k50, rfl, ow50, hk50, hs50⟩ := r50
            have df15 := DF.app (DF.z) (bf_hb.mono hm0.size) hk50
            have dj16 : Dj ko k50 := Dj.app (Dj.z) ow.le hk50
            have df17 := DF.app (DF.z) (bf_hxa.mono (by omega)) hk50
            have dj18 : Dj k46 k50 := Dj.app (Dj.z) nd.le hk50
            have df19 := DF.app (DF.z) (bf_rd58.mono hm0.size) hk50
            have nx20 : Nx 0 H0.size k50 := Nx.tr (Nx.refl 0 _) hk50 hm0.size
            have nx21 : Nx 0 H0.size k50 := Nx.tr (Nx.refl 0 _) hk50 hlm1.size
            replace hb := hb.nw hs50
            replace ow := ow.nw hs50
            replace hxa := fun x hxa_ => (hxa x hxa_).nw hs50
            replace nd := nd.nw hs50
            replace rd58 := rd58.nw hs50
            replace hm0 := hm0.tr hs50
            replace hlm1 := hlm1.tr hs50
            have hz5 := hs50.size
            have hle_ow50 := ow50.le
            have hq50 := hqs.tr hs50
            refine ⟨.inr hq50, LH.narrow (SH2 := fun Hq => Nw H50 Hq) (fun Hq hq => hq50.tr hq) ?_⟩
            have hqn50 := Nw.refl H50
            refine LH.take 4 (by kernel_rfl) rfl (by kernel_rfl) (by kernel_rfl) (by kernel_rfl) (fun Hq hq => Y.bstr (ow50.rd.nw hq) rfl Tryd.underlying23 Tryd.underlying9 Tryd.underlying5 rfl) (Wd.u rfl) rfl rfl hqn50 ?_
            refine LH.take 13 (by kernel_rfl) rfl (by kernel_rfl) (by kernel_rfl) (by kernel_rfl) (fun Hq hq => Y.sneq rfl rfl rfl) (Wd.u rfl) rfl rfl hqn50 ?_
            refine LH.take 14 (by kernel_rfl) rfl (by kernel_rfl) (by kernel_rfl) (by kernel_rfl) (fun Hq hq => Y.move rfl rfl) (Wd.u rfl) rfl rfl hqn50 ?_
            refine LH.splitp (d := 61) rfl (fun g61 => ?_) (fun g61 => ?_)
            ·
              have hno : oneW (recs l).length (b.drop a) = none := by rw [hln]; exact oneW_ref1 g61
              refine LH.gs 15 (by kernel_rfl) rfl (by kernel_rfl) (by kernel_rfl) (by kernel_rfl) rfl rfl rfl rfl rfl rfl hqn50 ?_
              refine LH.gs 16 (by kernel_rfl) rfl (by kernel_rfl) (by kernel_rfl) (by kernel_rfl) rfl rfl rfl rfl rfl rfl hqn50 ?_
              refine LH.gs 17 (by kernel_rfl) rfl (by kernel_rfl) (by kernel_rfl) (by kernel_rfl) rfl rfl rfl rfl rfl rfl hqn50 ?_
              refine LH.gs 18 (by kernel_rfl) rfl (by kernel_rfl) (by kernel_rfl) (by kernel_rfl) rfl rfl rfl rfl rfl rfl hqn50 ?_
              refine LH.gs 19 (by kernel_rfl) rfl (by kernel_rfl) (by kernel_rfl) (by kernel_rfl) rfl rfl rfl rfl rfl rfl hqn50 ?_
              refine LH.gs 20 (by kernel_rfl) rfl (by kernel_rfl) (by kernel_rfl) (by kernel_rfl) rfl rfl rfl rfl rfl rfl hqn50 ?_
              refine LH.gs 21 (by kernel_rfl) rfl (by kernel_rfl) (by kernel_rfl) (by kernel_rfl) rfl rfl rfl rfl rfl rfl hqn50 ?_
              refine LH.gs 22 (by kernel_rfl) rfl (by kernel_rfl) (by kernel_rfl) (by kernel_rfl) rfl rfl rfl rfl rfl rfl hqn50 ?_
              refine LH.take 23 (by kernel_rfl) rfl (by kernel_rfl) (by kernel_rfl) (by kernel_rfl) (fun Hq hq => Y.pick_t rfl rfl rfl) (Wd.u rfl) rfl rfl hqn50 ?_
              refine LH.done (by kernel_rfl) ?_
              have hqe := hqn50
              refine hK21 _ _ ?_
              refine CW.cond_t rfl ?_
              refine CW.exit (hE20 (.exit 0) nofun _ _ (hE13 (.exit 0) nofun (by simp) _ _ (hE10 (.exit 0) nofun _ _ (hX9 _ _ ?_))))
              refine hK8 _ _ ?_
              refine CW.seq (fun K22 hK22 hE22 => ?_)
              refine CW.region ?_
              refine LR.v (Y.move rfl rfl) (Wd.u rfl) rfl rfl ?_
              refine LR.v (Y.move rfl rfl) (Wd.u rfl) rfl rfl ?_
              refine LR.v (Y.assign rfl rfl) (Wd.u rfl) rfl rfl ?_
              refine LR.v (Y.assign rfl rfl) (Wd.u rfl) rfl rfl ?_
              refine LR.v (Y.assign rfl rfl) (Wd.u rfl) rfl rfl ?_
              refine LR.nil ?_
              refine hK22 _ _ ?_
              refine CW.ret (hret .ret (.inr rfl) _ _ _ (res3 rfl rfl rfl rfl) ?_)
              obtain ⟨q1, q2⟩ := hps.stop hno
              obtain ⟨so, rfl⟩ : ∃ s : SV, vo = s.v := ⟨toSV vo, ow.sv.symm⟩
              exact ⟨so, l, by rw [hps.e, ← q2]; rfl, q1, (ow.rd.imp (fun c _ e => by have h9 := (nx2); unfold Nx at h9; omega)), (fun x h => (hxa x h).imp (fun c _ e => hG c e)), hm0⟩
            ·
              have hly : layW l.length (((b.drop a).drop 12).take (big (b.drop a))) = (b.drop a).take (12 + big (b.drop a)) := Decidable.byContradiction (fun h => g61 h)
              refine LH.take 15 (by kernel_rfl) rfl (by kernel_rfl) (by kernel_rfl) (by kernel_rfl) (fun Hq hq => Y.move rfl rfl) (Wd.g rfl rfl rfl) rfl rfl hqn50 ?_
              refine LH.take 16 (by kernel_rfl) rfl (by kernel_rfl) (by kernel_rfl) (by kernel_rfl) (fun Hq hq => Y.move rfl rfl) (Wd.g rfl rfl rfl) rfl rfl hqn50 ?_
              refine LH.take 17 (by kernel_rfl) rfl (by kernel_rfl) (by kernel_rfl) (by kernel_rfl) (fun Hq hq => Y.addi rfl rfl rfl (by omega)) (Wd.g rfl rfl rfl) rfl rfl hqn50 ?_
              refine LH.take 18 (by kernel_rfl) rfl (by kernel_rfl) (by kernel_rfl) (by kernel_rfl) (fun Hq hq => Y.move rfl rfl) (Wd.g rfl rfl rfl) rfl rfl hqn50 ?_
              refine LH.take 19 (by kernel_rfl) rfl (by kernel_rfl) (by kernel_rfl) (by kernel_rfl) (fun Hq hq => Y.cast (v2 := .int .i64 ((a + (12 + big (b.drop a)) : Nat) : Int)) (Y.addi rfl rfl rfl (by omega)) (ivv (by omega))) (Wd.g rfl rfl rfl) rfl rfl hqn50 ?_
              refine LH.e (g := fun ad => .pointer (some ad)) 20 (by kernel_rfl) rfl (by kernel_rfl) (by kernel_rfl) (by kernel_rfl) (Y.indexAddrF hb (a + (12 + big (b.drop a))) rfl Tryd.runUnderlying23 Tryd.sizeOf5 rfl rfl (by first | rfl | omega) (by first | omega | (simp; omega) | (simp; done))) (Wd.g rfl rfl rfl) rfl rfl hqn50 (fun ad67 pt67 => ?_)
              have bf_pt67 := bf_hb
              refine LH.take 21 (by kernel_rfl) rfl (by kernel_rfl) (by kernel_rfl) (by kernel_rfl) (fun Hq hq => Y.load1 (pt67.pt.nw hq) rfl Tryd.isAgg5 rfl) (Wd.g rfl rfl rfl) rfl rfl hqn50 ?_
              refine LH.take 22 (by kernel_rfl) rfl (by kernel_rfl) (by kernel_rfl) (by kernel_rfl) (fun Hq hq => Y.neq rfl rfl rfl) (Wd.g rfl rfl rfl) rfl rfl hqn50 ?_
              refine LH.take 23 (by kernel_rfl) rfl (by kernel_rfl) (by kernel_rfl) (by kernel_rfl) (fun Hq hq => Y.pick_f rfl rfl rfl) (Wd.u rfl) rfl rfl hqn50 ?_
              refine LH.done (by kernel_rfl) ?_
              have hqe := hqn50
              refine hK21 _ _ ?_
              refine CW.condp rfl (fun c70 => ?_) (fun c70 => ?_)
              ·
                have hge : (b.drop a).getD (12 + big (b.drop a)) 0 = b[a + (12 + big (b.drop a))] := by rw [List.getD_eq_getElem?_getD, List.getElem?_drop, List.getElem?_eq_getElem (by omega)]; rfl
                have hno : oneW (recs l).length (b.drop a) = none := oneW_mark (by rw [hge]; exact u8_ne c70 (by decide))
                refine CW.exit (hE20 (.exit 0) nofun _ _ (hE13 (.exit 0) nofun (by simp) _ _ (hE10 (.exit 0) nofun _ _ (hX9 _ _ ?_))))
                refine hK8 _ _ ?_
                refine CW.seq (fun K23 hK23 hE23 => ?_)
                refine CW.region ?_
                refine LR.v (Y.move rfl rfl) (Wd.u rfl) rfl rfl ?_
                refine LR.v (Y.move rfl rfl) (Wd.u rfl) rfl rfl ?_
                refine LR.v (Y.assign rfl rfl) (Wd.u rfl) rfl rfl ?_
                refine LR.v (Y.assign rfl rfl) (Wd.u rfl) rfl rfl ?_
                refine LR.v (Y.assign rfl rfl) (Wd.u rfl) rfl rfl ?_
                refine LR.nil ?_
                refine hK23 _ _ ?_
                refine CW.ret (hret .ret (.inr rfl) _ _ _ (res3 rfl rfl rfl rfl) ?_)
                obtain ⟨q1, q2⟩ := hps.stop hno
                obtain ⟨so, rfl⟩ : ∃ s : SV, vo = s.v := ⟨toSV vo, ow.sv.symm⟩
                exact ⟨so, l, by rw [hps.e, ← q2]; rfl, q1, (ow.rd.imp (fun c _ e => by have h9 := (nx2); unfold Nx at h9; omega)), (fun x h => (hxa x h).imp (fun c _ e => hG c e)), hm0⟩
              ·
                have hge : (b.drop a).getD (12 + big (b.drop a)) 0 = b[a + (12 + big (b.drop a))] := by rw [List.getD_eq_getElem?_getD, List.getElem?_drop, List.getElem?_eq_getElem (by omega)]; rfl
                have hyes : oneW (recs l).length (b.drop a) = some (((b.drop a).drop 12).take (big (b.drop a))) := by rw [hln]; exact oneW_ref (by omega) (by omega) hly (by rw [hge]; exact u8_eq (Decidable.byContradiction c70) (by decide))
                refine CW.skip ?_
                refine hK20 _ _ ?_
                refine CW.seq (fun K24 hK24 hE24 => ?_)
                refine CW.region ?_
                refine LR.v (Y.move rfl rfl) (Wd.u rfl) rfl rfl ?_
                refine LR.v (Y.move rfl rfl) (Wd.u rfl) rfl rfl ?_
                refine LR.z (Z.litw _ ([(s46, ((b.drop a).drop 12).take (big (b.drop a)))]) rfl inf22 rfl rfl rfl (by decide) (by decide) fP_len fP_one (rfl)) (Wd.u rfl) rfl rfl (fun v73 H73 r73 => ?_)
                obtain ⟨nw73, hs73, ob73, hH73⟩ := r73
                have hzs73 : H73.size = H50.size + 1 := by rw [hH73]; simp
                have df22 := (DF.new (bf_hb.mono hm0.size) : DF _ (H50.size + 1))
                have dj23 : Dj ko (H50.size + 1) := Dj.new ow.le
                have df24 := (DF.new (bf_hxa.mono (by omega)) : DF _ (H50.size + 1))
                have dj25 : Dj k46 (H50.size + 1) := Dj.new nd.le
                have dj26 : Dj k50 (H50.size + 1) := Dj.new ow50.le
                have nx27 : Nx 0 H0.size (H50.size + 1) := Nx.new hm0.size
                have nx28 : Nx 0 H0.size (H50.size + 1) := Nx.new hlm1.size
                replace hb := hb.nw hs73
                replace ow := ow.nw hs73
                replace hxa := fun x hxa_ => (hxa x hxa_).nw hs73
                replace nd := nd.nw hs73
                replace ow50 := ow50.nw hs73
                replace hm0 := hm0.tr hs73
                replace hlm1 := hlm1.tr hs73
                have hz6 := hs73.size
                refine LR.z (Z.apnd ow nw73.rd rfl inf22 rfl rfl (by simp only [List.length_singleton]; omega) (by simp only [List.length_singleton]; omega)) (Wd.u rfl) rfl rfl (fun v74 H74 r74 => ?_)
                obtain ⟨k74, ow, hk74, hs74⟩ := r74
                replace hk74 : Nx ko H73.size k74 := hk74
                replace hs74 := hs74.md
                have df29 := DF.app (df1) (bf_hb.mono hm0.size) hk74
                have df30 := DF.app (f1) (bf_hxa.mono (by omega)) hk74
                have dj31 : Dj k46 k74 := Dj.app (dj10.symm) nd.le hk74
                have dj32 : Dj k50 k74 := Dj.app (dj16.symm) ow50.le hk74
                have dj33 : Dj (H50.size + 1) k74 := Dj.app (dj23.symm) nw73.le hk74
                have nx34 : Nx 0 H0.size k74 := Nx.tr (nx2) hk74 hm0.size
                have nx35 : Nx 0 H0.size k74 := Nx.tr (nx3) hk74 hlm1.size
                replace hb := hb.upL hs74 (DFL.cons df1 DFL.nil)
                replace hxa := fun x hxa_ => (hxa x hxa_).upL hs74 (DFL.cons f1 DFL.nil)
                replace nd := nd.upL hs74 (DL.cons dj10.symm DL.nil)
                replace ow50 := ow50.upL hs74 (DL.cons dj16.symm DL.nil)
                replace nw73 := nw73.upL hs74 (DL.cons dj23.symm DL.nil)
                replace hm0 := (Mo.trL (ks := []) (hm0.mdn []) hs74 (MIL.cons (MI.app MI.z (nx2) (Nat.le_refl _)) MIL.nil)).nil
                replace hlm1 := (Mo.trL (ks := []) (hlm1.mdn []) hs74 (MIL.cons (MI.app MI.z (nx3) (Nat.le_refl _)) MIL.nil)).nil
                have hz7 := hs74.size
                have hle_ow := ow.le
                refine LR.v (Y.assign rfl rfl) (Wd.u rfl) rfl rfl ?_
                refine LR.nil ?_
                refine hK24 _ _ ?_
                refine CW.region ?_
                refine LR.v (Y.move rfl rfl) (Wd.u rfl) rfl rfl ?_
                refine LR.v (Y.addi rfl rfl rfl (by omega)) (Wd.u rfl) rfl rfl ?_
                refine LR.v (Y.move rfl rfl) (Wd.u rfl) rfl rfl ?_
                refine LR.v (Y.cast (v2 := .int .i64 ((a + (13 + (((b.drop a).drop 12).take (big (b.drop a))).length) : Nat) : Int)) (Y.addi rfl rfl rfl (by omega)) (ivv (by omega))) (Wd.u rfl) rfl rfl ?_
                refine LR.v (Y.assign rfl rfl) (Wd.u rfl) rfl rfl ?_
                refine LR.nil ?_
                refine hK13 _ _ ?_
                refine QN.sub (hN10 (a + (13 + (((b.drop a).drop 12).take (big (b.drop a))).length), v74, k74, l ++ [(s46, ((b.drop a).drop 12).take (big (b.drop a)))], fun c => G c ∨ c + 1 = k46) _ ?_ ?_) ⟨rfl, (iv (by omega)), rfl, trivial⟩
                · exact ⟨by unfold recs; rw [List.map_append]; exact hps.step hyes, ow, snocP (α := Unit) (fb := fun _ => (s46, [])) hxa (fun c e => .inl e) (nd.rd.imp (fun c _ e => .inr e)), BF.or1 (bf_hxa.mono (by omega)) nd.le, DF.or1 (df30) (dj31.symm), fun c e => by rcases e with e | e; exact hG c e; exact (by have h9 := (nx13); unfold Nx at h9; omega), nx35, hlm1⟩
                · show b.length - (a + (13 + _)) < b.length - a; omega
      ·
        have hno : oneW (recs l).length (b.drop a) = none := oneW_short (by omega)
        refine CW.exit (hE11 (.exit 0) nofun _ _ (hE10 (.exit 0) nofun _ _ (hX9 _ _ ?_)))
        refine hK8 _ _ ?_
        refine CW.seq (fun K25 hK25 hE25 => ?_)
        refine CW.region ?_
        refine LR.v (Y.move rfl rfl) (Wd.u rfl) rfl rfl ?_
        refine LR.v (Y.move rfl rfl) (Wd.u rfl) rfl rfl ?_
        refine LR.v (Y.assign rfl rfl) (Wd.u rfl) rfl rfl ?_
        refine LR.v (Y.assign rfl rfl) (Wd.u rfl) rfl rfl ?_
        refine LR.v (Y.assign rfl rfl) (Wd.u rfl) rfl rfl ?_
        refine LR.nil ?_
        refine hK25 _ _ ?_
        refine CW.ret (hret .ret (.inr rfl) _ _ _ (res3 rfl rfl rfl rfl) ?_)
        obtain ⟨q1, q2⟩ := hps.stop hno
        obtain ⟨so, rfl⟩ : ∃ s : SV, vo = s.v := ⟨toSV vo, ow.sv.symm⟩
        exact ⟨so, l, by rw [hps.e, ← q2]; rfl, q1, (ow.rd.imp (fun c _ e => by have h9 := (nx2); unfold Nx at h9; omega)), (fun x h => (hxa x h).imp (fun c _ e => hG c e)), hm0⟩

set_option maxHeartbeats 4000000 in
theorem walBytes_ct (mx_ : Int) (s0 s1 : SV) (l : List (SV × Rec)) (b : List UInt8) (w0 : World) (H0 : Heap)
    (mx : MX mx_ H0) (bf_mx : BF (fun b => b = 0) H0.size) (hl : RdT H0 fP 1 s0.v l) (hx : ∀ x ∈ l, RdT H0 fB 1 x.1.v x.2) (hb : RdT H0 fB 1 s1.v b) :
    Ct Tryd.prog w0 3 #[s0.v, s1.v] H0 (fun r H2 => r = .bool true ∧ Nw H0 H2) := by
  refine Ct.enter (args := [s0.v, s1.v]) Tryd.func3 rfl rfl rfl ?_
  intro Q0 hret
  have hm0 : Nw H0 H0 := Mo.refl _ _
  replace hl := hl.bnd
  have bf_hl := hl.bf
  replace hx := fun x hx0 => (hx x hx0).bnd
  have bf_hx : BF (fun b => True ∧ b < H0.size) H0.size := fun b h => h.2
  replace hb := hb.bnd
  have bf_hb := hb.bf
  refine CW.seq (fun K1 hK1 hE1 => ?_)
  refine CW.region ?_
  refine LR.v (Y.assign rfl rfl) (Wd.u rfl) rfl rfl ?_
  refine LR.nil ?_
  refine hK1 _ _ ?_
  refine CW.seq (fun K2 hK2 hE2 => ?_)
  refine CW.seq (fun K3 hK3 hE3 => ?_)
  refine CW.region ?_
  -- call selvage/selvagelaw3.known
  refine LR.call rfl Tryd.call7 rfl (Wd.u rfl) rfl rfl (known3_ct mx_ w0 _ mx bf_mx) (fun v11 H11 r11 => ?_)
  obtain ⟨rfl, hs11⟩ := r11
  replace mx := mx.nw hs11
  replace hl := hl.nw hs11
  replace hx := fun x hx0 => (hx x hx0).nw hs11
  replace hb := hb.nw hs11
  replace hm0 := hm0.tr hs11
  have hz1 := hs11.size
  refine LR.v (Y.not rfl rfl) (Wd.u rfl) rfl rfl ?_
  refine LR.nil ?_
  refine hK3 _ _ ?_
  refine CW.cond_f rfl ?_
  refine CW.skip ?_
  refine hK2 _ _ ?_
  refine CW.seq (fun K4 hK4 hE4 => ?_)
  refine CW.region ?_
  refine LR.v (Y.move rfl rfl) (Wd.u rfl) rfl rfl ?_
  -- call selvage/selvagelaw3.few
  refine LR.call rfl Tryd.call8 rfl (Wd.u rfl) rfl rfl (few_ct s0 l w0 _ hl.any (fun x h => (hx x h).any)) (fun v14 H14 r14 => ?_)
  obtain ⟨t14, m, rfl, hrm, hm, hxm, hs14⟩ := r14
  replace mx := mx.nw hs14
  replace hl := hl.nw hs14
  replace hx := fun x hx0 => (hx x hx0).nw hs14
  replace hb := hb.nw hs14
  replace hm0 := hm0.tr hs14
  have hz2 := hs14.size
  replace hm := hm.bnd
  have bf_hm := hm.bf
  replace hxm := fun x hx_ => (hxm x hx_).bnd
  have bf_hxm : BF (fun b => H11.size ≤ b ∧ b < H14.size) H14.size := fun b h => h.2
  have hfe := few_enc (recs l)
  have hfm : ∀ x ∈ m, x.2.length < 3000 := fun x h => few_mem (l := recs l) _ (by rw [← hrm]; exact List.mem_map_of_mem h)
  rw [← hrm] at hfe
  refine LR.v (Y.assign rfl rfl) (Wd.u rfl) rfl rfl ?_
  refine LR.nil ?_
  refine hK4 _ _ ?_
  refine CW.seq (fun K5 hK5 hE5 => ?_)
  refine CW.seq (fun K6 hK6 hE6 => ?_)
  refine CW.region ?_
  refine LR.v (Y.move rfl rfl) (Wd.u rfl) rfl rfl ?_
  refine LR.v (Y.len hb rfl Tryd.runUnderlying23 rfl) (Wd.u rfl) rfl rfl ?_
  refine LR.v (Y.gtr rfl rfl rfl) (Wd.u rfl) rfl rfl ?_
  refine LR.nil ?_
  refine hK6 _ _ ?_
  refine CW.condp rfl (fun c17 => ?_) (fun c17 => ?_)
  ·
    refine CW.seq (fun K7 hK7 hE7 => ?_)
    refine CW.region ?_
    refine LR.v (Y.assign rfl rfl) (Wd.u rfl) rfl rfl ?_
    refine LR.nil ?_
    refine hK7 _ _ ?_
    refine CW.ret (hE5 .ret nofun _ _ (hret .ret (.inr rfl) _ _ _ (res1 rfl rfl) ?_))
    exact ⟨rfl, hm0⟩
  ·
    refine CW.skip ?_
    refine hK5 _ _ ?_
    refine CW.seq (fun K8 hK8 hE8 => ?_)
    refine CW.region ?_
    refine LR.z (Z.litw _ (([] : List UInt8)) rfl inf23 rfl rfl rfl (by decide) (by decide) fB_len fB_one (rfl)) (Wd.u rfl) rfl rfl (fun v19 H19 r19 => ?_)
    obtain ⟨nd, hs19, ob19, hH19⟩ := r19
    have hzs19 : H19.size = H14.size + 1 := by rw [hH19]; simp
    have df1 := (DF.new (bf_mx.mono hm0.size) : DF _ (H14.size + 1))
    have df2 := (DF.new (bf_hl.mono hm0.size) : DF _ (H14.size + 1))
    have df3 := (DF.new (bf_hx.mono hm0.size) : DF _ (H14.size + 1))
    have df4 := (DF.new (bf_hb.mono hm0.size) : DF _ (H14.size + 1))
    have df5 := (DF.new (bf_hm.mono (by omega)) : DF _ (H14.size + 1))
    have df6 := (DF.new (bf_hxm.mono (by omega)) : DF _ (H14.size + 1))
    have nx7 : Nx 0 H0.size (H14.size + 1) := Nx.new hm0.size
    replace mx := mx.nw hs19
    replace hl := hl.nw hs19
    replace hx := fun x hx0 => (hx x hx0).nw hs19
    replace hb := hb.nw hs19
    replace hm := hm.nw hs19
    replace hxm := fun x hx_ => (hxm x hx_).nw hs19
    replace hm0 := hm0.tr hs19
    have hz3 := hs19.size
    refine LR.v (Y.move rfl rfl) (Wd.u rfl) rfl rfl ?_
    refine LR.z (Z.apnd nd hb rfl inf23 rfl rfl (by simp only [List.length_nil]; omega) (by simp only [List.length_nil]; omega)) (Wd.u rfl) rfl rfl (fun v21 H21 r21 => ?_)
    obtain ⟨k21, nd, hk21, hs21⟩ := r21
    replace hk21 : Nx (H14.size + 1) H19.size k21 := hk21
    replace hs21 := hs21.md
    have df8 := DF.app (df1) (bf_mx.mono hm0.size) hk21
    have df9 := DF.app (df2) (bf_hl.mono hm0.size) hk21
    have df10 := DF.app (df3) (bf_hx.mono hm0.size) hk21
    have df11 := DF.app (df4) (bf_hb.mono hm0.size) hk21
    have df12 := DF.app (df5) (bf_hm.mono (by omega)) hk21
    have df13 := DF.app (df6) (bf_hxm.mono (by omega)) hk21
    have nx14 : Nx 0 H0.size k21 := Nx.tr (nx7) hk21 hm0.size
    replace mx := mx.upL hs21 (DFL.cons df1 DFL.nil)
    replace hl := hl.upL hs21 (DFL.cons df2 DFL.nil)
    replace hx := fun x hx0 => (hx x hx0).upL hs21 (DFL.cons df3 DFL.nil)
    replace hb := hb.upL hs21 (DFL.cons df4 DFL.nil)
    replace hm := hm.upL hs21 (DFL.cons df5 DFL.nil)
    replace hxm := fun x hx_ => (hxm x hx_).upL hs21 (DFL.cons df6 DFL.nil)
    replace hm0 := (Mo.trL (ks := []) (hm0.mdn []) hs21 (MIL.cons (MI.app MI.z (nx7) (Nat.le_refl _)) MIL.nil)).nil
    have hz4 := hs21.size
    have hle_nd := nd.le
    rw [List.nil_append] at nd
    obtain ⟨s21, rfl⟩ : ∃ s : SV, v21 = s.v := ⟨toSV v21, nd.sv.symm⟩
    -- call selvage/wal.Parse
    refine LR.call rfl Tryd.call9 rfl (Wd.u rfl) rfl rfl (parse_ct s21 b w0 _ nd.rd.any (by omega)) (fun v22 H22 r22 => ?_)
    obtain ⟨t22, l22, rfl, hrl22, hw22, hx22, hs22⟩ := r22
    replace mx := mx.nw hs22
    replace hl := hl.nw hs22
    replace hx := fun x hx0 => (hx x hx0).nw hs22
    replace hb := hb.nw hs22
    replace hm := hm.nw hs22
    replace hxm := fun x hx_ => (hxm x hx_).nw hs22
    replace nd := nd.nw hs22
    replace hm0 := hm0.tr hs22
    have hz5 := hs22.size
    replace hw22 := hw22.bnd
    have bf_hw22 := hw22.bf
    have df15 : DF (fun b => H21.size ≤ b ∧ b < H22.size) k21 := DF.above (fun b h => h.1) (by first | exact hle_nd | exact hlt_nd | omega)
    replace hx22 := fun x hx_ => (hx22 x hx_).bnd
    have bf_hx22 : BF (fun b => H21.size ≤ b ∧ b < H22.size) H22.size := fun b h => h.2
    have df16 : DF (fun b => H21.size ≤ b ∧ b < H22.size) k21 := DF.above (fun b h => h.1) (by first | exact hle_nd | exact hlt_nd | omega)
    refine LR.v (Y.move rfl rfl) (Wd.u rfl) rfl rfl ?_
    refine LR.v (Y.extract rfl rfl rfl) (Wd.u rfl) rfl rfl ?_
    refine LR.v (Y.extract rfl rfl rfl) (Wd.u rfl) rfl rfl ?_
    refine LR.v (Y.extract rfl rfl rfl) (Wd.u rfl) rfl rfl ?_
    refine LR.v (Y.assign rfl rfl) (Wd.u rfl) rfl rfl ?_
    refine LR.v (Y.assign rfl rfl) (Wd.u rfl) rfl rfl ?_
    refine LR.v (Y.assign rfl rfl) (Wd.u rfl) rfl rfl ?_
    refine LR.nil ?_
    refine hK8 _ _ ?_
    refine CW.seq (fun K9 hK9 hE9 => ?_)
    refine CW.region ?_
    refine LR.v (Y.move rfl rfl) (Wd.u rfl) rfl rfl ?_
    -- call selvage/selvageref3.Parse
    refine LR.call rfl Tryd.call10 rfl (Wd.u rfl) rfl rfl (rparse_ct s1 b w0 _ hb.any (by omega)) (fun v28 H28 r28 => ?_)
    obtain ⟨t28, l28, rfl, hrl28, hw28, hx28, hs28⟩ := r28
    replace mx := mx.nw hs28
    replace hl := hl.nw hs28
    replace hx := fun x hx0 => (hx x hx0).nw hs28
    replace hb := hb.nw hs28
    replace hm := hm.nw hs28
    replace hxm := fun x hx_ => (hxm x hx_).nw hs28
    replace nd := nd.nw hs28
    replace hw22 := hw22.nw hs28
    replace hx22 := fun x hx_ => (hx22 x hx_).nw hs28
    replace hm0 := hm0.tr hs28
    have hz6 := hs28.size
    replace hw28 := hw28.bnd
    have bf_hw28 := hw28.bf
    have df17 : DF (fun b => H22.size ≤ b ∧ b < H28.size) k21 := DF.above (fun b h => h.1) (by first | exact hle_nd | exact hlt_nd | omega)
    replace hx28 := fun x hx_ => (hx28 x hx_).bnd
    have bf_hx28 : BF (fun b => H22.size ≤ b ∧ b < H28.size) H28.size := fun b h => h.2
    have df18 : DF (fun b => H22.size ≤ b ∧ b < H28.size) k21 := DF.above (fun b h => h.1) (by first | exact hle_nd | exact hlt_nd | omega)
    refine LR.v (Y.move rfl rfl) (Wd.u rfl) rfl rfl ?_
    refine LR.v (Y.extract rfl rfl rfl) (Wd.u rfl) rfl rfl ?_
    refine LR.v (Y.extract rfl rfl rfl) (Wd.u rfl) rfl rfl ?_
    refine LR.v (Y.extract rfl rfl rfl) (Wd.u rfl) rfl rfl ?_
    refine LR.v (Y.assign rfl rfl) (Wd.u rfl) rfl rfl ?_
    refine LR.v (Y.assign rfl rfl) (Wd.u rfl) rfl rfl ?_
    refine LR.v (Y.assign rfl rfl) (Wd.u rfl) rfl rfl ?_
    refine LR.nil ?_
    refine hK9 _ _ ?_
    refine CW.seq (fun K10 hK10 hE10 => ?_)
    refine CW.region_any (fun Hq => Nw H28 Hq) [] rfl ?_
    have hqs := Nw.refl H28
    refine LH.take 0 (by kernel_rfl) rfl (by kernel_rfl) (by kernel_rfl) (by kernel_rfl) (fun Hq hq => Y.move rfl rfl) (Wd.u rfl) rfl rfl hqs ?_
    refine LH.take 3 (by kernel_rfl) rfl (by kernel_rfl) (by kernel_rfl) (by kernel_rfl) (fun Hq hq => Y.move rfl rfl) (Wd.u rfl) rfl rfl hqs ?_
    refine LH.one (i := 1) (by kernel_rfl) ?_
    -- call selvage/wal.Encode
    refine LO.call rfl rfl Tryd.call11 rfl (Wd.u rfl) rfl rfl (encode_ct t14 m w0 _ hm.any (fun x h => (hxm x h).any) (fun x h => by have := hfm x h; omega) (by omega)) (fun v33 H33 r33 => ?_)
    obtain ⟨t33, k33, rfl, ow33, hk33, hs33⟩ := r33
    have df19 := DF.app (DF.z) (bf_mx.mono hm0.size) hk33
    have df20 := DF.app (DF.z) (bf_hl.mono hm0.size) hk33
    have df21 := DF.app (DF.z) (bf_hx.mono hm0.size) hk33
    have df22 := DF.app (DF.z) (bf_hb.mono hm0.size) hk33
    have df23 := DF.app (DF.z) (bf_hm.mono (by omega)) hk33
    have df24 := DF.app (DF.z) (bf_hxm.mono (by omega)) hk33
    have dj25 : Dj k21 k33 := Dj.app (Dj.z) nd.le hk33
    have df26 := DF.app (DF.z) (bf_hw22.mono (by omega)) hk33
    have df27 := DF.app (DF.z) (bf_hx22.mono (by omega)) hk33
    have df28 := DF.app (DF.z) (bf_hw28.mono (by omega)) hk33
    have df29 := DF.app (DF.z) (bf_hx28.mono (by omega)) hk33
    have nx30 : Nx 0 H0.size k33 := Nx.tr (Nx.refl 0 _) hk33 hm0.size
    replace mx := mx.nw hs33
    replace hl := hl.nw hs33
    replace hx := fun x hx0 => (hx x hx0).nw hs33
    replace hb := hb.nw hs33
    replace hm := hm.nw hs33
    replace hxm := fun x hx_ => (hxm x hx_).nw hs33
    replace nd := nd.nw hs33
    replace hw22 := hw22.nw hs33
    replace hx22 := fun x hx_ => (hx22 x hx_).nw hs33
    replace hw28 := hw28.nw hs33
    replace hx28 := fun x hx_ => (hx28 x hx_).nw hs33
    replace hm0 := hm0.tr hs33
    have hz7 := hs33.size
    have hle_ow33 := ow33.le
    have hq33 := hqs.tr hs33
    refine ⟨.inr hq33, LH.narrow (SH2 := fun Hq => Nw H33 Hq) (fun Hq hq => hq33.tr hq) ?_⟩
    have hqn33 := Nw.refl H33
    refine LH.take 2 (by kernel_rfl) rfl (by kernel_rfl) (by kernel_rfl) (by kernel_rfl) (fun Hq hq => Y.bstr (ow33.rd.nw hq) rfl Tryd.underlying23 Tryd.underlying9 Tryd.underlying5 rfl) (Wd.u rfl) rfl rfl hqn33 ?_
    refine LH.one (i := 4) (by kernel_rfl) ?_
    -- call selvage/selvageref3.Encode
    refine LO.call rfl rfl Tryd.call12 rfl (Wd.u rfl) rfl rfl (rencode_ct t14 m w0 _ hm.any (fun x h => (hxm x h).any) (fun x h => by have := hfm x h; omega) (by omega)) (fun v36 H36 r36 => ?_)
    obtain ⟨t36, k36, rfl, ow36, hk36, hs36⟩ := r36
    have df31 := DF.app (DF.z) (bf_mx.mono hm0.size) hk36
    have df32 := DF.app (DF.z) (bf_hl.mono hm0.size) hk36
    have df33 := DF.app (DF.z) (bf_hx.mono hm0.size) hk36
    have df34 := DF.app (DF.z) (bf_hb.mono hm0.size) hk36
    have df35 := DF.app (DF.z) (bf_hm.mono (by omega)) hk36
    have df36 := DF.app (DF.z) (bf_hxm.mono (by omega)) hk36
    have dj37 : Dj k21 k36 := Dj.app (Dj.z) nd.le hk36
    have df38 := DF.app (DF.z) (bf_hw22.mono (by omega)) hk36
    have df39 := DF.app (DF.z) (bf_hx22.mono (by omega)) hk36
    have df40 := DF.app (DF.z) (bf_hw28.mono (by omega)) hk36
    have df41 := DF.app (DF.z) (bf_hx28.mono (by omega)) hk36
    have dj42 : Dj k33 k36 := Dj.app (Dj.z) ow33.le hk36
    have nx43 : Nx 0 H0.size k36 := Nx.tr (Nx.refl 0 _) hk36 hm0.size
    replace mx := mx.nw hs36
    replace hl := hl.nw hs36
    replace hx := fun x hx0 => (hx x hx0).nw hs36
    replace hb := hb.nw hs36
    replace hm := hm.nw hs36
    replace hxm := fun x hx_ => (hxm x hx_).nw hs36
    replace nd := nd.nw hs36
    replace hw22 := hw22.nw hs36
    replace hx22 := fun x hx_ => (hx22 x hx_).nw hs36
    replace hw28 := hw28.nw hs36
    replace hx28 := fun x hx_ => (hx28 x hx_).nw hs36
    replace ow33 := ow33.nw hs36
    replace hm0 := hm0.tr hs36
    have hz8 := hs36.size
    have hle_ow36 := ow36.le
    have hq36 := hqn33.tr hs36
    refine ⟨.inr hq36, LH.narrow (SH2 := fun Hq => Nw H36 Hq) (fun Hq hq => hq36.tr hq) ?_⟩
    have hqn36 := Nw.refl H36
    refine LH.take 5 (by kernel_rfl) rfl (by kernel_rfl) (by kernel_rfl) (by kernel_rfl) (fun Hq hq => Y.bstr (ow36.rd.nw hq) rfl Tryd.underlying23 Tryd.underlying9 Tryd.underlying5 rfl) (Wd.u rfl) rfl rfl hqn36 ?_
    refine LH.take 6 (by kernel_rfl) rfl (by kernel_rfl) (by kernel_rfl) (by kernel_rfl) (fun Hq hq => (Y.seql rfl rfl rfl).isT (rfl)) (Wd.u rfl) rfl rfl hqn36 ?_
    refine LH.take 7 (by kernel_rfl) rfl (by kernel_rfl) (by kernel_rfl) (by kernel_rfl) (fun Hq hq => Y.move rfl rfl) (Wd.u rfl) rfl rfl hqn36 ?_
    refine LH.take 8 (by kernel_rfl) rfl (by kernel_rfl) (by kernel_rfl) (by kernel_rfl) (fun Hq hq => Y.move rfl rfl) (Wd.g rfl rfl rfl) rfl rfl hqn36 ?_
    refine LH.take 9 (by kernel_rfl) rfl (by kernel_rfl) (by kernel_rfl) (by kernel_rfl) (fun Hq hq => Y.move rfl rfl) (Wd.g rfl rfl rfl) rfl rfl hqn36 ?_
    refine LH.one (i := 10) (by kernel_rfl) ?_
    -- call selvage/selvagelaw3.sameRows
    refine LO.call rfl rfl Tryd.call13 rfl (Wd.g rfl rfl rfl) rfl rfl (sameR_ct t22 t28 l22 l28 w0 _ hw22.any hw28.any (fun x h => (hx22 x h).any) (fun x h => (hx28 x h).any)) (fun v42 H42 r42 => ?_)
    obtain ⟨rfl, hs42⟩ := r42
    replace mx := mx.nw hs42
    replace hl := hl.nw hs42
    replace hx := fun x hx0 => (hx x hx0).nw hs42
    replace hb := hb.nw hs42
    replace hm := hm.nw hs42
    replace hxm := fun x hx_ => (hxm x hx_).nw hs42
    replace nd := nd.nw hs42
    replace hw22 := hw22.nw hs42
    replace hx22 := fun x hx_ => (hx22 x hx_).nw hs42
    replace hw28 := hw28.nw hs42
    replace hx28 := fun x hx_ => (hx28 x hx_).nw hs42
    replace ow33 := ow33.nw hs42
    replace ow36 := ow36.nw hs42
    replace hm0 := hm0.tr hs42
    have hz9 := hs42.size
    rw [hrl22, hrl28, decide_eq_true rfl]
    have hq42 := hqn36.tr hs42
    refine ⟨.inr hq42, LH.narrow (SH2 := fun Hq => Nw H42 Hq) (fun Hq hq => hq42.tr hq) ?_⟩
    have hqn42 := Nw.refl H42
    refine LH.take 11 (by kernel_rfl) rfl (by kernel_rfl) (by kernel_rfl) (by kernel_rfl) (fun Hq hq => Y.pick_t rfl rfl rfl) (Wd.u rfl) rfl rfl hqn42 ?_
    refine LH.take 12 (by kernel_rfl) rfl (by kernel_rfl) (by kernel_rfl) (by kernel_rfl) (fun Hq hq => Y.move rfl rfl) (Wd.u rfl) rfl rfl hqn42 ?_
    refine LH.take 13 (by kernel_rfl) rfl (by kernel_rfl) (by kernel_rfl) (by kernel_rfl) (fun Hq hq => Y.move rfl rfl) (Wd.g rfl rfl rfl) rfl rfl hqn42 ?_
    refine LH.take 14 (by kernel_rfl) rfl (by kernel_rfl) (by kernel_rfl) (by kernel_rfl) (fun Hq hq => Y.move rfl rfl) (Wd.g rfl rfl rfl) rfl rfl hqn42 ?_
    refine LH.take 15 (by kernel_rfl) rfl (by kernel_rfl) (by kernel_rfl) (by kernel_rfl) (fun Hq hq => (Y.eql rfl rfl rfl).isT (rfl)) (Wd.g rfl rfl rfl) rfl rfl hqn42 ?_
    refine LH.take 16 (by kernel_rfl) rfl (by kernel_rfl) (by kernel_rfl) (by kernel_rfl) (fun Hq hq => Y.pick_t rfl rfl rfl) (Wd.u rfl) rfl rfl hqn42 ?_
    refine LH.take 17 (by kernel_rfl) rfl (by kernel_rfl) (by kernel_rfl) (by kernel_rfl) (fun Hq hq => Y.move rfl rfl) (Wd.u rfl) rfl rfl hqn42 ?_
    refine LH.take 18 (by kernel_rfl) rfl (by kernel_rfl) (by kernel_rfl) (by kernel_rfl) (fun Hq hq => Y.move rfl rfl) (Wd.g rfl rfl rfl) rfl rfl hqn42 ?_
    refine LH.take 19 (by kernel_rfl) rfl (by kernel_rfl) (by kernel_rfl) (by kernel_rfl) (fun Hq hq => Y.move rfl rfl) (Wd.g rfl rfl rfl) rfl rfl hqn42 ?_
    refine LH.take 20 (by kernel_rfl) rfl (by kernel_rfl) (by kernel_rfl) (by kernel_rfl) (fun Hq hq => (Y.eql rfl rfl rfl).isT (rfl)) (Wd.g rfl rfl rfl) rfl rfl hqn42 ?_
    refine LH.take 21 (by kernel_rfl) rfl (by kernel_rfl) (by kernel_rfl) (by kernel_rfl) (fun Hq hq => Y.pick_t rfl rfl rfl) (Wd.u rfl) rfl rfl hqn42 ?_
    refine LH.take 22 (by kernel_rfl) rfl (by kernel_rfl) (by kernel_rfl) (by kernel_rfl) (fun Hq hq => Y.assign rfl rfl) (Wd.u rfl) rfl rfl hqn42 ?_
    refine LH.done (by kernel_rfl) ?_
    have hqe := hqn42
    refine hK10 _ _ ?_
    refine CW.ret (hret .ret (.inr rfl) _ _ _ (res1 rfl rfl) ?_)
    exact ⟨rfl, hm0⟩

set_option maxHeartbeats 4000000 in
theorem walTurns_ct (mx_ : Int) (s0 s1 s2 s4 : SV) (l : List (SV × Rec)) (at_ : List Int) (by_ : List UInt8) (ct : Int) (more : List UInt8) (w0 : World) (H0 : Heap)
    (mx : MX mx_ H0) (bf_mx : BF (fun b => b = 0) H0.size) (hl : RdT H0 fP 1 s0.v l) (hx : ∀ x ∈ l, RdT H0 fB 1 x.1.v x.2) (hA : RdT H0 fI 1 s1.v at_) (hby : RdT H0 fB 1 s2.v by_) (hmo : RdT H0 fB 1 s4.v more) (hai : ∀ x ∈ at_, -9223372036854775808 ≤ x ∧ x ≤ 9223372036854775807) (hct : -9223372036854775808 ≤ ct ∧ ct ≤ 9223372036854775807) :
    Ct Tryd.prog w0 4 #[s0.v, s1.v, s2.v, .int .i64 ct, s4.v] H0 (fun r H2 => r = .bool true ∧ Nw H0 H2) := by
  refine Ct.enter (args := [s0.v, s1.v, s2.v, .int .i64 ct, s4.v]) Tryd.func4 rfl rfl rfl ?_
  intro Q0 hret
  have hm0 : Nw H0 H0 := Mo.refl _ _
  replace hl := hl.bnd
  have bf_hl := hl.bf
  replace hx := fun x hx0 => (hx x hx0).bnd
  have bf_hx : BF (fun b => True ∧ b < H0.size) H0.size := fun b h => h.2
  replace hA := hA.bnd
  have bf_hA := hA.bf
  replace hby := hby.bnd
  have bf_hby := hby.bf
  replace hmo := hmo.bnd
  have bf_hmo := hmo.bf
  refine CW.seq (fun K1 hK1 hE1 => ?_)
  refine CW.region ?_
  refine LR.v (Y.assign rfl rfl) (Wd.u rfl) rfl rfl ?_
  refine LR.nil ?_
  refine hK1 _ _ ?_
  refine CW.seq (fun K2 hK2 hE2 => ?_)
  refine CW.seq (fun K3 hK3 hE3 => ?_)
  refine CW.region ?_
  -- call selvage/selvagelaw3.known
  refine LR.call rfl Tryd.call7 rfl (Wd.u rfl) rfl rfl (known3_ct mx_ w0 _ mx bf_mx) (fun v20 H20 r20 => ?_)
  obtain ⟨rfl, hs20⟩ := r20
  replace mx := mx.nw hs20
  replace hl := hl.nw hs20
  replace hx := fun x hx0 => (hx x hx0).nw hs20
  replace hA := hA.nw hs20
  replace hby := hby.nw hs20
  replace hmo := hmo.nw hs20
  replace hm0 := hm0.tr hs20
  have hz1 := hs20.size
  refine LR.v (Y.not rfl rfl) (Wd.u rfl) rfl rfl ?_
  refine LR.nil ?_
  refine hK3 _ _ ?_
  refine CW.cond_f rfl ?_
  refine CW.skip ?_
  refine hK2 _ _ ?_
  refine CW.seq (fun K4 hK4 hE4 => ?_)
  refine CW.region ?_
  refine LR.v (Y.move rfl rfl) (Wd.u rfl) rfl rfl ?_
  -- call selvage/selvagelaw3.few
  refine LR.call rfl Tryd.call8 rfl (Wd.u rfl) rfl rfl (few_ct s0 l w0 _ hl.any (fun x h => (hx x h).any)) (fun v23 H23 r23 => ?_)
  obtain ⟨t23, m, rfl, hrm, hm, hxm, hs23⟩ := r23
  replace mx := mx.nw hs23
  replace hl := hl.nw hs23
  replace hx := fun x hx0 => (hx x hx0).nw hs23
  replace hA := hA.nw hs23
  replace hby := hby.nw hs23
  replace hmo := hmo.nw hs23
  replace hm0 := hm0.tr hs23
  have hz2 := hs23.size
  replace hm := hm.bnd
  have bf_hm := hm.bf
  replace hxm := fun x hx_ => (hxm x hx_).bnd
  have bf_hxm : BF (fun b => H20.size ≤ b ∧ b < H23.size) H23.size := fun b h => h.2
  have hfe := few_enc (recs l)
  have hfm : ∀ x ∈ m, x.2.length < 3000 := fun x h => few_mem (l := recs l) _ (by rw [← hrm]; exact List.mem_map_of_mem h)
  rw [← hrm] at hfe
  -- call selvage/selvageref3.Encode
  refine LR.call rfl Tryd.call12 rfl (Wd.u rfl) rfl rfl (rencode_ct t23 m w0 _ hm.any (fun x h => (hxm x h).any) (fun x h => by have := hfm x h; omega) (by omega)) (fun v24 H24 r24 => ?_)
  obtain ⟨t24, k24, rfl, ow, hk24, hs24⟩ := r24
  have df1 := DF.app (DF.z) (bf_mx.mono hm0.size) hk24
  have df2 := DF.app (DF.z) (bf_hl.mono hm0.size) hk24
  have df3 := DF.app (DF.z) (bf_hx.mono hm0.size) hk24
  have df4 := DF.app (DF.z) (bf_hA.mono hm0.size) hk24
  have df5 := DF.app (DF.z) (bf_hby.mono hm0.size) hk24
  have df6 := DF.app (DF.z) (bf_hmo.mono hm0.size) hk24
  have df7 := DF.app (DF.z) (bf_hm.mono (by omega)) hk24
  have df8 := DF.app (DF.z) (bf_hxm.mono (by omega)) hk24
  have nx9 : Nx 0 H0.size k24 := Nx.tr (Nx.refl 0 _) hk24 hm0.size
  replace mx := mx.nw hs24
  replace hl := hl.nw hs24
  replace hx := fun x hx0 => (hx x hx0).nw hs24
  replace hA := hA.nw hs24
  replace hby := hby.nw hs24
  replace hmo := hmo.nw hs24
  replace hm := hm.nw hs24
  replace hxm := fun x hx_ => (hxm x hx_).nw hs24
  replace hm0 := hm0.tr hs24
  have hz3 := hs24.size
  have hle_ow := ow.le
  have he8 : 8 ≤ (encW (recs m)).length := by rw [encW_len]; omega
  refine LR.v (Y.assign rfl rfl) (Wd.u rfl) rfl rfl ?_
  refine LR.nil ?_
  refine hK4 _ _ ?_
  refine CW.seq (fun K5 hK5 hE5 => ?_)
  refine CW.seq (fun K6 hK6 hE6 => ?_)
  refine CW.region ?_
  refine LR.v (Y.assign rfl rfl) (Wd.u rfl) rfl rfl ?_
  refine LR.nil ?_
  refine hK6 _ _ ?_
  refine CW.block (fun K7 hK7 hX7 hE7 => ?_)
  refine CW.loop (fun (s_ : (Nat) × (List UInt8)) => match s_ with | (i, bb) => [(1, s1.v), (2, s2.v), (3, .int .i64 ct), (4, s4.v), (11, t24.v), (12, .int .i64 (i : Int))])
    (fun (s_ : (Nat) × (List UInt8)) (H : Heap) => match s_ with | (i, bb) => (i ≤ at_.length ∧ i ≤ by_.length ∧ i ≤ 6) ∧ (bb.length = (encW (recs m)).length) ∧ (Ow k24 5 H fB 1 t24.v bb) ∧ (Nx k24 H24.size k24) ∧ Mo (Ms [k24]) H24 H)
    (fun (s_ : (Nat) × (List UInt8)) => match s_ with | (i, bb) => 6 - i) (0, (encW (recs m))) ⟨rfl, rfl, rfl, rfl, rfl, rfl, trivial⟩ ?_ ?_
  ·
    exact ⟨(by omega), rfl, ow, Nx.refl _ _, Mo.refl _ _⟩
  rintro ⟨i, bb⟩ HL1 hI1 K8 hN8 hE8
  obtain ⟨hi, hbl, ow, nxl_ow, hlm1⟩ := hI1
  have df10 := DF.app (df1) (bf_mx.mono hm0.size) nxl_ow
  have df11 := DF.app (df2) (bf_hl.mono hm0.size) nxl_ow
  have df12 := DF.app (df3) (bf_hx.mono hm0.size) nxl_ow
  have df13 := DF.app (df4) (bf_hA.mono hm0.size) nxl_ow
  have df14 := DF.app (df5) (bf_hby.mono hm0.size) nxl_ow
  have df15 := DF.app (df6) (bf_hmo.mono hm0.size) nxl_ow
  have df16 := DF.app (df7) (bf_hm.mono (by omega)) nxl_ow
  have df17 := DF.app (df8) (bf_hxm.mono (by omega)) nxl_ow
  have nx18 : Nx 0 H0.size k24 := Nx.tr (nx9) nxl_ow hm0.size
  replace mx := mx.upL hlm1 (DFL.cons df1 DFL.nil)
  replace hl := hl.upL hlm1 (DFL.cons df2 DFL.nil)
  replace hx := fun x hx0 => (hx x hx0).upL hlm1 (DFL.cons df3 DFL.nil)
  replace hA := hA.upL hlm1 (DFL.cons df4 DFL.nil)
  replace hby := hby.upL hlm1 (DFL.cons df5 DFL.nil)
  replace hmo := hmo.upL hlm1 (DFL.cons df6 DFL.nil)
  replace hm := hm.upL hlm1 (DFL.cons df7 DFL.nil)
  replace hxm := fun x hx_ => (hxm x hx_).upL hlm1 (DFL.cons df8 DFL.nil)
  replace hm0 := (Mo.trL (ks := []) (hm0.mdn []) hlm1 (MIL.cons (MI.app MI.z (nx9) (Nat.le_refl _)) MIL.nil)).nil
  have hz4 := hlm1.size
  have hle_ow := ow.le
  have nx19 := nxl_ow
  have hwc := wiN_lt (a := ct) (show 0 < bb.length by omega)
  refine CW.seq (fun K9 hK9 hE9 => ?_)
  refine CW.seq (fun K10 hK10 hE10 => ?_)
  refine CW.region ?_
  refine LR.v (Y.move rfl rfl) (Wd.u rfl) rfl rfl ?_
  refine LR.v (Y.move rfl rfl) (Wd.u rfl) rfl rfl ?_
  refine LR.v (Y.len hA rfl Tryd.runUnderlying35 rfl) (Wd.u rfl) rfl rfl ?_
  refine LR.v (Y.lss rfl rfl rfl) (Wd.u rfl) rfl rfl ?_
  refine LR.v (Y.move rfl rfl) (Wd.u rfl) rfl rfl ?_
  refine LR.splitp (d := 29) rfl (fun g29 => ?_) (fun g29 => ?_)
  ·
    refine LR.v (Y.move rfl rfl) (Wd.g rfl rfl rfl) rfl rfl ?_
    refine LR.v (Y.move rfl rfl) (Wd.g rfl rfl rfl) rfl rfl ?_
    refine LR.v (Y.len hby rfl Tryd.runUnderlying23 rfl) (Wd.g rfl rfl rfl) rfl rfl ?_
    refine LR.v (Y.lss rfl rfl rfl) (Wd.g rfl rfl rfl) rfl rfl ?_
    refine LR.v (Y.pick_t rfl rfl rfl) (Wd.u rfl) rfl rfl ?_
    refine LR.v (Y.move rfl rfl) (Wd.u rfl) rfl rfl ?_
    refine LR.splitp (d := 35) rfl (fun g35 => ?_) (fun g35 => ?_)
    ·
      refine LR.v (Y.move rfl rfl) (Wd.g rfl rfl rfl) rfl rfl ?_
      refine LR.v (Y.lss rfl rfl rfl) (Wd.g rfl rfl rfl) rfl rfl ?_
      refine LR.v (Y.pick_t rfl rfl rfl) (Wd.u rfl) rfl rfl ?_
      refine LR.nil ?_
      refine hK10 _ _ ?_
      refine CW.condp rfl (fun c38 => ?_) (fun c38 => ?_)
      ·
        have hil : i < at_.length := by omega
        have hai_ := hai at_[i] (List.getElem_mem hil)
        have hwk := wiN_lt (a := at_[i]) (show 0 < bb.length by omega)
        refine CW.skip ?_
        refine hK9 _ _ ?_
        refine CW.seq (fun K11 hK11 hE11 => ?_)
        refine CW.block (fun K12 hK12 hX12 hE12 => ?_)
        refine CW.seq (fun K13 hK13 hE13 => ?_)
        refine CW.region ?_
        refine LR.v (Y.move rfl rfl) (Wd.u rfl) rfl rfl ?_
        refine LR.v (Y.move rfl rfl) (Wd.u rfl) rfl rfl ?_
        refine LR.e (g := fun ad => .pointer (some ad)) (Y.indexAddrF hA (i) rfl Tryd.runUnderlying35 Tryd.sizeOf3 rfl rfl (by first | rfl | omega) (by first | omega | (simp; omega) | (simp; done))) (Wd.u rfl) rfl rfl (fun ad43 pt43 => ?_)
        have bf_pt43 := bf_hA
        refine LR.v (Y.load1 pt43.pt rfl Tryd.isAgg3 rfl) (Wd.u rfl) rfl rfl ?_
        refine LR.v (Y.move rfl rfl) (Wd.u rfl) rfl rfl ?_
        refine LR.v (Y.len ow.rd rfl Tryd.runUnderlying23 rfl) (Wd.u rfl) rfl rfl ?_
        -- call selvage/selvagelaw3.within
        refine LR.call rfl Tryd.call14 rfl (Wd.u rfl) rfl rfl (within3_ct at_[i] bb.length w0 _ (by omega) hai_) (fun v47 H47 r47 => ?_)
        obtain ⟨rfl, hs47⟩ := r47
        replace mx := mx.nw hs47
        replace hl := hl.nw hs47
        replace hx := fun x hx0 => (hx x hx0).nw hs47
        replace hA := hA.nw hs47
        replace hby := hby.nw hs47
        replace hmo := hmo.nw hs47
        replace hm := hm.nw hs47
        replace hxm := fun x hx_ => (hxm x hx_).nw hs47
        replace ow := ow.nw hs47
        replace pt43 := pt43.nw hs47
        replace hm0 := hm0.tr hs47
        replace hlm1 := hlm1.trN hs47
        have hz5 := hs47.size
        refine LR.v (Y.assign rfl rfl) (Wd.u rfl) rfl rfl ?_
        refine LR.nil ?_
        refine hK13 _ _ ?_
        refine CW.region_tail 12 rfl (by kernel_rfl) (fun T8 hT8 => ?_)
        refine LR.v (Y.move rfl rfl) (Wd.u rfl) rfl rfl ?_
        refine LR.v (Y.move rfl rfl) (Wd.u rfl) rfl rfl ?_
        refine LR.v (Y.move rfl rfl) (Wd.u rfl) rfl rfl ?_
        refine LR.v (Y.move rfl rfl) (Wd.u rfl) rfl rfl ?_
        refine LR.v (Y.owAddr ow (wiN at_[i] bb.length) rfl Tryd.runUnderlying23 Tryd.sizeOf5 rfl rfl (by first | rfl | omega) (by first | omega | (simp; omega) | (simp; done))) (Wd.u rfl) rfl rfl ?_
        refine LR.v (Y.cast (v2 := .int .u8 (bb.getD (wiN at_[i] bb.length) 0).toNat) (Y.load1 (ow.pt (j := wiN at_[i] bb.length) (by first | omega | (simp; omega) | (simp; done))) rfl Tryd.isAgg5 rfl) (by rw [getD_at hwk])) (Wd.u rfl) rfl rfl ?_
        refine LR.v (Y.move rfl rfl) (Wd.u rfl) rfl rfl ?_
        refine LR.v (Y.move rfl rfl) (Wd.u rfl) rfl rfl ?_
        refine LR.e (g := fun ad => .pointer (some ad)) (Y.indexAddrF hby (i) rfl Tryd.runUnderlying23 Tryd.sizeOf5 rfl rfl (by first | rfl | omega) (by first | omega | (simp; omega) | (simp; done))) (Wd.u rfl) rfl rfl (fun ad56 pt56 => ?_)
        have bf_pt56 := bf_hby
        refine LR.v (Y.load1 pt56.pt rfl Tryd.isAgg5 rfl) (Wd.u rfl) rfl rfl ?_
        refine LR.v (Y.add_u8 rfl rfl rfl) (Wd.u rfl) rfl rfl ?_
        refine LR.v (Y.owAddr ow (wiN at_[i] bb.length) rfl Tryd.runUnderlying23 Tryd.sizeOf5 rfl rfl (by first | rfl | omega) (by first | omega | (simp; omega) | (simp; done))) (Wd.u rfl) rfl rfl ?_
        refine LR.nil (hT8 _ ?_)
        refine LR.s (S.oww ow (wiN at_[i] bb.length) 0 (_) rfl rfl rfl rfl Tryd.sizeOf5 (by first | omega | (simp; omega) | (simp; done)) (by decide) (rfl)) (Wd.u rfl) rfl (fun H8_12 r8_12 => ?_)
        obtain ⟨ow, hs8_12⟩ := r8_12
        replace hs8_12 := hs8_12.md
        replace mx := mx.upL hs8_12 (DFL.cons df10 DFL.nil)
        replace hl := hl.upL hs8_12 (DFL.cons df11 DFL.nil)
        replace hx := fun x hx0 => (hx x hx0).upL hs8_12 (DFL.cons df12 DFL.nil)
        replace hA := hA.upL hs8_12 (DFL.cons df13 DFL.nil)
        replace hby := hby.upL hs8_12 (DFL.cons df14 DFL.nil)
        replace hmo := hmo.upL hs8_12 (DFL.cons df15 DFL.nil)
        replace hm := hm.upL hs8_12 (DFL.cons df16 DFL.nil)
        replace hxm := fun x hx_ => (hxm x hx_).upL hs8_12 (DFL.cons df17 DFL.nil)
        replace pt56 := pt56.upL hs8_12 (DFL.cons df14 DFL.nil)
        replace hm0 := (Mo.trL (ks := []) (hm0.mdn []) hs8_12 (MIL.cons (MI.app MI.z (nx18) (Nat.le_refl _)) MIL.nil)).nil
        replace hlm1 := hlm1.trL hs8_12 (MIL.cons (MI.app (MI.root (by simp)) (nx19) (Nat.le_refl _)) MIL.nil)
        have hz6 := hs8_12.size
        refine LR.nil ?_
        refine hK12 _ _ ?_
        refine hK11 _ _ ?_
        refine CW.region ?_
        refine LR.v (Y.move rfl rfl) (Wd.u rfl) rfl rfl ?_
        refine LR.v (Y.addi rfl rfl rfl (by omega)) (Wd.u rfl) rfl rfl ?_
        refine LR.v (Y.assign rfl rfl) (Wd.u rfl) rfl rfl ?_
        refine LR.nil ?_
        refine QN.sub (hN8 (i + 1, bb.set (wiN at_[i] bb.length) (bb.getD (wiN at_[i] bb.length) 0 + by_[i])) _ ?_ ?_) ⟨rfl, rfl, (iv (by omega)), rfl, rfl, (iv (by omega)), trivial⟩
        · exact ⟨⟨by omega, by omega, by omega⟩, by rw [List.length_set]; exact hbl, ow, nx19, hlm1⟩
        · first | omega | (simp only; omega) | (simp; omega)
      ·
        refine CW.exit (hE9 (.exit 0) nofun _ _ (hE8 (.exit 0) nofun _ _ (hX7 _ _ ?_)))
        refine hK5 _ _ ?_
        refine CW.seq (fun K14 hK14 hE14 => ?_)
        refine CW.region ?_
        refine LR.v (Y.move rfl rfl) (Wd.u rfl) rfl rfl ?_
        refine LR.v (Y.move rfl rfl) (Wd.u rfl) rfl rfl ?_
        refine LR.v (Y.len ow.rd rfl Tryd.runUnderlying23 rfl) (Wd.u rfl) rfl rfl ?_
        refine LR.v (Y.move rfl rfl) (Wd.u rfl) rfl rfl ?_
        refine LR.v (Y.move rfl rfl) (Wd.u rfl) rfl rfl ?_
        refine LR.v (Y.len ow.rd rfl Tryd.runUnderlying23 rfl) (Wd.u rfl) rfl rfl ?_
        -- call selvage/selvagelaw3.within
        refine LR.call rfl Tryd.call14 rfl (Wd.u rfl) rfl rfl (within3_ct ct bb.length w0 _ (by omega) hct) (fun v66 H66 r66 => ?_)
        obtain ⟨rfl, hs66⟩ := r66
        replace mx := mx.nw hs66
        replace hl := hl.nw hs66
        replace hx := fun x hx0 => (hx x hx0).nw hs66
        replace hA := hA.nw hs66
        replace hby := hby.nw hs66
        replace hmo := hmo.nw hs66
        replace hm := hm.nw hs66
        replace hxm := fun x hx_ => (hxm x hx_).nw hs66
        replace ow := ow.nw hs66
        replace hm0 := hm0.tr hs66
        have hz7 := hs66.size
        refine LR.v (Y.cast (v2 := .int .i64 ((bb.length - wiN ct bb.length : Nat) : Int)) (Y.subi rfl rfl rfl (by omega)) (ivv (by omega))) (Wd.u rfl) rfl rfl ?_
        refine LR.e (g := fun v => v) (Y.owFront ow (bb.length - wiN ct bb.length) rfl Tryd.runUnderlying23 Tryd.sizeOf5 rfl rfl (by first | rfl | omega) (by omega)) (Wd.u rfl) rfl rfl (fun v68 ow => ?_)
        refine LR.v (Y.assign rfl rfl) (Wd.u rfl) rfl rfl ?_
        refine LR.nil ?_
        refine hK14 _ _ ?_
        refine CW.cut (fun (s_ : (List UInt8) × (SV) × (Nat)) => match s_ with | (c, so, ko) => [(11, so.v)])
          (fun (s_ : (List UInt8) × (SV) × (Nat)) (H : Heap) => match s_ with | (c, so, ko) => (Ow ko 5 H fB 1 so.v c) ∧ (c.length ≤ 70000) ∧ (Nx k24 H66.size ko) ∧ Mo (Ms [k24]) H66 H) (fun K15 hK15 hE15 => ?_) ?_
        ·
          have hcm15 : Mo (Ms [k24]) H66 H66 := Mo.refl _ _
          have nx_hcm15_ow := Nx.refl k24 H66.size
          refine CW.seq (fun K16 hK16 hE16 => ?_)
          refine CW.region ?_
          refine LR.v (Y.move rfl rfl) (Wd.u rfl) rfl rfl ?_
          refine LR.v (Y.len hmo rfl Tryd.runUnderlying23 rfl) (Wd.u rfl) rfl rfl ?_
          refine LR.v (Y.lss rfl rfl rfl) (Wd.u rfl) rfl rfl ?_
          refine LR.nil ?_
          refine hK16 _ _ ?_
          refine CW.condp rfl (fun c71 => ?_) (fun c71 => ?_)
          ·
            refine CW.region ?_
            refine LR.v (Y.move rfl rfl) (Wd.u rfl) rfl rfl ?_
            refine LR.v (Y.move rfl rfl) (Wd.u rfl) rfl rfl ?_
            refine LR.z (Z.apnd ow hmo rfl inf23 rfl rfl (by simp only [List.length_take]; omega) (by simp only [List.length_take]; omega)) (Wd.u rfl) rfl rfl (fun v74 H74 r74 => ?_)
            obtain ⟨k74, ow, hk74, hs74⟩ := r74
            replace hk74 : Nx k24 H66.size k74 := hk74
            replace hs74 := hs74.md
            have df20 := DF.app (df10) (bf_mx.mono hm0.size) hk74
            have df21 := DF.app (df11) (bf_hl.mono hm0.size) hk74
            have df22 := DF.app (df12) (bf_hx.mono hm0.size) hk74
            have df23 := DF.app (df13) (bf_hA.mono hm0.size) hk74
            have df24 := DF.app (df14) (bf_hby.mono hm0.size) hk74
            have df25 := DF.app (df15) (bf_hmo.mono hm0.size) hk74
            have df26 := DF.app (df16) (bf_hm.mono (by omega)) hk74
            have df27 := DF.app (df17) (bf_hxm.mono (by omega)) hk74
            have nx28 : Nx 0 H0.size k74 := Nx.tr (nx18) hk74 hm0.size
            have nx29 : Nx k24 H66.size k74 := Nx.tr (nx_hcm15_ow) hk74 hcm15.size
            replace mx := mx.upL hs74 (DFL.cons df10 DFL.nil)
            replace hl := hl.upL hs74 (DFL.cons df11 DFL.nil)
            replace hx := fun x hx0 => (hx x hx0).upL hs74 (DFL.cons df12 DFL.nil)
            replace hA := hA.upL hs74 (DFL.cons df13 DFL.nil)
            replace hby := hby.upL hs74 (DFL.cons df14 DFL.nil)
            replace hmo := hmo.upL hs74 (DFL.cons df15 DFL.nil)
            replace hm := hm.upL hs74 (DFL.cons df16 DFL.nil)
            replace hxm := fun x hx_ => (hxm x hx_).upL hs74 (DFL.cons df17 DFL.nil)
            replace hm0 := (Mo.trL (ks := []) (hm0.mdn []) hs74 (MIL.cons (MI.app MI.z (nx18) (Nat.le_refl _)) MIL.nil)).nil
            replace hcm15 := hcm15.trL hs74 (MIL.cons (MI.app (MI.root (by simp)) (nx_hcm15_ow) (Nat.le_refl _)) MIL.nil)
            have hz8 := hs74.size
            have hle_ow := ow.le
            refine LR.v (Y.assign rfl rfl) (Wd.u rfl) rfl rfl ?_
            refine LR.nil ?_
            obtain ⟨s74, rfl⟩ : ∃ s : SV, v74 = s.v := ⟨toSV v74, ow.sv.symm⟩
            refine QN.sub (hK15 (bb.take (bb.length - wiN ct bb.length) ++ more, s74, k74) _ ?_) ⟨rfl, trivial⟩
            exact ⟨ow, by simp only [List.length_append, List.length_take]; omega, nx29, hcm15⟩
          ·
            refine CW.skip ?_
            obtain ⟨s68, rfl⟩ : ∃ s : SV, v68 = s.v := ⟨toSV v68, ow.sv.symm⟩
            refine QN.sub (hK15 (bb.take (bb.length - wiN ct bb.length), s68, k24) _ ?_) ⟨rfl, trivial⟩
            exact ⟨ow, by simp only [List.length_take]; omega, nx_hcm15_ow, hcm15⟩
        ·
          rintro ⟨c, so, ko⟩ Hcutc71 hIcutc71
          obtain ⟨ow, hcl, nxl_ow, hlmcutc71⟩ := hIcutc71
          have df30 := DF.app (df10) (bf_mx.mono hm0.size) nxl_ow
          have df31 := DF.app (df11) (bf_hl.mono hm0.size) nxl_ow
          have df32 := DF.app (df12) (bf_hx.mono hm0.size) nxl_ow
          have df33 := DF.app (df13) (bf_hA.mono hm0.size) nxl_ow
          have df34 := DF.app (df14) (bf_hby.mono hm0.size) nxl_ow
          have df35 := DF.app (df15) (bf_hmo.mono hm0.size) nxl_ow
          have df36 := DF.app (df16) (bf_hm.mono (by omega)) nxl_ow
          have df37 := DF.app (df17) (bf_hxm.mono (by omega)) nxl_ow
          have nx38 : Nx 0 H0.size ko := Nx.tr (nx18) nxl_ow hm0.size
          replace mx := mx.upL hlmcutc71 (DFL.cons df10 DFL.nil)
          replace hl := hl.upL hlmcutc71 (DFL.cons df11 DFL.nil)
          replace hx := fun x hx0 => (hx x hx0).upL hlmcutc71 (DFL.cons df12 DFL.nil)
          replace hA := hA.upL hlmcutc71 (DFL.cons df13 DFL.nil)
          replace hby := hby.upL hlmcutc71 (DFL.cons df14 DFL.nil)
          replace hmo := hmo.upL hlmcutc71 (DFL.cons df15 DFL.nil)
          replace hm := hm.upL hlmcutc71 (DFL.cons df16 DFL.nil)
          replace hxm := fun x hx_ => (hxm x hx_).upL hlmcutc71 (DFL.cons df17 DFL.nil)
          replace hm0 := (Mo.trL (ks := []) (hm0.mdn []) hlmcutc71 (MIL.cons (MI.app MI.z (nx18) (Nat.le_refl _)) MIL.nil)).nil
          have hz9 := hlmcutc71.size
          have hle_ow := ow.le
          have nx39 := nxl_ow
          refine CW.seq (fun K17 hK17 hE17 => ?_)
          refine CW.region ?_
          refine LR.v (Y.move rfl rfl) (Wd.u rfl) rfl rfl ?_
          -- call selvage/wal.Parse
          refine LR.call rfl Tryd.call9 rfl (Wd.u rfl) rfl rfl (parse_ct so c w0 _ ow.rd.any (by omega)) (fun v77 H77 r77 => ?_)
          obtain ⟨t77, l77, rfl, hrl77, hw77, hx77, hs77⟩ := r77
          replace mx := mx.nw hs77
          replace hl := hl.nw hs77
          replace hx := fun x hx0 => (hx x hx0).nw hs77
          replace hA := hA.nw hs77
          replace hby := hby.nw hs77
          replace hmo := hmo.nw hs77
          replace hm := hm.nw hs77
          replace hxm := fun x hx_ => (hxm x hx_).nw hs77
          replace ow := ow.nw hs77
          replace hm0 := hm0.tr hs77
          have hz10 := hs77.size
          replace hw77 := hw77.bnd
          have bf_hw77 := hw77.bf
          have df40 : DF (fun b => Hcutc71.size ≤ b ∧ b < H77.size) ko := DF.above (fun b h => h.1) (by first | exact hle_ow | exact hlt_ow | omega)
          replace hx77 := fun x hx_ => (hx77 x hx_).bnd
          have bf_hx77 : BF (fun b => Hcutc71.size ≤ b ∧ b < H77.size) H77.size := fun b h => h.2
          have df41 : DF (fun b => Hcutc71.size ≤ b ∧ b < H77.size) ko := DF.above (fun b h => h.1) (by first | exact hle_ow | exact hlt_ow | omega)
          refine LR.v (Y.move rfl rfl) (Wd.u rfl) rfl rfl ?_
          refine LR.v (Y.extract rfl rfl rfl) (Wd.u rfl) rfl rfl ?_
          refine LR.v (Y.extract rfl rfl rfl) (Wd.u rfl) rfl rfl ?_
          refine LR.v (Y.extract rfl rfl rfl) (Wd.u rfl) rfl rfl ?_
          refine LR.v (Y.assign rfl rfl) (Wd.u rfl) rfl rfl ?_
          refine LR.v (Y.assign rfl rfl) (Wd.u rfl) rfl rfl ?_
          refine LR.v (Y.assign rfl rfl) (Wd.u rfl) rfl rfl ?_
          refine LR.nil ?_
          refine hK17 _ _ ?_
          refine CW.seq (fun K18 hK18 hE18 => ?_)
          refine CW.region ?_
          refine LR.v (Y.move rfl rfl) (Wd.u rfl) rfl rfl ?_
          -- call selvage/selvageref3.Parse
          refine LR.call rfl Tryd.call10 rfl (Wd.u rfl) rfl rfl (rparse_ct so c w0 _ ow.rd.any (by omega)) (fun v83 H83 r83 => ?_)
          obtain ⟨t83, l83, rfl, hrl83, hw83, hx83, hs83⟩ := r83
          replace mx := mx.nw hs83
          replace hl := hl.nw hs83
          replace hx := fun x hx0 => (hx x hx0).nw hs83
          replace hA := hA.nw hs83
          replace hby := hby.nw hs83
          replace hmo := hmo.nw hs83
          replace hm := hm.nw hs83
          replace hxm := fun x hx_ => (hxm x hx_).nw hs83
          replace ow := ow.nw hs83
          replace hw77 := hw77.nw hs83
          replace hx77 := fun x hx_ => (hx77 x hx_).nw hs83
          replace hm0 := hm0.tr hs83
          have hz11 := hs83.size
          replace hw83 := hw83.bnd
          have bf_hw83 := hw83.bf
          have df42 : DF (fun b => H77.size ≤ b ∧ b < H83.size) ko := DF.above (fun b h => h.1) (by first | exact hle_ow | exact hlt_ow | omega)
          replace hx83 := fun x hx_ => (hx83 x hx_).bnd
          have bf_hx83 : BF (fun b => H77.size ≤ b ∧ b < H83.size) H83.size := fun b h => h.2
          have df43 : DF (fun b => H77.size ≤ b ∧ b < H83.size) ko := DF.above (fun b h => h.1) (by first | exact hle_ow | exact hlt_ow | omega)
          refine LR.v (Y.move rfl rfl) (Wd.u rfl) rfl rfl ?_
          refine LR.v (Y.extract rfl rfl rfl) (Wd.u rfl) rfl rfl ?_
          refine LR.v (Y.extract rfl rfl rfl) (Wd.u rfl) rfl rfl ?_
          refine LR.v (Y.extract rfl rfl rfl) (Wd.u rfl) rfl rfl ?_
          refine LR.v (Y.assign rfl rfl) (Wd.u rfl) rfl rfl ?_
          refine LR.v (Y.assign rfl rfl) (Wd.u rfl) rfl rfl ?_
          refine LR.v (Y.assign rfl rfl) (Wd.u rfl) rfl rfl ?_
          refine LR.nil ?_
          refine hK18 _ _ ?_
          refine CW.seq (fun K19 hK19 hE19 => ?_)
          refine CW.region ?_
          refine LR.v (Y.move rfl rfl) (Wd.u rfl) rfl rfl ?_
          refine LR.v (Y.move rfl rfl) (Wd.u rfl) rfl rfl ?_
          -- call selvage/selvagelaw3.sameRows
          refine LR.call rfl Tryd.call13 rfl (Wd.u rfl) rfl rfl (sameR_ct t77 t83 l77 l83 w0 _ hw77.any hw83.any (fun x h => (hx77 x h).any) (fun x h => (hx83 x h).any)) (fun v89 H89 r89 => ?_)
          obtain ⟨rfl, hs89⟩ := r89
          replace mx := mx.nw hs89
          replace hl := hl.nw hs89
          replace hx := fun x hx0 => (hx x hx0).nw hs89
          replace hA := hA.nw hs89
          replace hby := hby.nw hs89
          replace hmo := hmo.nw hs89
          replace hm := hm.nw hs89
          replace hxm := fun x hx_ => (hxm x hx_).nw hs89
          replace ow := ow.nw hs89
          replace hw77 := hw77.nw hs89
          replace hx77 := fun x hx_ => (hx77 x hx_).nw hs89
          replace hw83 := hw83.nw hs89
          replace hx83 := fun x hx_ => (hx83 x hx_).nw hs89
          replace hm0 := hm0.tr hs89
          have hz12 := hs89.size
          rw [hrl77, hrl83, decide_eq_true rfl]
          refine LR.v (Y.move rfl rfl) (Wd.u rfl) rfl rfl ?_
          refine LR.v (Y.move rfl rfl) (Wd.g rfl rfl rfl) rfl rfl ?_
          refine LR.v (Y.move rfl rfl) (Wd.g rfl rfl rfl) rfl rfl ?_
          refine LR.v ((Y.eql rfl rfl rfl).isT (rfl)) (Wd.g rfl rfl rfl) rfl rfl ?_
          refine LR.v (Y.pick_t rfl rfl rfl) (Wd.u rfl) rfl rfl ?_
          refine LR.v (Y.move rfl rfl) (Wd.u rfl) rfl rfl ?_
          refine LR.v (Y.move rfl rfl) (Wd.g rfl rfl rfl) rfl rfl ?_
          refine LR.v (Y.move rfl rfl) (Wd.g rfl rfl rfl) rfl rfl ?_
          refine LR.v ((Y.eql rfl rfl rfl).isT (rfl)) (Wd.g rfl rfl rfl) rfl rfl ?_
          refine LR.v (Y.pick_t rfl rfl rfl) (Wd.u rfl) rfl rfl ?_
          refine LR.v (Y.assign rfl rfl) (Wd.u rfl) rfl rfl ?_
          refine LR.nil ?_
          refine hK19 _ _ ?_
          refine CW.ret (hret .ret (.inr rfl) _ _ _ (res1 rfl rfl) ?_)
          exact ⟨rfl, hm0⟩
    ·
      refine LR.gs rfl rfl rfl rfl rfl rfl ?_
      refine LR.gs rfl rfl rfl rfl rfl rfl ?_
      refine LR.v (Y.pick_f rfl rfl rfl) (Wd.u rfl) rfl rfl ?_
      refine LR.nil ?_
      refine hK10 _ _ ?_
      refine CW.cond_f rfl ?_
      refine CW.exit (hE9 (.exit 0) nofun _ _ (hE8 (.exit 0) nofun _ _ (hX7 _ _ ?_)))
      refine hK5 _ _ ?_
      refine CW.seq (fun K20 hK20 hE20 => ?_)
      refine CW.region ?_
      refine LR.v (Y.move rfl rfl) (Wd.u rfl) rfl rfl ?_
      refine LR.v (Y.move rfl rfl) (Wd.u rfl) rfl rfl ?_
      refine LR.v (Y.len ow.rd rfl Tryd.runUnderlying23 rfl) (Wd.u rfl) rfl rfl ?_
      refine LR.v (Y.move rfl rfl) (Wd.u rfl) rfl rfl ?_
      refine LR.v (Y.move rfl rfl) (Wd.u rfl) rfl rfl ?_
      refine LR.v (Y.len ow.rd rfl Tryd.runUnderlying23 rfl) (Wd.u rfl) rfl rfl ?_
      -- call selvage/selvagelaw3.within
      refine LR.call rfl Tryd.call14 rfl (Wd.u rfl) rfl rfl (within3_ct ct bb.length w0 _ (by omega) hct) (fun v66 H66 r66 => ?_)
      obtain ⟨rfl, hs66⟩ := r66
      replace mx := mx.nw hs66
      replace hl := hl.nw hs66
      replace hx := fun x hx0 => (hx x hx0).nw hs66
      replace hA := hA.nw hs66
      replace hby := hby.nw hs66
      replace hmo := hmo.nw hs66
      replace hm := hm.nw hs66
      replace hxm := fun x hx_ => (hxm x hx_).nw hs66
      replace ow := ow.nw hs66
      replace hm0 := hm0.tr hs66
      have hz13 := hs66.size
      refine LR.v (Y.cast (v2 := .int .i64 ((bb.length - wiN ct bb.length : Nat) : Int)) (Y.subi rfl rfl rfl (by omega)) (ivv (by omega))) (Wd.u rfl) rfl rfl ?_
      refine LR.e (g := fun v => v) (Y.owFront ow (bb.length - wiN ct bb.length) rfl Tryd.runUnderlying23 Tryd.sizeOf5 rfl rfl (by first | rfl | omega) (by omega)) (Wd.u rfl) rfl rfl (fun v68 ow => ?_)
      refine LR.v (Y.assign rfl rfl) (Wd.u rfl) rfl rfl ?_
      refine LR.nil ?_
      refine hK20 _ _ ?_
      refine CW.cut (fun (s_ : (List UInt8) × (SV) × (Nat)) => match s_ with | (c, so, ko) => [(11, so.v)])
        (fun (s_ : (List UInt8) × (SV) × (Nat)) (H : Heap) => match s_ with | (c, so, ko) => (Ow ko 5 H fB 1 so.v c) ∧ (c.length ≤ 70000) ∧ (Nx k24 H66.size ko) ∧ Mo (Ms [k24]) H66 H) (fun K21 hK21 hE21 => ?_) ?_
      ·
        have hcm21 : Mo (Ms [k24]) H66 H66 := Mo.refl _ _
        have nx_hcm21_ow := Nx.refl k24 H66.size
        refine CW.seq (fun K22 hK22 hE22 => ?_)
        refine CW.region ?_
        refine LR.v (Y.move rfl rfl) (Wd.u rfl) rfl rfl ?_
        refine LR.v (Y.len hmo rfl Tryd.runUnderlying23 rfl) (Wd.u rfl) rfl rfl ?_
        refine LR.v (Y.lss rfl rfl rfl) (Wd.u rfl) rfl rfl ?_
        refine LR.nil ?_
        refine hK22 _ _ ?_
        refine CW.condp rfl (fun c71 => ?_) (fun c71 => ?_)
        ·
          refine CW.region ?_
          refine LR.v (Y.move rfl rfl) (Wd.u rfl) rfl rfl ?_
          refine LR.v (Y.move rfl rfl) (Wd.u rfl) rfl rfl ?_
          refine LR.z (Z.apnd ow hmo rfl inf23 rfl rfl (by simp only [List.length_take]; omega) (by simp only [List.length_take]; omega)) (Wd.u rfl) rfl rfl (fun v74 H74 r74 => ?_)
          obtain ⟨k74, ow, hk74, hs74⟩ := r74
          replace hk74 : Nx k24 H66.size k74 := hk74
          replace hs74 := hs74.md
          have df44 := DF.app (df10) (bf_mx.mono hm0.size) hk74
          have df45 := DF.app (df11) (bf_hl.mono hm0.size) hk74
          have df46 := DF.app (df12) (bf_hx.mono hm0.size) hk74
          have df47 := DF.app (df13) (bf_hA.mono hm0.size) hk74
          have df48 := DF.app (df14) (bf_hby.mono hm0.size) hk74
          have df49 := DF.app (df15) (bf_hmo.mono hm0.size) hk74
          have df50 := DF.app (df16) (bf_hm.mono (by omega)) hk74
          have df51 := DF.app (df17) (bf_hxm.mono (by omega)) hk74
          have nx52 : Nx 0 H0.size k74 := Nx.tr (nx18) hk74 hm0.size
          have nx53 : Nx k24 H66.size k74 := Nx.tr (nx_hcm21_ow) hk74 hcm21.size
          replace mx := mx.upL hs74 (DFL.cons df10 DFL.nil)
          replace hl := hl.upL hs74 (DFL.cons df11 DFL.nil)
          replace hx := fun x hx0 => (hx x hx0).upL hs74 (DFL.cons df12 DFL.nil)
          replace hA := hA.upL hs74 (DFL.cons df13 DFL.nil)
          replace hby := hby.upL hs74 (DFL.cons df14 DFL.nil)
          replace hmo := hmo.upL hs74 (DFL.cons df15 DFL.nil)
          replace hm := hm.upL hs74 (DFL.cons df16 DFL.nil)
          replace hxm := fun x hx_ => (hxm x hx_).upL hs74 (DFL.cons df17 DFL.nil)
          replace hm0 := (Mo.trL (ks := []) (hm0.mdn []) hs74 (MIL.cons (MI.app MI.z (nx18) (Nat.le_refl _)) MIL.nil)).nil
          replace hcm21 := hcm21.trL hs74 (MIL.cons (MI.app (MI.root (by simp)) (nx_hcm21_ow) (Nat.le_refl _)) MIL.nil)
          have hz14 := hs74.size
          have hle_ow := ow.le
          refine LR.v (Y.assign rfl rfl) (Wd.u rfl) rfl rfl ?_
          refine LR.nil ?_
          obtain ⟨s74, rfl⟩ : ∃ s : SV, v74 = s.v := ⟨toSV v74, ow.sv.symm⟩
          refine QN.sub (hK21 (bb.take (bb.length - wiN ct bb.length) ++ more, s74, k74) _ ?_) ⟨rfl, trivial⟩
          exact ⟨ow, by simp only [List.length_append, List.length_take]; omega, nx53, hcm21⟩
        ·
          refine CW.skip ?_
          obtain ⟨s68, rfl⟩ : ∃ s : SV, v68 = s.v := ⟨toSV v68, ow.sv.symm⟩
          refine QN.sub (hK21 (bb.take (bb.length - wiN ct bb.length), s68, k24) _ ?_) ⟨rfl, trivial⟩
          exact ⟨ow, by simp only [List.length_take]; omega, nx_hcm21_ow, hcm21⟩
      ·
        rintro ⟨c, so, ko⟩ Hcutc71 hIcutc71
        obtain ⟨ow, hcl, nxl_ow, hlmcutc71⟩ := hIcutc71
        have df54 := DF.app (df10) (bf_mx.mono hm0.size) nxl_ow
        have df55 := DF.app (df11) (bf_hl.mono hm0.size) nxl_ow
        have df56 := DF.app (df12) (bf_hx.mono hm0.size) nxl_ow
        have df57 := DF.app (df13) (bf_hA.mono hm0.size) nxl_ow
        have df58 := DF.app (df14) (bf_hby.mono hm0.size) nxl_ow
        have df59 := DF.app (df15) (bf_hmo.mono hm0.size) nxl_ow
        have df60 := DF.app (df16) (bf_hm.mono (by omega)) nxl_ow
        have df61 := DF.app (df17) (bf_hxm.mono (by omega)) nxl_ow
        have nx62 : Nx 0 H0.size ko := Nx.tr (nx18) nxl_ow hm0.size
        replace mx := mx.upL hlmcutc71 (DFL.cons df10 DFL.nil)
        replace hl := hl.upL hlmcutc71 (DFL.cons df11 DFL.nil)
        replace hx := fun x hx0 => (hx x hx0).upL hlmcutc71 (DFL.cons df12 DFL.nil)
        replace hA := hA.upL hlmcutc71 (DFL.cons df13 DFL.nil)
        replace hby := hby.upL hlmcutc71 (DFL.cons df14 DFL.nil)
        replace hmo := hmo.upL hlmcutc71 (DFL.cons df15 DFL.nil)
        replace hm := hm.upL hlmcutc71 (DFL.cons df16 DFL.nil)
        replace hxm := fun x hx_ => (hxm x hx_).upL hlmcutc71 (DFL.cons df17 DFL.nil)
        replace hm0 := (Mo.trL (ks := []) (hm0.mdn []) hlmcutc71 (MIL.cons (MI.app MI.z (nx18) (Nat.le_refl _)) MIL.nil)).nil
        have hz15 := hlmcutc71.size
        have hle_ow := ow.le
        have nx63 := nxl_ow
        refine CW.seq (fun K23 hK23 hE23 => ?_)
        refine CW.region ?_
        refine LR.v (Y.move rfl rfl) (Wd.u rfl) rfl rfl ?_
        -- call selvage/wal.Parse
        refine LR.call rfl Tryd.call9 rfl (Wd.u rfl) rfl rfl (parse_ct so c w0 _ ow.rd.any (by omega)) (fun v77 H77 r77 => ?_)
        obtain ⟨t77, l77, rfl, hrl77, hw77, hx77, hs77⟩ := r77
        replace mx := mx.nw hs77
        replace hl := hl.nw hs77
        replace hx := fun x hx0 => (hx x hx0).nw hs77
        replace hA := hA.nw hs77
        replace hby := hby.nw hs77
        replace hmo := hmo.nw hs77
        replace hm := hm.nw hs77
        replace hxm := fun x hx_ => (hxm x hx_).nw hs77
        replace ow := ow.nw hs77
        replace hm0 := hm0.tr hs77
        have hz16 := hs77.size
        replace hw77 := hw77.bnd
        have bf_hw77 := hw77.bf
        have df64 : DF (fun b => Hcutc71.size ≤ b ∧ b < H77.size) ko := DF.above (fun b h => h.1) (by first | exact hle_ow | exact hlt_ow | omega)
        replace hx77 := fun x hx_ => (hx77 x hx_).bnd
        have bf_hx77 : BF (fun b => Hcutc71.size ≤ b ∧ b < H77.size) H77.size := fun b h => h.2
        have df65 : DF (fun b => Hcutc71.size ≤ b ∧ b < H77.size) ko := DF.above (fun b h => h.1) (by first | exact hle_ow | exact hlt_ow | omega)
        refine LR.v (Y.move rfl rfl) (Wd.u rfl) rfl rfl ?_
        refine LR.v (Y.extract rfl rfl rfl) (Wd.u rfl) rfl rfl ?_
        refine LR.v (Y.extract rfl rfl rfl) (Wd.u rfl) rfl rfl ?_
        refine LR.v (Y.extract rfl rfl rfl) (Wd.u rfl) rfl rfl ?_
        refine LR.v (Y.assign rfl rfl) (Wd.u rfl) rfl rfl ?_
        refine LR.v (Y.assign rfl rfl) (Wd.u rfl) rfl rfl ?_
        refine LR.v (Y.assign rfl rfl) (Wd.u rfl) rfl rfl ?_
        refine LR.nil ?_
        refine hK23 _ _ ?_
        refine CW.seq (fun K24 hK24 hE24 => ?_)
        refine CW.region ?_
        refine LR.v (Y.move rfl rfl) (Wd.u rfl) rfl rfl ?_
        -- call selvage/selvageref3.Parse
        refine LR.call rfl Tryd.call10 rfl (Wd.u rfl) rfl rfl (rparse_ct so c w0 _ ow.rd.any (by omega)) (fun v83 H83 r83 => ?_)
        obtain ⟨t83, l83, rfl, hrl83, hw83, hx83, hs83⟩ := r83
        replace mx := mx.nw hs83
        replace hl := hl.nw hs83
        replace hx := fun x hx0 => (hx x hx0).nw hs83
        replace hA := hA.nw hs83
        replace hby := hby.nw hs83
        replace hmo := hmo.nw hs83
        replace hm := hm.nw hs83
        replace hxm := fun x hx_ => (hxm x hx_).nw hs83
        replace ow := ow.nw hs83
        replace hw77 := hw77.nw hs83
        replace hx77 := fun x hx_ => (hx77 x hx_).nw hs83
        replace hm0 := hm0.tr hs83
        have hz17 := hs83.size
        replace hw83 := hw83.bnd
        have bf_hw83 := hw83.bf
        have df66 : DF (fun b => H77.size ≤ b ∧ b < H83.size) ko := DF.above (fun b h => h.1) (by first | exact hle_ow | exact hlt_ow | omega)
        replace hx83 := fun x hx_ => (hx83 x hx_).bnd
        have bf_hx83 : BF (fun b => H77.size ≤ b ∧ b < H83.size) H83.size := fun b h => h.2
        have df67 : DF (fun b => H77.size ≤ b ∧ b < H83.size) ko := DF.above (fun b h => h.1) (by first | exact hle_ow | exact hlt_ow | omega)
        refine LR.v (Y.move rfl rfl) (Wd.u rfl) rfl rfl ?_
        refine LR.v (Y.extract rfl rfl rfl) (Wd.u rfl) rfl rfl ?_
        refine LR.v (Y.extract rfl rfl rfl) (Wd.u rfl) rfl rfl ?_
        refine LR.v (Y.extract rfl rfl rfl) (Wd.u rfl) rfl rfl ?_
        refine LR.v (Y.assign rfl rfl) (Wd.u rfl) rfl rfl ?_
        refine LR.v (Y.assign rfl rfl) (Wd.u rfl) rfl rfl ?_
        refine LR.v (Y.assign rfl rfl) (Wd.u rfl) rfl rfl ?_
        refine LR.nil ?_
        refine hK24 _ _ ?_
        refine CW.seq (fun K25 hK25 hE25 => ?_)
        refine CW.region ?_
        refine LR.v (Y.move rfl rfl) (Wd.u rfl) rfl rfl ?_
        refine LR.v (Y.move rfl rfl) (Wd.u rfl) rfl rfl ?_
        -- call selvage/selvagelaw3.sameRows
        refine LR.call rfl Tryd.call13 rfl (Wd.u rfl) rfl rfl (sameR_ct t77 t83 l77 l83 w0 _ hw77.any hw83.any (fun x h => (hx77 x h).any) (fun x h => (hx83 x h).any)) (fun v89 H89 r89 => ?_)
        obtain ⟨rfl, hs89⟩ := r89
        replace mx := mx.nw hs89
        replace hl := hl.nw hs89
        replace hx := fun x hx0 => (hx x hx0).nw hs89
        replace hA := hA.nw hs89
        replace hby := hby.nw hs89
        replace hmo := hmo.nw hs89
        replace hm := hm.nw hs89
        replace hxm := fun x hx_ => (hxm x hx_).nw hs89
        replace ow := ow.nw hs89
        replace hw77 := hw77.nw hs89
        replace hx77 := fun x hx_ => (hx77 x hx_).nw hs89
        replace hw83 := hw83.nw hs89
        replace hx83 := fun x hx_ => (hx83 x hx_).nw hs89
        replace hm0 := hm0.tr hs89
        have hz18 := hs89.size
        rw [hrl77, hrl83, decide_eq_true rfl]
        refine LR.v (Y.move rfl rfl) (Wd.u rfl) rfl rfl ?_
        refine LR.v (Y.move rfl rfl) (Wd.g rfl rfl rfl) rfl rfl ?_
        refine LR.v (Y.move rfl rfl) (Wd.g rfl rfl rfl) rfl rfl ?_
        refine LR.v ((Y.eql rfl rfl rfl).isT (rfl)) (Wd.g rfl rfl rfl) rfl rfl ?_
        refine LR.v (Y.pick_t rfl rfl rfl) (Wd.u rfl) rfl rfl ?_
        refine LR.v (Y.move rfl rfl) (Wd.u rfl) rfl rfl ?_
        refine LR.v (Y.move rfl rfl) (Wd.g rfl rfl rfl) rfl rfl ?_
        refine LR.v (Y.move rfl rfl) (Wd.g rfl rfl rfl) rfl rfl ?_
        refine LR.v ((Y.eql rfl rfl rfl).isT (rfl)) (Wd.g rfl rfl rfl) rfl rfl ?_
        refine LR.v (Y.pick_t rfl rfl rfl) (Wd.u rfl) rfl rfl ?_
        refine LR.v (Y.assign rfl rfl) (Wd.u rfl) rfl rfl ?_
        refine LR.nil ?_
        refine hK25 _ _ ?_
        refine CW.ret (hret .ret (.inr rfl) _ _ _ (res1 rfl rfl) ?_)
        exact ⟨rfl, hm0⟩
  ·
    refine LR.gs rfl rfl rfl rfl rfl rfl ?_
    refine LR.gs rfl rfl rfl rfl rfl rfl ?_
    refine LR.gs rfl rfl rfl rfl rfl rfl ?_
    refine LR.gs rfl rfl rfl rfl rfl rfl ?_
    refine LR.v (Y.pick_f rfl rfl rfl) (Wd.u rfl) rfl rfl ?_
    refine LR.v (Y.move rfl rfl) (Wd.u rfl) rfl rfl ?_
    refine LR.gs rfl rfl rfl rfl rfl rfl ?_
    refine LR.gs rfl rfl rfl rfl rfl rfl ?_
    refine LR.v (Y.pick_f rfl rfl rfl) (Wd.u rfl) rfl rfl ?_
    refine LR.nil ?_
    refine hK10 _ _ ?_
    refine CW.cond_f rfl ?_
    refine CW.exit (hE9 (.exit 0) nofun _ _ (hE8 (.exit 0) nofun _ _ (hX7 _ _ ?_)))
    refine hK5 _ _ ?_
    refine CW.seq (fun K26 hK26 hE26 => ?_)
    refine CW.region ?_
    refine LR.v (Y.move rfl rfl) (Wd.u rfl) rfl rfl ?_
    refine LR.v (Y.move rfl rfl) (Wd.u rfl) rfl rfl ?_
    refine LR.v (Y.len ow.rd rfl Tryd.runUnderlying23 rfl) (Wd.u rfl) rfl rfl ?_
    refine LR.v (Y.move rfl rfl) (Wd.u rfl) rfl rfl ?_
    refine LR.v (Y.move rfl rfl) (Wd.u rfl) rfl rfl ?_
    refine LR.v (Y.len ow.rd rfl Tryd.runUnderlying23 rfl) (Wd.u rfl) rfl rfl ?_
    -- call selvage/selvagelaw3.within
    refine LR.call rfl Tryd.call14 rfl (Wd.u rfl) rfl rfl (within3_ct ct bb.length w0 _ (by omega) hct) (fun v66 H66 r66 => ?_)
    obtain ⟨rfl, hs66⟩ := r66
    replace mx := mx.nw hs66
    replace hl := hl.nw hs66
    replace hx := fun x hx0 => (hx x hx0).nw hs66
    replace hA := hA.nw hs66
    replace hby := hby.nw hs66
    replace hmo := hmo.nw hs66
    replace hm := hm.nw hs66
    replace hxm := fun x hx_ => (hxm x hx_).nw hs66
    replace ow := ow.nw hs66
    replace hm0 := hm0.tr hs66
    have hz19 := hs66.size
    refine LR.v (Y.cast (v2 := .int .i64 ((bb.length - wiN ct bb.length : Nat) : Int)) (Y.subi rfl rfl rfl (by omega)) (ivv (by omega))) (Wd.u rfl) rfl rfl ?_
    refine LR.e (g := fun v => v) (Y.owFront ow (bb.length - wiN ct bb.length) rfl Tryd.runUnderlying23 Tryd.sizeOf5 rfl rfl (by first | rfl | omega) (by omega)) (Wd.u rfl) rfl rfl (fun v68 ow => ?_)
    refine LR.v (Y.assign rfl rfl) (Wd.u rfl) rfl rfl ?_
    refine LR.nil ?_
    refine hK26 _ _ ?_
    refine CW.cut (fun (s_ : (List UInt8) × (SV) × (Nat)) => match s_ with | (c, so, ko) => [(11, so.v)])
      (fun (s_ : (List UInt8) × (SV) × (Nat)) (H : Heap) => match s_ with | (c, so, ko) => (Ow ko 5 H fB 1 so.v c) ∧ (c.length ≤ 70000) ∧ (Nx k24 H66.size ko) ∧ Mo (Ms [k24]) H66 H) (fun K27 hK27 hE27 => ?_) ?_
    ·
      have hcm27 : Mo (Ms [k24]) H66 H66 := Mo.refl _ _
      have nx_hcm27_ow := Nx.refl k24 H66.size
      refine CW.seq (fun K28 hK28 hE28 => ?_)
      refine CW.region ?_
      refine LR.v (Y.move rfl rfl) (Wd.u rfl) rfl rfl ?_
      refine LR.v (Y.len hmo rfl Tryd.runUnderlying23 rfl) (Wd.u rfl) rfl rfl ?_
      refine LR.v (Y.lss rfl rfl rfl) (Wd.u rfl) rfl rfl ?_
      refine LR.nil ?_
      refine hK28 _ _ ?_
      refine CW.condp rfl (fun c71 => ?_) (fun c71 => ?_)
      ·
        refine CW.region ?_
        refine LR.v (Y.move rfl rfl) (Wd.u rfl) rfl rfl ?_
        refine LR.v (Y.move rfl rfl) (Wd.u rfl) rfl rfl ?_
        refine LR.z (Z.apnd ow hmo rfl inf23 rfl rfl (by simp only [List.length_take]; omega) (by simp only [List.length_take]; omega)) (Wd.u rfl) rfl rfl (fun v74 H74 r74 => ?_)
        obtain ⟨k74, ow, hk74, hs74⟩ := r74
        replace hk74 : Nx k24 H66.size k74 := hk74
        replace hs74 := hs74.md
        have df68 := DF.app (df10) (bf_mx.mono hm0.size) hk74
        have df69 := DF.app (df11) (bf_hl.mono hm0.size) hk74
        have df70 := DF.app (df12) (bf_hx.mono hm0.size) hk74
        have df71 := DF.app (df13) (bf_hA.mono hm0.size) hk74
        have df72 := DF.app (df14) (bf_hby.mono hm0.size) hk74
        have df73 := DF.app (df15) (bf_hmo.mono hm0.size) hk74
        have df74 := DF.app (df16) (bf_hm.mono (by omega)) hk74
        have df75 := DF.app (df17) (bf_hxm.mono (by omega)) hk74
        have nx76 : Nx 0 H0.size k74 := Nx.tr (nx18) hk74 hm0.size
        have nx77 : Nx k24 H66.size k74 := Nx.tr (nx_hcm27_ow) hk74 hcm27.size
        replace mx := mx.upL hs74 (DFL.cons df10 DFL.nil)
        replace hl := hl.upL hs74 (DFL.cons df11 DFL.nil)
        replace hx := fun x hx0 => (hx x hx0).upL hs74 (DFL.cons df12 DFL.nil)
        replace hA := hA.upL hs74 (DFL.cons df13 DFL.nil)
        replace hby := hby.upL hs74 (DFL.cons df14 DFL.nil)
        replace hmo := hmo.upL hs74 (DFL.cons df15 DFL.nil)
        replace hm := hm.upL hs74 (DFL.cons df16 DFL.nil)
        replace hxm := fun x hx_ => (hxm x hx_).upL hs74 (DFL.cons df17 DFL.nil)
        replace hm0 := (Mo.trL (ks := []) (hm0.mdn []) hs74 (MIL.cons (MI.app MI.z (nx18) (Nat.le_refl _)) MIL.nil)).nil
        replace hcm27 := hcm27.trL hs74 (MIL.cons (MI.app (MI.root (by simp)) (nx_hcm27_ow) (Nat.le_refl _)) MIL.nil)
        have hz20 := hs74.size
        have hle_ow := ow.le
        refine LR.v (Y.assign rfl rfl) (Wd.u rfl) rfl rfl ?_
        refine LR.nil ?_
        obtain ⟨s74, rfl⟩ : ∃ s : SV, v74 = s.v := ⟨toSV v74, ow.sv.symm⟩
        refine QN.sub (hK27 (bb.take (bb.length - wiN ct bb.length) ++ more, s74, k74) _ ?_) ⟨rfl, trivial⟩
        exact ⟨ow, by simp only [List.length_append, List.length_take]; omega, nx77, hcm27⟩
      ·
        refine CW.skip ?_
        obtain ⟨s68, rfl⟩ : ∃ s : SV, v68 = s.v := ⟨toSV v68, ow.sv.symm⟩
        refine QN.sub (hK27 (bb.take (bb.length - wiN ct bb.length), s68, k24) _ ?_) ⟨rfl, trivial⟩
        exact ⟨ow, by simp only [List.length_take]; omega, nx_hcm27_ow, hcm27⟩
    ·
      rintro ⟨c, so, ko⟩ Hcutc71 hIcutc71
      obtain ⟨ow, hcl, nxl_ow, hlmcutc71⟩ := hIcutc71
      have df78 := DF.app (df10) (bf_mx.mono hm0.size) nxl_ow
      have df79 := DF.app (df11) (bf_hl.mono hm0.size) nxl_ow
      have df80 := DF.app (df12) (bf_hx.mono hm0.size) nxl_ow
      have df81 := DF.app (df13) (bf_hA.mono hm0.size) nxl_ow
      have df82 := DF.app (df14) (bf_hby.mono hm0.size) nxl_ow
      have df83 := DF.app (df15) (bf_hmo.mono hm0.size) nxl_ow
      have df84 := DF.app (df16) (bf_hm.mono (by omega)) nxl_ow
      have df85 := DF.app (df17) (bf_hxm.mono (by omega)) nxl_ow
      have nx86 : Nx 0 H0.size ko := Nx.tr (nx18) nxl_ow hm0.size
      replace mx := mx.upL hlmcutc71 (DFL.cons df10 DFL.nil)
      replace hl := hl.upL hlmcutc71 (DFL.cons df11 DFL.nil)
      replace hx := fun x hx0 => (hx x hx0).upL hlmcutc71 (DFL.cons df12 DFL.nil)
      replace hA := hA.upL hlmcutc71 (DFL.cons df13 DFL.nil)
      replace hby := hby.upL hlmcutc71 (DFL.cons df14 DFL.nil)
      replace hmo := hmo.upL hlmcutc71 (DFL.cons df15 DFL.nil)
      replace hm := hm.upL hlmcutc71 (DFL.cons df16 DFL.nil)
      replace hxm := fun x hx_ => (hxm x hx_).upL hlmcutc71 (DFL.cons df17 DFL.nil)
      replace hm0 := (Mo.trL (ks := []) (hm0.mdn []) hlmcutc71 (MIL.cons (MI.app MI.z (nx18) (Nat.le_refl _)) MIL.nil)).nil
      have hz21 := hlmcutc71.size
      have hle_ow := ow.le
      have nx87 := nxl_ow
      refine CW.seq (fun K29 hK29 hE29 => ?_)
      refine CW.region ?_
      refine LR.v (Y.move rfl rfl) (Wd.u rfl) rfl rfl ?_
      -- call selvage/wal.Parse
      refine LR.call rfl Tryd.call9 rfl (Wd.u rfl) rfl rfl (parse_ct so c w0 _ ow.rd.any (by omega)) (fun v77 H77 r77 => ?_)
      obtain ⟨t77, l77, rfl, hrl77, hw77, hx77, hs77⟩ := r77
      replace mx := mx.nw hs77
      replace hl := hl.nw hs77
      replace hx := fun x hx0 => (hx x hx0).nw hs77
      replace hA := hA.nw hs77
      replace hby := hby.nw hs77
      replace hmo := hmo.nw hs77
      replace hm := hm.nw hs77
      replace hxm := fun x hx_ => (hxm x hx_).nw hs77
      replace ow := ow.nw hs77
      replace hm0 := hm0.tr hs77
      have hz22 := hs77.size
      replace hw77 := hw77.bnd
      have bf_hw77 := hw77.bf
      have df88 : DF (fun b => Hcutc71.size ≤ b ∧ b < H77.size) ko := DF.above (fun b h => h.1) (by first | exact hle_ow | exact hlt_ow | omega)
      replace hx77 := fun x hx_ => (hx77 x hx_).bnd
      have bf_hx77 : BF (fun b => Hcutc71.size ≤ b ∧ b < H77.size) H77.size := fun b h => h.2
      have df89 : DF (fun b => Hcutc71.size ≤ b ∧ b < H77.size) ko := DF.above (fun b h => h.1) (by first | exact hle_ow | exact hlt_ow | omega)
      refine LR.v (Y.move rfl rfl) (Wd.u rfl) rfl rfl ?_
      refine LR.v (Y.extract rfl rfl rfl) (Wd.u rfl) rfl rfl ?_
      refine LR.v (Y.extract rfl rfl rfl) (Wd.u rfl) rfl rfl ?_
      refine LR.v (Y.extract rfl rfl rfl) (Wd.u rfl) rfl rfl ?_
      refine LR.v (Y.assign rfl rfl) (Wd.u rfl) rfl rfl ?_
      refine LR.v (Y.assign rfl rfl) (Wd.u rfl) rfl rfl ?_
      refine LR.v (Y.assign rfl rfl) (Wd.u rfl) rfl rfl ?_
      refine LR.nil ?_
      refine hK29 _ _ ?_
      refine CW.seq (fun K30 hK30 hE30 => ?_)
      refine CW.region ?_
      refine LR.v (Y.move rfl rfl) (Wd.u rfl) rfl rfl ?_
      -- call selvage/selvageref3.Parse
      refine LR.call rfl Tryd.call10 rfl (Wd.u rfl) rfl rfl (rparse_ct so c w0 _ ow.rd.any (by omega)) (fun v83 H83 r83 => ?_)
      obtain ⟨t83, l83, rfl, hrl83, hw83, hx83, hs83⟩ := r83
      replace mx := mx.nw hs83
      replace hl := hl.nw hs83
      replace hx := fun x hx0 => (hx x hx0).nw hs83
      replace hA := hA.nw hs83
      replace hby := hby.nw hs83
      replace hmo := hmo.nw hs83
      replace hm := hm.nw hs83
      replace hxm := fun x hx_ => (hxm x hx_).nw hs83
      replace ow := ow.nw hs83
      replace hw77 := hw77.nw hs83
      replace hx77 := fun x hx_ => (hx77 x hx_).nw hs83
      replace hm0 := hm0.tr hs83
      have hz23 := hs83.size
      replace hw83 := hw83.bnd
      have bf_hw83 := hw83.bf
      have df90 : DF (fun b => H77.size ≤ b ∧ b < H83.size) ko := DF.above (fun b h => h.1) (by first | exact hle_ow | exact hlt_ow | omega)
      replace hx83 := fun x hx_ => (hx83 x hx_).bnd
      have bf_hx83 : BF (fun b => H77.size ≤ b ∧ b < H83.size) H83.size := fun b h => h.2
      have df91 : DF (fun b => H77.size ≤ b ∧ b < H83.size) ko := DF.above (fun b h => h.1) (by first | exact hle_ow | exact hlt_ow | omega)
      refine LR.v (Y.move rfl rfl) (Wd.u rfl) rfl rfl ?_
      refine LR.v (Y.extract rfl rfl rfl) (Wd.u rfl) rfl rfl ?_
      refine LR.v (Y.extract rfl rfl rfl) (Wd.u rfl) rfl rfl ?_
      refine LR.v (Y.extract rfl rfl rfl) (Wd.u rfl) rfl rfl ?_
      refine LR.v (Y.assign rfl rfl) (Wd.u rfl) rfl rfl ?_
      refine LR.v (Y.assign rfl rfl) (Wd.u rfl) rfl rfl ?_
      refine LR.v (Y.assign rfl rfl) (Wd.u rfl) rfl rfl ?_
      refine LR.nil ?_
      refine hK30 _ _ ?_
      refine CW.seq (fun K31 hK31 hE31 => ?_)
      refine CW.region ?_
      refine LR.v (Y.move rfl rfl) (Wd.u rfl) rfl rfl ?_
      refine LR.v (Y.move rfl rfl) (Wd.u rfl) rfl rfl ?_
      -- call selvage/selvagelaw3.sameRows
      refine LR.call rfl Tryd.call13 rfl (Wd.u rfl) rfl rfl (sameR_ct t77 t83 l77 l83 w0 _ hw77.any hw83.any (fun x h => (hx77 x h).any) (fun x h => (hx83 x h).any)) (fun v89 H89 r89 => ?_)
      obtain ⟨rfl, hs89⟩ := r89
      replace mx := mx.nw hs89
      replace hl := hl.nw hs89
      replace hx := fun x hx0 => (hx x hx0).nw hs89
      replace hA := hA.nw hs89
      replace hby := hby.nw hs89
      replace hmo := hmo.nw hs89
      replace hm := hm.nw hs89
      replace hxm := fun x hx_ => (hxm x hx_).nw hs89
      replace ow := ow.nw hs89
      replace hw77 := hw77.nw hs89
      replace hx77 := fun x hx_ => (hx77 x hx_).nw hs89
      replace hw83 := hw83.nw hs89
      replace hx83 := fun x hx_ => (hx83 x hx_).nw hs89
      replace hm0 := hm0.tr hs89
      have hz24 := hs89.size
      rw [hrl77, hrl83, decide_eq_true rfl]
      refine LR.v (Y.move rfl rfl) (Wd.u rfl) rfl rfl ?_
      refine LR.v (Y.move rfl rfl) (Wd.g rfl rfl rfl) rfl rfl ?_
      refine LR.v (Y.move rfl rfl) (Wd.g rfl rfl rfl) rfl rfl ?_
      refine LR.v ((Y.eql rfl rfl rfl).isT (rfl)) (Wd.g rfl rfl rfl) rfl rfl ?_
      refine LR.v (Y.pick_t rfl rfl rfl) (Wd.u rfl) rfl rfl ?_
      refine LR.v (Y.move rfl rfl) (Wd.u rfl) rfl rfl ?_
      refine LR.v (Y.move rfl rfl) (Wd.g rfl rfl rfl) rfl rfl ?_
      refine LR.v (Y.move rfl rfl) (Wd.g rfl rfl rfl) rfl rfl ?_
      refine LR.v ((Y.eql rfl rfl rfl).isT (rfl)) (Wd.g rfl rfl rfl) rfl rfl ?_
      refine LR.v (Y.pick_t rfl rfl rfl) (Wd.u rfl) rfl rfl ?_
      refine LR.v (Y.assign rfl rfl) (Wd.u rfl) rfl rfl ?_
      refine LR.nil ?_
      refine hK31 _ _ ?_
      refine CW.ret (hret .ret (.inr rfl) _ _ _ (res1 rfl rfl) ?_)
      exact ⟨rfl, hm0⟩

end Go.Proofs.YtdliddjkacbggaaDoor.WalK
/-
  How the arguments of a statement read, with what their reach says of their sizes: no condition.
-/
namespace Go.Proofs.YtdliddjkacbggaaDoor.E
set_option linter.unusedVariables false
set_option linter.unusedSimpArgs false
set_option linter.unusedSectionVars false
open Go.ChangeShapes Go.WideShapes Go.ChangeAt Go.RowKit Go.Deep
section
variable {H : Type} {enc : TypeId × Value → H} {P : Program} {W : World} {base : Nat} {sp : Nat → Bool} {held : Bool}
theorem mem_weightsAll {e : TypeId} {d : DataW H} : ∀ {ds : List (DataW H)}, d ∈ ds → ∀ n ∈ d.weights P e, n ∈ DataW.weightsAll P e ds
  | x :: ds, h, n, hn => by
    simp only [DataW.weightsAll, List.mem_append]
    rcases List.mem_cons.1 h with rfl | h
    · exact .inl hn
    · exact .inr (mem_weightsAll h n hn)
/-- what a datum weighs lies within the reach -/
def Wt (P : Program) (t : TypeId) (d : DataW H) : Prop := ∀ n ∈ d.weights P t, n ≤ reachBytes
theorem Wt.of {ts : List TypeId} {ds : List (DataW H)} {j : Nat} {t : TypeId} {d : DataW H} (h : (DataW.weightsEach P ts ds).all (· ≤ reachBytes) = true) (ht : ts[j]? = some t) (hd : ds[j]? = some d) : Wt P t d := fun n hn => by
  have := List.all_eq_true.1 h _ (DataW.weights_mem_each ht hd n hn)
  simpa using this
theorem Wt.slice {t e : TypeId} {els spr : List (DataW H)} (hu : P.underlying t = some (.slice e)) (h : Wt P t (.slice els spr)) : (els.length + spr.length) * P.bytesOf e ≤ reachBytes ∧ ∀ x ∈ els, Wt P e x :=
  ⟨h _ (by simp [DataW.weights, hu]), fun x hx n hn => h n (by simp only [DataW.weights, hu, List.mem_cons, List.mem_append]; exact .inr (.inl (mem_weightsAll hx n hn)))⟩
theorem Wt.each {t : TypeId} {fs : Array Field} {ds : List (DataW H)} {j : Nat} {f : TypeId} {d : DataW H} (hu : P.underlying t = some (.struct fs)) (h : Wt P t (.agg ds)) (hf : (fs.toList.map (·.type))[j]? = some f) (hd : ds[j]? = some d) : Wt P f d := fun n hn =>
  h n (by simp only [DataW.weights, hu]; exact DataW.weights_mem_each hf hd n hn)
end
end Go.Proofs.YtdliddjkacbggaaDoor.E
