/-
  The contract of SumDigits.
-/
import Derived.Test.YtgcnkjnbdeihhaaSumM
namespace Go.Proofs.Ytgcnkjnbdeihhaa.SumN
open Go.Proofs.Ytgcnkjnbdeihhaa.E Go.RowKit Go.Proofs.Ytgcnkjnbdeihhaa.SumA Go.Proofs.Ytgcnkjnbdeihhaa.SumB Go.Proofs.Ytgcnkjnbdeihhaa.SumC Go.Proofs.Ytgcnkjnbdeihhaa.SumD Go.Proofs.Ytgcnkjnbdeihhaa.SumE Go.Proofs.Ytgcnkjnbdeihhaa.SumF Go.Proofs.Ytgcnkjnbdeihhaa.SumG Go.Proofs.Ytgcnkjnbdeihhaa.SumH Go.Proofs.Ytgcnkjnbdeihhaa.SumI Go.Proofs.Ytgcnkjnbdeihhaa.SumK Go.Proofs.Ytgcnkjnbdeihhaa.SumL Go.Proofs.Ytgcnkjnbdeihhaa.SumM
set_option linter.unusedVariables false
set_option linter.unusedSimpArgs false
set_option linter.unusedSectionVars false
set_option maxHeartbeats 4000000 in
theorem sumDigits_ct (i k s : List UInt8) (w0 : World) (H0 : Heap)
    (hi : i.length = 32) (hk : k.length = 32) (hs : s.length ≤ 9223372036854775807) :
    Ct Try.prog w0 6 #[idV i, idV k, Str s] H0 (fun r H2 => r = .bool true ∧ Mo (fun c => False) H0 H2) := by
  refine Ct.enter (args := [idV i, idV k, Str s]) Try.func6 rfl rfl rfl ?_
  intro Q0 hret
  have hm0 : Mo (fun c => False) H0 H0 := Mo.refl _ _
  refine CW.seq (fun K1 hK1 hE1 => ?_)
  refine CW.region ?_
  refine LR.z (Z.boxv rfl rfl) (Wd.u rfl) rfl rfl (fun v3 H3 r3 => ?_)
  obtain ⟨rfl, va3, hs3, ob3, hH3⟩ := r3
  have hzs3 : H3.size = H0.size + 1 := by rw [hH3]; simp
  replace hm0 := hm0.trans hs3 (fun b hb0 hb1 => hb1) (fun b hb0 hb1 => hb1.elim)
  have hz1 := hs3.size
  have hlt_va3 := va3.lt
  replace va3 : Var 27 H3 H0.size (i.map V8) := va3
  refine LR.z (Z.boxv rfl rfl) (Wd.u rfl) rfl rfl (fun v4 H4 r4 => ?_)
  obtain ⟨rfl, va4, hs4, ob4, hH4⟩ := r4
  have hzs4 : H4.size = H3.size + 1 := by rw [hH4]; simp
  replace hm0 := hm0.trans hs4 (fun b hb0 hb1 => hb1) (fun b hb0 hb1 => hb1.elim)
  replace va3 := va3.nw hs4
  have hz2 := hs4.size
  have hlt_va4 := va4.lt
  replace va4 : Var 27 H4 H3.size (k.map V8) := va4
  refine LR.v (Y.assign rfl rfl) (Wd.u rfl) rfl rfl ?_
  refine LR.nil ?_
  refine hK1 _ _ ?_
  refine CW.seq (fun K2 hK2 hE2 => ?_)
  refine CW.seq (fun K3 hK3 hE3 => ?_)
  refine CW.region ?_
  -- call selvage/selvagelaw1.known
  refine LR.call rfl Try.call7 rfl (Wd.u rfl) rfl rfl (known_ct w0 _) (fun v16 H16 r16 => ?_)
  obtain ⟨rfl, hs16⟩ := r16
  replace hm0 := hm0.trans hs16 (fun b hb0 hb1 => hb1) (fun b hb0 hb1 => hb1.elim)
  replace va3 := va3.nw hs16
  replace va4 := va4.nw hs16
  have hz3 := hs16.size
  refine LR.v (Y.not rfl rfl) (Wd.u rfl) rfl rfl ?_
  refine LR.nil ?_
  refine hK3 _ _ ?_
  refine CW.cond_f rfl ?_
  refine CW.skip ?_
  refine hK2 _ _ ?_
  refine CW.seq (fun K4 hK4 hE4 => ?_)
  refine CW.region ?_
  refine LR.v (Y.move rfl rfl) (Wd.u rfl) rfl rfl ?_
  -- call selvage/sum.Parse
  refine LR.call rfl Try.call15 rfl (Wd.u rfl) rfl rfl (parse_ct s w0 _ hs) (fun v20 H20 r20 => ?_)
  obtain ⟨x20, e20, rfl, hp20, hs20⟩ := r20
  replace hm0 := hm0.trans hs20 (fun b hb0 hb1 => hb1) (fun b hb0 hb1 => hb1.elim)
  replace va3 := va3.nw hs20
  replace va4 := va4.nw hs20
  have hz4 := hs20.size
  have hl20 := hp20.len
  refine LR.v (Y.move rfl rfl) (Wd.u rfl) rfl rfl ?_
  refine LR.v (Y.extract rfl rfl rfl) (Wd.u rfl) rfl rfl ?_
  refine LR.v (Y.extract rfl rfl rfl) (Wd.u rfl) rfl rfl ?_
  refine LR.z (Z.allocv rfl Try.zeroValue27) (Wd.u rfl) rfl rfl (fun v7 H7 r7 => ?_)
  obtain ⟨rfl, va7, hs7, ob7, hH7⟩ := r7
  have hzs7 : H7.size = H20.size + 1 := by rw [hH7]; simp
  replace hm0 := hm0.trans hs7 (fun b hb0 hb1 => hb1) (fun b hb0 hb1 => hb1.elim)
  replace va3 := va3.nw hs7
  replace va4 := va4.nw hs7
  have hz5 := hs7.size
  have hlt_va7 := va7.lt
  replace va7 : Var 27 H7 H20.size (Z32.map V8) := va7
  refine LR.s (S.var va7 ((x20).map V8) ((x20).map V8) rfl rfl rfl rfl (by intro u hu; obtain ⟨x, _, rfl⟩ := List.mem_map.1 hu; rfl) Try.sizeOf27 (by simp [hl20]) (Nat.le_of_ble_eq_true rfl) (splice_all (by simp [Z32_len, hl20]))) (Wd.u rfl) rfl (fun H3_6 r3_6 => ?_)
  obtain ⟨va7, hs3_6⟩ := r3_6
  replace hm0 := hm0.trans hs3_6 (fun b hb0 hb1 => hb1) (fun b hb0 hb1 => by omega)
  replace va3 := va3.up hs3_6 (by omega)
  replace va4 := va4.up hs3_6 (by omega)
  have hz6 := hs3_6.size
  refine LR.v (Y.assign rfl rfl) (Wd.u rfl) rfl rfl ?_
  refine LR.nil ?_
  refine hK4 _ _ ?_
  refine CW.seq (fun K5 hK5 hE5 => ?_)
  refine CW.region ?_
  refine LR.v (Y.move rfl rfl) (Wd.u rfl) rfl rfl ?_
  -- call selvage/selvageref1.Parse
  refine LR.call rfl Try.call16 rfl (Wd.u rfl) rfl rfl (rparse_ct s w0 _ hs) (fun v25 H25 r25 => ?_)
  obtain ⟨x25, e25, rfl, hp25, hs25⟩ := r25
  replace hm0 := hm0.trans hs25 (fun b hb0 hb1 => hb1) (fun b hb0 hb1 => hb1.elim)
  replace va3 := va3.nw hs25
  replace va4 := va4.nw hs25
  replace va7 := va7.nw hs25
  have hz7 := hs25.size
  have hl25 := hp25.len
  obtain ⟨rfl, rfl⟩ := hp20.one hp25
  refine LR.v (Y.move rfl rfl) (Wd.u rfl) rfl rfl ?_
  refine LR.v (Y.extract rfl rfl rfl) (Wd.u rfl) rfl rfl ?_
  refine LR.v (Y.extract rfl rfl rfl) (Wd.u rfl) rfl rfl ?_
  refine LR.z (Z.allocv rfl Try.zeroValue27) (Wd.u rfl) rfl rfl (fun v9 H9 r9 => ?_)
  obtain ⟨rfl, va9, hs9, ob9, hH9⟩ := r9
  have hzs9 : H9.size = H25.size + 1 := by rw [hH9]; simp
  replace hm0 := hm0.trans hs9 (fun b hb0 hb1 => hb1) (fun b hb0 hb1 => hb1.elim)
  replace va3 := va3.nw hs9
  replace va4 := va4.nw hs9
  replace va7 := va7.nw hs9
  have hz8 := hs9.size
  have hlt_va9 := va9.lt
  replace va9 : Var 27 H9 H25.size (Z32.map V8) := va9
  refine LR.s (S.var va9 ((x20).map V8) ((x20).map V8) rfl rfl rfl rfl (by intro u hu; obtain ⟨x, _, rfl⟩ := List.mem_map.1 hu; rfl) Try.sizeOf27 (by simp [hl20]) (Nat.le_of_ble_eq_true rfl) (splice_all (by simp [Z32_len, hl20]))) (Wd.u rfl) rfl (fun H4_6 r4_6 => ?_)
  obtain ⟨va9, hs4_6⟩ := r4_6
  replace hm0 := hm0.trans hs4_6 (fun b hb0 hb1 => hb1) (fun b hb0 hb1 => by omega)
  replace va3 := va3.up hs4_6 (by omega)
  replace va4 := va4.up hs4_6 (by omega)
  replace va7 := va7.up hs4_6 (by omega)
  have hz9 := hs4_6.size
  refine LR.v (Y.assign rfl rfl) (Wd.u rfl) rfl rfl ?_
  refine LR.nil ?_
  refine hK5 _ _ ?_
  refine CW.seq (fun K6 hK6 hE6 => ?_)
  refine CW.region ?_
  refine LR.v (Y.loadN va3.pt rfl Try.isAgg27 Try.sizeOf27 (by simp [hi]) rfl) (Wd.u rfl) rfl rfl ?_
  -- call selvage/sum.Hex
  refine LR.call rfl Try.call17 rfl (Wd.u rfl) rfl rfl (hex_ct i w0 _ hi) (fun v30 H30 r30 => ?_)
  obtain ⟨rfl, hs30⟩ := r30
  replace hm0 := hm0.trans hs30 (fun b hb0 hb1 => hb1) (fun b hb0 hb1 => hb1.elim)
  replace va3 := va3.nw hs30
  replace va4 := va4.nw hs30
  replace va7 := va7.nw hs30
  replace va9 := va9.nw hs30
  have hz10 := hs30.size
  -- call selvage/sum.Parse
  refine LR.call rfl Try.call15 rfl (Wd.u rfl) rfl rfl (parse_ct (hexL i) w0 _ (by rw [hexL_len]; omega)) (fun v31 H31 r31 => ?_)
  obtain ⟨x31, e31, rfl, hp31, hs31⟩ := r31
  replace hm0 := hm0.trans hs31 (fun b hb0 hb1 => hb1) (fun b hb0 hb1 => hb1.elim)
  replace va3 := va3.nw hs31
  replace va4 := va4.nw hs31
  replace va7 := va7.nw hs31
  replace va9 := va9.nw hs31
  have hz11 := hs31.size
  obtain ⟨rfl, rfl⟩ := hp31.one (.inl ⟨(pid_hex i hi).1, rfl, rfl⟩)
  have hp31i := (pid_hex i hi).2
  refine LR.v (Y.move rfl rfl) (Wd.u rfl) rfl rfl ?_
  refine LR.v (Y.extract rfl rfl rfl) (Wd.u rfl) rfl rfl ?_
  refine LR.v (Y.extract rfl rfl rfl) (Wd.u rfl) rfl rfl ?_
  refine LR.z (Z.allocv rfl Try.zeroValue27) (Wd.u rfl) rfl rfl (fun v11 H11 r11 => ?_)
  obtain ⟨rfl, va11, hs11, ob11, hH11⟩ := r11
  have hzs11 : H11.size = H31.size + 1 := by rw [hH11]; simp
  replace hm0 := hm0.trans hs11 (fun b hb0 hb1 => hb1) (fun b hb0 hb1 => hb1.elim)
  replace va3 := va3.nw hs11
  replace va4 := va4.nw hs11
  replace va7 := va7.nw hs11
  replace va9 := va9.nw hs11
  have hz12 := hs11.size
  have hlt_va11 := va11.lt
  replace va11 : Var 27 H11 H31.size (Z32.map V8) := va11
  refine LR.s (S.var va11 ((pid (hexL i)).map V8) ((pid (hexL i)).map V8) rfl rfl rfl rfl (by intro u hu; obtain ⟨x, _, rfl⟩ := List.mem_map.1 hu; rfl) Try.sizeOf27 (by simp [pid_len]) (Nat.le_of_ble_eq_true rfl) (splice_all (by simp [Z32_len, pid_len]))) (Wd.u rfl) rfl (fun H5_7 r5_7 => ?_)
  obtain ⟨va11, hs5_7⟩ := r5_7
  replace hm0 := hm0.trans hs5_7 (fun b hb0 hb1 => hb1) (fun b hb0 hb1 => by omega)
  replace va3 := va3.up hs5_7 (by omega)
  replace va4 := va4.up hs5_7 (by omega)
  replace va7 := va7.up hs5_7 (by omega)
  replace va9 := va9.up hs5_7 (by omega)
  have hz13 := hs5_7.size
  refine LR.v (Y.assign rfl rfl) (Wd.u rfl) rfl rfl ?_
  refine LR.nil ?_
  refine hK6 _ _ ?_
  refine CW.seq (fun K7 hK7 hE7 => ?_)
  refine CW.region ?_
  refine LR.v (Y.loadN va3.pt rfl Try.isAgg27 Try.sizeOf27 (by simp [hi]) rfl) (Wd.u rfl) rfl rfl ?_
  -- call selvage/sum.Hex
  refine LR.call rfl Try.call17 rfl (Wd.u rfl) rfl rfl (hex_ct i w0 _ hi) (fun v35 H35 r35 => ?_)
  obtain ⟨rfl, hs35⟩ := r35
  replace hm0 := hm0.trans hs35 (fun b hb0 hb1 => hb1) (fun b hb0 hb1 => hb1.elim)
  replace va3 := va3.nw hs35
  replace va4 := va4.nw hs35
  replace va7 := va7.nw hs35
  replace va9 := va9.nw hs35
  replace va11 := va11.nw hs35
  have hz14 := hs35.size
  refine LR.v (Y.assign rfl rfl) (Wd.u rfl) rfl rfl ?_
  refine LR.nil ?_
  refine hK7 _ _ ?_
  refine CW.seq (fun K8 hK8 hE8 => ?_)
  refine CW.region ?_
  refine LR.v (Y.move rfl rfl) (Wd.u rfl) rfl rfl ?_
  refine LR.v (Y.move rfl rfl) (Wd.u rfl) rfl rfl ?_
  refine LR.v (Y.slen rfl Try.runUnderlying9 rfl) (Wd.u rfl) rfl rfl ?_
  refine LR.v (Y.subi rfl rfl rfl (by rw [hexL_len]; omega)) (Wd.u rfl) rfl rfl ?_
  refine LR.v (Y.sslice (0) (63) rfl Try.runUnderlying9 rfl (.inl ⟨rfl, rfl⟩) (.inr ⟨_, _, _, rfl, rfl, by rw [hexL_len, hi]; rfl⟩) (by omega) (by rw [hexL_len]; omega)) (Wd.u rfl) rfl rfl ?_
  refine LR.v (Y.cast (v2 := Str ((hexL i).take 63 ++ [71])) (Y.sadd rfl rfl rfl (by simp; omega)) (rfl)) (Wd.u rfl) rfl rfl ?_
  -- call selvage/sum.Parse
  refine LR.call rfl Try.call15 rfl (Wd.u rfl) rfl rfl (parse_ct ((hexL i).take 63 ++ [71]) w0 _ (by simp; omega)) (fun v43 H43 r43 => ?_)
  obtain ⟨x43, e43, rfl, hp43, hs43⟩ := r43
  replace hm0 := hm0.trans hs43 (fun b hb0 hb1 => hb1) (fun b hb0 hb1 => hb1.elim)
  replace va3 := va3.nw hs43
  replace va4 := va4.nw hs43
  replace va7 := va7.nw hs43
  replace va9 := va9.nw hs43
  replace va11 := va11.nw hs43
  have hz15 := hs43.size
  obtain ⟨rfl, rfl⟩ := hp43.one (.inr ⟨not_hok i hi, rfl, rfl⟩)
  refine LR.v (Y.move rfl rfl) (Wd.u rfl) rfl rfl ?_
  refine LR.v (Y.extract rfl rfl rfl) (Wd.u rfl) rfl rfl ?_
  refine LR.v (Y.extract rfl rfl rfl) (Wd.u rfl) rfl rfl ?_
  refine LR.z (Z.allocv rfl Try.zeroValue27) (Wd.u rfl) rfl rfl (fun v14 H14 r14 => ?_)
  obtain ⟨rfl, va14, hs14, ob14, hH14⟩ := r14
  have hzs14 : H14.size = H43.size + 1 := by rw [hH14]; simp
  replace hm0 := hm0.trans hs14 (fun b hb0 hb1 => hb1) (fun b hb0 hb1 => hb1.elim)
  replace va3 := va3.nw hs14
  replace va4 := va4.nw hs14
  replace va7 := va7.nw hs14
  replace va9 := va9.nw hs14
  replace va11 := va11.nw hs14
  have hz16 := hs14.size
  have hlt_va14 := va14.lt
  replace va14 : Var 27 H14 H43.size (Z32.map V8) := va14
  refine LR.s (S.var va14 ((Z32).map V8) ((Z32).map V8) rfl rfl rfl rfl (by intro u hu; obtain ⟨x, _, rfl⟩ := List.mem_map.1 hu; rfl) Try.sizeOf27 (by simp [Z32_len]) (Nat.le_of_ble_eq_true rfl) (splice_all (by simp [Z32_len, Z32_len]))) (Wd.u rfl) rfl (fun H7_11 r7_11 => ?_)
  obtain ⟨va14, hs7_11⟩ := r7_11
  replace hm0 := hm0.trans hs7_11 (fun b hb0 hb1 => hb1) (fun b hb0 hb1 => by omega)
  replace va3 := va3.up hs7_11 (by omega)
  replace va4 := va4.up hs7_11 (by omega)
  replace va7 := va7.up hs7_11 (by omega)
  replace va9 := va9.up hs7_11 (by omega)
  replace va11 := va11.up hs7_11 (by omega)
  have hz17 := hs7_11.size
  refine LR.v (Y.assign rfl rfl) (Wd.u rfl) rfl rfl ?_
  refine LR.nil ?_
  refine hK8 _ _ ?_
  refine CW.seq (fun K9 hK9 hE9 => ?_)
  refine CW.region_any (fun Hq => Nw H7_11 Hq) [] rfl ?_
  have hqs := Nw.refl H7_11
  refine LH.take 0 (by kernel_rfl) rfl (by kernel_rfl) (by kernel_rfl) (by kernel_rfl) (fun Hq hq => Y.loadN (va3.pt.nw hq) rfl Try.isAgg27 Try.sizeOf27 (by simp [hi]) rfl) (Wd.u rfl) rfl rfl hqs ?_
  refine LH.take 2 (by kernel_rfl) rfl (by kernel_rfl) (by kernel_rfl) (by kernel_rfl) (fun Hq hq => Y.loadN (va3.pt.nw hq) rfl Try.isAgg27 Try.sizeOf27 (by simp [hi]) rfl) (Wd.u rfl) rfl rfl hqs ?_
  refine LH.one (i := 1) (by kernel_rfl) ?_
  -- call selvage/sum.Hex
  refine LO.call rfl rfl Try.call17 rfl (Wd.u rfl) rfl rfl (hex_ct i w0 _ hi) (fun v47 H47 r47 => ?_)
  obtain ⟨rfl, hs47⟩ := r47
  replace hm0 := hm0.trans hs47 (fun b hb0 hb1 => hb1) (fun b hb0 hb1 => hb1.elim)
  replace va3 := va3.nw hs47
  replace va4 := va4.nw hs47
  replace va7 := va7.nw hs47
  replace va9 := va9.nw hs47
  replace va11 := va11.nw hs47
  replace va14 := va14.nw hs47
  have hz18 := hs47.size
  have hq47 := hqs.tr hs47
  refine ⟨.inr hq47, LH.narrow (SH2 := fun Hq => Nw H47 Hq) (fun Hq hq => hq47.tr hq) ?_⟩
  have hqn47 := Nw.refl H47
  refine LH.one (i := 3) (by kernel_rfl) ?_
  -- call selvage/selvageref1.Hex
  refine LO.call rfl rfl Try.call18 rfl (Wd.u rfl) rfl rfl (rhex_ct i w0 _ hi) (fun v49 H49 r49 => ?_)
  obtain ⟨rfl, hs49⟩ := r49
  replace hm0 := hm0.trans hs49 (fun b hb0 hb1 => hb1) (fun b hb0 hb1 => hb1.elim)
  replace va3 := va3.nw hs49
  replace va4 := va4.nw hs49
  replace va7 := va7.nw hs49
  replace va9 := va9.nw hs49
  replace va11 := va11.nw hs49
  replace va14 := va14.nw hs49
  have hz19 := hs49.size
  have hq49 := hqn47.tr hs49
  refine ⟨.inr hq49, LH.narrow (SH2 := fun Hq => Nw H49 Hq) (fun Hq hq => hq49.tr hq) ?_⟩
  have hqn49 := Nw.refl H49
  refine LH.take 4 (by kernel_rfl) rfl (by kernel_rfl) (by kernel_rfl) (by kernel_rfl) (fun Hq hq => (Y.seql rfl rfl rfl).isT (rfl)) (Wd.u rfl) rfl rfl hqn49 ?_
  refine LH.take 5 (by kernel_rfl) rfl (by kernel_rfl) (by kernel_rfl) (by kernel_rfl) (fun Hq hq => Y.move rfl rfl) (Wd.u rfl) rfl rfl hqn49 ?_
  refine LH.take 6 (by kernel_rfl) rfl (by kernel_rfl) (by kernel_rfl) (by kernel_rfl) (fun Hq hq => Y.loadN (va7.pt.nw hq) rfl Try.isAgg27 Try.sizeOf27 (by simp [hl20]) rfl) (Wd.g rfl rfl rfl) rfl rfl hqn49 ?_
  refine LH.take 7 (by kernel_rfl) rfl (by kernel_rfl) (by kernel_rfl) (by kernel_rfl) (fun Hq hq => Y.loadN (va9.pt.nw hq) rfl Try.isAgg27 Try.sizeOf27 (by simp [hl20]) rfl) (Wd.g rfl rfl rfl) rfl rfl hqn49 ?_
  refine LH.take 8 (by kernel_rfl) rfl (by kernel_rfl) (by kernel_rfl) (by kernel_rfl) (fun Hq hq => (Y.aeql rfl Try.eqGuardType27 (fun w => run_equalIn_id 9998 Try.underlying27 Try.underlying5 Try.sizeOf5 Try.isAgg5 (hl20) (hl20) w) rfl rfl).isT (rfl)) (Wd.g rfl rfl rfl) rfl rfl hqn49 ?_
  refine LH.take 9 (by kernel_rfl) rfl (by kernel_rfl) (by kernel_rfl) (by kernel_rfl) (fun Hq hq => Y.pick_t rfl rfl rfl) (Wd.u rfl) rfl rfl hqn49 ?_
  refine LH.take 10 (by kernel_rfl) rfl (by kernel_rfl) (by kernel_rfl) (by kernel_rfl) (fun Hq hq => Y.move rfl rfl) (Wd.u rfl) rfl rfl hqn49 ?_
  refine LH.take 11 (by kernel_rfl) rfl (by kernel_rfl) (by kernel_rfl) (by kernel_rfl) (fun Hq hq => Y.move rfl rfl) (Wd.g rfl rfl rfl) rfl rfl hqn49 ?_
  refine LH.take 12 (by kernel_rfl) rfl (by kernel_rfl) (by kernel_rfl) (by kernel_rfl) (fun Hq hq => Y.move rfl rfl) (Wd.g rfl rfl rfl) rfl rfl hqn49 ?_
  refine LH.take 13 (by kernel_rfl) rfl (by kernel_rfl) (by kernel_rfl) (by kernel_rfl) (fun Hq hq => (Y.eql rfl rfl rfl).isT (rfl)) (Wd.g rfl rfl rfl) rfl rfl hqn49 ?_
  refine LH.take 14 (by kernel_rfl) rfl (by kernel_rfl) (by kernel_rfl) (by kernel_rfl) (fun Hq hq => Y.pick_t rfl rfl rfl) (Wd.u rfl) rfl rfl hqn49 ?_
  refine LH.take 15 (by kernel_rfl) rfl (by kernel_rfl) (by kernel_rfl) (by kernel_rfl) (fun Hq hq => Y.move rfl rfl) (Wd.u rfl) rfl rfl hqn49 ?_
  refine LH.take 16 (by kernel_rfl) rfl (by kernel_rfl) (by kernel_rfl) (by kernel_rfl) (fun Hq hq => Y.loadN (va11.pt.nw hq) rfl Try.isAgg27 Try.sizeOf27 (by simp [pid_len]) rfl) (Wd.g rfl rfl rfl) rfl rfl hqn49 ?_
  refine LH.take 17 (by kernel_rfl) rfl (by kernel_rfl) (by kernel_rfl) (by kernel_rfl) (fun Hq hq => Y.loadN (va3.pt.nw hq) rfl Try.isAgg27 Try.sizeOf27 (by simp [hi]) rfl) (Wd.g rfl rfl rfl) rfl rfl hqn49 ?_
  refine LH.take 18 (by kernel_rfl) rfl (by kernel_rfl) (by kernel_rfl) (by kernel_rfl) (fun Hq hq => (Y.aeql rfl Try.eqGuardType27 (fun w => run_equalIn_id 9998 Try.underlying27 Try.underlying5 Try.sizeOf5 Try.isAgg5 (pid_len _) (hi) w) rfl rfl).isT (hp31i)) (Wd.g rfl rfl rfl) rfl rfl hqn49 ?_
  refine LH.take 19 (by kernel_rfl) rfl (by kernel_rfl) (by kernel_rfl) (by kernel_rfl) (fun Hq hq => Y.pick_t rfl rfl rfl) (Wd.u rfl) rfl rfl hqn49 ?_
  refine LH.take 20 (by kernel_rfl) rfl (by kernel_rfl) (by kernel_rfl) (by kernel_rfl) (fun Hq hq => Y.move rfl rfl) (Wd.u rfl) rfl rfl hqn49 ?_
  refine LH.take 21 (by kernel_rfl) rfl (by kernel_rfl) (by kernel_rfl) (by kernel_rfl) (fun Hq hq => Y.move rfl rfl) (Wd.g rfl rfl rfl) rfl rfl hqn49 ?_
  refine LH.take 22 (by kernel_rfl) rfl (by kernel_rfl) (by kernel_rfl) (by kernel_rfl) (fun Hq hq => (Y.eql rfl rfl rfl).isT (rfl)) (Wd.g rfl rfl rfl) rfl rfl hqn49 ?_
  refine LH.take 23 (by kernel_rfl) rfl (by kernel_rfl) (by kernel_rfl) (by kernel_rfl) (fun Hq hq => Y.pick_t rfl rfl rfl) (Wd.u rfl) rfl rfl hqn49 ?_
  refine LH.take 24 (by kernel_rfl) rfl (by kernel_rfl) (by kernel_rfl) (by kernel_rfl) (fun Hq hq => Y.move rfl rfl) (Wd.u rfl) rfl rfl hqn49 ?_
  refine LH.take 25 (by kernel_rfl) rfl (by kernel_rfl) (by kernel_rfl) (by kernel_rfl) (fun Hq hq => Y.loadN (va14.pt.nw hq) rfl Try.isAgg27 Try.sizeOf27 (by simp [Z32_len]) rfl) (Wd.g rfl rfl rfl) rfl rfl hqn49 ?_
  refine LH.take 26 (by kernel_rfl) rfl (by kernel_rfl) (by kernel_rfl) (by kernel_rfl) (fun Hq hq => Y.build (v := idV Z32) rfl rfl (by intro w; kernel_rfl)) (Wd.g rfl rfl rfl) rfl rfl hqn49 ?_
  refine LH.take 27 (by kernel_rfl) rfl (by kernel_rfl) (by kernel_rfl) (by kernel_rfl) (fun Hq hq => (Y.aeql rfl Try.eqGuardType27 (fun w => run_equalIn_id 9998 Try.underlying27 Try.underlying5 Try.sizeOf5 Try.isAgg5 (rfl) (rfl) w) rfl rfl).isT (rfl)) (Wd.g rfl rfl rfl) rfl rfl hqn49 ?_
  refine LH.take 28 (by kernel_rfl) rfl (by kernel_rfl) (by kernel_rfl) (by kernel_rfl) (fun Hq hq => Y.pick_t rfl rfl rfl) (Wd.u rfl) rfl rfl hqn49 ?_
  refine LH.take 29 (by kernel_rfl) rfl (by kernel_rfl) (by kernel_rfl) (by kernel_rfl) (fun Hq hq => Y.move rfl rfl) (Wd.u rfl) rfl rfl hqn49 ?_
  refine LH.take 30 (by kernel_rfl) rfl (by kernel_rfl) (by kernel_rfl) (by kernel_rfl) (fun Hq hq => Y.move rfl rfl) (Wd.g rfl rfl rfl) rfl rfl hqn49 ?_
  refine LH.take 31 (by kernel_rfl) rfl (by kernel_rfl) (by kernel_rfl) (by kernel_rfl) (fun Hq hq => (Y.eql rfl rfl rfl).isT (rfl)) (Wd.g rfl rfl rfl) rfl rfl hqn49 ?_
  refine LH.take 32 (by kernel_rfl) rfl (by kernel_rfl) (by kernel_rfl) (by kernel_rfl) (fun Hq hq => Y.pick_t rfl rfl rfl) (Wd.u rfl) rfl rfl hqn49 ?_
  refine LH.take 33 (by kernel_rfl) rfl (by kernel_rfl) (by kernel_rfl) (by kernel_rfl) (fun Hq hq => Y.move rfl rfl) (Wd.u rfl) rfl rfl hqn49 ?_
  refine LH.take 34 (by kernel_rfl) rfl (by kernel_rfl) (by kernel_rfl) (by kernel_rfl) (fun Hq hq => Y.loadN (va3.pt.nw hq) rfl Try.isAgg27 Try.sizeOf27 (by simp [hi]) rfl) (Wd.g rfl rfl rfl) rfl rfl hqn49 ?_
  refine LH.take 35 (by kernel_rfl) rfl (by kernel_rfl) (by kernel_rfl) (by kernel_rfl) (fun Hq hq => Y.loadN (va4.pt.nw hq) rfl Try.isAgg27 Try.sizeOf27 (by simp [hk]) rfl) (Wd.g rfl rfl rfl) rfl rfl hqn49 ?_
  refine LH.take 37 (by kernel_rfl) rfl (by kernel_rfl) (by kernel_rfl) (by kernel_rfl) (fun Hq hq => Y.loadN (va3.pt.nw hq) rfl Try.isAgg27 Try.sizeOf27 (by simp [hi]) rfl) (Wd.g rfl rfl rfl) rfl rfl hqn49 ?_
  refine LH.take 38 (by kernel_rfl) rfl (by kernel_rfl) (by kernel_rfl) (by kernel_rfl) (fun Hq hq => Y.loadN (va4.pt.nw hq) rfl Try.isAgg27 Try.sizeOf27 (by simp [hk]) rfl) (Wd.g rfl rfl rfl) rfl rfl hqn49 ?_
  refine LH.one (i := 36) (by kernel_rfl) ?_
  -- call selvage/sum.Less
  refine LO.call rfl rfl Try.call19 rfl (Wd.g rfl rfl rfl) rfl rfl (less_ct i k w0 _ hi hk) (fun v82 H82 r82 => ?_)
  obtain ⟨rfl, hs82⟩ := r82
  replace hm0 := hm0.trans hs82 (fun b hb0 hb1 => hb1) (fun b hb0 hb1 => hb1.elim)
  replace va3 := va3.nw hs82
  replace va4 := va4.nw hs82
  replace va7 := va7.nw hs82
  replace va9 := va9.nw hs82
  replace va11 := va11.nw hs82
  replace va14 := va14.nw hs82
  have hz20 := hs82.size
  have hq82 := hqn49.tr hs82
  refine ⟨.inr hq82, LH.narrow (SH2 := fun Hq => Nw H82 Hq) (fun Hq hq => hq82.tr hq) ?_⟩
  have hqn82 := Nw.refl H82
  refine LH.one (i := 39) (by kernel_rfl) ?_
  -- call selvage/selvageref1.Less
  refine LO.call rfl rfl Try.call20 rfl (Wd.g rfl rfl rfl) rfl rfl (rless_ct i k w0 _ hi hk) (fun v85 H85 r85 => ?_)
  obtain ⟨rfl, hs85⟩ := r85
  replace hm0 := hm0.trans hs85 (fun b hb0 hb1 => hb1) (fun b hb0 hb1 => hb1.elim)
  replace va3 := va3.nw hs85
  replace va4 := va4.nw hs85
  replace va7 := va7.nw hs85
  replace va9 := va9.nw hs85
  replace va11 := va11.nw hs85
  replace va14 := va14.nw hs85
  have hz21 := hs85.size
  have hq85 := hqn82.tr hs85
  refine ⟨.inr hq85, LH.narrow (SH2 := fun Hq => Nw H85 Hq) (fun Hq hq => hq85.tr hq) ?_⟩
  have hqn85 := Nw.refl H85
  refine LH.take 40 (by kernel_rfl) rfl (by kernel_rfl) (by kernel_rfl) (by kernel_rfl) (fun Hq hq => (Y.beql rfl Try.underlying4 rfl rfl).isT (rfl)) (Wd.g rfl rfl rfl) rfl rfl hqn85 ?_
  refine LH.take 41 (by kernel_rfl) rfl (by kernel_rfl) (by kernel_rfl) (by kernel_rfl) (fun Hq hq => Y.pick_t rfl rfl rfl) (Wd.u rfl) rfl rfl hqn85 ?_
  refine LH.take 42 (by kernel_rfl) rfl (by kernel_rfl) (by kernel_rfl) (by kernel_rfl) (fun Hq hq => Y.move rfl rfl) (Wd.u rfl) rfl rfl hqn85 ?_
  refine LH.take 43 (by kernel_rfl) rfl (by kernel_rfl) (by kernel_rfl) (by kernel_rfl) (fun Hq hq => Y.loadN (va3.pt.nw hq) rfl Try.isAgg27 Try.sizeOf27 (by simp [hi]) rfl) (Wd.g rfl rfl rfl) rfl rfl hqn85 ?_
  refine LH.take 44 (by kernel_rfl) rfl (by kernel_rfl) (by kernel_rfl) (by kernel_rfl) (fun Hq hq => Y.loadN (va4.pt.nw hq) rfl Try.isAgg27 Try.sizeOf27 (by simp [hk]) rfl) (Wd.g rfl rfl rfl) rfl rfl hqn85 ?_
  refine LH.take 46 (by kernel_rfl) rfl (by kernel_rfl) (by kernel_rfl) (by kernel_rfl) (fun Hq hq => Y.loadN (va3.pt.nw hq) rfl Try.isAgg27 Try.sizeOf27 (by simp [hi]) rfl) (Wd.g rfl rfl rfl) rfl rfl hqn85 ?_
  refine LH.take 48 (by kernel_rfl) rfl (by kernel_rfl) (by kernel_rfl) (by kernel_rfl) (fun Hq hq => Y.loadN (va4.pt.nw hq) rfl Try.isAgg27 Try.sizeOf27 (by simp [hk]) rfl) (Wd.g rfl rfl rfl) rfl rfl hqn85 ?_
  refine LH.one (i := 45) (by kernel_rfl) ?_
  -- call selvage/sum.Less
  refine LO.call rfl rfl Try.call19 rfl (Wd.g rfl rfl rfl) rfl rfl (less_ct i k w0 _ hi hk) (fun v91 H91 r91 => ?_)
  obtain ⟨rfl, hs91⟩ := r91
  replace hm0 := hm0.trans hs91 (fun b hb0 hb1 => hb1) (fun b hb0 hb1 => hb1.elim)
  replace va3 := va3.nw hs91
  replace va4 := va4.nw hs91
  replace va7 := va7.nw hs91
  replace va9 := va9.nw hs91
  replace va11 := va11.nw hs91
  replace va14 := va14.nw hs91
  have hz22 := hs91.size
  have hq91 := hqn85.tr hs91
  refine ⟨.inr hq91, LH.narrow (SH2 := fun Hq => Nw H91 Hq) (fun Hq hq => hq91.tr hq) ?_⟩
  have hqn91 := Nw.refl H91
  refine LH.one (i := 47) (by kernel_rfl) ?_
  -- call selvage/sum.Hex
  refine LO.call rfl rfl Try.call17 rfl (Wd.g rfl rfl rfl) rfl rfl (hex_ct i w0 _ hi) (fun v93 H93 r93 => ?_)
  obtain ⟨rfl, hs93⟩ := r93
  replace hm0 := hm0.trans hs93 (fun b hb0 hb1 => hb1) (fun b hb0 hb1 => hb1.elim)
  replace va3 := va3.nw hs93
  replace va4 := va4.nw hs93
  replace va7 := va7.nw hs93
  replace va9 := va9.nw hs93
  replace va11 := va11.nw hs93
  replace va14 := va14.nw hs93
  have hz23 := hs93.size
  have hq93 := hqn91.tr hs93
  refine ⟨.inr hq93, LH.narrow (SH2 := fun Hq => Nw H93 Hq) (fun Hq hq => hq93.tr hq) ?_⟩
  have hqn93 := Nw.refl H93
  refine LH.one (i := 49) (by kernel_rfl) ?_
  -- call selvage/sum.Hex
  refine LO.call rfl rfl Try.call17 rfl (Wd.g rfl rfl rfl) rfl rfl (hex_ct k w0 _ hk) (fun v95 H95 r95 => ?_)
  obtain ⟨rfl, hs95⟩ := r95
  replace hm0 := hm0.trans hs95 (fun b hb0 hb1 => hb1) (fun b hb0 hb1 => hb1.elim)
  replace va3 := va3.nw hs95
  replace va4 := va4.nw hs95
  replace va7 := va7.nw hs95
  replace va9 := va9.nw hs95
  replace va11 := va11.nw hs95
  replace va14 := va14.nw hs95
  have hz24 := hs95.size
  have hq95 := hqn93.tr hs95
  refine ⟨.inr hq95, LH.narrow (SH2 := fun Hq => Nw H95 Hq) (fun Hq hq => hq95.tr hq) ?_⟩
  have hqn95 := Nw.refl H95
  refine LH.take 50 (by kernel_rfl) rfl (by kernel_rfl) (by kernel_rfl) (by kernel_rfl) (fun Hq hq => Y.slss rfl rfl rfl) (Wd.g rfl rfl rfl) rfl rfl hqn95 ?_
  refine LH.take 51 (by kernel_rfl) rfl (by kernel_rfl) (by kernel_rfl) (by kernel_rfl) (fun Hq hq => (Y.beql rfl Try.underlying4 rfl rfl).isT ((hexL_less i k (by omega)).symm)) (Wd.g rfl rfl rfl) rfl rfl hqn95 ?_
  refine LH.take 52 (by kernel_rfl) rfl (by kernel_rfl) (by kernel_rfl) (by kernel_rfl) (fun Hq hq => Y.pick_t rfl rfl rfl) (Wd.u rfl) rfl rfl hqn95 ?_
  refine LH.take 53 (by kernel_rfl) rfl (by kernel_rfl) (by kernel_rfl) (by kernel_rfl) (fun Hq hq => Y.assign rfl rfl) (Wd.u rfl) rfl rfl hqn95 ?_
  refine LH.done (by kernel_rfl) ?_
  have hqe := hqn95
  refine hK9 _ _ ?_
  refine CW.ret (hret .ret (.inr rfl) _ _ _ (res1 rfl rfl) ?_)
  exact ⟨rfl, hm0⟩

end Go.Proofs.Ytgcnkjnbdeihhaa.SumN
