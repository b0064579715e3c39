/-
  The disk: one write that was not synced (the statement SimfsTorn's function).
-/
import Derived.Test.YtfbfjhppppoilaaDoorSimS
namespace Go.Proofs.YtfbfjhppppoilaaDoor.SimT
open Go.Proofs.YtfbfjhppppoilaaDoor.E Go.RowKit Go.Proofs.YtfbfjhppppoilaaDoor.SimA Go.Proofs.YtfbfjhppppoilaaDoor.SimB Go.Proofs.YtfbfjhppppoilaaDoor.SimC Go.Proofs.YtfbfjhppppoilaaDoor.SimD Go.Proofs.YtfbfjhppppoilaaDoor.SimE Go.Proofs.YtfbfjhppppoilaaDoor.SimF Go.Proofs.YtfbfjhppppoilaaDoor.SimG Go.Proofs.YtfbfjhppppoilaaDoor.SimH Go.Proofs.YtfbfjhppppoilaaDoor.SimI Go.Proofs.YtfbfjhppppoilaaDoor.SimJ Go.Proofs.YtfbfjhppppoilaaDoor.SimK Go.Proofs.YtfbfjhppppoilaaDoor.SimL Go.Proofs.YtfbfjhppppoilaaDoor.SimM Go.Proofs.YtfbfjhppppoilaaDoor.SimN Go.Proofs.YtfbfjhppppoilaaDoor.SimP Go.Proofs.YtfbfjhppppoilaaDoor.SimQ Go.Proofs.YtfbfjhppppoilaaDoor.SimR Go.Proofs.YtfbfjhppppoilaaDoor.SimS
set_option maxRecDepth 20000
set_option linter.unusedVariables false
set_option linter.unusedSimpArgs false
set_option linter.unusedSectionVars false
set_option maxRecDepth 100000 in
theorem inf25 : Inf Tryd.prog 25 5 1 1 := ⟨Tryd.underlying25, _, _, rfl, rfl, rfl, rfl, rfl⟩
set_option maxRecDepth 100000 in
theorem inf35 : Inf Tryd.prog 35 3 1 8 := ⟨Tryd.underlying35, _, _, rfl, rfl, rfl, rfl, rfl⟩

theorem way_0 {al : Bool} {was data : List UInt8} {k : Nat} (h : k = 0) : wayW [⟨!al, data⟩] was k = was := by rw [h, wayW_0]
theorem on_al (al : Bool) (was data : List UInt8) (m : Nat) : (⟨!al, data⟩ : Wr).on was m = (if al = true then [] else was) ++ data.take m := by cases al <;> rfl
theorem way_k {al : Bool} {was data : List UInt8} {k : Nat} (h : k ≠ 0) (h2 : k ≤ max 1 (2 * data.length)) : wayW [⟨!al, data⟩] was k = (⟨!al, data⟩ : Wr).part was (k - 1) := by
  unfold wayW
  rw [if_neg h, if_pos (by unfold Wr.ways; exact h2)]
theorem way_1 {al : Bool} {was data : List UInt8} {k : Nat} (h : k ≠ 0) (hd : data.length = 0) (h2 : k < 1 + max 1 (2 * data.length)) : wayW [⟨!al, data⟩] was k = (if al = true then [] else was) := by
  rw [way_k h (by omega)]
  obtain rfl := List.eq_nil_of_length_eq_zero hd
  unfold Wr.part
  rw [if_pos (.inr rfl), on_al]; simp
theorem way_2 {al : Bool} {was data : List UInt8} {k : Nat} (h : k ≠ 0) (h2 : k ≤ data.length) : wayW [⟨!al, data⟩] was k = (if al = true then [] else was) ++ data.take k := by
  rw [way_k h (by omega)]
  unfold Wr.part
  rw [if_pos (.inl (by simp only; omega)), on_al, show min (k - 1 + 1) data.length = k by omega]
theorem way_3 {al : Bool} {was data : List UInt8} {k : Nat} (h : k ≠ 0) (hd : data.length ≠ 0) (h2 : ¬ k ≤ data.length) (h3 : k < 1 + max 1 (2 * data.length)) : wayW [⟨!al, data⟩] was k = (if al = true then [] else was) ++ data.take (k - 1 - data.length) ++ List.replicate (2 * data.length + 1 - k) 0 := by
  rw [way_k h (by omega)]
  unfold Wr.part
  rw [if_neg (by simp only; omega), on_al, show data.length - (k - 1 - data.length) = 2 * data.length + 1 - k by omega]

set_option maxHeartbeats 8000000 in
theorem torn_ct (mx_ : Int) (s0 s1 : SV) (was data : List UInt8) (al : Bool) (pick : Int) (w0 : World) (H0 : Heap)
    (mx : MX mx_ H0) (bf_mx : BF (fun b => b = 0) H0.size) (hw : RdT H0 fB 1 s0.v was) (hd : RdT H0 fB 1 s1.v data) (hpk : -9223372036854775808 ≤ pick ∧ pick ≤ 9223372036854775807) :
    Ct Tryd.prog w0 6 #[s0.v, s1.v, .bool al, .int .i64 pick] H0 (fun r H2 => r = .bool true ∧ Nw H0 H2) := by
  refine Ct.enter (args := [s0.v, s1.v, .bool al, .int .i64 pick]) Tryd.func6 rfl rfl rfl ?_
  intro Q0 hret
  have hm0 : Nw H0 H0 := Mo.refl _ _
  replace hw := hw.bnd
  have bf_hw := hw.bf
  replace hd := hd.bnd
  have bf_hd := hd.bf
  refine CW.seq (fun K1 hK1 hE1 => ?_)
  refine CW.region ?_
  refine LR.v (Y.assign rfl rfl) (Wd.u rfl) rfl rfl ?_
  refine LR.nil ?_
  refine hK1 _ _ ?_
  refine CW.seq (fun K2 hK2 hE2 => ?_)
  refine CW.seq (fun K3 hK3 hE3 => ?_)
  refine CW.region ?_
  -- call selvage/selvagelaw2.known
  refine LR.call rfl Tryd.call11 rfl (Wd.u rfl) rfl rfl (known_ct mx_ w0 _ mx bf_mx) (fun v17 H17 r17 => ?_)
  obtain ⟨rfl, hs17⟩ := r17
  replace mx := mx.nw hs17
  replace hw := hw.nw hs17
  replace hd := hd.nw hs17
  replace hm0 := hm0.tr hs17
  have hz1 := hs17.size
  refine LR.v (Y.not rfl rfl) (Wd.u rfl) rfl rfl ?_
  refine LR.nil ?_
  refine hK3 _ _ ?_
  refine CW.cond_f rfl ?_
  refine CW.skip ?_
  refine hK2 _ _ ?_
  refine CW.seq (fun K4 hK4 hE4 => ?_)
  refine CW.seq (fun K5 hK5 hE5 => ?_)
  refine CW.region ?_
  refine LR.v (Y.move rfl rfl) (Wd.u rfl) rfl rfl ?_
  refine LR.v (Y.len hw rfl Tryd.runUnderlying25 rfl) (Wd.u rfl) rfl rfl ?_
  refine LR.v (Y.gtr rfl rfl rfl) (Wd.u rfl) rfl rfl ?_
  refine LR.v (Y.move rfl rfl) (Wd.u rfl) rfl rfl ?_
  refine LR.splitp (d := 22) rfl (fun g22 => ?_) (fun g22 => ?_)
  ·
    refine LR.gs rfl rfl rfl rfl rfl rfl ?_
    refine LR.gs rfl rfl rfl rfl rfl rfl ?_
    refine LR.gs rfl rfl rfl rfl rfl rfl ?_
    refine LR.v (Y.pick_t rfl rfl rfl) (Wd.u rfl) rfl rfl ?_
    refine LR.nil ?_
    refine hK5 _ _ ?_
    refine CW.cond_t rfl ?_
    refine CW.seq (fun K6 hK6 hE6 => ?_)
    refine CW.region ?_
    refine LR.v (Y.assign rfl rfl) (Wd.u rfl) rfl rfl ?_
    refine LR.nil ?_
    refine hK6 _ _ ?_
    refine CW.ret (hE4 .ret nofun _ _ (hret .ret (.inr rfl) _ _ _ (res1 rfl rfl) ?_))
    exact ⟨rfl, hm0⟩
  ·
    refine LR.v (Y.move rfl rfl) (Wd.g rfl rfl rfl) rfl rfl ?_
    refine LR.v (Y.len hd rfl Tryd.runUnderlying25 rfl) (Wd.g rfl rfl rfl) rfl rfl ?_
    refine LR.v (Y.gtr rfl rfl rfl) (Wd.g rfl rfl rfl) rfl rfl ?_
    refine LR.v (Y.pick_f rfl rfl rfl) (Wd.u rfl) rfl rfl ?_
    refine LR.nil ?_
    refine hK5 _ _ ?_
    refine CW.condp rfl (fun c26 => ?_) (fun c26 => ?_)
    ·
      refine CW.seq (fun K7 hK7 hE7 => ?_)
      refine CW.region ?_
      refine LR.v (Y.assign rfl rfl) (Wd.u rfl) rfl rfl ?_
      refine LR.nil ?_
      refine hK7 _ _ ?_
      refine CW.ret (hE4 .ret nofun _ _ (hret .ret (.inr rfl) _ _ _ (res1 rfl rfl) ?_))
      exact ⟨rfl, hm0⟩
    ·
      refine CW.skip ?_
      refine hK4 _ _ ?_
      refine CW.seq (fun K8 hK8 hE8 => ?_)
      refine CW.region ?_
      -- call selvage/simfs.New
      refine LR.call rfl Tryd.call16 rfl (Wd.u rfl) rfl rfl (new_ct 1048576 65536 w0 _ (by decide) (by decide)) (fun v28 H28 r28 => ?_)
      obtain ⟨K28, g28, b28, rfl, hf, hkn28, hs28⟩ := r28
      have df1 := DFL.appK (DFL.nil) (bf_mx.mono hm0.size) hkn28
      have df2 := DFL.appK (DFL.nil) (bf_hw.mono hm0.size) hkn28
      have df3 := DFL.appK (DFL.nil) (bf_hd.mono hm0.size) hkn28
      have nx4 : NxK [] H0.size K28 := NxK.tr (NxK.refl [] _) hkn28 hm0.size
      replace mx := mx.nw hs28
      replace hw := hw.nw hs28
      replace hd := hd.nw hs28
      replace hm0 := hm0.tr hs28
      have hz2 := hs28.size
      have hbk_hf := hf.bk
      have hS28 := Bs.empty 1048576 65536
      refine LR.v (Y.move rfl rfl) (Wd.u rfl) rfl rfl ?_
      refine LR.v (Y.extract rfl rfl rfl) (Wd.u rfl) rfl rfl ?_
      refine LR.v (Y.extract rfl rfl rfl) (Wd.u rfl) rfl rfl ?_
      refine LR.v (Y.assign rfl rfl) (Wd.u rfl) rfl rfl ?_
      refine LR.v (Y.assign rfl rfl) (Wd.u rfl) rfl rfl ?_
      refine LR.nil ?_
      refine hK8 _ _ ?_
      refine CW.seq (fun K9 hK9 hE9 => ?_)
      refine CW.seq (fun K10 hK10 hE10 => ?_)
      refine CW.region ?_
      refine LR.v (Y.move rfl rfl) (Wd.u rfl) rfl rfl ?_
      refine LR.v ((Y.neq rfl rfl rfl).isF ((fun h => h rfl))) (Wd.u rfl) rfl rfl ?_
      refine LR.v (Y.move rfl rfl) (Wd.u rfl) rfl rfl ?_
      refine LR.v (Y.move rfl rfl) (Wd.g rfl rfl rfl) rfl rfl ?_
      refine LR.v (Y.peq rfl (by kernel_rfl) (by kernel_rfl) rfl rfl) (Wd.g rfl rfl rfl) rfl rfl ?_
      refine LR.v (Y.pick_f rfl rfl rfl) (Wd.u rfl) rfl rfl ?_
      refine LR.nil ?_
      refine hK10 _ _ ?_
      refine CW.cond_f rfl ?_
      refine CW.skip ?_
      refine hK9 _ _ ?_
      refine CW.seq (fun K11 hK11 hE11 => ?_)
      refine CW.region ?_
      refine LR.v (Y.move rfl rfl) (Wd.u rfl) rfl rfl ?_
      refine LR.v (Y.move rfl rfl) (Wd.u rfl) rfl rfl ?_
      -- call (*selvage/simfs.FS).Write
      refine LR.call rfl Tryd.call17 rfl (Wd.u rfl) rfl rfl (write_ct mx_ K28 g28 b28 (Dk.empty 1048576 65536) [120] s0 was _ w0 _ hf mx (bf_mx.mono (by omega)) (df1) hw (bf_hw.mono (by omega)) (df2) (by decide) (hS28.bd (by omega)) (by omega)) (fun v39 H39 r39 => ?_)
      have ql5 := hf.bk
      obtain ⟨K39, g39, rfl, hf, hkd39, hs39⟩ := r39
      have df6 := DFL.appK (df1) (bf_mx.mono hm0.size) hkd39
      have df7 := DFL.appK (df2) (bf_hw.mono hm0.size) hkd39
      have df8 := DFL.appK (df3) (bf_hd.mono hm0.size) hkd39
      have nx9 : NxK [] H0.size K39 := NxK.tr (nx4) hkd39 hm0.size
      replace mx := mx.upL hs39 (df1)
      replace hw := hw.upL hs39 (df2)
      replace hd := hd.upL hs39 (df3)
      replace hm0 := (Mo.trL (ks := []) (hm0.mdn []) hs39 (MIL.ofK0 (nx4))).nil
      have hz3 := hs39.size
      have hbk_hf := hf.bk
      have hS39 := hS28.lay [120] ⟨false, was⟩
      simp only [List.length_cons, List.length_nil, Nat.zero_add, Nat.reduceAdd] at hS39
      refine LR.nil ?_
      refine hK11 _ _ ?_
      refine CW.seq (fun K12 hK12 hE12 => ?_)
      refine CW.region ?_
      refine LR.v (Y.move rfl rfl) (Wd.u rfl) rfl rfl ?_
      -- call (*selvage/simfs.FS).Sync
      refine LR.call rfl Tryd.call23 rfl (Wd.u rfl) rfl rfl (sync_ct mx_ K39 g39 b28 ((Dk.empty 1048576 65536).lay [120] ⟨false, was⟩).2 [120] w0 _ hf mx (bf_mx.mono (by omega)) (df6) (by decide) (hS39.bd (by omega))) (fun v41 H41 r41 => ?_)
      have ql10 := hf.bk
      obtain ⟨K41, g41, rfl, hf, hkd41, hs41⟩ := r41
      have df11 := DFL.appK (df6) (bf_mx.mono hm0.size) hkd41
      have df12 := DFL.appK (df7) (bf_hw.mono hm0.size) hkd41
      have df13 := DFL.appK (df8) (bf_hd.mono hm0.size) hkd41
      have nx14 : NxK [] H0.size K41 := NxK.tr (nx9) hkd41 hm0.size
      replace mx := mx.upL hs41 (df6)
      replace hw := hw.upL hs41 (df7)
      replace hd := hd.upL hs41 (df8)
      replace hm0 := (Mo.trL (ks := []) (hm0.mdn []) hs41 (MIL.ofK0 (nx9))).nil
      have hz4 := hs41.size
      have hbk_hf := hf.bk
      have hS41 := hS39.sync [120]
      refine LR.nil ?_
      refine hK12 _ _ ?_
      refine CW.seq (fun K13 hK13 hE13 => ?_)
      refine CW.region ?_
      refine LR.v (Y.move rfl rfl) (Wd.u rfl) rfl rfl ?_
      -- call (*selvage/simfs.FS).SyncDir
      refine LR.call rfl Tryd.call24 rfl (Wd.u rfl) rfl rfl (syncDir_ct mx_ K41 g41 b28 (((Dk.empty 1048576 65536).lay [120] ⟨false, was⟩).2.sync [120]).2 [] w0 _ hf mx (bf_mx.mono (by omega)) (df11) (by decide) (hS41.bd (by omega))) (fun v43 H43 r43 => ?_)
      have ql15 := hf.bk
      obtain ⟨K43, g43, rfl, hf, hkd43, hs43⟩ := r43
      have df16 := DFL.appK (df11) (bf_mx.mono hm0.size) hkd43
      have df17 := DFL.appK (df12) (bf_hw.mono hm0.size) hkd43
      have df18 := DFL.appK (df13) (bf_hd.mono hm0.size) hkd43
      have nx19 : NxK [] H0.size K43 := NxK.tr (nx14) hkd43 hm0.size
      replace mx := mx.upL hs43 (df11)
      replace hw := hw.upL hs43 (df12)
      replace hd := hd.upL hs43 (df13)
      replace hm0 := (Mo.trL (ks := []) (hm0.mdn []) hs43 (MIL.ofK0 (nx14))).nil
      have hz5 := hs43.size
      have hbk_hf := hf.bk
      have hS43 := hS41.syncDir []
      refine LR.nil ?_
      refine hK13 _ _ ?_
      refine CW.seq (fun K14 hK14 hE14 => ?_)
      refine CW.region ?_
      refine LR.v (Y.assign rfl rfl) (Wd.u rfl) rfl rfl ?_
      refine LR.nil ?_
      refine hK14 _ _ ?_
      refine CW.cut (fun (s_ : (List Nat) × (Gh)) => match s_ with | (K, g) => [(0, s0.v), (1, s1.v), (3, .int .i64 pick), (9, ptr b28), (11, Str (if al = true then [] else was))])
        (fun (s_ : (List Nat) × (Gh)) (H : Heap) => match s_ with | (K, g) => (PDk K g H b28 (tornD was ⟨!al, data⟩)) ∧ (Bs (data.length + was.length + 14) (tornD was ⟨!al, data⟩)) ∧ (NxK K43 H43.size K) ∧ Mo (Ms K43) H43 H) (fun K15 hK15 hE15 => ?_) ?_
      ·
        have hcm15 : Mo (Ms K43) H43 H43 := Mo.refl _ _
        have nx_hcm15_hf := NxK.refl K43 H43.size
        refine CW.seq (fun K16 hK16 hE16 => ?_)
        refine CW.region ?_
        refine LR.v (Y.move rfl rfl) (Wd.u rfl) rfl rfl ?_
        refine LR.nil ?_
        refine hK16 _ _ ?_
        refine CW.cond rfl (fun c44 => ?_) (fun c44 => ?_)
        ·
          have e44 : al = true := c44
          refine CW.region ?_
          refine LR.v (Y.move rfl rfl) (Wd.u rfl) rfl rfl ?_
          refine LR.v (Y.move rfl rfl) (Wd.u rfl) rfl rfl ?_
          -- call (*selvage/simfs.FS).Write
          refine LR.call rfl Tryd.call17 rfl (Wd.u rfl) rfl rfl (write_ct mx_ K43 g43 b28 ((((Dk.empty 1048576 65536).lay [120] ⟨false, was⟩).2.sync [120]).2.syncDir []).2 [120] s1 data _ w0 _ hf mx (bf_mx.mono (by omega)) (df16) hd (bf_hd.mono (by omega)) (df18) (by decide) (hS43.bd (by omega)) (by omega)) (fun v47 H47 r47 => ?_)
          have ql20 := hf.bk
          obtain ⟨K47, g47, rfl, hf, hkd47, hs47⟩ := r47
          have df21 := DFL.appK (df16) (bf_mx.mono hm0.size) hkd47
          have df22 := DFL.appK (df17) (bf_hw.mono hm0.size) hkd47
          have df23 := DFL.appK (df18) (bf_hd.mono hm0.size) hkd47
          have nx24 : NxK [] H0.size K47 := NxK.tr (nx19) hkd47 hm0.size
          have nx25 : NxK K43 H43.size K47 := NxK.tr (nx_hcm15_hf) hkd47 hcm15.size
          replace mx := mx.upL hs47 (df16)
          replace hw := hw.upL hs47 (df17)
          replace hd := hd.upL hs47 (df18)
          replace hm0 := (Mo.trL (ks := []) (hm0.mdn []) hs47 (MIL.ofK0 (nx19))).nil
          replace hcm15 := hcm15.trL hs47 (MIL.ofK (nx_hcm15_hf) (by intro k hk; simp [hk]))
          have hz6 := hs47.size
          have hbk_hf := hf.bk
          have hS47 := hS43.lay [120] ⟨false, data⟩
          simp only [List.length_cons, List.length_nil, Nat.zero_add, Nat.reduceAdd] at hS47
          have e47 : (((((Dk.empty 1048576 65536).lay [120] ⟨false, was⟩).2.sync [120]).2.syncDir []).2.lay [120] ⟨false, data⟩).2 = tornD was ⟨!al, data⟩ := by rw [e44]; rfl
          rw [e47] at hf hS47
          replace hS47 : Bs (data.length + was.length + 14) _ := hS47.mono (by omega)
          refine LR.nil ?_
          refine QN.sub (hK15 (K47, g47) _ ?_) ⟨rfl, rfl, (iv (by omega)), rfl, (by rw [e44]; rfl), trivial⟩
          exact ⟨hf, hS47, nx25, hcm15⟩
        ·
          have e44 : al = false := by simpa using c44
          refine CW.seq (fun K17 hK17 hE17 => ?_)
          refine CW.region ?_
          refine LR.v (Y.move rfl rfl) (Wd.u rfl) rfl rfl ?_
          refine LR.v (Y.move rfl rfl) (Wd.u rfl) rfl rfl ?_
          -- call (*selvage/simfs.FS).Append
          refine LR.call rfl Tryd.call21 rfl (Wd.u rfl) rfl rfl (append_ct mx_ K43 g43 b28 ((((Dk.empty 1048576 65536).lay [120] ⟨false, was⟩).2.sync [120]).2.syncDir []).2 [120] s1 data _ w0 _ hf mx (bf_mx.mono (by omega)) (df16) hd (bf_hd.mono (by omega)) (df18) (by decide) (hS43.bd (by omega)) (by omega)) (fun v50 H50 r50 => ?_)
          have ql26 := hf.bk
          obtain ⟨K50, g50, rfl, hf, hkd50, hs50⟩ := r50
          have df27 := DFL.appK (df16) (bf_mx.mono hm0.size) hkd50
          have df28 := DFL.appK (df17) (bf_hw.mono hm0.size) hkd50
          have df29 := DFL.appK (df18) (bf_hd.mono hm0.size) hkd50
          have nx30 : NxK [] H0.size K50 := NxK.tr (nx19) hkd50 hm0.size
          have nx31 : NxK K43 H43.size K50 := NxK.tr (nx_hcm15_hf) hkd50 hcm15.size
          replace mx := mx.upL hs50 (df16)
          replace hw := hw.upL hs50 (df17)
          replace hd := hd.upL hs50 (df18)
          replace hm0 := (Mo.trL (ks := []) (hm0.mdn []) hs50 (MIL.ofK0 (nx19))).nil
          replace hcm15 := hcm15.trL hs50 (MIL.ofK (nx_hcm15_hf) (by intro k hk; simp [hk]))
          have hz7 := hs50.size
          have hbk_hf := hf.bk
          have hS50 := hS43.lay [120] ⟨true, data⟩
          simp only [List.length_cons, List.length_nil, Nat.zero_add, Nat.reduceAdd] at hS50
          have e50 : (((((Dk.empty 1048576 65536).lay [120] ⟨false, was⟩).2.sync [120]).2.syncDir []).2.lay [120] ⟨true, data⟩).2 = tornD was ⟨!al, data⟩ := by rw [e44]; rfl
          rw [e50] at hf hS50
          replace hS50 : Bs (data.length + was.length + 14) _ := hS50.mono (by omega)
          refine LR.nil ?_
          refine hK17 _ _ ?_
          refine CW.region ?_
          refine LR.v (Y.move rfl rfl) (Wd.u rfl) rfl rfl ?_
          refine LR.v (Y.bstr hw rfl Tryd.underlying25 Tryd.underlying9 Tryd.underlying5 rfl) (Wd.u rfl) rfl rfl ?_
          refine LR.v (Y.assign rfl rfl) (Wd.u rfl) rfl rfl ?_
          refine LR.nil ?_
          refine QN.sub (hK15 (K50, g50) _ ?_) ⟨rfl, rfl, (iv (by omega)), rfl, (by rw [e44]; rfl), trivial⟩
          exact ⟨hf, hS50, nx31, hcm15⟩
      ·
        rintro ⟨K, g⟩ Hcutc44 hIcutc44
        obtain ⟨hf, hS, nxl_hf, hlmcutc44⟩ := hIcutc44
        have df32 := DFL.appK (df16) (bf_mx.mono hm0.size) nxl_hf
        have df33 := DFL.appK (df17) (bf_hw.mono hm0.size) nxl_hf
        have df34 := DFL.appK (df18) (bf_hd.mono hm0.size) nxl_hf
        have nx35 : NxK [] H0.size K := NxK.tr (nx19) nxl_hf hm0.size
        replace mx := mx.upL hlmcutc44 (df16)
        replace hw := hw.upL hlmcutc44 (df17)
        replace hd := hd.upL hlmcutc44 (df18)
        replace hm0 := (Mo.trL (ks := []) (hm0.mdn []) hlmcutc44 (MIL.ofK0 (nx19))).nil
        have hz8 := hlmcutc44.size
        have hbk_hf := hf.bk
        have nx36 := nxl_hf
        refine CW.seq (fun K18 hK18 hE18 => ?_)
        refine CW.region ?_
        refine LR.v (Y.move rfl rfl) (Wd.u rfl) rfl rfl ?_
        refine LR.v (Y.len hd rfl Tryd.runUnderlying25 rfl) (Wd.u rfl) rfl rfl ?_
        refine LR.v (Y.assign rfl rfl) (Wd.u rfl) rfl rfl ?_
        refine LR.nil ?_
        refine hK18 _ _ ?_
        refine CW.seq (fun K19 hK19 hE19 => ?_)
        refine CW.region ?_
        refine LR.v (Y.move rfl rfl) (Wd.u rfl) rfl rfl ?_
        refine LR.v (Y.move rfl rfl) (Wd.u rfl) rfl rfl ?_
        refine LR.v (Y.cast (v2 := .int .i64 ((2 * data.length : Nat) : Int)) (Y.muli rfl rfl rfl (by omega)) (ivv (by omega))) (Wd.u rfl) rfl rfl ?_
        refine LR.v (Y.cast (v2 := .int .i64 ((max 1 (2 * data.length) : Nat) : Int)) (Y.maxi rfl rfl rfl) (ivv (by omega))) (Wd.u rfl) rfl rfl ?_
        refine LR.v (Y.cast (v2 := .int .i64 ((1 + max 1 (2 * data.length) : Nat) : Int)) (Y.addi rfl rfl rfl (by omega)) (ivv (by omega))) (Wd.u rfl) rfl rfl ?_
        -- call selvage/selvagelaw2.within
        refine LR.call rfl Tryd.call20 rfl (Wd.u rfl) rfl rfl (within_ct pick (1 + max 1 (2 * data.length)) w0 _ (by omega) hpk) (fun v60 H60 r60 => ?_)
        obtain ⟨rfl, hs60⟩ := r60
        replace mx := mx.nw hs60
        replace hw := hw.nw hs60
        replace hd := hd.nw hs60
        replace hf := hf.nw hs60
        replace hm0 := hm0.tr hs60
        have hz9 := hs60.size
        obtain ⟨k, hk⟩ : ∃ k, k = wiN pick (1 + max 1 (2 * data.length)) := ⟨_, rfl⟩
        have hkl := wiN_lt (a := pick) (show 0 < 1 + max 1 (2 * data.length) by omega)
        rw [← hk] at hkl
        obtain ⟨t1, t2, t3, t4⟩ := torn_all (pick := pick) (was := was) (w := ⟨!al, data⟩) (by omega) (show data.length ≤ 500 by omega)
        obtain ⟨B, hBB⟩ : ∃ B, B = tornB was ⟨!al, data⟩ pick := ⟨_, rfl⟩
        have hAl : (if al = true then [] else was).length ≤ 500 := by split <;> first | (simp; done) | omega
        have hBw : B = wayW [⟨!al, data⟩] was k := by rw [hBB, hk]; rfl
        rw [← hBB] at t3
        refine LR.v (Y.cast (v2 := .int .i64 (k : Int)) (Y.assign rfl rfl) (by rw [hk])) (Wd.u rfl) rfl rfl ?_
        refine LR.nil ?_
        refine hK19 _ _ ?_
        refine CW.seq (fun K20 hK20 hE20 => ?_)
        refine CW.seq (fun K21 hK21 hE21 => ?_)
        refine CW.region ?_
        refine LR.v (Y.move rfl rfl) (Wd.u rfl) rfl rfl ?_
        refine LR.v (Y.move rfl rfl) (Wd.u rfl) rfl rfl ?_
        refine LR.z (Z.litw _ (([pick] : List Int)) rfl inf35 rfl rfl rfl (by decide) (by decide) fI_len fI_one (rfl)) (Wd.u rfl) rfl rfl (fun v63 H63 r63 => ?_)
        obtain ⟨ow63, hs63, ob63, hH63⟩ := r63
        have hzs63 : H63.size = H60.size + 1 := by rw [hH63]; simp
        have df37 := (DF.new (bf_mx.mono hm0.size) : DF _ (H60.size + 1))
        have df38 := (DF.new (bf_hw.mono hm0.size) : DF _ (H60.size + 1))
        have df39 := (DF.new (bf_hd.mono hm0.size) : DF _ (H60.size + 1))
        have dj40 : DL (H60.size + 1) K := DL.newK hf.bk
        have nx41 : Nx 0 H0.size (H60.size + 1) := Nx.new hm0.size
        replace mx := mx.nw hs63
        replace hw := hw.nw hs63
        replace hd := hd.nw hs63
        replace hf := hf.nw hs63
        replace hm0 := hm0.tr hs63
        have hz10 := hs63.size
        obtain ⟨s63, rfl⟩ : ∃ s : SV, v63 = s.v := ⟨toSV v63, ow63.sv.symm⟩
        -- call (*selvage/simfs.FS).Crash
        refine LR.call rfl Tryd.call25 rfl (Wd.u rfl) rfl rfl (crash_ct K g b28 (tornD was ⟨!al, data⟩) _ s63 [pick] w0 _ hf ow63.rd (BF.of ow63.le) (DFL.of (dj40)) (hS.bd (by omega)) (hS.wy (by omega)) ((fun x hx => by rw [List.mem_singleton.1 hx]; exact hpk))) (fun v64 H64 r64 => ?_)
        have ql42 := hf.bk
        have ql43 := ow63.le
        obtain ⟨K64, g64, rfl, hf, hkd64, hs64⟩ := r64
        have df44 := DFL.appK (df32) (bf_mx.mono hm0.size) hkd64
        have df45 := DFL.appK (df33) (bf_hw.mono hm0.size) hkd64
        have df46 := DFL.appK (df34) (bf_hd.mono hm0.size) hkd64
        have dj47 : DL (H60.size + 1) K64 := DL.appK (dj40) ql43 hkd64
        have nx48 : NxK [] H0.size K64 := NxK.tr (nx35) hkd64 hm0.size
        replace mx := mx.upL hs64 (df32)
        replace hw := hw.upL hs64 (df33)
        replace hd := hd.upL hs64 (df34)
        replace ow63 := ow63.upL hs64 (dj40)
        replace hm0 := (Mo.trL (ks := []) (hm0.mdn []) hs64 (MIL.ofK0 (nx35))).nil
        have hz11 := hs64.size
        have hbk_hf := hf.bk
        have hS64 := hS.crash [pick]
        refine LR.v ((Y.neq rfl rfl rfl).isF ((fun h => h (by rw [t1]; rfl)))) (Wd.u rfl) rfl rfl ?_
        refine LR.nil ?_
        refine hK21 _ _ ?_
        refine CW.cond_f rfl ?_
        refine CW.skip ?_
        refine hK20 _ _ ?_
        refine CW.seq (fun K22 hK22 hE22 => ?_)
        refine CW.region ?_
        refine LR.v (Y.move rfl rfl) (Wd.u rfl) rfl rfl ?_
        -- call (*selvage/simfs.FS).Read
        refine LR.call rfl Tryd.call18 rfl (Wd.u rfl) rfl rfl (read_ct mx_ K64 g64 b28 ((tornD was ⟨!al, data⟩).crash [pick]) [120] w0 _ mx (bf_mx.mono (by omega)) hf (by decide) (fun i => by have := ((hS64).f i).1; omega)) (fun v68 H68 r68 => ?_)
        obtain ⟨s68, k68, rfl, ow68, hk68, hs68⟩ := r68
        have df49 := DF.app (DF.z) (bf_mx.mono hm0.size) hk68
        have df50 := DF.app (DF.z) (bf_hw.mono hm0.size) hk68
        have df51 := DF.app (DF.z) (bf_hd.mono hm0.size) hk68
        have dj52 : DL k68 K64 := DL.app2 (DL.zK) hf.bk hk68
        have nx53 : Nx 0 H0.size k68 := Nx.tr (Nx.refl 0 _) hk68 hm0.size
        replace mx := mx.nw hs68
        replace hw := hw.nw hs68
        replace hd := hd.nw hs68
        replace hf := hf.nw hs68
        replace hm0 := hm0.tr hs68
        have hz12 := hs68.size
        have hle_ow68 := ow68.le
        refine LR.v (Y.move rfl rfl) (Wd.u rfl) rfl rfl ?_
        refine LR.v (Y.extract rfl rfl rfl) (Wd.u rfl) rfl rfl ?_
        refine LR.v (Y.extract rfl rfl rfl) (Wd.u rfl) rfl rfl ?_
        refine LR.v (Y.assign rfl rfl) (Wd.u rfl) rfl rfl ?_
        refine LR.v (Y.assign rfl rfl) (Wd.u rfl) rfl rfl ?_
        refine LR.nil ?_
        refine hK22 _ _ ?_
        refine CW.seq (fun K23 hK23 hE23 => ?_)
        refine CW.region ?_
        refine LR.v (Y.move rfl rfl) (Wd.u rfl) rfl rfl ?_
        refine LR.v (Y.bstr hw rfl Tryd.underlying25 Tryd.underlying9 Tryd.underlying5 rfl) (Wd.u rfl) rfl rfl ?_
        refine LR.v (Y.assign rfl rfl) (Wd.u rfl) rfl rfl ?_
        refine LR.nil ?_
        refine hK23 _ _ ?_
        refine CW.cut (fun (wt : (List UInt8)) => [(3, .int .i64 pick), (9, ptr b28), (14, s68.v), (15, .int .i64 (((tornD was ⟨!al, data⟩).crash [pick]).readE [120] : Int)), (16, Str wt)])
          (fun (wt : (List UInt8)) (H : Heap) => (wt = B) ∧ Nw H68 H) (fun K24 hK24 hE24 => ?_) ?_
        ·
          have hcm24 : Nw H68 H68 := Mo.refl _ _
          refine CW.block (fun K25 hK25 hX25 hE25 => ?_)
          refine CW.seq (fun K26 hK26 hE26 => ?_)
          refine CW.region ?_
          refine LR.v (Y.move rfl rfl) (Wd.u rfl) rfl rfl ?_
          refine LR.v (Y.eql rfl rfl rfl) (Wd.u rfl) rfl rfl ?_
          refine LR.v (Y.assign rfl rfl) (Wd.u rfl) rfl rfl ?_
          refine LR.nil ?_
          refine hK26 _ _ ?_
          refine CW.condp rfl (fun c90 => ?_) (fun c90 => ?_)
          ·
            refine CW.skip ?_
            refine hK25 _ _ ?_
            refine QN.sub (hK24 was _ ?_) ⟨(iv (by omega)), rfl, rfl, (iv (by omega)), rfl, trivial⟩
            exact ⟨by rw [hBw, way_0 (by omega)], hcm24⟩
          ·
            refine CW.seq (fun K27 hK27 hE27 => ?_)
            refine CW.region ?_
            refine LR.v (Y.move rfl rfl) (Wd.u rfl) rfl rfl ?_
            refine LR.v (Y.eql rfl rfl rfl) (Wd.u rfl) rfl rfl ?_
            refine LR.v (Y.assign rfl rfl) (Wd.u rfl) rfl rfl ?_
            refine LR.nil ?_
            refine hK27 _ _ ?_
            refine CW.condp rfl (fun c93 => ?_) (fun c93 => ?_)
            ·
              refine CW.region ?_
              refine LR.v (Y.move rfl rfl) (Wd.u rfl) rfl rfl ?_
              refine LR.v (Y.assign rfl rfl) (Wd.u rfl) rfl rfl ?_
              refine LR.nil ?_
              refine hK25 _ _ ?_
              refine QN.sub (hK24 (if al = true then [] else was) _ ?_) ⟨(iv (by omega)), rfl, rfl, (iv (by omega)), rfl, trivial⟩
              exact ⟨by rw [hBw, way_1 (al := al) (was := was) (data := data) (by omega) (by omega) hkl], hcm24⟩
            ·
              refine CW.seq (fun K28 hK28 hE28 => ?_)
              refine CW.region ?_
              refine LR.v (Y.move rfl rfl) (Wd.u rfl) rfl rfl ?_
              refine LR.v (Y.move rfl rfl) (Wd.u rfl) rfl rfl ?_
              refine LR.v (Y.leq rfl rfl rfl) (Wd.u rfl) rfl rfl ?_
              refine LR.v (Y.assign rfl rfl) (Wd.u rfl) rfl rfl ?_
              refine LR.nil ?_
              refine hK28 _ _ ?_
              refine CW.condp rfl (fun c97 => ?_) (fun c97 => ?_)
              ·
                refine CW.region ?_
                refine LR.v (Y.move rfl rfl) (Wd.u rfl) rfl rfl ?_
                refine LR.v (Y.move rfl rfl) (Wd.u rfl) rfl rfl ?_
                refine LR.v (Y.move rfl rfl) (Wd.u rfl) rfl rfl ?_
                refine LR.e (g := fun v => v) (Y.slice hd (0) (k) rfl Tryd.runUnderlying25 Tryd.sizeOf5 rfl (.inl ⟨rfl, rfl⟩) (.inr ⟨_, _, _, rfl, rfl, (by omega)⟩) (by omega) (by omega)) (Wd.u rfl) rfl rfl (fun v104 rd104 => ?_)
                have bf_rd104 := bf_hd
                refine LR.v (Y.cast (v2 := Str (data.take k)) (Y.bstr rd104 rfl Tryd.underlying25 Tryd.underlying9 Tryd.underlying5 rfl) (by rw [List.drop_zero])) (Wd.u rfl) rfl rfl ?_
                refine LR.v (Y.sadd rfl rfl rfl (by simp only [List.length_take]; omega)) (Wd.u rfl) rfl rfl ?_
                refine LR.v (Y.assign rfl rfl) (Wd.u rfl) rfl rfl ?_
                refine LR.nil ?_
                refine hK25 _ _ ?_
                refine QN.sub (hK24 ((if al = true then [] else was) ++ data.take k) _ ?_) ⟨(iv (by omega)), rfl, rfl, (iv (by omega)), rfl, trivial⟩
                exact ⟨by rw [hBw, way_2 (al := al) (was := was) (data := data) (by omega) (by omega)], hcm24⟩
              ·
                refine CW.region_any (fun Hq => Nw H68 Hq) [] rfl ?_
                have hqs := Nw.refl H68
                refine LH.take 0 (by kernel_rfl) rfl (by kernel_rfl) (by kernel_rfl) (by kernel_rfl) (fun Hq hq => Y.move rfl rfl) (Wd.u rfl) rfl rfl hqs ?_
                refine LH.take 1 (by kernel_rfl) rfl (by kernel_rfl) (by kernel_rfl) (by kernel_rfl) (fun Hq hq => Y.move rfl rfl) (Wd.u rfl) rfl rfl hqs ?_
                refine LH.take 2 (by kernel_rfl) rfl (by kernel_rfl) (by kernel_rfl) (by kernel_rfl) (fun Hq hq => Y.move rfl rfl) (Wd.u rfl) rfl rfl hqs ?_
                refine LH.take 3 (by kernel_rfl) rfl (by kernel_rfl) (by kernel_rfl) (by kernel_rfl) (fun Hq hq => Y.subi rfl rfl rfl (by omega)) (Wd.u rfl) rfl rfl hqs ?_
                refine LH.take 4 (by kernel_rfl) rfl (by kernel_rfl) (by kernel_rfl) (by kernel_rfl) (fun Hq hq => Y.move rfl rfl) (Wd.u rfl) rfl rfl hqs ?_
                refine LH.take 5 (by kernel_rfl) rfl (by kernel_rfl) (by kernel_rfl) (by kernel_rfl) (fun Hq hq => Y.subi rfl rfl rfl (by omega)) (Wd.u rfl) rfl rfl hqs ?_
                refine LH.e (g := fun v => v) 6 (by kernel_rfl) rfl (by kernel_rfl) (by kernel_rfl) (by kernel_rfl) (Y.slice hd (0) ((k - 1 - data.length)) rfl Tryd.runUnderlying25 Tryd.sizeOf5 rfl (.inl ⟨rfl, rfl⟩) (.inr ⟨_, _, _, rfl, rfl, (by omega)⟩) (by omega) (by omega)) (Wd.u rfl) rfl rfl hqs (fun v79 rd79 => ?_)
                have bf_rd79 := bf_hd
                refine LH.take 7 (by kernel_rfl) rfl (by kernel_rfl) (by kernel_rfl) (by kernel_rfl) (fun Hq hq => Y.cast (v2 := Str (data.take (k - 1 - data.length))) (Y.bstr (rd79.nw hq) rfl Tryd.underlying25 Tryd.underlying9 Tryd.underlying5 rfl) (by rw [List.drop_zero])) (Wd.u rfl) rfl rfl hqs ?_
                refine LH.take 8 (by kernel_rfl) rfl (by kernel_rfl) (by kernel_rfl) (by kernel_rfl) (fun Hq hq => Y.sadd rfl rfl rfl (by simp only [List.length_take]; omega)) (Wd.u rfl) rfl rfl hqs ?_
                refine LH.take 9 (by kernel_rfl) rfl (by kernel_rfl) (by kernel_rfl) (by kernel_rfl) (fun Hq hq => Y.move rfl rfl) (Wd.u rfl) rfl rfl hqs ?_
                refine LH.take 10 (by kernel_rfl) rfl (by kernel_rfl) (by kernel_rfl) (by kernel_rfl) (fun Hq hq => Y.muli rfl rfl rfl (by omega)) (Wd.u rfl) rfl rfl hqs ?_
                refine LH.take 11 (by kernel_rfl) rfl (by kernel_rfl) (by kernel_rfl) (by kernel_rfl) (fun Hq hq => Y.addi rfl rfl rfl (by omega)) (Wd.u rfl) rfl rfl hqs ?_
                refine LH.take 12 (by kernel_rfl) rfl (by kernel_rfl) (by kernel_rfl) (by kernel_rfl) (fun Hq hq => Y.move rfl rfl) (Wd.u rfl) rfl rfl hqs ?_
                refine LH.take 13 (by kernel_rfl) rfl (by kernel_rfl) (by kernel_rfl) (by kernel_rfl) (fun Hq hq => Y.subi rfl rfl rfl (by omega)) (Wd.u rfl) rfl rfl hqs ?_
                refine LH.one (i := 14) (by kernel_rfl) ?_
                refine LO.z rfl (Z.makew (2 * data.length + 1 - k) ((0 : UInt8)) rfl inf25 Tryd.zeroValue5 rfl fB_len fB_one rfl rfl (by first | rfl | omega) (by omega) (by omega)) (Wd.u rfl) rfl rfl (fun v87 H87 r87 => ?_)
                obtain ⟨ow87, hs87, ob87, hH87⟩ := r87
                have hzs87 : H87.size = H68.size + 1 := by rw [hH87]; simp
                have df54 := (DF.new (bf_mx.mono hm0.size) : DF _ (H68.size + 1))
                have df55 := (DF.new (bf_hw.mono hm0.size) : DF _ (H68.size + 1))
                have df56 := (DF.new (bf_hd.mono hm0.size) : DF _ (H68.size + 1))
                have dj57 : DL (H68.size + 1) K64 := DL.newK hf.bk
                have dj58 : Dj k68 (H68.size + 1) := Dj.new ow68.le
                have df59 := (DF.new (bf_rd79.mono hm0.size) : DF _ (H68.size + 1))
                have nx60 : Nx 0 H0.size (H68.size + 1) := Nx.new hm0.size
                have nx61 : Nx 0 H68.size (H68.size + 1) := Nx.new hcm24.size
                replace mx := mx.nw hs87
                replace hw := hw.nw hs87
                replace hd := hd.nw hs87
                replace hf := hf.nw hs87
                replace ow68 := ow68.nw hs87
                replace rd79 := rd79.nw hs87
                replace hm0 := hm0.tr hs87
                replace hcm24 := hcm24.tr hs87
                have hz13 := hs87.size
                have hq87 := hqs.tr hs87
                refine ⟨.inr hq87, LH.narrow (SH2 := fun Hq => Nw H87 Hq) (fun Hq hq => hq87.tr hq) ?_⟩
                have hqn87 := Nw.refl H87
                refine LH.take 15 (by kernel_rfl) rfl (by kernel_rfl) (by kernel_rfl) (by kernel_rfl) (fun Hq hq => Y.bstr (ow87.rd.nw hq) rfl Tryd.underlying25 Tryd.underlying9 Tryd.underlying5 rfl) (Wd.u rfl) rfl rfl hqn87 ?_
                refine LH.take 16 (by kernel_rfl) rfl (by kernel_rfl) (by kernel_rfl) (by kernel_rfl) (fun Hq hq => Y.sadd rfl rfl rfl (by simp only [List.length_append, List.length_take, List.length_replicate]; omega)) (Wd.u rfl) rfl rfl hqn87 ?_
                refine LH.take 17 (by kernel_rfl) rfl (by kernel_rfl) (by kernel_rfl) (by kernel_rfl) (fun Hq hq => Y.assign rfl rfl) (Wd.u rfl) rfl rfl hqn87 ?_
                refine LH.done (by kernel_rfl) ?_
                have hqe := hqn87
                refine hK25 _ _ ?_
                refine QN.sub (hK24 ((if al = true then [] else was) ++ data.take (k - 1 - data.length) ++ List.replicate (2 * data.length + 1 - k) 0) _ ?_) ⟨(iv (by omega)), rfl, rfl, (iv (by omega)), rfl, trivial⟩
                exact ⟨by rw [hBw, way_3 (al := al) (was := was) (data := data) (by omega) (by omega) (by omega) (by omega)], hcm24⟩
        ·
          intro wt Hcut0 hIcut0
          obtain ⟨hwt, hlmcut0⟩ := hIcut0
          replace mx := mx.nw hlmcut0
          replace hw := hw.nw hlmcut0
          replace hd := hd.nw hlmcut0
          replace hf := hf.nw hlmcut0
          replace ow68 := ow68.nw hlmcut0
          replace hm0 := hm0.tr hlmcut0
          have hz14 := hlmcut0.size
          refine CW.seq (fun K29 hK29 hE29 => ?_)
          refine CW.region ?_
          refine LR.v (Y.move rfl rfl) (Wd.u rfl) rfl rfl ?_
          refine LR.v ((Y.eql rfl rfl rfl).isT ((by rw [t2]; rfl))) (Wd.u rfl) rfl rfl ?_
          refine LR.v (Y.move rfl rfl) (Wd.u rfl) rfl rfl ?_
          refine LR.v (Y.move rfl rfl) (Wd.g rfl rfl rfl) rfl rfl ?_
          refine LR.v (Y.bstr ow68.rd rfl Tryd.underlying25 Tryd.underlying9 Tryd.underlying5 rfl) (Wd.g rfl rfl rfl) rfl rfl ?_
          refine LR.v (Y.move rfl rfl) (Wd.g rfl rfl rfl) rfl rfl ?_
          refine LR.v ((Y.seql rfl rfl rfl).isT ((by rw [t3]; exact hwt.symm))) (Wd.g rfl rfl rfl) rfl rfl ?_
          refine LR.v (Y.pick_t rfl rfl rfl) (Wd.u rfl) rfl rfl ?_
          refine LR.v (Y.move rfl rfl) (Wd.u rfl) rfl rfl ?_
          refine LR.v (Y.move rfl rfl) (Wd.g rfl rfl rfl) rfl rfl ?_
          refine LR.v (Y.move rfl rfl) (Wd.g rfl rfl rfl) rfl rfl ?_
          refine LR.z (Z.litw _ (([pick] : List Int)) rfl inf35 rfl rfl rfl (by decide) (by decide) fI_len fI_one (rfl)) (Wd.g rfl rfl rfl) rfl rfl (fun v118 H118 r118 => ?_)
          obtain ⟨ow118, hs118, ob118, hH118⟩ := r118
          have hzs118 : H118.size = Hcut0.size + 1 := by rw [hH118]; simp
          have df62 := (DF.new (bf_mx.mono hm0.size) : DF _ (Hcut0.size + 1))
          have df63 := (DF.new (bf_hw.mono hm0.size) : DF _ (Hcut0.size + 1))
          have df64 := (DF.new (bf_hd.mono hm0.size) : DF _ (Hcut0.size + 1))
          have dj65 : DL (Hcut0.size + 1) K64 := DL.newK hf.bk
          have dj66 : Dj k68 (Hcut0.size + 1) := Dj.new ow68.le
          have nx67 : Nx 0 H0.size (Hcut0.size + 1) := Nx.new hm0.size
          replace mx := mx.nw hs118
          replace hw := hw.nw hs118
          replace hd := hd.nw hs118
          replace hf := hf.nw hs118
          replace ow68 := ow68.nw hs118
          replace hm0 := hm0.tr hs118
          have hz15 := hs118.size
          obtain ⟨s118, rfl⟩ : ∃ s : SV, v118 = s.v := ⟨toSV v118, ow118.sv.symm⟩
          -- call (*selvage/simfs.FS).Crash
          refine LR.call rfl Tryd.call25 rfl (Wd.g rfl rfl rfl) rfl rfl (crash_ct K64 g64 b28 ((tornD was ⟨!al, data⟩).crash [pick]) _ s118 [pick] w0 _ hf ow118.rd (BF.of ow118.le) (DFL.of (dj65)) (hS64.bd (by omega)) (hS64.wy (by omega)) ((fun x hx => by rw [List.mem_singleton.1 hx]; exact hpk))) (fun v119 H119 r119 => ?_)
          have ql68 := hf.bk
          have ql69 := ow68.le
          have ql70 := ow118.le
          obtain ⟨K119, g119, rfl, hf, hkd119, hs119⟩ := r119
          have df71 := DFL.appK (df44) (bf_mx.mono hm0.size) hkd119
          have df72 := DFL.appK (df45) (bf_hw.mono hm0.size) hkd119
          have df73 := DFL.appK (df46) (bf_hd.mono hm0.size) hkd119
          have dj74 : DL k68 K119 := DL.appK (dj52) ql69 hkd119
          have dj75 : DL (Hcut0.size + 1) K119 := DL.appK (dj65) ql70 hkd119
          have nx76 : NxK [] H0.size K119 := NxK.tr (nx48) hkd119 hm0.size
          replace mx := mx.upL hs119 (df44)
          replace hw := hw.upL hs119 (df45)
          replace hd := hd.upL hs119 (df46)
          replace ow68 := ow68.upL hs119 (dj52)
          replace ow118 := ow118.upL hs119 (dj65)
          replace hm0 := (Mo.trL (ks := []) (hm0.mdn []) hs119 (MIL.ofK0 (nx48))).nil
          have hz16 := hs119.size
          have hbk_hf := hf.bk
          have hS119 := hS64.crash [pick]
          refine LR.v ((Y.eql rfl rfl rfl).isT ((by rw [t4]; rfl))) (Wd.g rfl rfl rfl) rfl rfl ?_
          refine LR.v (Y.pick_t rfl rfl rfl) (Wd.u rfl) rfl rfl ?_
          refine LR.v (Y.assign rfl rfl) (Wd.u rfl) rfl rfl ?_
          refine LR.nil ?_
          refine hK29 _ _ ?_
          refine CW.ret (hret .ret (.inr rfl) _ _ _ (res1 rfl rfl) ?_)
          exact ⟨rfl, hm0⟩

end Go.Proofs.YtfbfjhppppoilaaDoor.SimT
