/-
  Contracts of functions of the program, and plain laws: put together of several texts.
-/
import Derived.Test.YtfjmpninmdjcaaaGreatDoorGb
import Derived.Test.YtfjmpninmdjcaaaGreatDoorGc
import Derived.Test.YtfjmpninmdjcaaaGreatDoorGa
import Derived.Lib.AppendZerosOnto
import Derived.Lib.Overlaps
set_option linter.unusedVariables false
set_option linter.unusedSimpArgs false
set_option linter.unusedSectionVars false
set_option linter.defProp false

namespace Go.Proofs.YtfjmpninmdjcaaaGreatDoor.RefD
open E Go.RowKit NamA NamB NamC NamD RefA RefB RefP RefQ RefR RefC
set_option maxRecDepth 20000
set_option maxRecDepth 100000 in
theorem inf244 : Inf Tryz.prog 244 35 1 8 := ⟨Tryz.underlying244, _, _, rfl, rfl, rfl, rfl, rfl⟩
theorem mvRs_other : ∀ {ml : List TMv} {l : RL} {q : Pth}, GAsc l → (∀ x ∈ ml, x.n ≠ q) → mget (ml.foldl mvR l) q = mget l q
 | [], _, _, _, _ => rfl
 | x :: ml, l, q, h, hn => by
   rw [List.foldl_cons, mvRs_other (gasc_mvR h x) (fun y hy => hn y (List.mem_cons_of_mem _ hy)), mget_mvR h, if_neg (fun e => hn x List.mem_cons_self e.symm)]
theorem mvRs_in : ∀ {ml : List TMv} {l : RL} {m : TMv}, GAsc l → (ml.map (·.n)).Nodup → m ∈ ml → mget (ml.foldl mvR l) m.n = if m.w = Zid then none else some m.w
 | x :: ml, l, m, h, hn, hm => by
   rw [List.map_cons, List.nodup_cons] at hn
   rw [List.foldl_cons]
   rcases List.mem_cons.1 hm with rfl | hm
   · rw [mvRs_other (gasc_mvR h m) (fun y hy e => hn.1 (by rw [← e]; exact List.mem_map_of_mem hy)), mget_mvR h, if_pos rfl]
   · exact mvRs_in (gasc_mvR h x) hn.2 hm
theorem mvsE_step {l : RL} {pre r : List TMv} {m : TMv} (h : mvsE l pre (m :: r) = 0) : mvE l pre m = 0 ∧ mvsE l (pre ++ [m]) r = 0 := by
 rw [mvsE] at h
 by_cases h1 : mvE l pre m ≠ 0
 · rw [if_pos h1] at h; exact absurd h h1
 · rw [if_neg h1] at h; exact ⟨by simpa using h1, h⟩
theorem mvE_fresh {l : RL} {pre : List TMv} {m : TMv} (h : mvE l pre m = 0) : m.n ∉ pre.map (·.n) := by
 intro h2
 unfold mvE at h
 by_cases h1 : chk m.n ≠ 0
 · rw [if_pos h1] at h; cases h
 · rw [if_neg h1, if_pos h2] at h; cases h
theorem mvsE_nodup : ∀ {ml : List TMv} {l : RL} {pre : List TMv}, mvsE l pre ml = 0 → (ml.map (·.n)).Nodup ∧ ∀ m ∈ ml, m.n ∉ pre.map (·.n)
 | [], _, _, _ => ⟨List.nodup_nil, fun m h => by cases h⟩
 | x :: ml, l, pre, h => by
   obtain ⟨h1, h2⟩ := mvsE_step h
   obtain ⟨h3, h4⟩ := mvsE_nodup h2
   refine ⟨?_, fun m hm => ?_⟩
   · rw [List.map_cons, List.nodup_cons]
     refine ⟨fun hx => ?_, h3⟩
     obtain ⟨y, hy, e⟩ := List.mem_map.1 hx
     exact h4 y hy (by rw [e]; simp)
   · rcases List.mem_cons.1 hm with rfl | hm
     · exact mvE_fresh h1
     · intro hq; exact h4 m hm (by rw [List.map_append]; exact List.mem_append_left _ hq)
theorem fit_eq {u m : RL} {n : Pth} {out : List Pth} (hm : ∀ q, mget m q = mget u q) (hout : ∀ k, k ∈ out ↔ k ∈ (mdel m n).map (·.1)) : out.any (adj n) = (u.map (·.1)).any (fun x => decide (x ≠ n) && adj n x) ∧ n ∉ out := by
 have e : ∀ k, k ∈ out ↔ k ∈ u.map (·.1) ∧ k ≠ n := by
  intro k
  rw [hout, ← isSome_iff_key, mget_del, ← isSome_iff_key]
  by_cases hk : k = n
  · simp [hk]
  · rw [if_neg hk, hm]; simp [hk]
 refine ⟨?_, fun h => ((e n).1 h).2 rfl⟩
 rw [Bool.eq_iff_iff, List.any_eq_true, List.any_eq_true]
 constructor
 · rintro ⟨x, hx, h⟩
   obtain ⟨h1, h2⟩ := (e x).1 hx
   exact ⟨x, h1, by simp [h2, h]⟩
 · rintro ⟨x, hx, h⟩
   rw [Bool.and_eq_true, decide_eq_true_eq] at h
   exact ⟨x, (e x).2 ⟨hx, h.1⟩, h.2⟩
theorem u_names {l : RL} {ml : List TMv} (hl : ∀ x ∈ l, x.1.length ≤ 60) (h : mvsE l [] ml = 0) : ∀ x ∈ ml.foldl mvR l, x.1.length ≤ 60 := by
 intro x hx
 rcases mvRs_mem hx with hx | ⟨m, hm, e, _⟩
 · exact hl x hx
 · rw [e]; exact ((chk_iff m.n).1 (mvsE_names h m hm)).1
theorem fitE_no {u : RL} {ml : List TMv} (h : ∀ m ∈ ml, fitB u m = false) : fitE u ml = 0 := by
 unfold fitE
 rw [if_neg]
 rw [List.any_eq_true]
 rintro ⟨m, hm, e⟩
 rw [h m hm] at e; cases e
theorem fitE_at {u : RL} {ml : List TMv} {m : TMv} (hm : m ∈ ml) (h : fitB u m = true) : fitE u ml = 13 := by
 unfold fitE
 rw [if_pos (List.any_eq_true.2 ⟨m, hm, h⟩)]
theorem all_snoc {α : Type} {l : List α} {p : α → Prop} {i : Nat} (h : ∀ x ∈ l.take i, p x) (hi : i < l.length) (h2 : p l[i]) : ∀ x ∈ l.take (i + 1), p x := by
 intro x hx
 rw [List.take_succ_eq_append_getElem hi] at hx
 rcases List.mem_append.1 hx with hx | hx
 · exact h x hx
 · rw [List.mem_singleton.1 hx]; exact h2
theorem mv1_ct (x : TMv) (bm : Nat) (m : TMv) (w0 : World) (H0 : Heap)
 (vm : Var 52 H0 bm (fMv m)) :
 Ct Tryz.prog w0 131 #[mvV x, .pointer (some ⟨bm, 0, none⟩)] H0 (fun r H2 => r = .bool (decide (x.n = m.n)) ∧ Nw H0 H2) := by
 refine Ct.enter (args := [mvV x, .pointer (some ⟨bm, 0, none⟩)]) Tryz.func131 rfl rfl rfl ?_
 intro Q0 hret
 have hm0 : Nw H0 H0 := Mo.refl _ _
 refine CW.s1 (fun hK1 => CW.region ?_)
 refine LR.z1 (Z.boxv rfl rfl) fun v2 H2 r2 => ?_
 obtain ⟨rfl, vx, hs2, ob2, hH2⟩ := r2
 replace vm := vm.nw hs2
 replace hm0 := hm0.tr hs2
 replace vx : Var 52 H2 H0.size (fMv x) := vx
 refine LR.a1 (LR.nil (hK1 _ _ ?_))
 refine CW.s1 (fun hK2 => CW.region ?_)
 refine LR.v1 (Y.FA vx.pt rfl u'52 rfl s'9) ?_
 refine LR.v1 (Y.load1 vx.pt rfl a'9 rfl) ?_
 refine LR.v1 (Y.FA vm.pt rfl u'52 rfl s'9) ?_
 refine LR.v1 (Y.load1 vm.pt rfl a'9 rfl) ?_
 refine LR.v1 (Y.seql rfl rfl rfl) ?_
 refine LR.a1 (LR.nil (hK2 _ _ ?_))
 refine CW.ret (hret .ret (.inr rfl) _ _ _ (res1 rfl rfl) ?_)
 exact ⟨rfl, hm0⟩
theorem indexM_ct (v vf : Value) (l : List TMv) (p : TMv → Bool) (w0 : World) (H0 : Heap)
 (hl : RdT H0 fMv 66 v l) (hf : ∀ (x : TMv) (H' : Heap), Nw H0 H' → x ∈ l → Clo Tryz.prog w0 vf [mvV x] H' (fun r H2 => r = .bool (p x) ∧ Nw H' H2)) :
 Ct Tryz.prog w0 193 #[v, vf] H0 (fun r H2 => ∃ n : Int, r = .int .i64 n ∧ ((0 ≤ n ↔ l.any p = true) ∧ -1 ≤ n ∧ n ≤ 9223372036854775807) ∧ Nw H0 H2) := by
 refine Ct.enter (args := [v, vf]) Tryz.func193 rfl rfl rfl ?_
 intro Q0 hret
 have hm0 : Nw H0 H0 := Mo.refl _ _
 replace hl := hl.bnd
 have hll := hl.len
 refine CW.s1 (fun hK1 => CW.region ?_)
 refine LR.a1 (LR.nil (hK1 _ _ ?_))
 refine CW.s2 (fun hK2 hE2 => CW.s1 (fun hK3 => CW.region ?_))
 refine LR.m1 ?_
 refine LR.v1 (Y.len hl rfl u'24 rfl) ?_
 refine LR.m1 (LR.nil (hK3 _ _ ?_))
 refine CW.block (fun _ _ hX4 hE4 => ?_)
 refine CW.loop (fun (j : (Nat)) => [(0, v), (1, vf), (7, .int .i64 l.length), (8, .int .i64 j)])
  (fun (j : (Nat)) (H : Heap) => (j ≤ l.length) ∧ ((l.take j).any p = false) ∧ Nw H0 H)
  (fun (j : (Nat)) => l.length - j) 0 ⟨rfl, rfl, rfl, rfl, trivial⟩ ?_ ?_
 ·
  exact ⟨(by omega), rfl, Mo.refl _ _⟩
 intro j HL1 hI1 K5 hN5 hE5
 obtain ⟨hj, ha, hlm1⟩ := hI1
 replace hl := hl.nw hlm1
 replace hm0 := hm0.tr hlm1
 have hz1 := hlm1.size
 refine CW.s1 (fun hK6 => CW.region ?_)
 refine LR.v1 (Y.lss rfl rfl rfl) (LR.nil (hK6 _ _ ?_))
 refine CW.s2 (fun hK7 hE7 => ?_)
 refine CW.condp rfl (fun c9 => ?_) (fun c9 => ?_)
 ·
  refine CW.skip (hK7 _ _ (CW.s2 (fun hK8 hE8 => CW.block (fun _ hK9 _ hE9 => CW.s1 (fun hK10 => CW.region ?_)))))
  refine LR.m1 ?_
  refine LR.a1 (LR.nil (hK10 _ _ ?_))
  refine CW.s1 (fun hK11 => CW.region ?_)
  refine LR.m1 ?_
  refine LR.m1 ?_
  refine LR.m1 ?_
  refine LR.e1 (g := fun ad => .pointer (some ad)) (Y.iF hl (j) rfl u'24 s'52 rfl rfl) fun ad14 pt14 => ?_
  refine LR.v1 (Y.loadN pt14.pt rfl a'52 s'52 (fMv_len _) rfl) ?_
  refine LR.calld rfl rfl rfl (Wd.u rfl) rfl rfl (hf l[j] _ hm0 (List.getElem_mem (by omega))) (fun v16 H16 r16 => ?_)
  obtain ⟨rfl, hs16⟩ := r16
  replace hm0 := hm0.tr hs16
  replace hlm1 := hlm1.tr hs16
  have hz2 := hs16.size
  refine LR.nil (hK11 _ _ ?_)
  refine CW.cond rfl (fun c16 => ?_) (fun c16 => ?_)
  ·
   refine CW.s1 (fun hK12 => CW.region ?_)
   refine LR.m1 ?_
   refine LR.a1 (LR.nil (hK12 _ _ ?_))
   refine CW.ret (hE9 .ret nofun (by simp) _ _ (hE8 .ret nofun _ _ (hE5 .ret nofun _ _ (hE4 .ret nofun (by simp) _ _ (hE2 .ret nofun _ _ (hret .ret (.inr rfl) _ _ _ (res1 rfl rfl) ?_))))))
   exact ⟨j, rfl, ⟨⟨fun _ => any_at (j := j) (by omega) (by simpa using c16), fun _ => by omega⟩, by omega, by omega⟩, hm0⟩
  ·
   refine CW.skip (hK9 _ _ (hK8 _ _ (CW.region ?_)))
   refine LR.v1 (Y.addi rfl rfl rfl (by omega)) ?_
   refine LR.m1 (LR.nil ?_)
   refine QN.sub (hN5 (j + 1) _ ?_ ?_) ⟨rfl, rfl, (iv (by omega)), (iv (by omega)), trivial⟩
   · exact ⟨(by omega), any_take ha (by omega) (by simpa using c16), hlm1⟩
   · first | omega | (simp only; omega) | (simp; omega)
 ·
  refine CW.exit (hE7 (.exit 0) nofun _ _ (hE5 (.exit 0) nofun _ _ (hX4 _ _ ?_)))
  refine hK2 _ _ (CW.s1 (fun hK13 => CW.region ?_))
  refine LR.a1 (LR.nil (hK13 _ _ ?_))
  refine CW.ret (hret .ret (.inr rfl) _ _ _ (res1 rfl rfl) ?_)
  exact ⟨-1, rfl, ⟨⟨fun h => by omega, fun h => by rw [List.take_of_length_le (by omega), h] at ha; cases ha⟩, by omega, by omega⟩, hm0⟩
theorem containsM_ct (v vf : Value) (l : List TMv) (p : TMv → Bool) (w0 : World) (H0 : Heap)
 (hl : RdT H0 fMv 66 v l) (hf : ∀ (x : TMv) (H' : Heap), Nw H0 H' → x ∈ l → Clo Tryz.prog w0 vf [mvV x] H' (fun r H2 => r = .bool (p x) ∧ Nw H' H2)) :
 Ct Tryz.prog w0 130 #[v, vf] H0 (fun r H2 => r = .bool (l.any p) ∧ Nw H0 H2) := by
 refine Ct.enter (args := [v, vf]) Tryz.func130 rfl rfl rfl ?_
 intro Q0 hret
 have hm0 : Nw H0 H0 := Mo.refl _ _
 replace hl := hl.bnd
 have hll := hl.len
 refine CW.s1 (fun hK1 => CW.region ?_)
 refine LR.a1 (LR.nil (hK1 _ _ ?_))
 refine CW.s1 (fun hK2 => CW.region ?_)
 refine LR.m1 ?_
 refine LR.m1 ?_
 refine LR.call rfl c'193 rfl (Wd.u rfl) rfl rfl (indexM_ct _ vf l p w0 _ hl.any hf) (fun v7 H7 r7 => ?_)
 obtain ⟨n7, rfl, hn7, hs7⟩ := r7
 replace hm0 := hm0.tr hs7
 refine LR.v1 (Y.geq rfl rfl rfl) ?_
 refine LR.a1 (LR.nil (hK2 _ _ ?_))
 refine CW.ret (hret .ret (.inr rfl) _ _ _ (res1 rfl rfl) ?_)
 exact ⟨by cases hp : l.any p with | true => (rw [decide_eq_true (hn7.1.2 hp)]) | false => (rw [decide_eq_false (fun h => by rw [hn7.1.1 h] at hp; cases hp)]), hm0⟩
set_option maxHeartbeats 8000000 in
theorem moves_ct (s : TSt) (v : Value) (ml : List TMv) (F : Nat → Prop) (mx_ : Int) (w0 : World) (H0 : Heap)
 (mx : MX mx_ H0) (bf_mx : BF (fun b => b = 0) H0.size) (hs : StR F H0 s) (bf_hs : BF F H0.size) (hm : RdT H0 fMv 66 v ml) (ga : GAsc (rlM s.rl)) (hnr : ∀ x ∈ (rlM s.rl), x.1.length ≤ 60) (hnl : ∀ m ∈ ml, m.n.length ≤ 140737488355328) :
 Ct Tryz.prog w0 49 #[stV s, v] H0 (fun r H2 => r = .int .i64 (movesE (rlM s.rl) ml) ∧ Nw H0 H2) := by
 refine Ct.enter (args := [stV s, v]) Tryz.func49 rfl rfl rfl ?_
 intro Q0 hret
 have hm0 : Nw H0 H0 := Mo.refl _ _
 replace hm := hm.bnd
 have bf_hm := hm.bf
 have hml := hm.len
 refine CW.s1 (fun hK1 => CW.region ?_)
 refine LR.z1 (Z.boxv rfl rfl) fun v2 H2 r2 => ?_
 obtain ⟨rfl, va, hs2, ob2, hH2⟩ := r2
 have hzs2 : H2.size = H0.size + 1 := by rw [hH2]; simp
 replace mx := mx.nw hs2
 replace hs := hs.nw hs2
 replace hm := hm.nw hs2
 replace hm0 := hm0.tr hs2
 have hz1 := hs2.size
 replace va : Var 47 H2 H0.size (fSt s) := va
 refine LR.a1 (LR.nil (hK1 _ _ ?_))
 refine CW.s1 (fun hK2 => CW.region ?_)
 refine LR.v1 (Y.loadN va.pt rfl a'47 s'47 (fSt_len _) rfl) ?_
 refine LR.call rfl c'53 rfl (Wd.u rfl) rfl rfl (table_ct s F w0 _ hs (bf_hs.mono (by omega))) (fun v15 H15 r15 => ?_)
 obtain ⟨mb, rfl, tm, hk15, hs15⟩ := r15
 have df5 := DF.app (DF.z) (bf_mx.mono hm0.size) hk15
 have df7 := DF.app (DF.z) (bf_hm.mono hm0.size) hk15
 have nx9 : Nx 0 H0.size (mb + 1) := Nx.tr (Nx.refl 0 _) hk15 hm0.size
 replace mx := mx.nw hs15
 replace hm := hm.nw hs15
 replace hm0 := hm0.tr hs15
 have hz2 := hs15.size
 have hle_tm := tm.le
 have htq := mget_tab s.rl ga.nodup
 refine LR.a1 (LR.nil (hK2 _ _ ?_))
 refine CW.s2 (fun hK3 hE3 => CW.s1 (fun hK4 => CW.region ?_))
 refine LR.m1 ?_
 refine LR.v1 (Y.len hm rfl u'24 rfl) ?_
 refine LR.m1 (LR.nil (hK4 _ _ ?_))
 refine CW.block (fun _ _ hX5 hE5 => ?_)
 refine CW.loop (fun (j : (Nat)) => [(1, v), (5, .map (some mb)), (16, v), (17, .int .i64 (ml.length : Int)), (18, .int .i64 (j : Int))])
  (fun (j : (Nat)) (H : Heap) => (j ≤ ml.length) ∧ (∀ i (h : i < j), ∀ h2 : i < ml.length, mvE (rlM s.rl) (ml.take i) ml[i] = 0) ∧ Nw H15 H)
  (fun (j : (Nat)) => ml.length - j) 0 ⟨rfl, rfl, rfl, rfl, rfl, trivial⟩ ?_ ?_
 ·
  exact ⟨(by omega), (fun i h => by omega), Mo.refl _ _⟩
 intro j HL1 hI1 K6 hN6 hE6
 obtain ⟨hj, h0, hlm1⟩ := hI1
 replace mx := mx.nw hlm1
 replace hm := hm.nw hlm1
 replace tm := tm.nw hlm1
 replace hm0 := hm0.tr hlm1
 have hz3 := hlm1.size
 refine CW.s1 (fun hK7 => CW.region ?_)
 refine LR.v1 (Y.lss rfl rfl rfl) (LR.nil (hK7 _ _ ?_))
 refine CW.s2 (fun hK8 hE8 => ?_)
 refine CW.condp rfl (fun c19 => ?_) (fun c19 => ?_)
 ·
  refine CW.skip (hK8 _ _ (CW.s2 (fun hK9 hE9 => CW.block (fun _ hK10 _ hE10 => CW.s1 (fun hK11 => CW.region ?_)))))
  refine LR.m1 ?_
  have hil : j < ml.length := by omega
  obtain ⟨y, hey⟩ : ∃ q, q = ml[j] := ⟨_, rfl⟩
  have hmy : y ∈ ml := by rw [hey]; exact List.getElem_mem hil
  have hyl := hnl y hmy
  refine LR.e1 (g := fun ad => .pointer (some ad)) (Y.iF hm (j) rfl u'24 s'52 rfl rfl) fun ad21 pt21 => ?_
  refine LR.v1 (Y.cast (v2 := .agg (fMv y).toArray) (Y.loadN pt21.pt rfl a'52 s'52 (fMv_len _) rfl) (by rw [hey])) ?_
  refine LR.z1 (Z.allocv rfl z'52) fun v7 H7 r7 => ?_
  obtain ⟨rfl, vm, hs7, ob7, hH7⟩ := r7
  have hzs7 : H7.size = HL1.size + 1 := by rw [hH7]; simp
  have df10 := (DF.new (bf_mx.mono hm0.size) : DF _ (HL1.size + 1))
  have df12 := (DF.new (bf_hm.mono hm0.size) : DF _ (HL1.size + 1))
  have dj13 : Dj (mb + 1) (HL1.size + 1) := Dj.new tm.le
  have nx15 : Nx 0 H0.size (HL1.size + 1) := Nx.new hm0.size
  have nx16 : Nx 0 H15.size (HL1.size + 1) := Nx.new hlm1.size
  replace mx := mx.nw hs7
  replace hm := hm.nw hs7
  replace tm := tm.nw hs7
  replace hm0 := hm0.tr hs7
  replace hlm1 := hlm1.tr hs7
  have hz4 := hs7.size
  refine LR.a1 ?_
  refine LR.s1 (S.var vm (_) (fMv y) rfl rfl rfl rfl (fMv_one y) s'52 (fMv_len _) (by decide) ((splice_all2 (fMv_len _).symm))) fun H4_5 r4_5 => ?_
  obtain ⟨vm, hs4_5⟩ := r4_5
  replace hs4_5 := hs4_5.md1
  replace mx := mx.upL hs4_5 (DFL.o df10)
  replace hm := hm.upL hs4_5 (DFL.o df12)
  replace tm := tm.upL hs4_5 (DL.o dj13)
  replace hm0 := hm0.tq hs4_5 (MIL.o (MI.q nx15))
  replace hlm1 := hlm1.tq hs4_5 (MIL.o (MI.q nx16))
  have hz5 := hs4_5.size
  refine LR.nil (hK11 _ _ (CW.s1 (fun hK12 => ?_)))
  refine CW.region_any (fun Hq => Nw H4_5 Hq) [] rfl ?_
  have hqs := Nw.refl H4_5
  refine LH.t1 0 rfl (fun Hq hq => Y.FA (vm.pt.nw hq) rfl u'52 rfl s'9) hqs ?_
  refine LH.t1 1 rfl (fun Hq hq => Y.load1 (vm.pt.nw hq) rfl a'9 rfl) hqs ?_
  refine LH.m1 3 rfl hqs ?_
  refine LH.m1 4 rfl hqs ?_
  refine LH.e (g := fun v => v) 5 (by kernel_rfl) rfl (by kernel_rfl) (by kernel_rfl) (by kernel_rfl) (Y.slice hm (0) (j) rfl u'24 s'52 rfl (.inl ⟨rfl, rfl⟩) (.inr ⟨_, _, _, rfl, rfl, by first | rfl | omega⟩) (by omega) (by omega)) (Wd.u rfl) rfl rfl hqs (fun v28 rd28 => ?_)
  rw [List.drop_zero] at rd28
  refine LH.t1 6 rfl (fun Hq hq => Y.makeFunc rfl rfl) hqs ?_
  refine LH.m1 10 rfl hqs ?_
  refine LH.t1 11 rfl (fun Hq hq => Y.FA (vm.pt.nw hq) rfl u'52 rfl s'9) hqs ?_
  refine LH.t1 12 rfl (fun Hq hq => Y.load1 (vm.pt.nw hq) rfl a'9 rfl) hqs ?_
  refine LH.t1 13 rfl (fun Hq hq => Y.cast (v2 := vA (atM (rlM s.rl) y.n)) (Y.lookup (z0 := Zid) (tm.nw hq).mo keyStr rfl u'130 Tryz.underlying9 z'26 rfl rfl) (by rw [atM, ← htq])) hqs ?_
  refine LH.t1 14 rfl (fun Hq hq => Y.FA (vm.pt.nw hq) rfl u'52 rfl s'26) hqs ?_
  refine LH.t1 15 rfl (fun Hq hq => Y.cast (v2 := vA y.o) (Y.loadN (((vm.pt.drop 1).nw hq).take 32) rfl a'26 s'26 (by rw [fMv_o]; exact fA_len _) rfl) (congrArg (fun z : List Value => Value.agg z.toArray) (fMv_o _))) hqs ?_
  refine LH.t1 16 rfl (fun Hq hq => Y.aeql rfl Tryz.eqGuardType26 (fun w => run_equalIn_id 9998 Tryz.underlying26 Tryz.underlying5 s'5 a'5 ((atM (rlM s.rl) y.n).2) (y.o.2) w) rfl rfl) hqs ?_
  refine LH.t1 18 rfl (fun Hq hq => Y.FA (vm.pt.nw hq) rfl u'52 rfl s'26) hqs ?_
  refine LH.t1 19 rfl (fun Hq hq => Y.cast (v2 := vA y.w) (Y.loadN (((vm.pt.drop 33).nw hq).take 32) rfl a'26 s'26 (by rw [fMv_w]; exact fA_len _) rfl) (congrArg (fun z : List Value => Value.agg z.toArray) (fMv_w _))) hqs ?_
  refine LH.t1 20 rfl (fun Hq hq => Y.FA (vm.pt.nw hq) rfl u'52 rfl s'26) hqs ?_
  refine LH.t1 21 rfl (fun Hq hq => Y.cast (v2 := vA y.o) (Y.loadN (((vm.pt.drop 1).nw hq).take 32) rfl a'26 s'26 (by rw [fMv_o]; exact fA_len _) rfl) (congrArg (fun z : List Value => Value.agg z.toArray) (fMv_o _))) hqs ?_
  refine LH.t1 22 rfl (fun Hq hq => Y.aneq rfl Tryz.eqGuardType26 (fun w => run_equalIn_id 9998 Tryz.underlying26 Tryz.underlying5 s'5 a'5 (y.w.2) (y.o.2) w) rfl rfl) hqs ?_
  refine LH.o1 2 ?_
  refine LO.call rfl rfl c'48 rfl (Wd.u rfl) rfl rfl (chk_ct y.n mx_ w0 _ mx (bf_mx.mono (by omega)) (by omega)) (fun v25 H25 r25 => ?_)
  obtain ⟨rfl, hs25⟩ := r25
  replace vm := vm.nw hs25
  replace rd28 := rd28.nw hs25
  replace hm0 := hm0.tr hs25
  replace hlm1 := hlm1.tr hs25
  have hz6 := hs25.size
  have hq25 := hqs.tr hs25
  refine ⟨.inr hq25, LH.narrow (SH2 := fun Hq => Nw H25 Hq) (fun Hq hq => hq25.tr hq) ?_⟩
  have hqn25 := Nw.refl H25
  refine LH.o1 7 ?_
  refine LO.call rfl rfl c'130 rfl (Wd.u rfl) rfl rfl (containsM_ct _ _ (ml.take j) (fun x => decide (x.n = y.n)) w0 _ rd28.any (fun x H' hn _ => Clo.of (caps := [.pointer (some ⟨HL1.size, 0, none⟩)]) c'131 (mv1_ct x _ y w0 H' (vm.nw hn)))) (fun v30 H30 r30 => ?_)
  obtain ⟨rfl, hs30⟩ := r30
  replace hm0 := hm0.tr hs30
  replace hlm1 := hlm1.tr hs30
  have hz7 := hs30.size
  have hq30 := hqn25.tr hs30
  refine ⟨.inr hq30, LH.narrow (SH2 := fun Hq => Nw H30 Hq) (fun Hq hq => hq30.tr hq) ?_⟩
  have hqn30 := Nw.refl H30
  refine LH.t1 8 rfl (fun Hq hq => Y.not rfl rfl) hqn30 ?_
  refine LH.o1 9 ?_
  refine LO.call rfl rfl c'46 rfl (Wd.u rfl) rfl rfl (rmust_ct (!((ml.take j).any (fun x => decide (x.n = y.n)))) 18 w0 _) (fun v32 H32 r32 => ?_)
  obtain ⟨rfl, hs32⟩ := r32
  replace hm0 := hm0.tr hs32
  replace hlm1 := hlm1.tr hs32
  have hz8 := hs32.size
  have hq32 := hqn30.tr hs32
  refine ⟨.inr hq32, LH.narrow (SH2 := fun Hq => Nw H32 Hq) (fun Hq hq => hq32.tr hq) ?_⟩
  have hqn32 := Nw.refl H32
  refine LH.o1 17 ?_
  refine LO.call rfl rfl c'46 rfl (Wd.u rfl) rfl rfl (rmust_to (decide (atM (rlM s.rl) y.n = y.o)) 21 (decide_eq_decide.2 ⟨fun h => Subtype.ext h, fun h => by rw [h]⟩) w0 _) (fun v40 H40 r40 => ?_)
  obtain ⟨rfl, hs40⟩ := r40
  replace hm0 := hm0.tr hs40
  replace hlm1 := hlm1.tr hs40
  have hz9 := hs40.size
  have hq40 := hqn32.tr hs40
  refine ⟨.inr hq40, LH.narrow (SH2 := fun Hq => Nw H40 Hq) (fun Hq hq => hq40.tr hq) ?_⟩
  have hqn40 := Nw.refl H40
  refine LH.o1 23 ?_
  refine LO.call rfl rfl c'46 rfl (Wd.u rfl) rfl rfl (rmust_to (decide (¬ y.w = y.o)) 26 (decide_eq_decide.2 ⟨fun h e => h (by rw [e]), fun h e => h (Subtype.ext e)⟩) w0 _) (fun v46 H46 r46 => ?_)
  obtain ⟨rfl, hs46⟩ := r46
  replace hm0 := hm0.tr hs46
  replace hlm1 := hlm1.tr hs46
  have hz10 := hs46.size
  have hq46 := hqn40.tr hs46
  refine ⟨.inr hq46, LH.narrow (SH2 := fun Hq => Nw H46 Hq) (fun Hq hq => hq46.tr hq) ?_⟩
  have hqn46 := Nw.refl H46
  refine LH.o1 24 ?_
  refine LO.z rfl (Z.litw _ ([chk y.n, mustL (!((ml.take j).any (fun x => decide (x.n = y.n)))) 18, mustL (decide (atM (rlM s.rl) y.n = y.o)) 21, mustL (decide (¬ y.w = y.o)) 26]) rfl inf244 rfl rfl rfl (by decide) (by decide) fI_len fI_one (rfl)) (Wd.u rfl) rfl rfl (fun v47 H47 r47 => ?_)
  obtain ⟨ow47, hs47, ob47, hH47⟩ := r47
  have hzs47 : H47.size = H46.size + 1 := by rw [hH47]; simp
  replace hm0 := hm0.tr hs47
  replace hlm1 := hlm1.tr hs47
  have hz11 := hs47.size
  have hq47 := hqn46.tr hs47
  refine ⟨.inr hq47, LH.narrow (SH2 := fun Hq => Nw H47 Hq) (fun Hq hq => hq47.tr hq) ?_⟩
  have hqn47 := Nw.refl H47
  refine LH.o1 25 ?_
  refine LO.call rfl rfl c'47 rfl (Wd.u rfl) rfl rfl (rfirst_ct _ [chk y.n, mustL (!((ml.take j).any (fun x => decide (x.n = y.n)))) 18, mustL (decide (atM (rlM s.rl) y.n = y.o)) 21, mustL (decide (¬ y.w = y.o)) 26] w0 _ ow47.rd.any) (fun v48 H48 r48 => ?_)
  obtain ⟨rfl, hs48⟩ := r48
  replace hm0 := hm0.tr hs48
  replace hlm1 := hlm1.tr hs48
  have hz12 := hs48.size
  rw [mvE_first]
  have hq48 := hqn47.tr hs48
  refine ⟨.inr hq48, LH.narrow (SH2 := fun Hq => Nw H48 Hq) (fun Hq hq => hq48.tr hq) ?_⟩
  have hqn48 := Nw.refl H48
  refine LH.t1 26 rfl (fun Hq hq => Y.assign rfl rfl) hqn48 ?_
  refine LH.done (by kernel_rfl) ?_
  have hqe := hqn48
  refine hK12 _ _ (CW.s1 (fun hK13 => CW.region ?_))
  refine LR.m1 ?_
  refine LR.v1 (Y.neq rfl rfl rfl) (LR.nil (hK13 _ _ ?_))
  refine CW.condp rfl (fun c50 => ?_) (fun c50 => ?_)
  ·
   refine CW.s1 (fun hK14 => CW.region ?_)
   refine LR.m1 ?_
   refine LR.a1 (LR.nil (hK14 _ _ ?_))
   refine CW.ret (hE10 .ret nofun (by simp) _ _ (hE9 .ret nofun _ _ (hE6 .ret nofun _ _ (hE5 .ret nofun (by simp) _ _ (hE3 .ret nofun _ _ (hret .ret (.inr rfl) _ _ _ (res1 rfl rfl) ?_))))))
   exact ⟨by have hq := mvsE_at (ml := ml) (l := (rlM s.rl)) (pre := []) (j := j) hil (fun i h => by rw [List.nil_append]; exact h0 i h (by omega)) (by rw [List.nil_append, ← hey]; exact c50); rw [List.nil_append, ← hey] at hq; rw [movesE, if_pos (by rw [hq]; exact c50), hq], hm0⟩
  ·
   refine CW.skip (hK10 _ _ (hK9 _ _ (CW.region ?_)))
   refine LR.v1 (Y.addi rfl rfl rfl (by omega)) ?_
   refine LR.m1 (LR.nil ?_)
   refine QN.sub (hN6 (j + 1) _ ?_ ?_) ⟨rfl, rfl, rfl, (iv (by omega)), (iv (by omega)), trivial⟩
   · exact ⟨(by omega), (fun i h h2 => by rcases Nat.lt_or_ge i j with h3 | h3; exact h0 i h3 h2; obtain rfl : i = j := (by omega); rw [← hey]; simpa using c50), hlm1⟩
   · first | omega | (simp only; omega) | (simp; omega)
 ·
  obtain rfl : j = ml.length := by omega
  have hz : mvsE (rlM s.rl) [] ml = 0 := mvsE_no (fun i hi => by rw [List.nil_append]; exact h0 i hi hi)
  have hun := u_names hnr hz
  have hnd := (mvsE_nodup hz).1
  refine CW.exit (hE8 (.exit 0) nofun _ _ (hE6 (.exit 0) nofun _ _ (hX5 _ _ ?_)))
  refine hK3 _ _ (CW.s1 (fun hK15 => CW.s1 (fun hK16 => CW.region ?_)))
  refine LR.m1 ?_
  refine LR.v1 (Y.len hm rfl u'24 rfl) ?_
  refine LR.m1 (LR.nil (hK16 _ _ ?_))
  refine CW.block (fun _ _ hX17 _ => ?_)
  refine CW.loop (fun (s_ : (Nat) × (List (List UInt8 × Ide))) => match s_ with | (i, mm) => [(1, v), (5, .map (some mb)), (53, v), (54, .int .i64 (ml.length : Int)), (55, .int .i64 (i : Int))])
   (fun (s_ : (Nat) × (List (List UInt8 × Ide))) (H : Heap) => match s_ with | (i, mm) => (i ≤ ml.length) ∧ (Mp H Str vA mb mm) ∧ (∀ q, mget mm q = mget ((ml.take i).foldl mvR (rlM s.rl)) q) ∧ Mo (Ms [(mb + 1)]) HL1 H)
   (fun (s_ : (Nat) × (List (List UInt8 × Ide))) => match s_ with | (i, mm) => ml.length - i) (0, tabL s.rl) ⟨rfl, rfl, rfl, rfl, rfl, trivial⟩ ?_ ?_
  ·
   exact ⟨(by omega), tm, htq, Mo.refl _ _⟩
  rintro ⟨i, mm⟩ HL2 hI2 K18 hN18 hE18
  obtain ⟨hi, tm, hq, hlm2⟩ := hI2
  replace mx := mx.upL hlm2 (DFL.o df5)
  replace hm := hm.upL hlm2 (DFL.o df7)
  replace hm0 := hm0.tq hlm2 (MIL.o (MI.q nx9))
  have hz13 := hlm2.size
  have nx_hlm2_tm := Nx.refl (mb + 1) HL1.size
  refine CW.s1 (fun hK19 => CW.region ?_)
  refine LR.v1 (Y.lss rfl rfl rfl) (LR.nil (hK19 _ _ ?_))
  refine CW.s2 (fun hK20 hE20 => ?_)
  refine CW.condp rfl (fun c56 => ?_) (fun c56 => ?_)
  ·
   refine CW.skip (hK20 _ _ (CW.s1 (fun hK21 => CW.block (fun _ hK22 _ _ => CW.s1 (fun hK23 => CW.region ?_)))))
   have hil : i < ml.length := by omega
   obtain ⟨y, hey⟩ : ∃ q, q = ml[i] := ⟨_, rfl⟩
   have hmy : y ∈ ml := by rw [hey]; exact List.getElem_mem hil
   refine LR.e1 (g := fun ad => .pointer (some ad)) (Y.iF hm (i) rfl u'24 s'52 rfl rfl) fun ad57 pt57 => ?_
   refine LR.v1 (Y.cast (v2 := .agg (fMv y).toArray) (Y.loadN pt57.pt rfl a'52 s'52 (fMv_len _) rfl) (by rw [hey])) ?_
   refine LR.z1 (Z.allocv rfl z'52) fun v10 H10 r10 => ?_
   obtain ⟨rfl, vn, hs10, ob10, hH10⟩ := r10
   have hzs10 : H10.size = HL2.size + 1 := by rw [hH10]; simp
   have dj28 : Dj (mb + 1) (HL2.size + 1) := Dj.new tm.le
   have nx31 : Nx 0 HL1.size (HL2.size + 1) := Nx.new hlm2.size
   replace tm := tm.nw hs10
   replace hlm2 := hlm2.trN hs10
   have hz14 := hs10.size
   refine LR.s1 (S.var vn (_) (fMv y) rfl rfl rfl rfl (fMv_one y) s'52 (fMv_len _) (by decide) ((splice_all2 (fMv_len _).symm))) fun H11_3 r11_3 => ?_
   obtain ⟨vn, hs11_3⟩ := r11_3
   replace hs11_3 := hs11_3.md1
   replace tm := tm.upL hs11_3 (DL.o dj28)
   replace hlm2 := hlm2.trL hs11_3 (MIL.o (MI.q nx31))
   have hz15 := hs11_3.size
   refine LR.nil (hK23 _ _ (CW.region ?_))
   refine LR.m1 ?_
   refine LR.v1 (Y.loadN vn.pt rfl a'52 s'52 (fMv_len _) rfl) ?_
   refine LR.call rfl c'54 rfl (Wd.u rfl) rfl rfl (move_ct mb mm y w0 _ tm) (fun v61 H61 r61 => ?_)
   obtain ⟨rfl, tm, hs61⟩ := r61
   replace hlm2 := hlm2.trL hs61 (MIL.o (MI.r nx_hlm2_tm))
   have hz16 := hs61.size
   refine LR.nil (hK22 _ _ (hK21 _ _ (CW.region ?_)))
   refine LR.v1 (Y.addi rfl rfl rfl (by omega)) ?_
   refine LR.m1 (LR.nil ?_)
   refine QN.sub (hN18 (i + 1, movL mm y) _ ?_ ?_) ⟨rfl, rfl, rfl, (iv (by omega)), (iv (by omega)), trivial⟩
   · exact ⟨(by omega), tm, (fun q => by rw [foldl_take hil, ← hey, mget_movL, mget_mvR (gasc_mvRs ga), hq]), hlm2⟩
   · first | omega | (simp only; omega) | (simp; omega)
  ·
   obtain rfl : i = ml.length := by omega
   rw [List.take_length] at hq
   have hml2 := mget_len tm.mo.nodup (gasc_mvRs ga).nodup hq
   refine CW.exit (hE20 (.exit 2) nofun _ _ (hE18 (.exit 2) nofun _ _ (hX17 _ _ ?_)))
   refine hK15 _ _ (CW.s2 (fun hK24 hE24 => CW.s1 (fun hK25 => CW.region ?_)))
   refine LR.m1 ?_
   refine LR.v1 (Y.mlen tm.mo rfl u'130 rfl) ?_
   refine LR.v1 (Y.gtr rfl rfl rfl) (LR.nil (hK25 _ _ ?_))
   refine CW.condp rfl (fun c65 => ?_) (fun c65 => ?_)
   ·
    refine CW.s1 (fun hK26 => CW.region ?_)
    refine LR.a1 (LR.nil (hK26 _ _ ?_))
    refine CW.ret (hE24 .ret nofun _ _ (hret .ret (.inr rfl) _ _ _ (res1 rfl rfl) ?_))
    exact ⟨by rw [movesE, if_neg (by rw [hz]; decide), if_pos (by omega)], hm0⟩
   ·
    have h200 : (ml.foldl mvR (rlM s.rl)).length ≤ 200 := by omega
    refine CW.skip (hK24 _ _ (CW.s2 (fun hK27 hE27 => CW.s1 (fun hK28 => CW.region ?_))))
    refine LR.m1 ?_
    refine LR.v1 (Y.len hm rfl u'24 rfl) ?_
    refine LR.m1 (LR.nil (hK28 _ _ ?_))
    refine CW.block (fun _ _ hX29 hE29 => ?_)
    refine CW.loop (fun (s_ : (Nat) × (List (List UInt8 × Ide))) => match s_ with | (i3, m3) => [(5, .map (some mb)), (66, v), (67, .int .i64 (ml.length : Int)), (68, .int .i64 (i3 : Int))])
     (fun (s_ : (Nat) × (List (List UInt8 × Ide))) (H : Heap) => match s_ with | (i3, m3) => (i3 ≤ ml.length) ∧ (Mp H Str vA mb m3) ∧ (∀ q, mget m3 q = mget (ml.foldl mvR (rlM s.rl)) q) ∧ (∀ m ∈ ml.take i3, fitB (ml.foldl mvR (rlM s.rl)) m = false) ∧ Mo (Ms [(mb + 1)]) HL2 H)
     (fun (s_ : (Nat) × (List (List UInt8 × Ide))) => match s_ with | (i3, m3) => ml.length - i3) (0, mm) ⟨rfl, rfl, rfl, rfl, trivial⟩ ?_ ?_
    ·
     exact ⟨(by omega), tm, hq, (fun m h => by simp at h), Mo.refl _ _⟩
    rintro ⟨i3, m3⟩ HL3 hI3 K30 hN30 hE30
    obtain ⟨hi3, tm, hq3, h3, hlm3⟩ := hI3
    replace mx := mx.upL hlm3 (DFL.o df5)
    replace hm := hm.upL hlm3 (DFL.o df7)
    replace hm0 := hm0.tq hlm3 (MIL.o (MI.q nx9))
    have hz17 := hlm3.size
    have nx_hlm3_tm := Nx.refl (mb + 1) HL2.size
    refine CW.s1 (fun hK31 => CW.region ?_)
    refine LR.v1 (Y.lss rfl rfl rfl) (LR.nil (hK31 _ _ ?_))
    refine CW.s2 (fun hK32 hE32 => ?_)
    refine CW.condp rfl (fun c69 => ?_) (fun c69 => ?_)
    ·
     refine CW.skip (hK32 _ _ (CW.s2 (fun hK33 hE33 => CW.block (fun _ hK34 hX34 hE34 => CW.s1 (fun hK35 => CW.region ?_)))))
     have hil : i3 < ml.length := by omega
     obtain ⟨y, hey⟩ : ∃ q, q = ml[i3] := ⟨_, rfl⟩
     have hmy : y ∈ ml := by rw [hey]; exact List.getElem_mem hil
     refine LR.e1 (g := fun ad => .pointer (some ad)) (Y.iF hm (i3) rfl u'24 s'52 rfl rfl) fun ad70 pt70 => ?_
     refine LR.v1 (Y.cast (v2 := .agg (fMv y).toArray) (Y.loadN pt70.pt rfl a'52 s'52 (fMv_len _) rfl) (by rw [hey])) ?_
     refine LR.z1 (Z.allocv rfl z'52) fun v12 H12 r12 => ?_
     obtain ⟨rfl, vq, hs12, ob12, hH12⟩ := r12
     have hzs12 : H12.size = HL3.size + 1 := by rw [hH12]; simp
     have df32 := (DF.new (bf_mx.mono hm0.size) : DF _ (HL3.size + 1))
     have dj35 : Dj (mb + 1) (HL3.size + 1) := Dj.new tm.le
     have nx37 : Nx 0 H0.size (HL3.size + 1) := Nx.new hm0.size
     have nx38 : Nx 0 HL2.size (HL3.size + 1) := Nx.new hlm3.size
     replace mx := mx.nw hs12
     replace tm := tm.nw hs12
     replace hm0 := hm0.tr hs12
     replace hlm3 := hlm3.trN hs12
     have hz18 := hs12.size
     refine LR.s1 (S.var vq (_) (fMv y) rfl rfl rfl rfl (fMv_one y) s'52 (fMv_len _) (by decide) ((splice_all2 (fMv_len _).symm))) fun H18_3 r18_3 => ?_
     obtain ⟨vq, hs18_3⟩ := r18_3
     replace hs18_3 := hs18_3.md1
     replace mx := mx.upL hs18_3 (DFL.o df32)
     replace tm := tm.upL hs18_3 (DL.o dj35)
     replace hm0 := hm0.tq hs18_3 (MIL.o (MI.q nx37))
     replace hlm3 := hlm3.trL hs18_3 (MIL.o (MI.q nx38))
     have hz19 := hs18_3.size
     refine LR.nil (hK35 _ _ (CW.s2 (fun hK36 hE36 => CW.s1 (fun hK37 => CW.region ?_))))
     refine LR.v1 (Y.FA vq.pt rfl u'52 rfl s'26) ?_
     refine LR.v1 (Y.cast (v2 := vA y.o) (Y.loadN ((vq.pt.drop 1).take 32) rfl a'26 s'26 (by rw [fMv_o]; exact fA_len _) rfl) (congrArg (fun z : List Value => Value.agg z.toArray) (fMv_o _))) ?_
     refine LR.call rfl c'55 rfl (Wd.u rfl) rfl rfl (rnone_ct y.o w0 _) (fun v74 H74 r74 => ?_)
     obtain ⟨rfl, hs74⟩ := r74
     replace mx := mx.nw hs74
     replace tm := tm.nw hs74
     replace vq := vq.nw hs74
     replace hm0 := hm0.tr hs74
     replace hlm3 := hlm3.trN hs74
     have hz20 := hs74.size
     refine LR.v1 (Y.notp rfl rfl) ?_
     refine LR.m1 ?_
     refine LR.splitp (d := 76) rfl (fun g76 => ?_) (fun g76 => ?_)
     ·
      refine LR.g1 ?_
      refine LR.g1 ?_
      refine LR.g1 ?_
      refine LR.v1 (Y.pick_t rfl rfl rfl) (LR.nil (hK37 _ _ ?_))
      refine CW.cond_t rfl ?_
      refine CW.exit (hE36 (.exit 5) nofun _ _ (hX34 _ _ ?_))
      refine hK33 _ _ (CW.region ?_)
      refine LR.v1 (Y.addi rfl rfl rfl (by omega)) ?_
      refine LR.m1 (LR.nil ?_)
      refine QN.sub (hN30 (i3 + 1, m3) _ ?_ ?_) ⟨rfl, rfl, (iv (by omega)), (iv (by omega)), trivial⟩
      · exact ⟨(by omega), tm, hq3, all_snoc h3 hil (by rw [← hey]; unfold fitB; rw [decide_eq_false (by first | exact hyc | (intro h; simp_all))]; rfl), hlm3⟩
      · first | omega | (simp only; omega) | (simp; omega)
     ·
      refine LR.w1 (Y.FA vq.pt rfl u'52 rfl s'26) ?_
      refine LR.w1 (Y.cast (v2 := vA y.w) (Y.loadN ((vq.pt.drop 33).take 32) rfl a'26 s'26 (by rw [fMv_w]; exact fA_len _) rfl) (congrArg (fun z : List Value => Value.agg z.toArray) (fMv_w _))) ?_
      refine LR.call rfl c'55 rfl (Wd.g rfl rfl rfl) rfl rfl (rnone_ct y.w w0 _) (fun v79 H79 r79 => ?_)
      obtain ⟨rfl, hs79⟩ := r79
      replace mx := mx.nw hs79
      replace tm := tm.nw hs79
      replace vq := vq.nw hs79
      replace hm0 := hm0.tr hs79
      replace hlm3 := hlm3.trN hs79
      have hz21 := hs79.size
      refine LR.v1 (Y.pick_f rfl rfl rfl) (LR.nil (hK37 _ _ ?_))
      refine CW.condp rfl (fun c80 => ?_) (fun c80 => ?_)
      ·
       have hyc : ¬ (y.o = Zid ∧ y.w ≠ Zid) := by first | (intro h; simp_all)
       refine CW.exit (hE36 (.exit 5) nofun _ _ (hX34 _ _ ?_))
       refine hK33 _ _ (CW.region ?_)
       refine LR.v1 (Y.addi rfl rfl rfl (by omega)) ?_
       refine LR.m1 (LR.nil ?_)
       refine QN.sub (hN30 (i3 + 1, m3) _ ?_ ?_) ⟨rfl, rfl, (iv (by omega)), (iv (by omega)), trivial⟩
       · exact ⟨(by omega), tm, hq3, all_snoc h3 hil (by rw [← hey]; unfold fitB; rw [decide_eq_false (by first | exact hyc | (intro h; simp_all))]; rfl), hlm3⟩
       · first | omega | (simp only; omega) | (simp; omega)
      ·
       have hyc : y.o = Zid ∧ y.w ≠ Zid := by first | exact ⟨by simpa using g76, by assumption⟩ | (constructor <;> simp_all)
       refine CW.skip (hK36 _ _ (CW.s1 (fun hK38 => CW.region ?_)))
       refine LR.m1 ?_
       refine LR.v1 (Y.FA vq.pt rfl u'52 rfl s'9) ?_
       refine LR.v1 (Y.load1 vq.pt rfl a'9 rfl) ?_
       refine LR.zn (Z.delS tm keyStr rfl u'130 Tryz.underlying9 rfl rfl) (Wd.u rfl) rfl (fun v20_3 H20_3 r20_3 => ?_)
       obtain ⟨rfl, tm, hs20_3⟩ := r20_3
       replace hs20_3 := hs20_3.md1
       replace mx := mx.upL hs20_3 (DFL.o df5)
       replace vq := vq.upL hs20_3 (DL.o dj35.symm)
       replace hm0 := hm0.tq hs20_3 (MIL.o (MI.q nx9))
       replace hlm3 := hlm3.trL hs20_3 (MIL.o (MI.r nx_hlm3_tm))
       have hz22 := hs20_3.size
       refine LR.nil (hK38 _ _ (CW.s1 (fun hK39 => ?_)))
       refine CW.region_any (fun Hq => Nw H20_3 Hq) [] rfl ?_
       have hqs := Nw.refl H20_3
       refine LH.t1 0 rfl (fun Hq hq => Y.FA (vq.pt.nw hq) rfl u'52 rfl s'9) hqs ?_
       refine LH.t1 1 rfl (fun Hq hq => Y.load1 (vq.pt.nw hq) rfl a'9 rfl) hqs ?_
       refine LH.m1 2 rfl hqs ?_
       refine LH.o1 3 ?_
       refine LO.call rfl rfl c'58 rfl (Wd.u rfl) rfl rfl (keysR mb w0 _) (fun v87 H87 r87 => ?_)
       obtain ⟨bx, rfl, hx, hkx, hs87⟩ := r87
       replace mx := mx.nw hs87
       replace tm := tm.nw hs87
       replace vq := vq.nw hs87
       replace hm0 := hm0.tr hs87
       replace hlm3 := hlm3.trN hs87
       have hz23 := hs87.size
       have hle_hx := hx.le
       have hq87 := hqs.tr hs87
       refine ⟨.inr hq87, LH.narrow (SH2 := fun Hq => Nw H87 Hq) (fun Hq hq => hq87.tr hq) ?_⟩
       have hqn87 := Nw.refl H87
       refine LH.o1 4 ?_
       have hm3l := mget_len tm.mo.nodup (show ((mdel (ml.foldl mvR (rlM s.rl)) y.n).map (·.1)).Nodup from (gasc_del (gasc_mvRs ga) _).nodup) (fun q => by rw [mget_del, mget_del, hq3])
       have hdl : (mdel (ml.foldl mvR (rlM s.rl)) y.n).length ≤ (ml.foldl mvR (rlM s.rl)).length := List.length_filter_le _ _
       refine LO.call rfl rfl c'133 rfl (Wd.u rfl) rfl rfl (collectR bx mb vA (mdel m3 y.n) w0 _ hx tm (by omega)) (fun v88 H88 r88 => ?_)
       obtain ⟨s88, k88, out88, rfl, ow88, hk88, hout88, hs88⟩ := r88
       replace mx := mx.nw hs88
       replace tm := tm.nw hs88
       replace vq := vq.nw hs88
       replace hx := hx.nw hs88
       replace hm0 := hm0.tr hs88
       replace hlm3 := hlm3.trN hs88
       have hz24 := hs88.size
       have hle_ow88 := ow88.le
       obtain ⟨hf1, hf2⟩ := fit_eq hq3 hout88.2
       have hyk := mvsE_names hz y hmy
       have hfe : fitsL y.n out88 = if fitB (ml.foldl mvR (rlM s.rl)) y = true then 13 else 0 := by rw [fits_any hyk hf2, hf1]; unfold fitB; rw [decide_eq_true hyc, Bool.true_and]
       have hol : ∀ x ∈ out88, x.length ≤ 140737488355328 := fun x hx => by
        have h9 := (hout88.2 x).1 hx
        rw [← isSome_iff_key, mget_del] at h9
        split at h9
        · cases h9
        · rw [hq3, isSome_iff_key] at h9
          obtain ⟨z, hz9, rfl⟩ := List.mem_map.1 h9
          have := hun z hz9; omega
       have hq88 := hqn87.tr hs88
       refine ⟨.inr hq88, LH.narrow (SH2 := fun Hq => Nw H88 Hq) (fun Hq hq => hq88.tr hq) ?_⟩
       have hqn88 := Nw.refl H88
       refine LH.o1 5 ?_
       refine LO.call rfl rfl c'132 rfl (Wd.u rfl) rfl rfl (fits_ct y.n _ out88 mx_ w0 _ mx (bf_mx.mono (by omega)) ow88.rd.any (hnl y hmy) hol) (fun v89 H89 r89 => ?_)
       obtain ⟨rfl, hs89⟩ := r89
       replace tm := tm.nw hs89
       replace vq := vq.nw hs89
       replace hm0 := hm0.tr hs89
       replace hlm3 := hlm3.trN hs89
       have hz25 := hs89.size
       have hq89 := hqn88.tr hs89
       refine ⟨.inr hq89, LH.narrow (SH2 := fun Hq => Nw H89 Hq) (fun Hq hq => hq89.tr hq) ?_⟩
       have hqn89 := Nw.refl H89
       refine LH.t1 6 rfl (fun Hq hq => Y.assign rfl rfl) hqn89 ?_
       refine LH.done (by kernel_rfl) ?_
       have hqe := hqn89
       refine hK39 _ _ (CW.s1 (fun hK40 => CW.region ?_))
       refine LR.m1 ?_
       refine LR.v1 (Y.FA vq.pt rfl u'52 rfl s'9) ?_
       refine LR.v1 (Y.load1 vq.pt rfl a'9 rfl) ?_
       refine LR.v1 (Y.FA vq.pt rfl u'52 rfl s'26) ?_
       refine LR.v1 (Y.cast (v2 := vA y.w) (Y.loadN ((vq.pt.drop 33).take 32) rfl a'26 s'26 (by rw [fMv_w]; exact fA_len _) rfl) (congrArg (fun z : List Value => Value.agg z.toArray) (fMv_w _))) ?_
       refine LR.s1 (S.putMp (y.w) tm keyStr rfl u'130 Tryz.underlying9 rfl rfl rfl) fun H22_5 r22_5 => ?_
       obtain ⟨tm, hs22_5⟩ := r22_5
       replace hs22_5 := hs22_5.md1
       replace hm0 := hm0.tq hs22_5 (MIL.o (MI.q nx9))
       replace hlm3 := hlm3.trL hs22_5 (MIL.o (MI.r nx_hlm3_tm))
       have hz26 := hs22_5.size
       refine LR.nil (hK40 _ _ (CW.s1 (fun hK41 => CW.region ?_)))
       refine LR.m1 ?_
       refine LR.v1 (Y.neq rfl rfl rfl) (LR.nil (hK41 _ _ ?_))
       refine CW.condp rfl (fun c96 => ?_) (fun c96 => ?_)
       ·
        refine CW.s1 (fun hK42 => CW.region ?_)
        refine LR.m1 ?_
        refine LR.a1 (LR.nil (hK42 _ _ ?_))
        refine CW.ret (hE34 .ret nofun (by simp) _ _ (hE33 .ret nofun _ _ (hE30 .ret nofun _ _ (hE29 .ret nofun (by simp) _ _ (hE27 .ret nofun _ _ (hret .ret (.inr rfl) _ _ _ (res1 rfl rfl) ?_))))))
        exact ⟨by have hfb : fitB (ml.foldl mvR (rlM s.rl)) y = true := (by cases hfb : fitB (ml.foldl mvR (rlM s.rl)) y with | true => rfl | false => exact absurd (by rw [hfe, hfb]; rfl) c96); rw [movesE, if_neg (by rw [hz]; decide), if_neg (by omega), fitE_at hmy hfb, hfe, if_pos hfb], hm0⟩
       ·
        refine CW.skip (hK34 _ _ (hK33 _ _ (CW.region ?_)))
        refine LR.v1 (Y.addi rfl rfl rfl (by omega)) ?_
        refine LR.m1 (LR.nil ?_)
        refine QN.sub (hN30 (i3 + 1, mput (mdel m3 y.n) y.n y.w) _ ?_ ?_) ⟨rfl, rfl, (iv (by omega)), (iv (by omega)), trivial⟩
        · exact ⟨(by omega), tm, (fun q => by
           rw [mget_put, mget_del]
           by_cases hqn : q = y.n
           · rw [if_pos hqn, hqn, mvRs_in ga hnd hmy, if_neg hyc.2]
           · rw [if_neg hqn, if_neg hqn, hq3]), all_snoc h3 hil (by rw [← hey]; cases hfb : fitB (ml.foldl mvR (rlM s.rl)) y with | false => rfl | true => exact absurd (by rw [hfe, hfb]; decide) c96), hlm3⟩
        · first | omega | (simp only; omega) | (simp; omega)
    ·
     refine CW.exit (hE32 (.exit 4) nofun _ _ (hE30 (.exit 4) nofun _ _ (hX29 _ _ ?_)))
     refine hK27 _ _ (CW.s1 (fun hK43 => CW.region ?_))
     refine LR.a1 (LR.nil (hK43 _ _ ?_))
     refine CW.ret (hret .ret (.inr rfl) _ _ _ (res1 rfl rfl) ?_)
     exact ⟨by obtain rfl : i3 = ml.length := (by omega); rw [List.take_length] at h3; rw [movesE, if_neg (by rw [hz]; decide), if_neg (by omega), fitE_no h3], hm0⟩
end Go.Proofs.YtfjmpninmdjcaaaGreatDoor.RefD

namespace Go.Proofs.YtfjmpninmdjcaaaGreatDoor.RefE
open E Go.RowKit NamA NamB NamC NamD RefA RefB RefP RefQ RefR RefC RefD
set_option maxRecDepth 20000
set_option maxRecDepth 100000 in
theorem inf244 : Inf Tryz.prog 244 35 1 8 := ⟨Tryz.underlying244, _, _, rfl, rfl, rfl, rfl, rfl⟩
theorem key_step {l : List TMm} {m : List (Ide × Int)} {P : Ide → Prop} {j : Nat} {n : Int} (h : ∀ k, (mget m k).isSome = true ↔ P k ∨ ∃ x ∈ l.take j, x.k = k) (hj : j < l.length) : ∀ k, (mget (mput m l[j].k n) k).isSome = true ↔ P k ∨ ∃ x ∈ l.take (j + 1), x.k = k := by
 intro k
 rw [mget_put, List.take_succ_eq_append_getElem hj]
 by_cases hk : k = l[j].k
 · rw [if_pos hk]
   exact ⟨fun _ => .inr ⟨l[j], List.mem_append_right _ (List.mem_singleton.2 rfl), hk.symm⟩, fun _ => rfl⟩
 · rw [if_neg hk, h]
   constructor
   · rintro (h1 | ⟨x, hx, e⟩)
     · exact .inl h1
     · exact .inr ⟨x, List.mem_append_left _ hx, e⟩
   · rintro (h1 | ⟨x, hx, e⟩)
     · exact .inl h1
     · rcases List.mem_append.1 hx with hx | hx
       · exact .inr ⟨x, hx, e⟩
       · rw [List.mem_singleton.1 hx] at e; exact absurd e.symm hk
def fst2 (a b : Int) : Int := if a ≠ 0 then a else b
theorem first2 (a b : Int) : firstL [a, b] = fst2 a b := by
 unfold fst2
 by_cases h : a ≠ 0
 · simp [firstL, h]
 · have h : a = 0 := by simpa using h
   subst h
   by_cases h2 : b = 0 <;> simp [firstL, h2]
theorem fst2_assoc (a b c : Int) : fst2 (fst2 a b) c = fst2 a (fst2 b c) := by
 unfold fst2
 by_cases h : a ≠ 0
 · rw [if_pos h, if_pos h, if_pos h]
 · rw [if_neg h, if_neg h]
theorem chkE_eq (s : MSt) (t : TTx) : chkE s t = fst2 (fst2 (fst2 (fst2 (noneE t) (headE2 t)) (movesE s.rf t.ml)) (sqE2 t)) (memsE s.me t.el) := by
 rw [fst2_assoc, fst2_assoc, fst2_assoc]; rfl
theorem hd_T {t : TTx} {a : Int} (h1 : t.hh = true) (h2 : t.hd ≠ []) : some (Value.int .i64 (fst2 a (chk t.hd))) = some (Value.int .i64 (fst2 a (headE2 t))) := by unfold headE2; rw [if_pos ⟨h1, h2⟩]
theorem fst2_0 (a : Int) : fst2 a 0 = a := by unfold fst2; by_cases h : a ≠ 0 <;> simp_all
theorem hd_F {t : TTx} {a : Int} (h : t.hh = false ∨ t.hd = []) : some (Value.int .i64 a) = some (Value.int .i64 (fst2 a (headE2 t))) := by
 unfold headE2
 rw [if_neg, fst2_0]
 rintro ⟨h1, h2⟩
 rcases h with h | h
 · rw [h] at h1; cases h1
 · exact h2 h
theorem sq_T {t : TTx} {a : Int} (h1 : t.hs = true) : some (Value.int .i64 (fst2 a (if t.q.k ≠ 0 then seqE t.q else 0))) = some (Value.int .i64 (fst2 a (sqE2 t))) := by unfold sqE2; simp [h1]
theorem sq_F {t : TTx} {a : Int} (h1 : t.hs = false) : some (Value.int .i64 a) = some (Value.int .i64 (fst2 a (sqE2 t))) := by unfold sqE2; simp [h1, fst2_0]
theorem none_must (t : TTx) : mustL (decide (noneE t = 0)) 1 = noneE t := by
 unfold mustL noneE
 split <;> simp_all
theorem none_T {t : TTx} (h : t.hh = true ∨ t.hs = true ∨ 0 < t.ml.length ∨ 0 < t.el.length) : true = decide (noneE t = 0) := by
 refine (decide_eq_true ?_).symm
 unfold noneE
 rw [if_neg]
 rintro ⟨h1, h2, h3, h4⟩
 rw [h1, h2, h3, h4] at h; simp at h
theorem none_D {t : TTx} (h1 : t.hh = false) (h2 : t.hs = false) (h3 : ¬ 0 < t.ml.length) : decide ((t.el.length : Int) > 0) = decide (noneE t = 0) := by
 unfold noneE
 have h3 : t.ml = [] := List.length_eq_zero_iff.1 (by omega)
 cases h4 : t.el with
 | nil => simp [h1, h2, h3]
 | cons a l => simp [h1, h2, h3]
theorem todoE_all : ∀ {l : List TTd}, todoE l = 0 → ∀ t ∈ l, 1 ≤ t.d ∧ t.d ≤ 3
 | [], _, t, h => by cases h
 | a :: l, h, t, ht => by
   rw [todoE] at h
   by_cases e : stepE a ≠ 0
   · rw [if_pos e] at h; exact absurd h e
   · rw [if_neg e] at h
     rcases List.mem_cons.1 ht with rfl | ht
     · apply Decidable.byContradiction
       intro h3
       unfold stepE at e
       rw [if_pos h3] at e; exact e (by decide)
     · exact todoE_all h t ht
theorem encq_of {x : TSq} (h : seqE x = 0) : EncQ x ∧ (x.k = 1 ∨ x.k = 2) := by
 unfold seqE at h
 split at h
 · cases h
 rename_i h1
 split at h
 · cases h
 rename_i h2
 split at h
 · cases h
 rename_i h3
 split at h
 · cases h
 rename_i h4
 have ha : argB x = true := by cases e : argB x with | true => rfl | false => exact absurd e h3
 obtain ⟨_, _, a3, a4, a5, a6, _⟩ := of_decide_eq_true ha
 have hb := ((chk_iff x.br).1 (by simpa using h2)).1
 have hk : x.k = 1 ∨ x.k = 2 := Decidable.not_not.1 h1
 exact ⟨⟨by omega, by omega, by omega, by omega, by omega, fun t ht => by have := todoE_all h t ht; omega⟩, hk⟩
structure TxS (t : TTx) : Prop where
 ml : t.ml.length ≤ 65535
 el : t.el.length ≤ 65535
 my : ∀ m ∈ t.ml, m.y.length ≤ 65535
 mn : ∀ m ∈ t.ml, m.n.length ≤ 140737488355328
 hd : t.hd.length ≤ 140737488355328
 br : t.q.br.length ≤ 140737488355328
 td : t.q.td.length ≤ 1048576
 ln : (encT t).length ≤ 1048576
theorem encX_of {s : MSt} {t : TTx} (h : TxS t) (c : chkE s t = 0) : EncX t := by
 have c := chkE_zero c
 refine ⟨h.ml, h.el, fun hh => ?_, fun m hm => ⟨?_, h.my m hm⟩, fun m hm => ?_, fun hs => ?_, fun hs hk => ?_⟩
 · have h1 := c.hd
   unfold headE2 at h1
   by_cases h2 : t.hd = []
   · rw [h2]; simp
   · rw [if_pos ⟨hh, h2⟩] at h1
     have := ((chk_iff t.hd).1 h1).1; omega
 · have := ((chk_iff m.n).1 (mvsE_names c.mv m hm)).1; omega
 · have h1 := memAll_zero c.me m hm
   unfold memE at h1
   split at h1
   · cases h1
   · split at h1
     · cases h1
     · omega
 · have h1 := c.sq
   unfold sqE2 at h1
   by_cases h2 : t.q.k = 0
   · omega
   · rw [if_pos ⟨hs, h2⟩] at h1
     have := (encq_of h1).2; omega
 · have h1 := c.sq
   unfold sqE2 at h1
   rw [if_pos ⟨hs, hk⟩] at h1
   exact (encq_of h1).1
set_option maxHeartbeats 4000000 in
theorem memory_ct (s : TSt) (v : Value) (el : List TMm) (F : Nat → Prop) (w0 : World) (H0 : Heap)
 (hs : StR F H0 s) (bf_hs : BF F H0.size) (he : RdT H0 fMm 33 v el) (hd : ∀ y ∈ el, RdT H0 fB 1 y.v.v y.d) (ga : GAsc (elM s.el)) :
 Ct Tryz.prog w0 51 #[stV s, v] H0 (fun r H2 => r = .int .i64 (memsE (elM s.el) el) ∧ Nw H0 H2) := by
 refine Ct.enter (args := [stV s, v]) Tryz.func51 rfl rfl rfl ?_
 intro Q0 hret
 have hm0 : Nw H0 H0 := Mo.refl _ _
 replace he := he.bnd
 have bf_he := he.bf
 replace hd := fun y hy0 => (hd y hy0).bnd
 have bf_hd : BF (fun b => True ∧ b < H0.size) H0.size := fun b h => h.2
 have hel := he.len
 have hsl := hs.e.len
 refine CW.s1 (fun hK1 => CW.region ?_)
 refine LR.z1 (Z.boxv rfl rfl) fun v2 H2 r2 => ?_
 obtain ⟨rfl, va, hs2, ob2, hH2⟩ := r2
 have hzs2 : H2.size = H0.size + 1 := by rw [hH2]; simp
 replace hs := hs.nw hs2
 replace he := he.nw hs2
 replace hd := fun y hy0 => (hd y hy0).nw hs2
 replace hm0 := hm0.tr hs2
 have hz1 := hs2.size
 replace va : Var 47 H2 H0.size (fSt s) := va
 refine LR.a1 (LR.nil (hK1 _ _ ?_))
 refine CW.s1 (fun hK2 => CW.region ?_)
 refine LR.z1 (Z.makeMp vA (Value.int .i64) rfl) fun v11 H11 r11 => ?_
 obtain ⟨rfl, tk, hs11, ob11, hH11⟩ := r11
 have hzs11 : H11.size = H2.size + 1 := by rw [hH11]; simp
 have df5 := (DF.new (bf_hs.mono hm0.size) : DF _ (H2.size + 1))
 have df6 := (DF.new (bf_he.mono hm0.size) : DF _ (H2.size + 1))
 have df7 := (DF.new (bf_hd.mono hm0.size) : DF _ (H2.size + 1))
 have nx9 : Nx 0 H0.size (H2.size + 1) := Nx.new hm0.size
 replace hs := hs.nw hs11
 replace he := he.nw hs11
 replace hd := fun y hy0 => (hd y hy0).nw hs11
 replace va := va.nw hs11
 replace hm0 := hm0.tr hs11
 have hz2 := hs11.size
 have hlt_tk := tk.lt
 refine LR.a1 (LR.nil (hK2 _ _ ?_))
 refine CW.s1 (fun hK3 => CW.s1 (fun hK4 => CW.region ?_))
 refine LR.v1 (Y.FA va.pt rfl u'47 rfl s'30) ?_
 refine LR.v1 (Y.load1 va.pt.st73 rfl a'30 rfl) ?_
 refine LR.v1 (Y.len hs.e rfl u'30 rfl) ?_
 refine LR.m1 (LR.nil (hK4 _ _ ?_))
 refine CW.block (fun _ _ hX5 _ => ?_)
 refine CW.loop (fun (s_ : (Nat) × (List (Ide × Int))) => match s_ with | (j, m1) => [(1, v), (5, .map (some H2.size)), (13, s.ev.v), (14, .int .i64 (s.el.length : Int)), (15, .int .i64 (j : Int))])
  (fun (s_ : (Nat) × (List (Ide × Int))) (H : Heap) => match s_ with | (j, m1) => (j ≤ s.el.length) ∧ (Mp H vA (Value.int .i64) H2.size m1) ∧ (∀ k, (mget m1 k).isSome = true ↔ False ∨ ∃ x ∈ s.el.take j, x.k = k) ∧ Mo (Ms [(H2.size + 1)]) H11 H)
  (fun (s_ : (Nat) × (List (Ide × Int))) => match s_ with | (j, m1) => s.el.length - j) (0, []) ⟨rfl, rfl, rfl, rfl, rfl, trivial⟩ ?_ ?_
 ·
  exact ⟨(by omega), tk, (fun k => by simp [mget]), Mo.refl _ _⟩
 rintro ⟨j, m1⟩ HL1 hI1 K6 hN6 hE6
 obtain ⟨hj, tk, hk, hlm1⟩ := hI1
 replace hs := hs.upL hlm1 (DFL.o df5)
 replace he := he.upL hlm1 (DFL.o df6)
 replace hd := fun y hy0 => (hd y hy0).upL hlm1 (DFL.o df7)
 replace hm0 := hm0.tq hlm1 (MIL.o (MI.q nx9))
 have hz3 := hlm1.size
 have nx_hlm1_tk := Nx.refl (H2.size + 1) H11.size
 refine CW.s1 (fun hK7 => CW.region ?_)
 refine LR.v1 (Y.lss rfl rfl rfl) (LR.nil (hK7 _ _ ?_))
 refine CW.s2 (fun hK8 hE8 => ?_)
 refine CW.condp rfl (fun c16 => ?_) (fun c16 => ?_)
 ·
  refine CW.skip (hK8 _ _ (CW.s1 (fun hK9 => CW.block (fun _ hK10 _ _ => CW.s1 (fun hK11 => CW.region ?_)))))
  refine LR.m1 ?_
  have hil : j < s.el.length := by omega
  obtain ⟨y, hey⟩ : ∃ q, q = s.el[j] := ⟨_, rfl⟩
  have hmy : y ∈ s.el := by rw [hey]; exact List.getElem_mem hil
  refine LR.e1 (g := fun ad => .pointer (some ad)) (Y.iF hs.e (j) rfl u'30 s'68 rfl rfl) fun ad18 pt18 => ?_
  refine LR.v1 (Y.cast (v2 := .agg (fMm y).toArray) (Y.loadN pt18.pt rfl a'68 s'68 (fMm_len _) rfl) (by rw [hey])) ?_
  refine LR.z1 (Z.allocv rfl z'68) fun v7 H7 r7 => ?_
  obtain ⟨rfl, vm, hs7, ob7, hH7⟩ := r7
  have hzs7 : H7.size = HL1.size + 1 := by rw [hH7]; simp
  have df12 := (DF.new (bf_hd.mono hm0.size) : DF _ (HL1.size + 1))
  have dj13 : Dj (H2.size + 1) (HL1.size + 1) := Dj.new tk.lt
  have nx16 : Nx 0 H11.size (HL1.size + 1) := Nx.new hlm1.size
  replace hd := fun y hy0 => (hd y hy0).nw hs7
  replace tk := tk.nw hs7
  replace hlm1 := hlm1.trN hs7
  have hz4 := hs7.size
  refine LR.a1 ?_
  refine LR.s1 (S.var vm (_) (fMm y) rfl rfl rfl rfl (fMm_one y) s'68 (fMm_len _) (by decide) ((splice_all2 (fMm_len _).symm))) fun H4_5 r4_5 => ?_
  obtain ⟨vm, hs4_5⟩ := r4_5
  replace hs4_5 := hs4_5.md1
  replace hd := fun y hy0 => (hd y hy0).upL hs4_5 (DFL.o df12)
  replace tk := tk.upL hs4_5 (DL.o dj13)
  replace hlm1 := hlm1.trL hs4_5 (MIL.o (MI.q nx16))
  have hz5 := hs4_5.size
  refine LR.nil (hK11 _ _ (CW.region ?_))
  refine LR.m1 ?_
  refine LR.v1 (Y.FA vm.pt rfl u'68 rfl s'26) ?_
  refine LR.v1 (Y.cast (v2 := vA y.k) (Y.loadN (vm.pt.take 32) rfl a'26 s'26 (by rw [show (fMm y).take 32 = fA y.k from fMm_k y]; exact fA_len _) rfl) (congrArg (fun z : List Value => Value.agg z.toArray) (show (fMm y).take 32 = fA y.k from fMm_k y))) ?_
  refine LR.m1 ?_
  refine LR.s1 (S.putA ((j : Int)) tk keyId rfl u'251 rfl rfl rfl) fun H5_4 r5_4 => ?_
  obtain ⟨tk, hs5_4⟩ := r5_4
  replace hs5_4 := hs5_4.md1
  replace hd := fun y hy0 => (hd y hy0).upL hs5_4 (DFL.o df7)
  replace hlm1 := hlm1.trL hs5_4 (MIL.o (MI.r nx_hlm1_tk))
  have hz6 := hs5_4.size
  refine LR.nil (hK10 _ _ (hK9 _ _ (CW.region ?_)))
  refine LR.v1 (Y.addi rfl rfl rfl (by omega)) ?_
  refine LR.m1 (LR.nil ?_)
  refine QN.sub (hN6 (j + 1, mput m1 y.k (j : Int)) _ ?_ ?_) ⟨rfl, rfl, rfl, (iv (by omega)), (iv (by omega)), trivial⟩
  · exact ⟨(by omega), tk, (by rw [hey]; exact key_step hk hil), hlm1⟩
  · first | omega | (simp only; omega) | (simp; omega)
 ·
  obtain rfl : j = s.el.length := by omega
  rw [List.take_length] at hk
  refine CW.exit (hE8 (.exit 0) nofun _ _ (hE6 (.exit 0) nofun _ _ (hX5 _ _ ?_)))
  refine hK3 _ _ (CW.s2 (fun hK12 hE12 => CW.s1 (fun hK13 => CW.region ?_)))
  refine LR.m1 ?_
  refine LR.v1 (Y.len he rfl u'30 rfl) ?_
  refine LR.m1 (LR.nil (hK13 _ _ ?_))
  refine CW.block (fun _ _ hX14 hE14 => ?_)
  refine CW.loop (fun (s_ : (Nat) × (List (Ide × Int))) => match s_ with | (i, m2) => [(5, .map (some H2.size)), (25, v), (26, .int .i64 (el.length : Int)), (27, .int .i64 (i : Int))])
   (fun (s_ : (Nat) × (List (Ide × Int))) (H : Heap) => match s_ with | (i, m2) => (i ≤ el.length) ∧ (Mp H vA (Value.int .i64) H2.size m2) ∧ (∀ k, (mget m2 k).isSome = true ↔ (∃ x ∈ s.el, x.k = k) ∨ ∃ x ∈ el.take i, x.k = k) ∧ (∀ x ∈ el.take i, memE x = 0) ∧ Mo (Ms [(H2.size + 1)]) HL1 H)
   (fun (s_ : (Nat) × (List (Ide × Int))) => match s_ with | (i, m2) => el.length - i) (0, m1) ⟨rfl, rfl, rfl, rfl, trivial⟩ ?_ ?_
  ·
   exact ⟨(by omega), tk, (fun k => by rw [hk]; simp), (fun x h => by simp at h), Mo.refl _ _⟩
  rintro ⟨i, m2⟩ HL2 hI2 K15 hN15 hE15
  obtain ⟨hi, tk, hk2, h0, hlm2⟩ := hI2
  replace he := he.upL hlm2 (DFL.o df6)
  replace hd := fun y hy0 => (hd y hy0).upL hlm2 (DFL.o df7)
  replace hm0 := hm0.tq hlm2 (MIL.o (MI.q nx9))
  have hz7 := hlm2.size
  have nx_hlm2_tk := Nx.refl (H2.size + 1) HL1.size
  refine CW.s1 (fun hK16 => CW.region ?_)
  refine LR.v1 (Y.lss rfl rfl rfl) (LR.nil (hK16 _ _ ?_))
  refine CW.s2 (fun hK17 hE17 => ?_)
  refine CW.condp rfl (fun c28 => ?_) (fun c28 => ?_)
  ·
   refine CW.skip (hK17 _ _ (CW.s2 (fun hK18 hE18 => CW.block (fun _ hK19 _ hE19 => CW.s1 (fun hK20 => CW.region ?_)))))
   refine LR.m1 ?_
   have hil : i < el.length := by omega
   obtain ⟨y, hey⟩ : ∃ q, q = el[i] := ⟨_, rfl⟩
   have hmy : y ∈ el := by rw [hey]; exact List.getElem_mem hil
   refine LR.e1 (g := fun ad => .pointer (some ad)) (Y.iF he (i) rfl u'30 s'68 rfl rfl) fun ad30 pt30 => ?_
   refine LR.v1 (Y.cast (v2 := .agg (fMm y).toArray) (Y.loadN pt30.pt rfl a'68 s'68 (fMm_len _) rfl) (by rw [hey])) ?_
   refine LR.z1 (Z.allocv rfl z'68) fun v9 H9 r9 => ?_
   obtain ⟨rfl, vn, hs9, ob9, hH9⟩ := r9
   have hzs9 : H9.size = HL2.size + 1 := by rw [hH9]; simp
   have df19 := (DF.new (bf_hd.mono hm0.size) : DF _ (HL2.size + 1))
   have dj20 : Dj (H2.size + 1) (HL2.size + 1) := Dj.new tk.lt
   have nx22 : Nx 0 H0.size (HL2.size + 1) := Nx.new hm0.size
   have nx23 : Nx 0 HL1.size (HL2.size + 1) := Nx.new hlm2.size
   replace hd := fun y hy0 => (hd y hy0).nw hs9
   replace tk := tk.nw hs9
   replace hm0 := hm0.tr hs9
   replace hlm2 := hlm2.trN hs9
   have hz8 := hs9.size
   refine LR.a1 ?_
   refine LR.s1 (S.var vn (_) (fMm y) rfl rfl rfl rfl (fMm_one y) s'68 (fMm_len _) (by decide) ((splice_all2 (fMm_len _).symm))) fun H9_5 r9_5 => ?_
   obtain ⟨vn, hs9_5⟩ := r9_5
   replace hs9_5 := hs9_5.md1
   replace hd := fun y hy0 => (hd y hy0).upL hs9_5 (DFL.o df19)
   replace tk := tk.upL hs9_5 (DL.o dj20)
   replace hm0 := hm0.tq hs9_5 (MIL.o (MI.q nx22))
   replace hlm2 := hlm2.trL hs9_5 (MIL.o (MI.q nx23))
   have hz9 := hs9_5.size
   refine LR.nil (hK20 _ _ (CW.s2 (fun hK21 hE21 => CW.s1 (fun hK22 => ?_))))
   refine CW.region_any (fun Hq => Nw H9_5 Hq) [] rfl ?_
   have hqs := Nw.refl H9_5
   refine LH.t1 0 rfl (fun Hq hq => Y.FA (vn.pt.nw hq) rfl u'68 rfl s'26) hqs ?_
   refine LH.t1 1 rfl (fun Hq hq => Y.cast (v2 := vA y.k) (Y.loadN ((vn.pt.nw hq).take 32) rfl a'26 s'26 (by rw [show (fMm y).take 32 = fA y.k from fMm_k y]; exact fA_len _) rfl) (congrArg (fun z : List Value => Value.agg z.toArray) (show (fMm y).take 32 = fA y.k from fMm_k y))) hqs ?_
   refine LH.t1 5 rfl (fun Hq hq => Y.FA (vn.pt.nw hq) rfl u'68 rfl s'57) hqs ?_
   refine LH.t1 6 rfl (fun Hq hq => Y.load1 (vn.pt.mm32.nw hq) rfl a'57 rfl) hqs ?_
   refine LH.t1 7 rfl (fun Hq hq => Y.len ((hd y hmy).nw hq) rfl u'57 rfl) hqs ?_
   refine LH.t1 8 rfl (fun Hq hq => Y.leq rfl rfl rfl) hqs ?_
   refine LH.o1 2 ?_
   refine LO.call rfl rfl c'55 rfl (Wd.u rfl) rfl rfl (rnone_ct y.k w0 _) (fun v34 H34 r34 => ?_)
   obtain ⟨rfl, hs34⟩ := r34
   replace hd := fun y hy0 => (hd y hy0).nw hs34
   replace tk := tk.nw hs34
   replace vn := vn.nw hs34
   replace hm0 := hm0.tr hs34
   replace hlm2 := hlm2.trN hs34
   have hz10 := hs34.size
   have hq34 := hqs.tr hs34
   refine ⟨.inr hq34, LH.narrow (SH2 := fun Hq => Nw H34 Hq) (fun Hq hq => hq34.tr hq) ?_⟩
   have hqn34 := Nw.refl H34
   refine LH.t1 3 rfl (fun Hq hq => Y.notp rfl rfl) hqn34 ?_
   refine LH.o1 4 ?_
   refine LO.call rfl rfl c'46 rfl (Wd.u rfl) rfl rfl (rmust_to (decide (¬ y.k = Zid)) 1 rfl w0 _) (fun v36 H36 r36 => ?_)
   obtain ⟨rfl, hs36⟩ := r36
   replace hd := fun y hy0 => (hd y hy0).nw hs36
   replace tk := tk.nw hs36
   replace vn := vn.nw hs36
   replace hm0 := hm0.tr hs36
   replace hlm2 := hlm2.trN hs36
   have hz11 := hs36.size
   have hq36 := hqn34.tr hs36
   refine ⟨.inr hq36, LH.narrow (SH2 := fun Hq => Nw H36 Hq) (fun Hq hq => hq36.tr hq) ?_⟩
   have hqn36 := Nw.refl H36
   refine LH.o1 9 ?_
   refine LO.call rfl rfl c'46 rfl (Wd.u rfl) rfl rfl (rmust_to (decide (y.d.length ≤ 65536)) 5 (by first | (exact (decide_eq_true (by omega)).symm) | (exact (decide_eq_false (by omega)).symm) | (exact decide_eq_decide.2 (by omega))) w0 _) (fun v41 H41 r41 => ?_)
   obtain ⟨rfl, hs41⟩ := r41
   replace hd := fun y hy0 => (hd y hy0).nw hs41
   replace tk := tk.nw hs41
   replace vn := vn.nw hs41
   replace hm0 := hm0.tr hs41
   replace hlm2 := hlm2.trN hs41
   have hz12 := hs41.size
   have hq41 := hqn36.tr hs41
   refine ⟨.inr hq41, LH.narrow (SH2 := fun Hq => Nw H41 Hq) (fun Hq hq => hq41.tr hq) ?_⟩
   have hqn41 := Nw.refl H41
   refine LH.o1 10 ?_
   refine LO.z rfl (Z.litw _ ([mustL (decide (¬ y.k = Zid)) 1, mustL (decide (y.d.length ≤ 65536)) 5]) rfl inf244 rfl rfl rfl (by decide) (by decide) fI_len fI_one (rfl)) (Wd.u rfl) rfl rfl (fun v42 H42 r42 => ?_)
   obtain ⟨ow42, hs42, ob42, hH42⟩ := r42
   have hzs42 : H42.size = H41.size + 1 := by rw [hH42]; simp
   replace hd := fun y hy0 => (hd y hy0).nw hs42
   replace tk := tk.nw hs42
   replace vn := vn.nw hs42
   replace hm0 := hm0.tr hs42
   replace hlm2 := hlm2.trN hs42
   have hz13 := hs42.size
   have hq42 := hqn41.tr hs42
   refine ⟨.inr hq42, LH.narrow (SH2 := fun Hq => Nw H42 Hq) (fun Hq hq => hq42.tr hq) ?_⟩
   have hqn42 := Nw.refl H42
   refine LH.o1 11 ?_
   refine LO.call rfl rfl c'47 rfl (Wd.u rfl) rfl rfl (rfirst_ct _ [mustL (decide (¬ y.k = Zid)) 1, mustL (decide (y.d.length ≤ 65536)) 5] w0 _ ow42.rd.any) (fun v43 H43 r43 => ?_)
   obtain ⟨rfl, hs43⟩ := r43
   replace hd := fun y hy0 => (hd y hy0).nw hs43
   replace tk := tk.nw hs43
   replace vn := vn.nw hs43
   replace hm0 := hm0.tr hs43
   replace hlm2 := hlm2.trN hs43
   have hz14 := hs43.size
   rw [mem_first]
   have hq43 := hqn42.tr hs43
   refine ⟨.inr hq43, LH.narrow (SH2 := fun Hq => Nw H43 Hq) (fun Hq hq => hq43.tr hq) ?_⟩
   have hqn43 := Nw.refl H43
   refine LH.t1 12 rfl (fun Hq hq => Y.assign rfl rfl) hqn43 ?_
   refine LH.done (by kernel_rfl) ?_
   have hqe := hqn43
   refine hK22 _ _ (CW.s1 (fun hK23 => CW.region ?_))
   refine LR.m1 ?_
   refine LR.v1 (Y.neq rfl rfl rfl) (LR.nil (hK23 _ _ ?_))
   refine CW.condp rfl (fun c45 => ?_) (fun c45 => ?_)
   ·
    refine CW.s1 (fun hK24 => CW.region ?_)
    refine LR.m1 ?_
    refine LR.a1 (LR.nil (hK24 _ _ ?_))
    refine CW.ret (hE21 .ret nofun _ _ (hE19 .ret nofun (by simp) _ _ (hE18 .ret nofun _ _ (hE15 .ret nofun _ _ (hE14 .ret nofun (by simp) _ _ (hE12 .ret nofun _ _ (hret .ret (.inr rfl) _ _ _ (res1 rfl rfl) ?_)))))))
    exact ⟨by have hq := memAll_at (l := el) (j := i) hil h0 (by rw [← hey]; exact c45); rw [← hey] at hq; rw [memsE, if_pos (by rw [hq]; exact c45), hq], hm0⟩
   ·
    refine CW.skip (hK21 _ _ (CW.region ?_))
    refine LR.m1 ?_
    refine LR.v1 (Y.FA vn.pt rfl u'68 rfl s'26) ?_
    refine LR.v1 (Y.cast (v2 := vA y.k) (Y.loadN (vn.pt.take 32) rfl a'26 s'26 (by rw [show (fMm y).take 32 = fA y.k from fMm_k y]; exact fA_len _) rfl) (congrArg (fun z : List Value => Value.agg z.toArray) (show (fMm y).take 32 = fA y.k from fMm_k y))) ?_
    refine LR.m1 ?_
    refine LR.s1 (S.putA ((i : Int)) tk keyId rfl u'251 rfl rfl rfl) fun H13_4 r13_4 => ?_
    obtain ⟨tk, hs13_4⟩ := r13_4
    replace hs13_4 := hs13_4.md1
    replace hd := fun y hy0 => (hd y hy0).upL hs13_4 (DFL.o df7)
    replace hlm2 := hlm2.trL hs13_4 (MIL.o (MI.r nx_hlm2_tk))
    have hz15 := hs13_4.size
    refine LR.nil (hK19 _ _ (hK18 _ _ (CW.region ?_)))
    refine LR.v1 (Y.addi rfl rfl rfl (by omega)) ?_
    refine LR.m1 (LR.nil ?_)
    refine QN.sub (hN15 (i + 1, mput m2 y.k (i : Int)) _ ?_ ?_) ⟨rfl, rfl, (iv (by omega)), (iv (by omega)), trivial⟩
    · exact ⟨(by omega), tk, (by rw [hey]; exact key_step hk2 hil), all_snoc h0 hil (by rw [← hey]; simpa using c45), hlm2⟩
    · first | omega | (simp only; omega) | (simp; omega)
  ·
   obtain rfl : i = el.length := by omega
   rw [List.take_length] at hk2 h0
   have hz := memAll_no h0
   have hkl := keyL_len (s := s.el) (el := el) ga tk.mo.nodup (fun k => by rw [← isSome_iff_key, hk2])
   refine CW.exit (hE17 (.exit 2) nofun _ _ (hE15 (.exit 2) nofun _ _ (hX14 _ _ ?_)))
   refine hK12 _ _ (CW.s1 (fun hK25 => CW.region ?_))
   refine LR.m1 ?_
   refine LR.v1 (Y.mlen tk.mo rfl u'251 rfl) ?_
   refine LR.v1 (Y.leq rfl rfl rfl) ?_
   refine LR.call rfl c'46 rfl (Wd.u rfl) rfl rfl (rmust_to (decide (m2.length ≤ 500)) 4 (decide_eq_decide.2 (by omega)) w0 _) (fun v55 H55 r55 => ?_)
   obtain ⟨rfl, hs55⟩ := r55
   replace hd := fun y hy0 => (hd y hy0).nw hs55
   replace hm0 := hm0.tr hs55
   have hz16 := hs55.size
   refine LR.a1 (LR.nil (hK25 _ _ ?_))
   refine CW.ret (hret .ret (.inr rfl) _ _ _ (res1 rfl rfl) ?_)
   exact ⟨by rw [memsE, if_neg (by rw [hz]; decide), hkl]; unfold mustL; by_cases h5 : (adM (elM s.el) el).length ≤ 500; rw [if_pos (decide_eq_true h5), if_neg (by omega)]; rw [if_neg (by simpa using h5), if_pos (by omega)], hm0⟩
set_option maxHeartbeats 4000000 in
theorem check_ct (s : TSt) (t : TTx) (F G : Nat → Prop) (mx_ : Int) (w0 : World) (H0 : Heap)
 (mx : MX mx_ H0) (bf_mx : BF (fun b => b = 0) H0.size) (hs : StR F H0 s) (bf_hs : BF F H0.size) (ht : TxR G H0 t) (bf_ht : BF G H0.size) (ok : s.m.Ok) (hz : TxS t) :
 Ct Tryz.prog w0 23 #[stV s, txV t] H0 (fun r H2 => r = .int .i64 (chkE s.m t) ∧ Nw H0 H2) := by
 refine Ct.enter (args := [stV s, txV t]) Tryz.func23 rfl rfl rfl ?_
 intro Q0 hret
 have hm0 : Nw H0 H0 := Mo.refl _ _
 have hml := ht.m.len
 have hel := ht.e.len
 have z1 := hz.hd
 have z2 := hz.br
 refine CW.s1 (fun hK1 => CW.region ?_)
 refine LR.z1 (Z.boxv rfl rfl) fun v2 H2 r2 => ?_
 obtain ⟨rfl, vs, hs2, ob2, hH2⟩ := r2
 have hzs2 : H2.size = H0.size + 1 := by rw [hH2]; simp
 replace mx := mx.nw hs2
 replace hs := hs.nw hs2
 replace ht := ht.nw hs2
 replace hm0 := hm0.tr hs2
 have hz1 := hs2.size
 replace vs : Var 47 H2 H0.size (fSt s) := vs
 refine LR.z1 (Z.boxv rfl rfl) fun v3 H3 r3 => ?_
 obtain ⟨rfl, va, hs3, ob3, hH3⟩ := r3
 have hzs3 : H3.size = H2.size + 1 := by rw [hH3]; simp
 replace mx := mx.nw hs3
 replace hs := hs.nw hs3
 replace ht := ht.nw hs3
 replace vs := vs.nw hs3
 replace hm0 := hm0.tr hs3
 have hz2 := hs3.size
 replace va : Var 32 H3 H2.size (fTx t) := va
 refine LR.a1 (LR.nil (hK1 _ _ ?_))
 refine CW.cut (fun (_ : Unit) => [(2, .pointer (some ⟨H0.size, 0, none⟩)), (3, .pointer (some ⟨H2.size, 0, none⟩)), (5, .int .i64 (noneE t))])
  (fun (_ : Unit) (H : Heap) => (True) ∧ Nw H3 H) (fun _ hK2 _ => ?_) ?_
 ·
  have hcm2 : Nw H3 H3 := Mo.refl _ _
  refine CW.region ?_
  refine LR.v1 (Y.FA va.pt rfl u'32 rfl s'4) ?_
  refine LR.v1 (Y.load1 va.pt rfl a'4 rfl) ?_
  refine LR.m1 ?_
  refine LR.split (d := 9) rfl (fun g9 => ?_) (fun g9 => ?_)
  ·
   refine LR.g1 ?_
   refine LR.g1 ?_
   refine LR.v1 (Y.pick_t rfl rfl rfl) ?_
   refine LR.m1 ?_
   refine LR.g1 ?_
   refine LR.g1 ?_
   refine LR.g1 ?_
   refine LR.g1 ?_
   refine LR.v1 (Y.pick_t rfl rfl rfl) ?_
   refine LR.m1 ?_
   refine LR.g1 ?_
   refine LR.g1 ?_
   refine LR.g1 ?_
   refine LR.g1 ?_
   refine LR.v1 (Y.pick_t rfl rfl rfl) ?_
   refine LR.call rfl c'46 rfl (Wd.u rfl) rfl rfl (rmust_to (decide (noneE t = 0)) 1 (by first | exact none_T (.inl (by assumption)) | exact none_T (.inr (.inl (by assumption))) | exact none_T (.inr (.inr (.inl (by omega)))) | exact none_D (by simp_all) (by simp_all) (by omega)) w0 _) (fun v25 H25 r25 => ?_)
   obtain ⟨rfl, hs25⟩ := r25
   replace hcm2 := hcm2.tr hs25
   have hz3 := hs25.size
   rw [none_must]
   refine LR.a1 (LR.nil ?_)
   refine QN.sub (hK2 () _ ?_) ⟨rfl, rfl, (iv (by omega)), trivial⟩
   exact ⟨trivial, hcm2⟩
  ·
   refine LR.w1 (Y.FA va.pt rfl u'32 rfl s'4) ?_
   refine LR.w1 (Y.load1 (va.pt.drop 3) rfl a'4 rfl) ?_
   refine LR.v1 (Y.pick_f rfl rfl rfl) ?_
   refine LR.m1 ?_
   refine LR.split (d := 13) rfl (fun g13 => ?_) (fun g13 => ?_)
   ·
    refine LR.g1 ?_
    refine LR.g1 ?_
    refine LR.g1 ?_
    refine LR.g1 ?_
    refine LR.v1 (Y.pick_t rfl rfl rfl) ?_
    refine LR.m1 ?_
    refine LR.g1 ?_
    refine LR.g1 ?_
    refine LR.g1 ?_
    refine LR.g1 ?_
    refine LR.v1 (Y.pick_t rfl rfl rfl) ?_
    refine LR.call rfl c'46 rfl (Wd.u rfl) rfl rfl (rmust_to (decide (noneE t = 0)) 1 (by first | exact none_T (.inl (by assumption)) | exact none_T (.inr (.inl (by assumption))) | exact none_T (.inr (.inr (.inl (by omega)))) | exact none_D (by simp_all) (by simp_all) (by omega)) w0 _) (fun v25 H25 r25 => ?_)
    obtain ⟨rfl, hs25⟩ := r25
    replace hcm2 := hcm2.tr hs25
    have hz4 := hs25.size
    rw [none_must]
    refine LR.a1 (LR.nil ?_)
    refine QN.sub (hK2 () _ ?_) ⟨rfl, rfl, (iv (by omega)), trivial⟩
    exact ⟨trivial, hcm2⟩
   ·
    refine LR.w1 (Y.FA va.pt rfl u'32 rfl s'24) ?_
    refine LR.w1 (Y.load1 (va.pt.drop 2) rfl a'24 rfl) ?_
    refine LR.w1 (Y.len ht.m rfl u'24 rfl) ?_
    refine LR.w1 (Y.gtr rfl rfl rfl) ?_
    refine LR.v1 (Y.pick_f rfl rfl rfl) ?_
    refine LR.m1 ?_
    refine LR.splitp (d := 19) rfl (fun g19 => ?_) (fun g19 => ?_)
    ·
     refine LR.g1 ?_
     refine LR.g1 ?_
     refine LR.g1 ?_
     refine LR.g1 ?_
     refine LR.v1 (Y.pick_t rfl rfl rfl) ?_
     refine LR.call rfl c'46 rfl (Wd.u rfl) rfl rfl (rmust_to (decide (noneE t = 0)) 1 (by first | exact none_T (.inl (by assumption)) | exact none_T (.inr (.inl (by assumption))) | exact none_T (.inr (.inr (.inl (by omega)))) | exact none_D (by simp_all) (by simp_all) (by omega)) w0 _) (fun v25 H25 r25 => ?_)
     obtain ⟨rfl, hs25⟩ := r25
     replace hcm2 := hcm2.tr hs25
     have hz5 := hs25.size
     rw [none_must]
     refine LR.a1 (LR.nil ?_)
     refine QN.sub (hK2 () _ ?_) ⟨rfl, rfl, (iv (by omega)), trivial⟩
     exact ⟨trivial, hcm2⟩
    ·
     refine LR.w1 (Y.FA va.pt rfl u'32 rfl s'30) ?_
     refine LR.w1 (Y.load1 va.pt.tx74 rfl a'30 rfl) ?_
     refine LR.w1 (Y.len ht.e rfl u'30 rfl) ?_
     refine LR.w1 (Y.gtr rfl rfl rfl) ?_
     refine LR.v1 (Y.pick_f rfl rfl rfl) ?_
     refine LR.call rfl c'46 rfl (Wd.u rfl) rfl rfl (rmust_to (decide (noneE t = 0)) 1 (by first | exact none_T (.inl (by assumption)) | exact none_T (.inr (.inl (by assumption))) | exact none_T (.inr (.inr (.inl (by omega)))) | exact none_D (by simp_all) (by simp_all) (by omega)) w0 _) (fun v25 H25 r25 => ?_)
     obtain ⟨rfl, hs25⟩ := r25
     replace hcm2 := hcm2.tr hs25
     have hz6 := hs25.size
     rw [none_must]
     refine LR.a1 (LR.nil ?_)
     refine QN.sub (hK2 () _ ?_) ⟨rfl, rfl, (iv (by omega)), trivial⟩
     exact ⟨trivial, hcm2⟩
 ·
  intro _ Hcutr1 hIcutr1
  obtain ⟨htr, hlmcutr1⟩ := hIcutr1
  replace mx := mx.nw hlmcutr1
  replace hs := hs.nw hlmcutr1
  replace ht := ht.nw hlmcutr1
  replace vs := vs.nw hlmcutr1
  replace va := va.nw hlmcutr1
  replace hm0 := hm0.tr hlmcutr1
  have hz7 := hlmcutr1.size
  refine CW.cut (fun (_ : Unit) => [(2, .pointer (some ⟨H0.size, 0, none⟩)), (3, .pointer (some ⟨H2.size, 0, none⟩)), (5, .int .i64 (fst2 (noneE t) (headE2 t)))])
   (fun (_ : Unit) (H : Heap) => (True) ∧ Nw Hcutr1 H) (fun _ hK3 _ => ?_) ?_
  ·
   have hcm3 : Nw Hcutr1 Hcutr1 := Mo.refl _ _
   refine CW.s1 (fun hK4 => CW.region ?_)
   refine LR.v1 (Y.FA va.pt rfl u'32 rfl s'4) ?_
   refine LR.v1 (Y.load1 va.pt rfl a'4 rfl) ?_
   refine LR.m1 ?_
   refine LR.split (d := 28) rfl (fun g28 => ?_) (fun g28 => ?_)
   ·
    refine LR.w1 (Y.FA va.pt rfl u'32 rfl s'9) ?_
    refine LR.w1 (Y.load1 (va.pt.drop 1) rfl a'9 rfl) ?_
    refine LR.w1 (Y.sneq rfl rfl rfl) ?_
    refine LR.v1 (Y.pick_t rfl rfl rfl) (LR.nil (hK4 _ _ ?_))
    refine CW.condp rfl (fun c32 => ?_) (fun c32 => ?_)
    ·
     refine CW.region ?_
     refine LR.m1 ?_
     refine LR.v1 (Y.FA va.pt rfl u'32 rfl s'9) ?_
     refine LR.v1 (Y.load1 (va.pt.drop 1) rfl a'9 rfl) ?_
     refine LR.call rfl c'48 rfl (Wd.u rfl) rfl rfl (chk_ct t.hd mx_ w0 _ mx (bf_mx.mono hm0.size) (by omega)) (fun v36 H36 r36 => ?_)
     obtain ⟨rfl, hs36⟩ := r36
     replace hcm3 := hcm3.tr hs36
     have hz8 := hs36.size
     refine LR.z1 (Z.litw _ ([(noneE t), (chk t.hd)]) rfl inf244 rfl rfl rfl (by decide) (by decide) fI_len fI_one (rfl)) fun v37 H37 r37 => ?_
     obtain ⟨ow38, hs37, ob37, hH37⟩ := r37
     have hzs37 : H37.size = H36.size + 1 := by rw [hH37]; simp
     replace hcm3 := hcm3.tr hs37
     have hz9 := hs37.size
     refine LR.call rfl c'47 rfl (Wd.u rfl) rfl rfl (rfirst_ct _ [(noneE t), (chk t.hd)] w0 _ ow38.rd.any) (fun v38 H38 r38 => ?_)
     obtain ⟨rfl, hs38⟩ := r38
     replace hcm3 := hcm3.tr hs38
     have hz10 := hs38.size
     rw [first2]
     refine LR.a1 (LR.nil ?_)
     refine QN.sub (hK3 () _ ?_) ⟨rfl, rfl, (by first | (have h9 : t.hd ≠ [] := (by simpa using c32); exact hd_T (by assumption) h9) | (have h9 : t.hd = [] := (by simpa using c32); exact hd_F (.inr h9)) | (have h9 : t.hh = false := (by simp_all); exact hd_F (.inl h9))), trivial⟩
     exact ⟨trivial, hcm3⟩
    ·
     refine CW.skip ?_
     refine QN.sub (hK3 () _ ?_) ⟨rfl, rfl, (by first | (have h9 : t.hd ≠ [] := (by simpa using c32); exact hd_T (by assumption) h9) | (have h9 : t.hd = [] := (by simpa using c32); exact hd_F (.inr h9)) | (have h9 : t.hh = false := (by simp_all); exact hd_F (.inl h9))), trivial⟩
     exact ⟨trivial, hcm3⟩
   ·
    refine LR.g1 ?_
    refine LR.g1 ?_
    refine LR.g1 ?_
    refine LR.v1 (Y.pick_f rfl rfl rfl) (LR.nil (hK4 _ _ ?_))
    refine CW.cond_f rfl ?_
    refine CW.skip ?_
    refine QN.sub (hK3 () _ ?_) ⟨rfl, rfl, (by first | (have h9 : t.hd ≠ [] := (by simpa using c32); exact hd_T (by assumption) h9) | (have h9 : t.hd = [] := (by simpa using c32); exact hd_F (.inr h9)) | (have h9 : t.hh = false := (by simp_all); exact hd_F (.inl h9))), trivial⟩
    exact ⟨trivial, hcm3⟩
  ·
   intro _ Hcutc32 hIcutc32
   obtain ⟨htr, hlmcutc32⟩ := hIcutc32
   replace mx := mx.nw hlmcutc32
   replace hs := hs.nw hlmcutc32
   replace ht := ht.nw hlmcutc32
   replace vs := vs.nw hlmcutc32
   replace va := va.nw hlmcutc32
   replace hm0 := hm0.tr hlmcutc32
   have hz11 := hlmcutc32.size
   refine CW.s1 (fun hK5 => CW.region ?_)
   refine LR.m1 ?_
   refine LR.v1 (Y.loadN vs.pt rfl a'47 s'47 (fSt_len _) rfl) ?_
   refine LR.v1 (Y.FA va.pt rfl u'32 rfl s'24) ?_
   refine LR.v1 (Y.load1 (va.pt.drop 2) rfl a'24 rfl) ?_
   refine LR.call rfl c'49 rfl (Wd.u rfl) rfl rfl (moves_ct s t.mv.v t.ml F mx_ w0 _ mx (bf_mx.mono hm0.size) hs (bf_hs.mono hm0.size) ht.m.any ok.ra ok.rl hz.mn) (fun v43 H43 r43 => ?_)
   obtain ⟨rfl, hs43⟩ := r43
   replace mx := mx.nw hs43
   replace hs := hs.nw hs43
   replace ht := ht.nw hs43
   replace vs := vs.nw hs43
   replace va := va.nw hs43
   replace hm0 := hm0.tr hs43
   have hz12 := hs43.size
   refine LR.z1 (Z.litw _ ([(fst2 (noneE t) (headE2 t)), (movesE s.m.rf t.ml)]) rfl inf244 rfl rfl rfl (by decide) (by decide) fI_len fI_one (rfl)) fun v44 H44 r44 => ?_
   obtain ⟨ow45, hs44, ob44, hH44⟩ := r44
   have hzs44 : H44.size = H43.size + 1 := by rw [hH44]; simp
   replace mx := mx.nw hs44
   replace hs := hs.nw hs44
   replace ht := ht.nw hs44
   replace vs := vs.nw hs44
   replace va := va.nw hs44
   replace hm0 := hm0.tr hs44
   have hz13 := hs44.size
   refine LR.call rfl c'47 rfl (Wd.u rfl) rfl rfl (rfirst_ct _ [(fst2 (noneE t) (headE2 t)), (movesE s.m.rf t.ml)] w0 _ ow45.rd.any) (fun v45 H45 r45 => ?_)
   obtain ⟨rfl, hs45⟩ := r45
   replace mx := mx.nw hs45
   replace hs := hs.nw hs45
   replace ht := ht.nw hs45
   replace vs := vs.nw hs45
   replace va := va.nw hs45
   replace hm0 := hm0.tr hs45
   have hz14 := hs45.size
   rw [first2]
   refine LR.a1 (LR.nil (hK5 _ _ ?_))
   refine CW.cut (fun (_ : Unit) => [(2, .pointer (some ⟨H0.size, 0, none⟩)), (3, .pointer (some ⟨H2.size, 0, none⟩)), (5, .int .i64 (fst2 (fst2 (fst2 (noneE t) (headE2 t)) (movesE s.m.rf t.ml)) (sqE2 t)))])
    (fun (_ : Unit) (H : Heap) => (True) ∧ Nw H45 H) (fun _ hK6 _ => ?_) ?_
   ·
    have hcm6 : Nw H45 H45 := Mo.refl _ _
    refine CW.s1 (fun hK7 => CW.region ?_)
    refine LR.v1 (Y.FA va.pt rfl u'32 rfl s'4) ?_
    refine LR.v1 (Y.load1 (va.pt.drop 3) rfl a'4 rfl) (LR.nil (hK7 _ _ ?_))
    refine CW.cond rfl (fun c47 => ?_) (fun c47 => ?_)
    ·
     refine CW.region ?_
     refine LR.m1 ?_
     refine LR.v1 (Y.FA va.pt rfl u'32 rfl s'29) ?_
     refine LR.v1 (Y.cast (v2 := sqV t.q) (Y.loadN ((va.pt.drop 4).take 70) rfl a'29 s'29 (by rw [fTx_q]; exact fSq_len _) rfl) (congrArg (fun z : List Value => Value.agg z.toArray) (fTx_q t))) ?_
     refine LR.call rfl c'50 rfl (Wd.u rfl) rfl rfl (seq_ct t.q mx_ w0 _ mx (bf_mx.mono hm0.size) ht.q.any (by omega)) (fun v51 H51 r51 => ?_)
     obtain ⟨rfl, hs51⟩ := r51
     replace hs := hs.nw hs51
     replace hcm6 := hcm6.tr hs51
     have hz15 := hs51.size
     refine LR.z1 (Z.litw _ ([(fst2 (fst2 (noneE t) (headE2 t)) (movesE s.m.rf t.ml)), (if t.q.k ≠ 0 then seqE t.q else 0)]) rfl inf244 rfl rfl rfl (by decide) (by decide) fI_len fI_one (rfl)) fun v52 H52 r52 => ?_
     obtain ⟨ow53, hs52, ob52, hH52⟩ := r52
     have hzs52 : H52.size = H51.size + 1 := by rw [hH52]; simp
     replace hs := hs.nw hs52
     replace hcm6 := hcm6.tr hs52
     have hz16 := hs52.size
     refine LR.call rfl c'47 rfl (Wd.u rfl) rfl rfl (rfirst_ct _ [(fst2 (fst2 (noneE t) (headE2 t)) (movesE s.m.rf t.ml)), (if t.q.k ≠ 0 then seqE t.q else 0)] w0 _ ow53.rd.any) (fun v53 H53 r53 => ?_)
     obtain ⟨rfl, hs53⟩ := r53
     replace hs := hs.nw hs53
     replace hcm6 := hcm6.tr hs53
     have hz17 := hs53.size
     rw [first2]
     refine LR.a1 (LR.nil ?_)
     refine QN.sub (hK6 () _ ?_) ⟨rfl, rfl, (by first | (have h9 : t.hs = true := (by assumption); exact sq_T h9) | (have h9 : t.hs = false := (by simp_all); exact sq_F h9)), trivial⟩
     exact ⟨trivial, hcm6⟩
    ·
     refine CW.skip ?_
     refine QN.sub (hK6 () _ ?_) ⟨rfl, rfl, (by first | (have h9 : t.hs = true := (by assumption); exact sq_T h9) | (have h9 : t.hs = false := (by simp_all); exact sq_F h9)), trivial⟩
     exact ⟨trivial, hcm6⟩
   ·
    intro _ Hcutc47 hIcutc47
    obtain ⟨htr, hlmcutc47⟩ := hIcutc47
    replace hs := hs.nw hlmcutc47
    replace ht := ht.nw hlmcutc47
    replace vs := vs.nw hlmcutc47
    replace va := va.nw hlmcutc47
    replace hm0 := hm0.tr hlmcutc47
    have hz18 := hlmcutc47.size
    refine CW.s2 (fun hK8 hE8 => CW.s1 (fun hK9 => CW.region ?_))
    refine LR.m1 ?_
    refine LR.v1 (Y.loadN vs.pt rfl a'47 s'47 (fSt_len _) rfl) ?_
    refine LR.v1 (Y.FA va.pt rfl u'32 rfl s'30) ?_
    refine LR.v1 (Y.load1 va.pt.tx74 rfl a'30 rfl) ?_
    refine LR.call rfl c'51 rfl (Wd.u rfl) rfl rfl (memory_ct s t.ev.v t.el F w0 _ hs (bf_hs.mono hm0.size) ht.e.any (fun y hy => (ht.d y hy).any) ok.ma) (fun v58 H58 r58 => ?_)
    obtain ⟨rfl, hs58⟩ := r58
    replace ht := ht.nw hs58
    replace va := va.nw hs58
    replace hm0 := hm0.tr hs58
    have hz19 := hs58.size
    refine LR.z1 (Z.litw _ ([(fst2 (fst2 (fst2 (noneE t) (headE2 t)) (movesE s.m.rf t.ml)) (sqE2 t)), (memsE s.m.me t.el)]) rfl inf244 rfl rfl rfl (by decide) (by decide) fI_len fI_one (rfl)) fun v59 H59 r59 => ?_
    obtain ⟨ow60, hs59, ob59, hH59⟩ := r59
    have hzs59 : H59.size = H58.size + 1 := by rw [hH59]; simp
    replace ht := ht.nw hs59
    replace va := va.nw hs59
    replace hm0 := hm0.tr hs59
    have hz20 := hs59.size
    refine LR.call rfl c'47 rfl (Wd.u rfl) rfl rfl (rfirst_ct _ [(fst2 (fst2 (fst2 (noneE t) (headE2 t)) (movesE s.m.rf t.ml)) (sqE2 t)), (memsE s.m.me t.el)] w0 _ ow60.rd.any) (fun v60 H60 r60 => ?_)
    obtain ⟨rfl, hs60⟩ := r60
    replace ht := ht.nw hs60
    replace va := va.nw hs60
    replace hm0 := hm0.tr hs60
    have hz21 := hs60.size
    rw [first2]
    refine LR.a1 (LR.nil (hK9 _ _ ?_))
    refine CW.s1 (fun hK10 => CW.region ?_)
    refine LR.m1 ?_
    refine LR.v1 (Y.neq rfl rfl rfl) (LR.nil (hK10 _ _ ?_))
    refine CW.condp rfl (fun c62 => ?_) (fun c62 => ?_)
    ·
     refine CW.s1 (fun hK11 => CW.region ?_)
     refine LR.m1 ?_
     refine LR.a1 (LR.nil (hK11 _ _ ?_))
     refine CW.ret (hE8 .ret nofun _ _ (hret .ret (.inr rfl) _ _ _ (res1 rfl rfl) ?_))
     exact ⟨by rw [chkE_eq], hm0⟩
    ·
     have hz0 : chkE s.m t = 0 := by rw [chkE_eq]; simpa using c62
     have hx := encX_of hz hz0
     have hln := hz.ln
     refine CW.skip (hK8 _ _ (CW.s1 (fun hK12 => CW.region ?_)))
     refine LR.v1 (Y.loadN va.pt rfl a'32 s'32 (fTx_len _) rfl) ?_
     refine LR.call rfl c'37 rfl (Wd.u rfl) rfl rfl (enc_ct t G w0 _ ht (bf_ht.mono hm0.size) hx) (fun v66 H66 r66 => ?_)
     obtain ⟨s2, k2, rfl, ow, hk2, hs66⟩ := r66
     replace hm0 := hm0.tr hs66
     have hz22 := hs66.size
     have hle_ow := ow.le
     refine LR.m1 ?_
     refine LR.v1 (Y.extract rfl rfl rfl) ?_
     refine LR.v1 (Y.extract rfl rfl rfl) ?_
     refine LR.a1 ?_
     refine LR.a1 (LR.nil (hK12 _ _ ?_))
     refine CW.s1 (fun hK13 => CW.region ?_)
     refine LR.m1 ?_
     refine LR.v1 ((Y.eql rfl rfl rfl).isT (rfl)) ?_
     refine LR.m1 ?_
     refine LR.w1 (Y.move rfl rfl) ?_
     refine LR.w1 (Y.len ow.rd rfl u'57 rfl) ?_
     refine LR.w1 ((Y.leq rfl rfl rfl).isT (by omega)) ?_
     refine LR.v1 (Y.pick_t rfl rfl rfl) ?_
     refine LR.call rfl c'46 rfl (Wd.u rfl) rfl rfl (rmust_ct true 5 w0 _) (fun v76 H76 r76 => ?_)
     obtain ⟨rfl, hs76⟩ := r76
     replace hm0 := hm0.tr hs76
     refine LR.a1 (LR.nil (hK13 _ _ ?_))
     refine CW.ret (hret .ret (.inr rfl) _ _ _ (res1 rfl rfl) ?_)
     exact ⟨by rw [hz0]; rfl, hm0⟩
end Go.Proofs.YtfjmpninmdjcaaaGreatDoor.RefE

namespace Go.Proofs.YtfjmpninmdjcaaaGreatDoor.RefG
open E Go.RowKit NamA NamB NamC NamD RefA RefB RefP RefQ RefR RefD RefE
set_option maxRecDepth 20000
set_option maxRecDepth 100000 in
theorem inf27 : Inf Tryz.prog 27 129 33 40 := ⟨Tryz.underlying27, _, _, rfl, rfl, rfl, rfl, rfl⟩
set_option maxRecDepth 100000 in
theorem inf44 : Inf Tryz.prog 44 71 33 48 := ⟨Tryz.underlying44, _, _, rfl, rfl, rfl, rfl, rfl⟩
set_option maxRecDepth 100000 in
theorem inf57 : Inf Tryz.prog 57 5 1 1 := ⟨Tryz.underlying57, _, _, rfl, rfl, rfl, rfl, rfl⟩
set_option maxRecDepth 100000 in
theorem inf60 : Inf Tryz.prog 60 64 65 80 := ⟨Tryz.underlying60, _, _, rfl, rfl, rfl, rfl, rfl⟩
theorem build_mm {k : Ide} (s : SV) (d : List UInt8) (w : World) : (Instr.build 68 #[(0, vA k), (1, s.v)]).run Tryz.prog w = .ok (mmV ⟨k, s, d⟩) w := by
 obtain ⟨k, hk⟩ := k
 simp only [mmV, fMm, fA, vA]
 obtain ⟨b0, b1, b2, b3, b4, b5, b6, b7, b8, b9, b10, b11, b12, b13, b14, b15, b16, b17, b18, b19, b20, b21, b22, b23, b24, b25, b26, b27, b28, b29, b30, b31, rfl⟩ := l32 hk
 kernel_rfl
theorem build_rf {i : Ide} (n : List UInt8) (w : World) : (Instr.build 71 #[(0, Str n), (1, vA i)]).run Tryz.prog w = .ok (.agg (fRf ⟨n, i⟩).toArray) w := by
 obtain ⟨k, hk⟩ := i
 simp only [fRf, fA, vA]
 obtain ⟨b0, b1, b2, b3, b4, b5, b6, b7, b8, b9, b10, b11, b12, b13, b14, b15, b16, b17, b18, b19, b20, b21, b22, b23, b24, b25, b26, b27, b28, b29, b30, b31, rfl⟩ := l32 hk
 kernel_rfl
theorem build_ln {o i : Ide} (n : List UInt8) (w : World) : (Instr.build 64 #[(0, vA o), (1, vA i), (2, Str n)]).run Tryz.prog w = .ok (.agg (fLn ⟨o, i, n⟩).toArray) w := by
 obtain ⟨k, hk⟩ := o
 obtain ⟨l, hl⟩ := i
 simp only [fLn, fA, vA]
 obtain ⟨b0, b1, b2, b3, b4, b5, b6, b7, b8, b9, b10, b11, b12, b13, b14, b15, b16, b17, b18, b19, b20, b21, b22, b23, b24, b25, b26, b27, b28, b29, b30, b31, rfl⟩ := l32 hk
 obtain ⟨c0, c1, c2, c3, c4, c5, c6, c7, c8, c9, c10, c11, c12, c13, c14, c15, c16, c17, c18, c19, c20, c21, c22, c23, c24, c25, c26, c27, c28, c29, c30, c31, rfl⟩ := l32 hl
 kernel_rfl
theorem build_st {h : List UInt8} {r : SV} {l : List TRf} {q : TSq} (w : World) : (Instr.build 47 #[(0, Str h), (1, r.v), (3, sqV q)]).run Tryz.prog w = .ok (stV ⟨h, r, l, n0, [], q, n0, []⟩) w := by
 obtain ⟨k, br, ⟨og, hog⟩, ⟨cu, hcu⟩, tv, td, dn, md, st⟩ := q
 simp only [sqV, fSt, fSq, fA]
 obtain ⟨b0, b1, b2, b3, b4, b5, b6, b7, b8, b9, b10, b11, b12, b13, b14, b15, b16, b17, b18, b19, b20, b21, b22, b23, b24, b25, b26, b27, b28, b29, b30, b31, rfl⟩ := l32 hog
 obtain ⟨c0, c1, c2, c3, c4, c5, c6, c7, c8, c9, c10, c11, c12, c13, c14, c15, c16, c17, c18, c19, c20, c21, c22, c23, c24, c25, c26, c27, c28, c29, c30, c31, rfl⟩ := l32 hcu
 kernel_rfl
section
variable {x : TSt}
theorem st_hd (h : List UInt8) : (fSt x).set 0 (Str h) = fSt { x with hd := h } := rfl
theorem st_rv (s : SV) (l : List TRf) : (fSt x).set 1 s.v = fSt { x with rv := s, rl := l } := rfl
theorem st_lv (s : SV) (l : List TLg) : (fSt x).set 2 s.v = fSt { x with lv := s, ll := l } := rfl
theorem fSt_cut : fSt x = (Str x.hd :: x.rv.v :: x.lv.v :: (.int .i64 x.q.k :: Str x.q.br :: (fA x.q.og ++ fA x.q.cu))) ++ (fSqe x.q ++ [x.ev.v]) := by
 simp [fSt, fSq, fSqe]
theorem fSt_cut_len : (Str x.hd :: x.rv.v :: x.lv.v :: (.int .i64 x.q.k :: Str x.q.br :: (fA x.q.og ++ fA x.q.cu)) : List Value).length = 69 := by simp [fA_len]
theorem st_set69 (j : Nat) (v : Value) : (fSt x).set (69 + j) v = (fSt x).take 69 ++ (fSqe x.q ++ [x.ev.v]).set j v := by
 rw [fSt_cut, List.set_append, if_neg (by rw [fSt_cut_len]; omega), fSt_cut_len, List.take_left' fSt_cut_len]
 congr 2; omega
theorem st_take69 : (fSt x).take 69 = Str x.hd :: x.rv.v :: x.lv.v :: (.int .i64 x.q.k :: Str x.q.br :: (fA x.q.og ++ fA x.q.cu)) := by rw [fSt_cut]; exact List.take_left' fSt_cut_len
theorem st_tv (s : SV) (l : List TTd) : (fSt x).set 69 s.v = fSt { x with q := { x.q with tv := s, td := l } } := by
 rw [st_set69 0, st_take69]
 conv => rhs; rw [fSt_cut]
 rfl
theorem st_ev (s : SV) (l : List TMm) : (fSt x).set 73 s.v = fSt { x with ev := s, el := l } := by
 rw [st_set69 4, st_take69]
 conv => rhs; rw [fSt_cut]
 rfl
theorem st_q (q : TSq) : splice (fSt x) 3 (fSq q) = fSt { x with q := q } := by
 unfold splice
 rw [fSq_len]
 show [Str x.hd, x.rv.v, x.lv.v] ++ fSq q ++ (fSt x).drop 73 = _
 rw [fSt_73]; simp [fSt]
end
section
variable {H : Heap} {ad : Addr} {x : TSt}
theorem _root_.Go.Proofs.YtfjmpninmdjcaaaGreatDoor.E.Pt.st69 (h : Pt H ad (fSt x)) : Pt H ((ad.add 3).add 66) (fSqe x.q ++ [x.ev.v]) := by
 have h1 := h.drop 69
 have e : (fSt x).drop 69 = fSqe x.q ++ [x.ev.v] := by rw [fSt_cut]; exact List.drop_left' fSt_cut_len
 rw [e] at h1
 rwa [show ad.add 69 = (ad.add 3).add 66 from by cases ad; rfl] at h1
theorem _root_.Go.Proofs.YtfjmpninmdjcaaaGreatDoor.E.Pt.tx70 {x : TTx} (h : Pt H ad (fTx x)) : Pt H ((ad.add 4).add 66) (fSqe x.q ++ [x.ev.v]) := by
 have h1 := h.drop 70
 have e : (fTx x).drop 70 = fSqe x.q ++ [x.ev.v] := by
  have e2 : fTx x = (.bool x.hh :: Str x.hd :: x.mv.v :: .bool x.hs :: (.int .i64 x.q.k :: Str x.q.br :: (fA x.q.og ++ fA x.q.cu))) ++ (fSqe x.q ++ [x.ev.v]) := by simp [fTx, fSq, fSqe]
  rw [e2]; exact List.drop_left' (by simp [fA_len])
 rw [e] at h1
 rwa [show ad.add 70 = (ad.add 4).add 66 from by cases ad; rfl] at h1
end
structure StQ (F : Nat → Prop) (H : Heap) (s : TSt) : Prop where
 r : Rd F H fRf 33 s.rv.v s.rl
 g : Rd F H fLg 2 s.lv.v s.ll
 n : ∀ y ∈ s.ll, Rd F H fLn 65 y.v.v y.l
 q : Rd F H fTd 33 s.q.tv.v s.q.td
 d : ∀ y ∈ s.el, Rd F H fB 1 y.v.v y.d
section
variable {F G : Nat → Prop} {H H' : Heap} {s : TSt} {ks : List Nat} {h : Nat}
theorem StQ.nw (x : StQ F H s) (w : Nw H H') : StQ F H' s := ⟨x.r.nw w, x.g.nw w, fun y hy => (x.n y hy).nw w, x.q.nw w, fun y hy => (x.d y hy).nw w⟩
theorem StQ.upL (x : StQ F H s) (w : Mo (Ms ks) H H') (d : DFL F ks) : StQ F H' s := ⟨x.r.upL w d, x.g.upL w d, fun y hy => (x.n y hy).upL w d, x.q.upL w d, fun y hy => (x.d y hy).upL w d⟩
theorem StQ.imp (x : StQ F H s) (d : ∀ b, b < H.size → F b → G b) : StQ G H s := ⟨x.r.imp d, x.g.imp d, fun y hy => (x.n y hy).imp d, x.q.imp d, fun y hy => (x.d y hy).imp d⟩
theorem StQ.st (x : StQ F H s) (h : Rd F H fMm 33 s.ev.v s.el) : StR F H s := ⟨x.r, x.g, x.n, x.q, h, x.d⟩
end
theorem DF.or1 {G : Nat → Prop} {kB k : Nat} (h : DF G k) (hB : Dj k kB) : DF (fun b => G b ∨ b + 1 = kB) k := by
 rintro b (e | e) h2
 · exact h b e h2
 · exact hB b h2 e
theorem BF.or1 {G : Nat → Prop} {n kB : Nat} (h : BF G n) (h1 : kB ≤ n) : BF (fun b => G b ∨ b + 1 = kB) n := by
 rintro b (e | e)
 · exact h b e
 · omega
theorem ab_or {G : Nat → Prop} {h kB : Nat} (a : ∀ c, G c → h ≤ c) (n : Nx 0 h kB) : ∀ c, G c ∨ c + 1 = kB → h ≤ c := by
 rintro c (e | e)
 · exact a c e
 · unfold Nx at n; omega
theorem snocR {α β : Type} {f : β → List Value} {sz : Nat} {v : α → Value} {r : α → List β} {G G2 : Nat → Prop} {H : Heap} {l : List α} {x : α} (h : ∀ y ∈ l, Rd G H f sz (v y) (r y)) (hg : ∀ b, G b → G2 b) (hx : Rd G2 H f sz (v x) (r x)) : ∀ y ∈ l ++ [x], Rd G2 H f sz (v y) (r y) := by
 intro y hy
 rcases List.mem_append.1 hy with hy | hy
 · exact (h y hy).imp (fun b _ e => hg b e)
 · rw [List.mem_singleton] at hy; rw [hy]; exact hx
theorem lastN_of {l : List TLn} {q : Nat} (h : q = l.length - 100) : l.drop q = lastN l := by subst h; rfl
theorem rlM_ok {s : TSt} (h : s.m.Ok) : s.rl.length ≤ 200 := by have := h.rn; simpa [TSt.m, rlM] using this
theorem llM_ok {s : TSt} (h : s.m.Ok) : s.ll.length ≤ 200 := by
 have h1 := h.rn
 have h2 := congrArg List.length h.lk
 rw [List.length_map, List.length_map] at h2
 rw [← h2] at h1
 simpa [TSt.m, llM] using h1
theorem elM_ok {s : TSt} (h : s.m.Ok) : s.el.length ≤ 500 := by have := h.mn; simpa [TSt.m, elM] using this
theorem ln_ok {s : TSt} (h : s.m.Ok) : ∀ y ∈ s.ll, y.l.length ≤ 100 := fun y hy => h.ll (y.n, y.l) (List.mem_map.2 ⟨y, hy, rfl⟩)
theorem md_ok {s : TSt} (h : s.m.Ok) : ∀ y ∈ s.el, y.d.length ≤ 65536 := fun y hy => h.md (y.k.1, y.d) (List.mem_map.2 ⟨y, hy, rfl⟩)
theorem td_ok {s : TSt} (h : s.m.Ok) : s.q.td.length ≤ 100 := h.tn
theorem rclone_ct (v1 : Value) (a : List TRf) (w0 : World) (H0 : Heap)
 (ha : RdT H0 fRf 33 v1 a) (hal : a.length ≤ 1073741824) :
 Ct Tryz.prog w0 113 #[v1] H0 (fun r H2 => ∃ s : SV, ∃ k : Nat, r = s.v ∧ (Ow k 71 H2 fRf 33 s.v a) ∧ (Nx 0 H0.size k) ∧ Nw H0 H2) := by
 refine Ct.enter (args := [v1]) Tryz.func113 rfl rfl rfl ?_
 intro Q0 hret
 have hm0 : Nw H0 H0 := Mo.refl _ _
 replace ha := ha.bnd
 obtain ⟨p, cp, rfl, _, _, hne⟩ := id ha.ex
 refine CW.s1 (fun hK1 => CW.region ?_)
 refine LR.a1 (LR.nil (hK1 _ _ ?_))
 refine CW.s2 (fun hK2 hE2 => CW.s1 (fun hK3 => CW.region ?_))
 refine LR.m1 ?_
 refine LR.v1 (Y.sleq rfl Tryz.underlying44 rfl rfl) (LR.nil (hK3 _ _ ?_))
 refine CW.cond rfl (fun c4 => ?_) (fun c4 => ?_)
 ·
  obtain rfl : a = [] := by
   apply Decidable.byContradiction
   intro h
   obtain ⟨ad, h1, _⟩ := hne h
   rw [h1] at c4; cases c4
  refine CW.s1 (fun hK4 => CW.region ?_)
  refine LR.a1 (LR.nil (hK4 _ _ ?_))
  refine CW.ret (hE2 .ret nofun _ _ (hret .ret (.inr rfl) _ _ _ (res1 rfl rfl) ?_))
  exact ⟨⟨none, 0, 0⟩, 0, rfl, Ow.nil fRf_len fRf_one, Nx.refl _ _, hm0⟩
 ·
  refine CW.skip (hK2 _ _ (CW.s1 (fun hK5 => CW.region ?_)))
  refine LR.z1 (Z.litw _ (([] : List TRf)) rfl inf44 rfl rfl rfl (by decide) (by decide) fRf_len fRf_one (rfl)) fun v5 H5 r5 => ?_
  obtain ⟨ow5, hs5, ob5, hH5⟩ := r5
  have hzs5 : H5.size = H0.size + 1 := by rw [hH5]; simp
  have nx2 : Nx 0 H0.size (H0.size + 1) := Nx.new hm0.size
  replace ha := ha.nw hs5
  replace hm0 := hm0.tr hs5
  have hz1 := hs5.size
  refine LR.m1 ?_
  refine LR.z1 (Z.apnd ow5 ha rfl inf44 rfl rfl (by first | omega | (simp; omega)) (by first | omega | (simp; omega))) fun v7 H7 r7 => ?_
  obtain ⟨k7, ow7, hk7, hs7⟩ := r7
  replace hk7 : Nx (H0.size + 1) H5.size k7 := hk7
  replace hs7 := hs7.md
  have nx4 : Nx 0 H0.size k7 := Nx.tr (nx2) hk7 hm0.size
  replace hm0 := hm0.tq hs7 (MIL.o (MI.q nx2))
  refine LR.a1 (LR.nil (hK5 _ _ ?_))
  refine CW.ret (hret .ret (.inr rfl) _ _ _ (res1 rfl rfl) ?_)
  obtain ⟨s7, rfl⟩ : ∃ s : SV, v7 = s.v := ⟨toSV v7, ow7.sv.symm⟩
  exact ⟨s7, k7, rfl, by simpa using ow7, nx4, hm0⟩
theorem lclone_ct (v1 : Value) (a : List TLn) (w0 : World) (H0 : Heap)
 (ha : RdT H0 fLn 65 v1 a) (hal : a.length ≤ 1073741824) :
 Ct Tryz.prog w0 114 #[v1] H0 (fun r H2 => ∃ s : SV, ∃ k : Nat, r = s.v ∧ (Ow k 64 H2 fLn 65 s.v a) ∧ (Nx 0 H0.size k) ∧ Nw H0 H2) := by
 refine Ct.enter (args := [v1]) Tryz.func114 rfl rfl rfl ?_
 intro Q0 hret
 have hm0 : Nw H0 H0 := Mo.refl _ _
 replace ha := ha.bnd
 obtain ⟨p, cp, rfl, _, _, hne⟩ := id ha.ex
 refine CW.s1 (fun hK1 => CW.region ?_)
 refine LR.a1 (LR.nil (hK1 _ _ ?_))
 refine CW.s2 (fun hK2 hE2 => CW.s1 (fun hK3 => CW.region ?_))
 refine LR.m1 ?_
 refine LR.v1 (Y.sleq rfl Tryz.underlying60 rfl rfl) (LR.nil (hK3 _ _ ?_))
 refine CW.cond rfl (fun c4 => ?_) (fun c4 => ?_)
 ·
  obtain rfl : a = [] := by
   apply Decidable.byContradiction
   intro h
   obtain ⟨ad, h1, _⟩ := hne h
   rw [h1] at c4; cases c4
  refine CW.s1 (fun hK4 => CW.region ?_)
  refine LR.a1 (LR.nil (hK4 _ _ ?_))
  refine CW.ret (hE2 .ret nofun _ _ (hret .ret (.inr rfl) _ _ _ (res1 rfl rfl) ?_))
  exact ⟨⟨none, 0, 0⟩, 0, rfl, Ow.nil fLn_len fLn_one, Nx.refl _ _, hm0⟩
 ·
  refine CW.skip (hK2 _ _ (CW.s1 (fun hK5 => CW.region ?_)))
  refine LR.z1 (Z.litw _ (([] : List TLn)) rfl inf60 rfl rfl rfl (by decide) (by decide) fLn_len fLn_one (rfl)) fun v5 H5 r5 => ?_
  obtain ⟨ow5, hs5, ob5, hH5⟩ := r5
  have hzs5 : H5.size = H0.size + 1 := by rw [hH5]; simp
  have nx2 : Nx 0 H0.size (H0.size + 1) := Nx.new hm0.size
  replace ha := ha.nw hs5
  replace hm0 := hm0.tr hs5
  have hz1 := hs5.size
  refine LR.m1 ?_
  refine LR.z1 (Z.apnd ow5 ha rfl inf60 rfl rfl (by first | omega | (simp; omega)) (by first | omega | (simp; omega))) fun v7 H7 r7 => ?_
  obtain ⟨k7, ow7, hk7, hs7⟩ := r7
  replace hk7 : Nx (H0.size + 1) H5.size k7 := hk7
  replace hs7 := hs7.md
  have nx4 : Nx 0 H0.size k7 := Nx.tr (nx2) hk7 hm0.size
  replace hm0 := hm0.tq hs7 (MIL.o (MI.q nx2))
  refine LR.a1 (LR.nil (hK5 _ _ ?_))
  refine CW.ret (hret .ret (.inr rfl) _ _ _ (res1 rfl rfl) ?_)
  obtain ⟨s7, rfl⟩ : ∃ s : SV, v7 = s.v := ⟨toSV v7, ow7.sv.symm⟩
  exact ⟨s7, k7, rfl, by simpa using ow7, nx4, hm0⟩
theorem tclone_ct (v1 : Value) (a : List TTd) (w0 : World) (H0 : Heap)
 (ha : RdT H0 fTd 33 v1 a) (hal : a.length ≤ 1073741824) :
 Ct Tryz.prog w0 52 #[v1] H0 (fun r H2 => ∃ s : SV, ∃ k : Nat, r = s.v ∧ (Ow k 129 H2 fTd 33 s.v a) ∧ (Nx 0 H0.size k) ∧ Nw H0 H2) := by
 refine Ct.enter (args := [v1]) Tryz.func52 rfl rfl rfl ?_
 intro Q0 hret
 have hm0 : Nw H0 H0 := Mo.refl _ _
 replace ha := ha.bnd
 obtain ⟨p, cp, rfl, _, _, hne⟩ := id ha.ex
 refine CW.s1 (fun hK1 => CW.region ?_)
 refine LR.a1 (LR.nil (hK1 _ _ ?_))
 refine CW.s2 (fun hK2 hE2 => CW.s1 (fun hK3 => CW.region ?_))
 refine LR.m1 ?_
 refine LR.v1 (Y.sleq rfl Tryz.underlying27 rfl rfl) (LR.nil (hK3 _ _ ?_))
 refine CW.cond rfl (fun c4 => ?_) (fun c4 => ?_)
 ·
  obtain rfl : a = [] := by
   apply Decidable.byContradiction
   intro h
   obtain ⟨ad, h1, _⟩ := hne h
   rw [h1] at c4; cases c4
  refine CW.s1 (fun hK4 => CW.region ?_)
  refine LR.a1 (LR.nil (hK4 _ _ ?_))
  refine CW.ret (hE2 .ret nofun _ _ (hret .ret (.inr rfl) _ _ _ (res1 rfl rfl) ?_))
  exact ⟨⟨none, 0, 0⟩, 0, rfl, Ow.nil fTd_len fTd_one, Nx.refl _ _, hm0⟩
 ·
  refine CW.skip (hK2 _ _ (CW.s1 (fun hK5 => CW.region ?_)))
  refine LR.z1 (Z.litw _ (([] : List TTd)) rfl inf27 rfl rfl rfl (by decide) (by decide) fTd_len fTd_one (rfl)) fun v5 H5 r5 => ?_
  obtain ⟨ow5, hs5, ob5, hH5⟩ := r5
  have hzs5 : H5.size = H0.size + 1 := by rw [hH5]; simp
  have nx2 : Nx 0 H0.size (H0.size + 1) := Nx.new hm0.size
  replace ha := ha.nw hs5
  replace hm0 := hm0.tr hs5
  have hz1 := hs5.size
  refine LR.m1 ?_
  refine LR.z1 (Z.apnd ow5 ha rfl inf27 rfl rfl (by first | omega | (simp; omega)) (by first | omega | (simp; omega))) fun v7 H7 r7 => ?_
  obtain ⟨k7, ow7, hk7, hs7⟩ := r7
  replace hk7 : Nx (H0.size + 1) H5.size k7 := hk7
  replace hs7 := hs7.md
  have nx4 : Nx 0 H0.size k7 := Nx.tr (nx2) hk7 hm0.size
  replace hm0 := hm0.tq hs7 (MIL.o (MI.q nx2))
  refine LR.a1 (LR.nil (hK5 _ _ ?_))
  refine CW.ret (hret .ret (.inr rfl) _ _ _ (res1 rfl rfl) ?_)
  obtain ⟨s7, rfl⟩ : ∃ s : SV, v7 = s.v := ⟨toSV v7, ow7.sv.symm⟩
  exact ⟨s7, k7, rfl, by simpa using ow7, nx4, hm0⟩
theorem bclone_ct (v1 : Value) (a : List UInt8) (w0 : World) (H0 : Heap)
 (ha : RdT H0 fB 1 v1 a) (hal : a.length ≤ 140737488355328) :
 Ct Tryz.prog w0 59 #[v1] H0 (fun r H2 => ∃ s : SV, ∃ k : Nat, r = s.v ∧ (Ow k 5 H2 fB 1 s.v a) ∧ (Nx 0 H0.size k) ∧ Nw H0 H2) := by
 refine Ct.enter (args := [v1]) Tryz.func59 rfl rfl rfl ?_
 intro Q0 hret
 have hm0 : Nw H0 H0 := Mo.refl _ _
 replace ha := ha.bnd
 obtain ⟨p, cp, rfl, _, _, hne⟩ := id ha.ex
 refine CW.s1 (fun hK1 => CW.region ?_)
 refine LR.a1 (LR.nil (hK1 _ _ ?_))
 refine CW.s2 (fun hK2 hE2 => CW.s1 (fun hK3 => CW.region ?_))
 refine LR.m1 ?_
 refine LR.v1 (Y.sleq rfl Tryz.underlying57 rfl rfl) (LR.nil (hK3 _ _ ?_))
 refine CW.cond rfl (fun c4 => ?_) (fun c4 => ?_)
 ·
  obtain rfl : a = [] := by
   apply Decidable.byContradiction
   intro h
   obtain ⟨ad, h1, _⟩ := hne h
   rw [h1] at c4; cases c4
  refine CW.s1 (fun hK4 => CW.region ?_)
  refine LR.a1 (LR.nil (hK4 _ _ ?_))
  refine CW.ret (hE2 .ret nofun _ _ (hret .ret (.inr rfl) _ _ _ (res1 rfl rfl) ?_))
  exact ⟨⟨none, 0, 0⟩, 0, rfl, Ow.nil fB_len fB_one, Nx.refl _ _, hm0⟩
 ·
  refine CW.skip (hK2 _ _ (CW.s1 (fun hK5 => CW.region ?_)))
  refine LR.z1 (Z.litw _ (([] : List UInt8)) rfl inf57 rfl rfl rfl (by decide) (by decide) fB_len fB_one (rfl)) fun v5 H5 r5 => ?_
  obtain ⟨ow5, hs5, ob5, hH5⟩ := r5
  have hzs5 : H5.size = H0.size + 1 := by rw [hH5]; simp
  have nx2 : Nx 0 H0.size (H0.size + 1) := Nx.new hm0.size
  replace ha := ha.nw hs5
  replace hm0 := hm0.tr hs5
  have hz1 := hs5.size
  refine LR.m1 ?_
  refine LR.z1 (Z.apnd ow5 ha rfl inf57 rfl rfl (by first | omega | (simp; omega)) (by first | omega | (simp; omega))) fun v7 H7 r7 => ?_
  obtain ⟨k7, ow7, hk7, hs7⟩ := r7
  replace hk7 : Nx (H0.size + 1) H5.size k7 := hk7
  replace hs7 := hs7.md
  have nx4 : Nx 0 H0.size k7 := Nx.tr (nx2) hk7 hm0.size
  replace hm0 := hm0.tq hs7 (MIL.o (MI.q nx2))
  refine LR.a1 (LR.nil (hK5 _ _ ?_))
  refine CW.ret (hret .ret (.inr rfl) _ _ _ (res1 rfl rfl) ?_)
  obtain ⟨s7, rfl⟩ : ∃ s : SV, v7 = s.v := ⟨toSV v7, ow7.sv.symm⟩
  exact ⟨s7, k7, rfl, by simpa using ow7, nx4, hm0⟩
set_option maxHeartbeats 4000000 in
theorem log_ct (v : Value) (l : List TLn) (m : TMv) (w0 : World) (H0 : Heap)
 (hl : RdT H0 fLn 65 v l) (hll : l.length ≤ 1000) :
 Ct Tryz.prog w0 56 #[v, mvV m] H0 (fun r H2 => ∃ s : SV, ∃ k : Nat, r = s.v ∧ (Ow k 64 H2 fLn 65 s.v (lastN (l ++ [⟨m.o, m.w, m.y⟩]))) ∧ (Nx 0 H0.size k) ∧ Nw H0 H2) := by
 refine Ct.enter (args := [v, mvV m]) Tryz.func56 rfl rfl rfl ?_
 intro Q0 hret
 have hm0 : Nw H0 H0 := Mo.refl _ _
 replace hl := hl.bnd
 refine CW.s1 (fun hK1 => CW.region ?_)
 refine LR.z1 (Z.boxv rfl rfl) fun v3 H3 r3 => ?_
 obtain ⟨rfl, vm, hs3, ob3, hH3⟩ := r3
 have hzs3 : H3.size = H0.size + 1 := by rw [hH3]; simp
 replace hl := hl.nw hs3
 replace hm0 := hm0.tr hs3
 have hz1 := hs3.size
 replace vm : Var 52 H3 H0.size (fMv m) := vm
 refine LR.a1 (LR.nil (hK1 _ _ ?_))
 refine CW.s1 (fun hK2 => ?_)
 refine CW.region_any (fun Hq => Nw H3 Hq) [] rfl ?_
 have hq1 : Nw H3 H3 := Mo.refl _ _
 refine LH.m1 0 rfl hq1 ?_
 refine LH.t1 2 rfl (fun Hq hq => Y.FA (vm.pt.nw hq) rfl u'52 rfl s'26) hq1 ?_
 refine LH.t1 3 rfl (fun Hq hq => Y.cast (v2 := vA m.o) (Y.loadN (((vm.pt.drop 1).nw hq).take 32) rfl a'26 s'26 (by rw [fMv_o]; exact fA_len _) rfl) (congrArg (fun z : List Value => Value.agg z.toArray) (fMv_o _))) hq1 ?_
 refine LH.t1 4 rfl (fun Hq hq => Y.FA (vm.pt.nw hq) rfl u'52 rfl s'26) hq1 ?_
 refine LH.t1 5 rfl (fun Hq hq => Y.cast (v2 := vA m.w) (Y.loadN (((vm.pt.drop 33).nw hq).take 32) rfl a'26 s'26 (by rw [fMv_w]; exact fA_len _) rfl) (congrArg (fun z : List Value => Value.agg z.toArray) (fMv_w _))) hq1 ?_
 refine LH.t1 6 rfl (fun Hq hq => Y.FA (vm.pt.nw hq) rfl u'52 rfl s'9) hq1 ?_
 refine LH.t1 7 rfl (fun Hq hq => Y.load1 (vm.pt.mv65.nw hq) rfl a'9 rfl) hq1 ?_
 refine LH.t1 8 rfl (fun Hq hq => Y.build (v := .agg (fLn ⟨m.o, m.w, m.y⟩).toArray) rfl rfl (by intro w; exact build_ln _ _)) hq1 ?_
 refine LH.two (i := 1) (j := 9) (by kernel_rfl) ?_ ?_
 ·
  refine LO.call rfl rfl c'114 rfl (Wd.u rfl) rfl rfl (lclone_ct v l w0 _ hl.any (by omega)) (fun v6 H6 r6 => ?_)
  obtain ⟨s6, k6, rfl, ow, hk6, hs6⟩ := r6
  have nx5 : Nx 0 H0.size k6 := Nx.tr (Nx.refl 0 _) hk6 hm0.size
  have nx6 : Nx 0 H3.size k6 := Nx.tr (Nx.refl 0 _) hk6 hq1.size
  replace hm0 := hm0.tr hs6
  replace hq1 := hq1.tr hs6
  have hz2 := hs6.size
  have hle_ow := ow.le
  refine ⟨.inr hq1, LH.narrow (SH2 := fun Hq => Mo (Ms [k6]) H6 Hq) (fun Hq hq => (Mo.trL (ks := []) (hq1.mdn []) hq (MIL.o (MI.q nx6))).nil) ?_⟩
  have hq1 : Mo (Ms [k6]) H6 H6 := Mo.refl _ _
  have nx7 := Nx.refl k6 H6.size
  refine LH.o1 9 ?_
  refine LO.z rfl (Z.litw _ ([(⟨m.o, m.w, m.y⟩ : TLn)]) rfl inf60 rfl rfl rfl (by decide) (by decide) fLn_len fLn_one (rfl)) (Wd.u rfl) rfl rfl (fun v14 H14 r14 => ?_)
  obtain ⟨nw14, hs14, ob14, hH14⟩ := r14
  have hzs14 : H14.size = H6.size + 1 := by rw [hH14]; simp
  have nx12 : Nx 0 H6.size (H6.size + 1) := Nx.new hq1.size
  replace ow := ow.nw hs14
  replace hm0 := hm0.tr hs14
  replace hq1 := hq1.trN hs14
  have hz3 := hs14.size
  refine ⟨.inr hq1, LH.narrow (SH2 := fun Hq => Mo (Ms [k6, (H6.size + 1)]) H14 Hq) (fun Hq hq => hq1.trL hq (MIL.cons (MI.r nx7) (MIL.o (MI.q nx12)))) ?_⟩
  have hq1 : Mo (Ms [k6, (H6.size + 1)]) H14 H14 := Mo.refl _ _
  have nx13 := Nx.refl k6 H14.size
  have nx14 := Nx.refl (H6.size + 1) H14.size
  refine LH.o1 10 ?_
  refine LO.z rfl (Z.apnd ow nw14.rd rfl inf60 rfl rfl (by simp; omega) (by simp; omega)) (Wd.u rfl) rfl rfl (fun v15 H15 r15 => ?_)
  obtain ⟨k15, ow, hk15, hs15⟩ := r15
  replace hk15 : Nx k6 H14.size k15 := hk15
  replace hs15 := hs15.md
  have nx19 : Nx k6 H14.size k15 := Nx.tr (nx13) hk15 hq1.size
  replace hm0 := hm0.tq hs15 (MIL.o (MI.q nx5))
  replace hq1 := hq1.trL hs15 (MIL.o (MI.r nx13))
  have hz4 := hs15.size
  have hle_ow := ow.le
  refine ⟨.inr hq1, LH.narrow (SH2 := fun Hq => Mo (Ms [k15, (H6.size + 1)]) H15 Hq) (fun Hq hq => hq1.trL hq (MIL.cons (MI.r nx19) (MIL.o (MI.r nx14)))) ?_⟩
  have hq1 : Mo (Ms [k15, (H6.size + 1)]) H15 H15 := Mo.refl _ _
  refine LH.t1 11 rfl (fun Hq hq => Y.assign rfl rfl) hq1 ?_
  refine LH.done (by kernel_rfl) ?_
  refine hK2 _ _ (CW.s1 (fun hK3 => CW.region ?_))
  refine LR.m1 ?_
  refine LR.m1 ?_
  refine LR.v1 (Y.len ow.rd rfl u'60 rfl) ?_
  have hl1 : (l ++ [(⟨m.o, m.w, m.y⟩ : TLn)]).length = l.length + 1 := by simp
  obtain ⟨q, hq⟩ : ∃ q, q = (l ++ [(⟨m.o, m.w, m.y⟩ : TLn)]).length - 100 := ⟨_, rfl⟩
  have hln := lastN_of hq
  refine LR.v1 (Y.subi rfl rfl rfl (by omega)) ?_
  refine LR.v1 (Y.cast (v2 := .int .i64 (q : Int)) (Y.maxi rfl rfl rfl) (ivv (by omega))) ?_
  refine LR.e1 (g := fun v => v) (Y.slice ow.rd (q) ((l ++ [(⟨m.o, m.w, m.y⟩ : TLn)]).length) rfl u'60 s'64 rfl (.inr ⟨_, _, _, rfl, rfl, by first | rfl | omega⟩) (.inl ⟨rfl, rfl⟩) (by omega) (by omega)) fun v21 rd21 => ?_
  rw [List.take_length, hln] at rd21
  have hc7 : (lastN (l ++ [(⟨m.o, m.w, m.y⟩ : TLn)])).length ≤ 1073741824 := by have := lastN_le (l ++ [(⟨m.o, m.w, m.y⟩ : TLn)]); omega
  have hc8 := rd21.any
  have hc9 := lclone_ct v21 _ w0 _ hc8 hc7
  refine LR.call rfl c'114 rfl (Wd.u rfl) rfl rfl (hc9) (fun v22 H22 r22 => ?_)
  obtain ⟨s22, k22, rfl, oz, hk22, hs22⟩ := r22
  have nx25 : Nx 0 H0.size k22 := Nx.tr (Nx.refl 0 _) hk22 hm0.size
  replace hm0 := hm0.tr hs22
  refine LR.a1 (LR.nil (hK3 _ _ ?_))
  refine CW.ret (hret .ret (.inr rfl) _ _ _ (res1 rfl rfl) ?_)
  exact ⟨s22, k22, rfl, oz, nx25, hm0⟩
 ·
  refine LO.z rfl (Z.litw _ ([(⟨m.o, m.w, m.y⟩ : TLn)]) rfl inf60 rfl rfl rfl (by decide) (by decide) fLn_len fLn_one (rfl)) (Wd.u rfl) rfl rfl (fun v14 H14 r14 => ?_)
  obtain ⟨nw14, hs14, ob14, hH14⟩ := r14
  have hzs14 : H14.size = H3.size + 1 := by rw [hH14]; simp
  have nx29 : Nx 0 H3.size (H3.size + 1) := Nx.new hq1.size
  replace hl := hl.nw hs14
  replace hm0 := hm0.tr hs14
  replace hq1 := hq1.tr hs14
  have hz6 := hs14.size
  refine ⟨.inr hq1, LH.narrow (SH2 := fun Hq => Mo (Ms [(H3.size + 1)]) H14 Hq) (fun Hq hq => (Mo.trL (ks := []) (hq1.mdn []) hq (MIL.o (MI.q nx29))).nil) ?_⟩
  have hq1 : Mo (Ms [(H3.size + 1)]) H14 H14 := Mo.refl _ _
  have nx30 := Nx.refl (H3.size + 1) H14.size
  refine LH.o1 1 ?_
  refine LO.call rfl rfl c'114 rfl (Wd.u rfl) rfl rfl (lclone_ct v l w0 _ hl.any (by omega)) (fun v6 H6 r6 => ?_)
  obtain ⟨s6, k6, rfl, ow, hk6, hs6⟩ := r6
  have nx34 : Nx 0 H0.size k6 := Nx.tr (Nx.refl 0 _) hk6 hm0.size
  have nx35 : Nx 0 H14.size k6 := Nx.tr (Nx.refl 0 _) hk6 hq1.size
  replace nw14 := nw14.nw hs6
  replace hm0 := hm0.tr hs6
  replace hq1 := hq1.trN hs6
  have hz7 := hs6.size
  have hle_ow := ow.le
  refine ⟨.inr hq1, LH.narrow (SH2 := fun Hq => Mo (Ms [(H3.size + 1), k6]) H6 Hq) (fun Hq hq => hq1.trL hq (MIL.cons (MI.r nx30) (MIL.o (MI.q nx35)))) ?_⟩
  have hq1 : Mo (Ms [(H3.size + 1), k6]) H6 H6 := Mo.refl _ _
  have nx36 := Nx.refl (H3.size + 1) H6.size
  have nx37 := Nx.refl k6 H6.size
  refine LH.o1 10 ?_
  refine LO.z rfl (Z.apnd ow nw14.rd rfl inf60 rfl rfl (by simp; omega) (by simp; omega)) (Wd.u rfl) rfl rfl (fun v15 H15 r15 => ?_)
  obtain ⟨k15, ow, hk15, hs15⟩ := r15
  replace hk15 : Nx k6 H6.size k15 := hk15
  replace hs15 := hs15.md
  have nx42 : Nx k6 H6.size k15 := Nx.tr (nx37) hk15 hq1.size
  replace hm0 := hm0.tq hs15 (MIL.o (MI.q nx34))
  replace hq1 := hq1.trL hs15 (MIL.o (MI.r nx37))
  have hz8 := hs15.size
  have hle_ow := ow.le
  refine ⟨.inr hq1, LH.narrow (SH2 := fun Hq => Mo (Ms [(H3.size + 1), k15]) H15 Hq) (fun Hq hq => hq1.trL hq (MIL.cons (MI.r nx36) (MIL.o (MI.r nx42)))) ?_⟩
  have hq1 : Mo (Ms [(H3.size + 1), k15]) H15 H15 := Mo.refl _ _
  refine LH.t1 11 rfl (fun Hq hq => Y.assign rfl rfl) hq1 ?_
  refine LH.done (by kernel_rfl) ?_
  refine hK2 _ _ (CW.s1 (fun hK4 => CW.region ?_))
  refine LR.m1 ?_
  refine LR.m1 ?_
  refine LR.v1 (Y.len ow.rd rfl u'60 rfl) ?_
  have hl1 : (l ++ [(⟨m.o, m.w, m.y⟩ : TLn)]).length = l.length + 1 := by simp
  obtain ⟨q, hq⟩ : ∃ q, q = (l ++ [(⟨m.o, m.w, m.y⟩ : TLn)]).length - 100 := ⟨_, rfl⟩
  have hln := lastN_of hq
  refine LR.v1 (Y.subi rfl rfl rfl (by omega)) ?_
  refine LR.v1 (Y.cast (v2 := .int .i64 (q : Int)) (Y.maxi rfl rfl rfl) (ivv (by omega))) ?_
  refine LR.e1 (g := fun v => v) (Y.slice ow.rd (q) ((l ++ [(⟨m.o, m.w, m.y⟩ : TLn)]).length) rfl u'60 s'64 rfl (.inr ⟨_, _, _, rfl, rfl, by first | rfl | omega⟩) (.inl ⟨rfl, rfl⟩) (by omega) (by omega)) fun v21 rd21 => ?_
  rw [List.take_length, hln] at rd21
  have hc7 : (lastN (l ++ [(⟨m.o, m.w, m.y⟩ : TLn)])).length ≤ 1073741824 := by have := lastN_le (l ++ [(⟨m.o, m.w, m.y⟩ : TLn)]); omega
  have hc8 := rd21.any
  have hc9 := lclone_ct v21 _ w0 _ hc8 hc7
  refine LR.call rfl c'114 rfl (Wd.u rfl) rfl rfl (hc9) (fun v22 H22 r22 => ?_)
  obtain ⟨s22, k22, rfl, oz, hk22, hs22⟩ := r22
  have nx48 : Nx 0 H0.size k22 := Nx.tr (Nx.refl 0 _) hk22 hm0.size
  replace hm0 := hm0.tr hs22
  refine LR.a1 (LR.nil (hK4 _ _ ?_))
  refine CW.ret (hret .ret (.inr rfl) _ _ _ (res1 rfl rfl) ?_)
  exact ⟨s22, k22, rfl, oz, nx48, hm0⟩
end Go.Proofs.YtfjmpninmdjcaaaGreatDoor.RefG

namespace Go.Proofs.YtfjmpninmdjcaaaGreatDoor.RefH
open E Go.RowKit NamA NamB NamC NamD RefA RefB RefP RefQ RefR RefD RefE RefG
set_option maxRecDepth 20000
set_option maxRecDepth 100000 in
theorem inf30 : Inf Tryz.prog 30 68 33 56 := ⟨Tryz.underlying30, _, _, rfl, rfl, rfl, rfl, rfl⟩
set_option maxRecDepth 100000 in
theorem inf45 : Inf Tryz.prog 45 62 2 40 := ⟨Tryz.underlying45, _, _, rfl, rfl, rfl, rfl, rfl⟩
section
variable {P : Program} {w0 : World} {n : Nat} {l : FL} {H H1 : Heap} {o : Oper}
end
section
variable {P : Program} {w0 : World} {n : Nat} {l : FL} {H : Heap} {o : Oper}
theorem Z.copyQ {d x : Operand} {t t2 e e' : TypeId} {b off dlen dcap slen scap sz k : Nat} {cs ys : List Value} {ad : Addr} (hv : Var e H b cs) (hp : ∀ w, At w0 H w → ∀ j v, ys[j]? = some v → w.cell? (ad.add j) = some v) (hy : ys.length = k * sz) (ho1 : ∀ u ∈ ys, u.oneCell' = true) (ho : o.op = .call { callee := .builtin .copy, args := #[d, x], argTypes := #[t, t2] })
 (ht : P.underlying t = some (.slice e')) (hs : ∀ w, (sizeOf e').run P w = .ok sz w) (hd : opv l d = some (.slice (some ⟨b, off, none⟩) dlen dcap)) (hx : opv l x = some (.slice (some ad) slen scap)) (hk : k = min slen dlen) (hfit : off + k * sz ≤ cs.length) :
 Z P w0 n l H o (fun r H' => r = .int .i64 k ∧ Var e H' b (splice cs off ys) ∧ Mo (fun g => g = b) H H') := by
 intro a w hf ha
 obtain ⟨fz, hb1, hb2⟩ := id hv.row
 have hkk : Nat.min slen dlen = k := hk.symm
 have hfc : (Builtin.firstCells sz k (.slice (some ad) slen scap)).run P w = .ok ys.toArray w :=
  run_firstCells_some (P := P) w sz k ad slen scap _ hy (fun j v hj => hp w ha j v hj)
 have hst := run_storeCells_soft P b off e fz ys 0 cs.toArray w (by rw [ha.heap]; exact hb1) hb2 (by simp; omega) ho1
 simp only [Nat.add_zero] at hst
 refine ⟨_, _, w.setRow b (splice cs off ys).toArray, ?_, ha.row _ _, rfl, ⟨setRow_row ha hv.row (by simp [splice]; omega)⟩, setRow_mo ha _ _⟩
 simp [execOp, ho, hf.eval hd, hf.eval hx, resolve, invoke, builtin, Builtin.copy_, run_underlying ht, Builtin.lenOf, hs, hkk, hfc, hst, splice, goInt]
theorem zeroCells_rep {z : Value} {α : Type} {f : α → List Value} {z0 : α} (h : z.cells.toList = f z0) : ∀ m, (Builtin.zeroCells z.cells m).toList = (List.replicate m z0).flatMap f := by
 have hl : (f z0).length = z.cells.size := by rw [← h, Array.length_toList]
 have e0 : ∀ m, (Builtin.zeroCells z.cells m).toList = (List.range (m * z.cells.size)).map (fun i => z.cells[i % z.cells.size]!) := fun m => by
  unfold Builtin.zeroCells
  rw [Array.toList_map, Array.toList_range]
 have e1 : (List.range z.cells.size).map (fun i => z.cells[i % z.cells.size]!) = f z0 := by
  rw [← h]
  apply List.ext_getElem
  · simp
  · intro j h1 h2
    have hj : j < z.cells.size := by simpa using h1
    simp [Nat.mod_eq_of_lt hj, getElem!_pos z.cells j hj]
 intro m
 rw [e0]
 induction m with
 | zero => simp
 | succ m ih =>
   rw [Nat.succ_mul, Nat.add_comm, List.range_add, List.map_append, List.map_map, e1, List.replicate_succ, List.flatMap_cons, ← ih]
   congr 1
   apply List.map_congr_left
   intro j _
   simp
theorem Z.apndz {α : Type} {F : Nat → Prop} {f : α → List Value} {s x : Operand} {t tn e : TypeId} {kn kq : IntKind} {ad : Addr} {c m sz bytes : Nat} {i : TypeInfo} {z : Value} {xs : List α} (z0 : α) (hc : ∀ x, (f x).length = sz) (h1 : ∀ x, ∀ u ∈ f x, u.oneCell' = true) (hr : Rd F H f sz (.slice (some ad) xs.length c) xs)
 (ho : o.op = .call { callee := .builtin .append, args := #[s, x], argTypes := #[t, tn] }) (ht : P.underlying t = some (.slice e)) (htn : P.underlying tn = some (.int kn)) (hi : P.info? e = some i) (hz : i.zero = some z) (hsz : i.size = sz) (hby : i.bytes = bytes) (hz0 : z.cells.toList = f z0) (hs0 : 0 < sz) (hm0 : 0 < m)
 (hs : opv l s = some (.slice (some ad) xs.length c)) (hx : opv l x = some (.int kq m)) (hg : c < xs.length + m) (hb : (xs.length + m) * bytes ≤ 140737488355328) (hm : xs.length + m ≤ 9223372036854775807) :
 Z P w0 n l H o (fun r H' => Ow (H.size + 1) e H' f sz r (xs ++ List.replicate m z0) ∧ Nw H H' ∧ ∃ ob, H' = H.push ob) := by
 subst hsz
 subst hby
 intro a w hf ha
 have holds := hr.pts hc rfl ha
 have hold : (Builtin.firstCells i.size xs.length (.slice (some ad) xs.length c)).run P w.drew = .ok (xs.flatMap f).toArray w.drew :=
  run_firstCells_some (P := P) w.drew i.size xs.length ad xs.length c _ (length_flatMap hc xs) (fun j v hj => by simpa using holds j v hj)
 have hrun := Lib.run_append_grow_zeros (P := P) w t tn o.type e i z kq kn ht htn hi hz (some ad) xs.length c (xs.flatMap f) hold m hm0 hs0 hg (by omega) (by
  have : m * i.bytes ≤ (xs.length + m) * i.bytes := Nat.mul_le_mul_right _ (by omega)
  omega) (growslice_fits hg hb)
 have ha2 : At w0 H w.drew := ha.drew
 have hge := grownCap_ge w (xs.length + m) c e
 have hcm : grownCap w (xs.length + m) c e ≤ maxLen := grownCap_le_maxLen w (xs.length + m) c e (by unfold maxLen; omega)
 have hzs : z.cells.size = i.size := by rw [← Array.length_toList, hz0, hc]
 have hnew := Own.new (e := e) (G' := fun b => b + 1 = H.size + 1) (w := w.drew) (z := z) (cap := grownCap w (xs.length + m) c e) (zs := xs ++ List.replicate m z0) hc h1 hzs (by rw [ha2.heap]) (by simpa using hge) hcm
 have hcells : (xs.flatMap f).toArray ++ Builtin.zeroCells z.cells m = ((xs ++ List.replicate m z0).flatMap f).toArray := by
  apply Array.ext'
  rw [Array.toList_append, zeroCells_rep hz0, List.flatMap_append]
 have hsize : w.heap.size = H.size := by rw [ha.heap]
 refine ⟨.slice (some ⟨w.heap.size, 0, none⟩) (xs.length + m) (grownCap w (xs.length + m) c e), _, w.drew.alloc (.cells ((xs.flatMap f).toArray ++ Builtin.zeroCells z.cells m ++ Builtin.zeroCells z.cells (grownCap w (xs.length + m) c e - (xs.length + m))) e), ?_, ⟨rfl, ha.os, ha.tape, ha.output, ha2.dr⟩, ⟨?_, ?_⟩, ?_, ?_⟩
 · simp [execOp, ho, resolve, invoke, builtin, hf.eval hs, hf.eval hx, hrun, hsize]
 · rw [hcells]
   simpa [hsize] using hnew
 · rw [(ha2.alloc _).heap]; simp
 · rw [(ha2.alloc _).heap]; exact Mo.push _ _ _
 · exact ⟨_, (ha2.alloc _).heap⟩
theorem Y.sliceV {x : Operand} {lo hi : Option Operand} {t e : TypeId} {a : Option Addr} {len cap sz : Nat} (i j : Nat) (ho : o.op = .slice t x lo hi none) (ht : ∀ w, (underlying t).run P w = .ok (.slice e) w) (hs : ∀ w, (sizeOf e).run P w = .ok sz w) (hx : opv l x = some (.slice a len cap))
 (hlo : lo = none ∧ i = 0 ∨ ∃ p k iv, lo = some p ∧ opv l p = some (.int k iv) ∧ iv = (i : Int)) (hhi : hi = none ∧ j = len ∨ ∃ p k iv, hi = some p ∧ opv l p = some (.int k iv) ∧ iv = (j : Int)) (hij : i ≤ j) (hj : j ≤ cap) :
 Y P w0 n l H o (.slice (if cap = i then a else a.map (·.add (i * sz))) (j - i) (cap - i)) := by
 intro ac w hf ha
 have e1 : ∀ w, (Instr.sliceBounds true len cap (lo.map ac.eval) (hi.map ac.eval) none).run P w = .ok (i, j, cap) w := by
  intro w
  rcases hlo with ⟨rfl, rfl⟩ | ⟨p, k, iv, rfl, h1, rfl⟩ <;> rcases hhi with ⟨rfl, rfl⟩ | ⟨p2, k2, iv2, rfl, h3, rfl⟩ <;>
   simp [Instr.sliceBounds, Instr.sliceBound, asIntOf, hf.eval, *]
 have hu : ∀ w, (underlying t).run P w = .ok (.slice e) w := ht
 simp [execOp, ho, hf.eval hx, Instr.sliceAt, Instr.slice, hu, hs, e1]
theorem Y.capV {x : Operand} {t e : TypeId} {a : Option Addr} {len cap : Nat} (ho : o.op = .call { callee := .builtin .cap, args := #[x], argTypes := #[t] }) (ht : ∀ w, (underlying t).run P w = .ok (.slice e) w) (hx : opv l x = some (.slice a len cap)) : Y P w0 n l H o (.int .i64 cap) := by
 intro ac w hf ha
 simp [execOp, ho, hf.eval hx, resolve, invoke, builtin, Builtin.cap_, ht, goInt]
theorem Ow.view {α : Type} {k : Nat} {e : TypeId} {f : α → List Value} {sz : Nat} {v : Value} {xs : List α} (h : Ow k e H f sz v xs) (hne : xs ≠ []) : ∃ g cap cs, v = .slice (some ⟨g, 0, none⟩) xs.length cap ∧ k = g + 1 ∧ Var e H g cs ∧ xs.length ≤ cap ∧ cap ≤ maxLen ∧ cs.length = cap * sz ∧ cs.take (xs.length * sz) = xs.flatMap f := by
 rcases h.own.ex with ⟨_, hx⟩ | ⟨g, cap, cur, hv, hg, hr, h1, h2, h3, h4⟩
 · exact absurd hx hne
 · exact ⟨g, cap, cur.toList, hv, hg.symm, ⟨hr⟩, h1, h2, by rw [Array.length_toList]; exact h3, h4⟩
theorem Ow.back {α : Type} {g : Nat} {e : TypeId} {f : α → List Value} {sz cap : Nat} {cs : List Value} {xs : List α} (hc : ∀ x, (f x).length = sz) (h1 : ∀ x, ∀ u ∈ f x, u.oneCell' = true) (hv : Var e H g cs) (hl : xs.length ≤ cap) (hm : cap ≤ maxLen) (hs : cs.length = cap * sz) (ht : cs.take (xs.length * sz) = xs.flatMap f) : Ow (g + 1) e H f sz (.slice (some ⟨g, 0, none⟩) xs.length cap) xs :=
 ⟨⟨hc, h1, .inr ⟨g, cap, cs.toArray, rfl, rfl, hv.row, hl, hm, by simpa using hs, by simpa using ht⟩⟩, hv.lt⟩
end
theorem spl_mid {α : Type} {f : α → List Value} {sz : Nat} (hc : ∀ x, (f x).length = sz) {cs : List Value} {xs ys : List α} {i : Nat} (h : cs.take (xs.length * sz) = xs.flatMap f) (hl : cs.length ≥ xs.length * sz) (hi : i + ys.length ≤ xs.length) : (splice cs (i * sz) (ys.flatMap f)).take (xs.length * sz) = (xs.take i ++ ys ++ xs.drop (i + ys.length)).flatMap f := by
 have hy := length_flatMap hc ys
 have hm : (i + ys.length) * sz ≤ xs.length * sz := Nat.mul_le_mul_right _ hi
 have hm2 : (i + ys.length) * sz = i * sz + ys.length * sz := Nat.add_mul _ _ _
 have hA : cs.take (i * sz) = (xs.take i).flatMap f := by
  have := congrArg (List.take (i * sz)) h
  rw [List.take_take, Nat.min_eq_left (by omega)] at this
  rw [this]
  conv => lhs; rw [← List.take_append_drop i xs, List.flatMap_append]
  rw [List.take_left' (by rw [length_flatMap hc, List.length_take, Nat.min_eq_left (by omega)])]
 have hD : (cs.take (xs.length * sz)).drop ((i + ys.length) * sz) = (xs.drop (i + ys.length)).flatMap f := by
  rw [h]
  conv => lhs; rw [← List.take_append_drop (i + ys.length) xs, List.flatMap_append]
  rw [List.drop_left' (by rw [length_flatMap hc, List.length_take, Nat.min_eq_left (by omega)])]
 have h1 : ((xs.take i ++ ys).flatMap f).length = (i + ys.length) * sz := by
  rw [length_flatMap hc, List.length_append, List.length_take, Nat.min_eq_left (by omega)]
 rw [splice, hA, ← List.flatMap_append, hy, ← hm2, List.flatMap_append (xs := xs.take i ++ ys), ← hD, List.take_append, h1, List.take_of_length_le (by rw [h1]; exact hm), List.drop_take]
section
variable {P : Program} {w0 : World} {n : Nat} {l : FL} {H : Heap} {o : Oper}
theorem Z.copyO {α : Type} {F : Nat → Prop} {f : α → List Value} {d x : Operand} {t t2 e e' : TypeId} {g i dlen dcap cap sz k : Nat} {ad : Addr} {scap : Nat} {v : Value} {xs ys : List α} (h : Ow k e H f sz v xs) (hve : v = .slice (some ⟨g, 0, none⟩) xs.length cap) (hr : Rd F H f sz (.slice (some ad) ys.length scap) ys) (hne : xs ≠ [])
 (ho : o.op = .call { callee := .builtin .copy, args := #[d, x], argTypes := #[t, t2] })
 (ht : P.underlying t = some (.slice e')) (hs : ∀ w, (sizeOf e').run P w = .ok sz w) (hd : opv l d = some (.slice (some ⟨g, i * sz, none⟩) dlen dcap)) (hx : opv l x = some (.slice (some ad) ys.length scap)) (hk : ys.length ≤ dlen) (hfit : i + ys.length ≤ xs.length) (hy0 : ys ≠ []) :
 Z P w0 n l H o (fun r H' => r = .int .i64 ys.length ∧ Ow k e H' f sz v (xs.take i ++ ys ++ xs.drop (i + ys.length)) ∧ Mo (fun b => b + 1 = k) H H') := by
 obtain ⟨g2, cap2, cs, hv2, hk2, hcs, h1, h2, h3, h4⟩ := Ow.view h hne
 rw [hve] at hv2
 simp only [Value.slice.injEq, Option.some.injEq, Addr.mk.injEq, true_and, and_true] at hv2
 obtain ⟨rfl, rfl⟩ := hv2
 have hc := h.own.cells
 have hlen := length_flatMap hc ys
 have hsz : (i + ys.length) * sz ≤ xs.length * sz := Nat.mul_le_mul_right _ hfit
 have hsz2 : xs.length * sz ≤ cap * sz := Nat.mul_le_mul_right _ h1
 rw [Nat.add_mul] at hsz
 refine (Z.copyQ hcs (fun w ha => hr.pts hc rfl ha) hlen (fun u hu => by obtain ⟨y, _, hu⟩ := List.mem_flatMap.1 hu; exact h.own.one y u hu) ho ht hs hd hx (by omega) (by omega)).mono ?_
 rintro r H' ⟨hr', hv', hm⟩
 have hlx : (xs.take i ++ ys ++ xs.drop (i + ys.length)).length = xs.length := by simp; omega
 refine ⟨hr', ?_, ?_⟩
 · rw [hk2, hve, ← hlx]
   refine Ow.back hc h.own.one hv' (by omega) h2 ?_ ?_
   · rw [splice_length (by omega), h3]
   · rw [hlx]; exact spl_mid hc h4 (by omega) hfit
 · exact hm.weaken (fun b _ e => by rw [hk2, e])
theorem Z.copyUp {k : Nat} {α : Type} {f : α → List Value} {d x : Operand} {t t2 e e' : TypeId} {g i dlen dcap slen scap cap sz : Nat} {v : Value} {xs : List α} (h : Ow k e H f sz v xs) (hve : v = .slice (some ⟨g, 0, none⟩) xs.length cap) (hi : i < xs.length) (hcap : xs.length < cap)
 (ho : o.op = .call { callee := .builtin .copy, args := #[d, x], argTypes := #[t, t2] })
 (ht : P.underlying t = some (.slice e')) (hs : ∀ w, (sizeOf e').run P w = .ok sz w) (hd : opv l d = some (.slice (some ⟨g, (i + 1) * sz, none⟩) dlen dcap)) (hx : opv l x = some (.slice (some ⟨g, i * sz, none⟩) slen scap)) (hk : xs.length - i = min slen dlen) :
 Z P w0 n l H o (fun r H' => r = .int .i64 (xs.length - i : Nat) ∧ Ow k e H' f sz (.slice (some ⟨g, 0, none⟩) (xs.length + 1) cap) (xs.take (i + 1) ++ xs.drop i) ∧ Mo (fun b => b + 1 = k) H H') := by
 have hne : xs ≠ [] := by intro e; rw [e] at hi; simp at hi
 obtain ⟨g2, cap2, cs, hv2, hk2, hcs, h1, h2, h3, h4⟩ := Ow.view h hne
 rw [hve] at hv2
 simp only [Value.slice.injEq, Option.some.injEq, Addr.mk.injEq, true_and, and_true] at hv2
 obtain ⟨rfl, rfl⟩ := hv2
 have hc := h.own.cells
 have hld : (xs.drop i).length = xs.length - i := List.length_drop
 have hlen : ((xs.drop i).flatMap f).length = (xs.length - i) * sz := by rw [length_flatMap hc, hld]
 have m1 : i * sz + (xs.length - i) * sz = xs.length * sz := by rw [← Nat.add_mul]; congr 1; omega
 have m2 : (i + 1) * sz + (xs.length - i) * sz = (xs.length + 1) * sz := by rw [← Nat.add_mul]; congr 1; omega
 have m3 : (xs.length + 1) * sz ≤ cap * sz := Nat.mul_le_mul_right _ hcap
 have m4 : (i + 1) * sz ≤ xs.length * sz := Nat.mul_le_mul_right _ hi
 have tk : ∀ j, j ≤ xs.length → cs.take (j * sz) = (xs.take j).flatMap f := fun j hj => by
  have hm : j * sz ≤ xs.length * sz := Nat.mul_le_mul_right _ hj
  have := congrArg (List.take (j * sz)) h4
  rw [List.take_take, Nat.min_eq_left hm] at this
  rw [this]
  conv => lhs; rw [← List.take_append_drop j xs, List.flatMap_append]
  rw [List.take_left' (by rw [length_flatMap hc, List.length_take, Nat.min_eq_left hj])]
 have hsrc : (cs.take (xs.length * sz)).drop (i * sz) = (xs.drop i).flatMap f := by
  rw [h4]
  conv => lhs; rw [← List.take_append_drop i xs, List.flatMap_append]
  rw [List.drop_left' (by rw [length_flatMap hc, List.length_take, Nat.min_eq_left (by omega)])]
 have hpt : Pt H ⟨g, i * sz, none⟩ ((xs.drop i).flatMap f) := by
  have := (hcs.pt.take (xs.length * sz)).drop (i * sz)
  rw [hsrc, add_eq rfl] at this
  simpa using this
 refine (Z.copyQ (k := xs.length - i) (sz := sz) hcs (fun w ha j v hj => by rw [ha.cell, add_eq hpt.spot]; exact hpt.cells j v hj) hlen (fun u hu => by obtain ⟨y, _, hu⟩ := List.mem_flatMap.1 hu; exact h.own.one y u hu) ho ht hs hd hx hk (by omega)).mono ?_
 rintro r H' ⟨hr', hv', hm⟩
 have hlx : (xs.take (i + 1) ++ xs.drop i).length = xs.length + 1 := by simp; omega
 refine ⟨hr', ?_, hm.weaken (fun b _ e => by rw [hk2, e])⟩
 rw [hk2, ← hlx]
 refine Ow.back hc h.own.one hv' (by omega) h2 ?_ ?_
 · rw [splice_length (by omega), h3]
 · rw [hlx, splice, tk (i + 1) (by omega), ← List.flatMap_append, List.take_left' (by rw [length_flatMap hc, hlx])]
theorem Y.sl0 {x : Operand} {hi : Option Operand} {t e : TypeId} {g len cap sz : Nat} (j : Nat) (ho : o.op = .slice t x none hi none) (ht : ∀ w, (underlying t).run P w = .ok (.slice e) w) (hs : ∀ w, (sizeOf e).run P w = .ok sz w) (hx : opv l x = some (.slice (some ⟨g, 0, none⟩) len cap))
 (hhi : hi = none ∧ j = len ∨ ∃ p k iv, hi = some p ∧ opv l p = some (.int k iv) ∧ iv = (j : Int)) (hj : j ≤ cap) : Y P w0 n l H o (.slice (some ⟨g, 0, none⟩) j cap) := by
 have := Y.sliceV (P := P) (w0 := w0) (n := n) (H := H) 0 j ho ht hs hx (.inl ⟨rfl, rfl⟩) hhi (Nat.zero_le _) hj
 simpa [add_eq] using this
theorem Y.sl1 {x p : Operand} {t e : TypeId} {g len cap sz : Nat} {k : IntKind} {iv : Int} (i : Nat) (ho : o.op = .slice t x (some p) none none) (ht : ∀ w, (underlying t).run P w = .ok (.slice e) w) (hs : ∀ w, (sizeOf e).run P w = .ok sz w) (hx : opv l x = some (.slice (some ⟨g, 0, none⟩) len cap))
 (hlo : opv l p = some (.int k iv)) (hiv : iv = (i : Int)) (hi : i ≤ len) (hc : i < cap) (hl : len ≤ cap) : Y P w0 n l H o (.slice (some ⟨g, i * sz, none⟩) (len - i) (cap - i)) := by
 have := Y.sliceV (P := P) (w0 := w0) (n := n) (H := H) i len ho ht hs hx (.inr ⟨_, _, _, rfl, hlo, hiv⟩) (.inl ⟨rfl, rfl⟩) hi hl
 rw [if_neg (by omega)] at this
 simpa [add_eq] using this
end
abbrev Mz : TMm := zMm
theorem ins_end {l : List TMm} {x : TMm} {i : Nat} (h : i = l.length) : l ++ [x] = l.take i ++ x :: l.drop i := by subst h; simp
theorem ins_grow {l : List TMm} {x : TMm} {i n : Nat} (hi : i < l.length) (hn : n = l.length + 1 - i) :
 ((l.take i ++ List.replicate n Mz).take i ++ [x] ++ (l.take i ++ List.replicate n Mz).drop (i + 1)).take (i + 1) ++ l.drop i ++ ((l.take i ++ List.replicate n Mz).take i ++ [x] ++ (l.take i ++ List.replicate n Mz).drop (i + 1)).drop (i + 1 + (l.drop i).length) = l.take i ++ x :: l.drop i := by
 have h1 : (l.take i).length = i := by rw [List.length_take]; omega
 have h2 : (l.take i ++ [x]).length = i + 1 := by simp [h1]
 have e1 : (l.take i ++ List.replicate n Mz).take i = l.take i := List.take_left' h1
 rw [e1, List.take_left' h2]
 have e2 : (l.take i ++ [x] ++ (l.take i ++ List.replicate n Mz).drop (i + 1)).drop (i + 1 + (l.drop i).length) = [] := List.drop_eq_nil_of_le (by simp [h1]; omega)
 rw [e2]; simp
theorem ins_up {l : List TMm} {x : TMm} {i : Nat} (hi : i < l.length) : (l.take (i + 1) ++ l.drop i).take i ++ [x] ++ (l.take (i + 1) ++ l.drop i).drop (i + 1) = l.take i ++ x :: l.drop i := by
 have h1 : (l.take (i + 1)).length = i + 1 := by rw [List.length_take]; omega
 rw [List.drop_left' h1, List.take_append_of_le_length (by omega), List.take_take, Nat.min_eq_left (by omega)]; simp
theorem rd_take {F : Nat → Prop} {H : Heap} {l : List TMm} {g cap i : Nat} (h : Rd F H fMm 33 (.slice (some ⟨g, 0, none⟩) l.length cap) l) : Rd F H fMm 33 (.slice (some ⟨g, 0, none⟩) (l.take i).length cap) (l.take i) := by
 obtain ⟨a, c, e, h1, h2, h3⟩ := h.ex
 cases e
 refine ⟨_, _, rfl, by rw [List.length_take]; omega, h2, fun hne => ?_⟩
 obtain ⟨ad, e1, e2, e3, e4, e5⟩ := h3 (by intro e; subst e; simp at hne)
 exact ⟨ad, e1, e2, e3, e4, fun j x hx => e5 j x (by rw [List.getElem?_take] at hx; split at hx; exact hx; cases hx)⟩
theorem rd_drop {F : Nat → Prop} {H : Heap} {l : List TMm} {g cap i : Nat} (h : Rd F H fMm 33 (.slice (some ⟨g, 0, none⟩) l.length cap) l) : Rd F H fMm 33 (.slice (some ⟨g, i * 33, none⟩) (l.drop i).length (cap - i)) (l.drop i) := by
 obtain ⟨a, c, e, h1, h2, h3⟩ := h.ex
 cases e
 refine ⟨_, _, rfl, by rw [List.length_drop]; omega, by omega, fun hne => ?_⟩
 obtain ⟨ad, e1, e2, e3, e4, e5⟩ := h3 (by intro e; subst e; simp at hne)
 cases e1
 refine ⟨_, rfl, rfl, e3, e4, fun j x hx => ?_⟩
 rw [List.getElem?_drop] at hx
 have := e5 (i + j) x hx
 simpa [Nat.add_mul] using this
section
variable {P : Program} {w0 : World} {n : Nat} {l : FL} {H : Heap} {o : Oper}
theorem Y.overlaps {f : FuncId} {fn : Func} {args : List Operand} {ats : Array TypeId} {tS tR e : TypeId} {g gx lx cx off lb cb sz : Nat} {cs : List Value} {csx : Array Value} (hx : H[gx]? = some (.cells csx e (0, 0))) (hv : Var e H g cs) (hne : gx ≠ g) (hcs : cs.length ≠ 0)
 (ho : o.op = .call { callee := .value (.func f), args := args.toArray, argTypes := ats }) (hf : P.funcs[f]? = some fn) (hname : (fn.name == "runtime.NumGoroutine") = false) (hb : fn.body.isNone = true) (hn : Extern.findNext fn = none) (he : Extern.find fn = some (Extern.SlicesOverlaps.overlaps #[tS, tS] #[tR]))
 (ht : P.underlying tS = some (.slice e)) (hs : ∀ w, (sizeOf e).run P w = .ok sz w) (ha : opvs l args = some [.slice (some ⟨gx, 0, none⟩) lx cx, .slice (some ⟨g, off, none⟩) lb cb]) : Y P w0 n l H o (.bool false) := by
 refine Y.ext ho hf hname hb hn he ha (fun w hw => ?_)
 obtain ⟨fz, h1, _⟩ := hv.row
 refine Lib.run_overlaps_apart w tS tR e ht sz hs ⟨gx, 0, none⟩ ⟨g, off, none⟩ lx cx lb cb hne e e csx.size cs.toArray.size ?_ ?_ (by simpa using hcs) ?_ ?_
 · simp [World.shape?, hw.heap, hx]
 · simp [World.shape?, hw.heap, h1]
 · simp [World.frozen?, hw.heap, hx]
 · simp [World.frozen?, hw.heap, hx]
end
section
variable {α : Type} {P : Program} {w0 : World} {n : Nat} {l : FL} {H : Heap} {o : Oper} {e : TypeId} {f : α → List Value} {sz : Nat}
theorem Z.lit0 {t : TypeId} {k bytes : Nat} {parts : List (Nat × Operand)} (vs : List Value) (zs : List α) (ho : o.op = .buildSlice t k parts.toArray) (hinf : Inf P t e sz bytes) (hp : opvs l (parts.map (·.2)) = some vs) (hi : parts.map (·.1) = List.range k) (hk : vs.length = k) (hks : k * sz ≤ 16777216) (hk16 : k ≤ 16777216)
 (hc : ∀ x, (f x).length = sz) (h1 : ∀ x, ∀ u ∈ f x, u.oneCell' = true) (hz : vs.map (fun v => v.cells.toList) = zs.map f) :
 Z P w0 n l H o (fun r H' => Own (fun b => b = H.size) e H' f sz r zs ∧ Nw H H' ∧ ∃ c : Array Value, H' = H.push (.cells c e (0, 0))) := by
 obtain ⟨ht, i, z, hi', hz', hsz, hby, hzs⟩ := hinf
 subst hsz
 intro a w hf ha
 have hev := hf.evals hp
 have hzl : zs.length = k := by have := congrArg List.length hz; simpa [hk] using this.symm
 have hparts : (parts.toArray.map (fun (x : Nat × Operand) => (x.1, a.eval x.2))).toList = (vs.zipIdx 0).map (fun p => (p.2, p.1)) := by
  have e1 : parts.map (fun (x : Nat × Operand) => (x.1, a.eval x.2)) = (List.range k).zip vs := by
   rw [← hi, ← hev, List.map_map]
   clear hi hev hp ho
   induction parts with
   | nil => rfl
   | cons p ps ih => simp [ih]
  rw [List.map_toArray]
  simp only
  rw [e1, List.zipIdx_eq_zip_range', map_zip_swap_range hk]
 have hcells : ∀ v ∈ vs, v.cells.size = i.size := by
  intro v hv
  have : v.cells.toList ∈ zs.map f := by rw [← hz]; exact List.mem_map.2 ⟨v, hv, rfl⟩
  obtain ⟨x, _, hx⟩ := List.mem_map.1 this
  have := hc x
  rw [hx] at this
  simpa using this
 have hfl : vs.flatMap (fun v => v.cells.toList) = zs.flatMap f := by rw [List.flatMap_def, List.flatMap_def, hz]
 have hbase : ∀ (zc : Array Value), ((Array.range (k * i.size)).map (zc[· % zc.size]!)).toList = [] ++ ((Array.range (k * i.size)).map (zc[· % zc.size]!)).toList := fun _ => rfl
 have hrun : ∃ cs : Array Value, cs.toList = zs.flatMap f ∧ (Instr.buildSlice t k (parts.toArray.map (fun (x : Nat × Operand) => (x.1, a.eval x.2)))).run P w = .ok (.slice (some ⟨w.heap.size, 0, none⟩) k k) (w.alloc (.cells cs e)) := by
  by_cases h0 : k * i.size = 0
  · obtain ⟨r, hr, hrl⟩ := fill_row i.size vs 0 #[] [] [] rfl (by simp) (by simp [hk, h0]) hcells
    refine ⟨r, by rw [hrl, hfl]; rfl, ?_⟩
    simp only [Instr.buildSlice, Sem.run_bind, run_underlying ht, Result.andThen_ok, sizeOf, typeInfo, run_program, hi', Sem.run_pure, hparts]
    have hz0 : ∀ g : Nat → Value, (Array.range 0).map g = #[] := fun g => by simp
    simp [h0, hz0, hr, newRow]
  · obtain ⟨r, hr, hrl⟩ := fill_row i.size vs 0 ((Array.range (k * i.size)).map (z.cells[· % z.cells.size]!)) [] _ (hbase _) (by simp) (by simp [hk]) hcells
    refine ⟨r, by rw [hrl, hfl]; rfl, ?_⟩
    simp only [Instr.buildSlice, Sem.run_bind, run_underlying ht, Result.andThen_ok, sizeOf, typeInfo, run_program, hi', Sem.run_pure, hparts]
    have hlim : ¬ (k * i.size > 2 ^ 24) := by simp only [Nat.reducePow]; omega
    simp [h0, hlim, zeroValue, typeInfo, hi', hz', hr, newRow]
 obtain ⟨cs, hcs, hrun⟩ := hrun
 refine ⟨.slice (some ⟨w.heap.size, 0, none⟩) k k, H.push (.cells cs e), w.alloc (.cells cs e), ?_, ha.alloc (.cells cs e), ⟨hc, h1, .inr ⟨H.size, k, cs, ?_, rfl, .of (by simp), ?_, ?_, ?_, ?_⟩⟩, Nw.pu _ _, _, rfl⟩
 · simp only [execOp, ho, Sem.run_bind, hrun, Result.andThen_ok, Sem.run_pure]
 · rw [hzl, ha.heap]
 · omega
 · unfold maxLen; omega
 · rw [← Array.length_toList, hcs, length_flatMap hc, hzl]
 · rw [← length_flatMap hc, List.take_of_length_le (by rw [← hcs]; exact Nat.le_refl _), hcs]
theorem Z.litz {t : TypeId} {k bytes : Nat} {parts : List (Nat × Operand)} (vs : List Value) (zs : List α) (ho : o.op = .buildSlice t k parts.toArray) (hinf : Inf P t e sz bytes) (hp : opvs l (parts.map (·.2)) = some vs) (hi : parts.map (·.1) = List.range k) (hk : vs.length = k) (hks : k * sz ≤ 16777216) (hk16 : k ≤ 16777216)
 (hc : ∀ x, (f x).length = sz) (h1 : ∀ x, ∀ u ∈ f x, u.oneCell' = true) (hz : vs.map (fun v => v.cells.toList) = zs.map f) :
 Z P w0 n l H o (fun r H' => Ow (H.size + 1) e H' f sz r zs ∧ Nw H H' ∧ ∃ c : Array Value, H' = H.push (.cells c e (0, 0))) :=
 (Z.lit0 vs zs ho hinf hp hi hk hks hk16 hc h1 hz).mono fun r H' ⟨h1, h2, c, h3⟩ => ⟨Ow.new (fun _ e => e) h1 h3, h2, c, h3⟩
end
set_option maxHeartbeats 4000000 in
theorem insert_ct (k kx : Nat) (v vx : Value) (l : List TMm) (x : TMm) (i : Nat) (w0 : World) (H0 : Heap)
 (ow : Ow k 68 H0 fMm 33 v l) (ox : Ow kx 68 H0 fMm 33 vx [x]) (dj : Dj k kx) (hil : i ≤ l.length) (hzx : ∃ c, H0[kx - 1]? = some (.cells c 68 (0, 0))) (hll : l.length ≤ 1048576) :
 Ct Tryz.prog w0 63 #[v, .int .i64 i, vx] H0 (fun r H2 => ∃ vr : Value, ∃ kr : Nat, r = vr ∧ (Ow kr 68 H2 fMm 33 vr (l.take i ++ x :: l.drop i)) ∧ (Nx k H0.size kr) ∧ Mo (Ms [k]) H0 H2) := by
 refine Ct.enter (args := [v, .int .i64 i, vx]) Tryz.func63 rfl rfl rfl ?_
 intro Q0 hret
 have hm0 : Mo (Ms [k]) H0 H0 := Mo.refl _ _
 have nx_hm0_ow := Nx.refl k H0.size
 have hle_ow := ow.le
 have hle_ox := ox.le
 have hlm := ow.len
 refine CW.s1 (fun hK1 => CW.region ?_)
 refine LR.a1 (LR.nil (hK1 _ _ ?_))
 refine CW.s1 (fun hK2 => CW.region ?_)
 refine LR.m1 ?_
 refine LR.m1 ?_
 refine LR.e1 (g := fun v => v) (Y.slice ow.rd (i) (l.length) rfl u'30 s'68 rfl (.inr ⟨_, _, _, rfl, rfl, by first | rfl | omega⟩) (.inl ⟨rfl, rfl⟩) (by omega) (by omega)) fun v12 rd12 => ?_
 refine LR.nil (hK2 _ _ (CW.s1 (fun hK3 => CW.region ?_)))
 refine LR.m1 ?_
 refine LR.v1 (Y.cast (v2 := .int .i64 1) (Y.len ox.rd rfl u'30 rfl) (rfl)) ?_
 refine LR.a1 (LR.nil (hK3 _ _ ?_))
 refine CW.s1 (fun hK4 => CW.s1 (fun hK5 => CW.region ?_))
 refine LR.m1 ?_
 refine LR.v1 ((Y.eql rfl rfl rfl).isF (fun h => by simp at h)) (LR.nil (hK5 _ _ ?_))
 refine CW.cond_f rfl ?_
 refine CW.skip (hK4 _ _ (CW.s1 (fun hK6 => CW.region ?_)))
 refine LR.m1 ?_
 refine LR.v1 (Y.len ow.rd rfl u'30 rfl) ?_
 refine LR.a1 (LR.nil (hK6 _ _ ?_))
 refine CW.s2 (fun hK7 hE7 => CW.s1 (fun hK8 => CW.region ?_))
 refine LR.m1 ?_
 refine LR.m1 ?_
 refine LR.v1 (Y.eql rfl rfl rfl) (LR.nil (hK8 _ _ ?_))
 refine CW.condp rfl (fun c22 => ?_) (fun c22 => ?_)
 ·
  refine CW.s1 (fun hK9 => CW.region ?_)
  refine LR.m1 ?_
  refine LR.m1 ?_
  refine LR.z1 (Z.apnd ow ox.rd rfl inf30 rfl rfl (by simp only [List.length_cons, List.length_nil]; omega) (by simp only [List.length_cons, List.length_nil]; omega)) fun v25 H25 r25 => ?_
  obtain ⟨k25, ow, hk25, hs25⟩ := r25
  replace hk25 : Nx k H0.size k25 := hk25
  replace hs25 := hs25.md
  have nx2 : Nx k H0.size k25 := Nx.tr (nx_hm0_ow) hk25 hm0.size
  replace hm0 := hm0.trL hs25 (MIL.o (MI.r nx_hm0_ow))
  have hz1 := hs25.size
  have hle_ow := ow.le
  refine LR.a1 (LR.nil (hK9 _ _ ?_))
  refine CW.ret (hE7 .ret nofun _ _ (hret .ret (.inr rfl) _ _ _ (res1 rfl rfl) ?_))
  exact ⟨v25, k25, rfl, by rw [← ins_end (by omega)]; exact ow, nx2, hm0⟩
 ·
  have hin : i < l.length := by omega
  have hne : l ≠ [] := by intro e; rw [e] at hin; simp at hin
  obtain ⟨g, cap, cs, hve, hkg, hvg, hcap, hcm, hcl, _⟩ := Ow.view ow hne
  unfold maxLen at hcm
  obtain ⟨gx, capx, csx, hvx, hkx, _, hcapx, hcmx, _, _⟩ := Ow.view ox (by simp)
  obtain ⟨csz, hzc⟩ := hzx
  rw [show kx - 1 = gx by omega] at hzc
  have hgg : gx ≠ g := fun e => dj g hkg.symm (by omega)
  refine CW.skip (hK7 _ _ (CW.s2 (fun hK10 hE10 => CW.s1 (fun hK11 => CW.region ?_))))
  refine LR.m1 ?_
  refine LR.m1 ?_
  refine LR.v1 (Y.addi rfl rfl rfl (by omega)) ?_
  refine LR.m1 ?_
  refine LR.v1 (Y.capV rfl u'30 (congrArg some hve)) ?_
  refine LR.v1 (Y.gtr rfl rfl rfl) (LR.nil (hK11 _ _ ?_))
  refine CW.condp rfl (fun c31 => ?_) (fun c31 => ?_)
  ·
   obtain ⟨ht40, i0, z0, hi0, hz0, hs0, hb0, _⟩ := inf30
   have hz9 : z0.cells.toList = fMm Mz := by
    have h9 : (zeroValue 68).run Tryz.prog w0 = .ok (.agg (fMm Mz).toArray) w0 := by kernel_rfl
    simp [zeroValue, typeInfo, hi0, hz0] at h9
    rw [h9]; rfl
   have hti : (l.take i).length = i := by rw [List.length_take]; omega
   refine CW.s1 (fun hK12 => CW.region ?_)
   refine LR.m1 ?_
   refine LR.m1 ?_
   refine LR.v1 (Y.sl0 i rfl u'30 s'68 (congrArg some hve) (.inr ⟨_, _, _, rfl, rfl, rfl⟩) (by omega)) ?_
   refine LR.m1 ?_
   refine LR.m1 ?_
   refine LR.v1 (Y.addi rfl rfl rfl (by omega)) ?_
   refine LR.m1 ?_
   refine LR.v1 (Y.cast (v2 := .int .i64 ((l.length + 1 - i : Nat) : Int)) (Y.subi rfl rfl rfl (by omega)) (by congr 1; omega)) ?_
   refine LR.z1 (Z.apndz (F := fun b => b + 1 = k) (ad := ⟨g, 0, none⟩) (c := cap) (xs := l.take i) (m := l.length + 1 - i) Mz fMm_len fMm_one (by have h9 := ow.rd; rw [hve] at h9; exact rd_take h9) rfl ht40 Tryz.underlying3 hi0 hz0 hs0 hb0 hz9 (by decide) (by omega) (by rw [hti]; rfl) rfl (by rw [hti]; omega) (by rw [hti]; omega) (by rw [hti]; omega)) fun v40 H40 r40 => ?_
   obtain ⟨on, hs40, ob40, hH40⟩ := r40
   have hzs40 : H40.size = H0.size + 1 := by rw [hH40]; simp
   have dj3 : Dj k (H0.size + 1) := Dj.new ow.le
   have nx5 : Nx 0 H0.size (H0.size + 1) := Nx.new hm0.size
   replace ow := ow.nw hs40
   replace ox := ox.nw hs40
   replace hm0 := hm0.trN hs40
   have hz2 := hs40.size
   have hlo : (l.take i ++ List.replicate (l.length + 1 - i) Mz).length = l.length + 1 := by rw [List.length_append, hti, List.length_replicate]; omega
   obtain ⟨g2, cap2, _, hv2, _, _, hcap2, _, _, _⟩ := Ow.view on (by intro e; rw [e] at hlo; simp at hlo)
   rw [hlo] at hv2 hcap2
   refine LR.a1 (LR.nil (hK12 _ _ ?_))
   refine CW.s1 (fun hK13 => CW.region ?_)
   refine LR.m1 ?_
   refine LR.m1 ?_
   refine LR.v1 (Y.sl1 i rfl u'30 s'68 (congrArg some hv2) rfl rfl (by omega) (by omega) (by omega)) ?_
   refine LR.m1 ?_
   refine LR.z1 (Z.copyO (i := i) on (by rw [hlo]; exact hv2) (show Rd (fun b => b + 1 = kx) _ fMm 33 (.slice (some ⟨gx, 0, none⟩) [x].length capx) [x] from by have h9 := ox.rd; rw [hvx] at h9; exact h9) (by intro e; rw [e] at hlo; simp at hlo) rfl Tryz.underlying30 s'68 rfl (congrArg some hvx) (by simp; omega) (by rw [hlo]; simp; omega) (by simp)) fun v45 H45 r45 => ?_
   obtain ⟨rfl, on, hs45⟩ := r45
   replace hs45 := hs45.md
   replace ow := ow.upL hs45 (DL.o dj3)
   replace hm0 := hm0.trL hs45 (MIL.o (MI.q nx5))
   have hz3 := hs45.size
   have hlo2 : ((l.take i ++ List.replicate (l.length + 1 - i) Mz).take i ++ [x] ++ (l.take i ++ List.replicate (l.length + 1 - i) Mz).drop (i + [x].length)).length = l.length + 1 := by simp; omega
   refine LR.nil (hK13 _ _ (CW.s1 (fun hK14 => ?_)))
   refine CW.region_tail 8 rfl (by kernel_rfl) (fun T11 hT11 => ?_)
   refine LR.m1 ?_
   refine LR.m1 ?_
   refine LR.m1 ?_
   refine LR.v1 (Y.addi rfl rfl rfl (by omega)) ?_
   refine LR.v1 (Y.sl1 (i + 1) rfl u'30 s'68 (congrArg some hv2) rfl (by simp) (by omega) (by omega) (by omega)) ?_
   refine LR.m1 ?_
   refine LR.m1 ?_
   refine LR.v1 (Y.sl1 i rfl u'30 s'68 (congrArg some hve) rfl rfl (by omega) (by omega) (by omega)) ?_
   refine LR.nil (hT11 _ ?_)
   refine LR.z1 (Z.copyO (i := i + 1) (ys := l.drop i) on (by rw [hlo2]; exact hv2) (show Rd (fun b => b + 1 = k) _ fMm 33 (.slice (some ⟨g, i * 33, none⟩) (l.drop i).length (cap - i)) (l.drop i) from by have h9 := ow.rd; rw [hve] at h9; exact rd_drop h9) (by intro e; rw [e] at hlo2; simp at hlo2) rfl Tryz.underlying30 s'68 rfl (by rw [List.length_drop]; rfl) (by rw [List.length_drop]; omega) (by rw [hlo2, List.length_drop]; omega) (by intro e; have h9 := congrArg List.length e; rw [List.length_drop] at h9; simp at h9; omega)) fun v54 H54 r54 => ?_
   obtain ⟨rfl, on, hs54⟩ := r54
   replace hs54 := hs54.md
   replace hm0 := hm0.trL hs54 (MIL.o (MI.q nx5))
   have hz4 := hs54.size
   refine LR.nil (hK14 _ _ (CW.s1 (fun hK15 => CW.region ?_)))
   refine LR.m1 ?_
   refine LR.a1 (LR.nil (hK15 _ _ ?_))
   refine CW.ret (hE10 .ret nofun _ _ (hret .ret (.inr rfl) _ _ _ (res1 rfl rfl) ?_))
   exact ⟨v40, (H0.size + 1), rfl, by have h9 := on; rw [show i + [x].length = i + 1 from rfl, ins_grow hin rfl] at h9; exact h9, (by unfold Nx; omega), hm0⟩
  ·
   refine CW.skip (hK10 _ _ (CW.s1 (fun hK16 => CW.region ?_)))
   refine LR.m1 ?_
   refine LR.m1 ?_
   refine LR.m1 ?_
   refine LR.v1 (Y.addi rfl rfl rfl (by omega)) ?_
   refine LR.v1 (Y.sl0 (l.length + 1) rfl u'30 s'68 (congrArg some hve) (.inr ⟨_, _, _, rfl, rfl, by simp⟩) (by omega)) ?_
   refine LR.a1 (LR.nil (hK16 _ _ ?_))
   refine CW.s2 (fun _ hE17 => CW.s1 (fun hK18 => CW.region ?_))
   refine LR.m1 ?_
   refine LR.m1 ?_
   refine LR.m1 ?_
   refine LR.m1 ?_
   refine LR.v1 (Y.addi rfl rfl rfl (by omega)) ?_
   refine LR.v1 (Y.sl1 (i + 1) rfl u'30 s'68 rfl rfl (by simp) (by omega) (by omega) (by omega)) ?_
   refine LR.v1 (Y.overlaps (tS := 30) (tR := 4) hzc hvg hgg (by omega) rfl rfl (by kernel_rfl) (by kernel_rfl) (by kernel_rfl) (by kernel_rfl) Tryz.underlying30 s'68 (congrArg (fun z => some [z, _]) hvx)) ?_
   refine LR.v1 (Y.not rfl rfl) (LR.nil (hK18 _ _ ?_))
   refine CW.cond_t rfl ?_
   refine CW.s1 (fun hK19 => ?_)
   refine CW.region_tail 8 rfl (by kernel_rfl) (fun T15 hT15 => ?_)
   refine LR.m1 ?_
   refine LR.m1 ?_
   refine LR.m1 ?_
   refine LR.v1 (Y.addi rfl rfl rfl (by omega)) ?_
   refine LR.v1 (Y.sl1 (i + 1) rfl u'30 s'68 rfl rfl (by simp) (by omega) (by omega) (by omega)) ?_
   refine LR.m1 ?_
   refine LR.m1 ?_
   refine LR.v1 (Y.sl1 i rfl u'30 s'68 rfl rfl rfl (by omega) (by omega) (by omega)) ?_
   refine LR.nil (hT15 _ ?_)
   refine LR.z1 (Z.copyUp (i := i) ow hve hin (by omega) rfl Tryz.underlying30 s'68 rfl rfl (by omega)) fun v77 H77 r77 => ?_
   obtain ⟨rfl, ow, hs77⟩ := r77
   replace hs77 := hs77.md
   replace ox := ox.upL hs77 (DL.o dj.symm)
   replace hm0 := hm0.trL hs77 (MIL.o (MI.r nx_hm0_ow))
   have hz5 := hs77.size
   have hlu : (l.take (i + 1) ++ l.drop i).length = l.length + 1 := by simp; omega
   refine LR.nil (hK19 _ _ (CW.s1 (fun hK20 => CW.region ?_)))
   refine LR.m1 ?_
   refine LR.m1 ?_
   refine LR.v1 (Y.sl1 i rfl u'30 s'68 rfl rfl rfl (by omega) (by omega) (by omega)) ?_
   refine LR.m1 ?_
   refine LR.z1 (Z.copyO (i := i) ow (by rw [hlu]) (show Rd (fun b => b + 1 = kx) _ fMm 33 (.slice (some ⟨gx, 0, none⟩) [x].length capx) [x] from by have h9 := ox.rd; rw [hvx] at h9; exact h9) (by intro e; rw [e] at hlu; simp at hlu) rfl Tryz.underlying30 s'68 rfl (congrArg some hvx) (by simp; omega) (by rw [hlu]; simp; omega) (by simp)) fun v82 H82 r82 => ?_
   obtain ⟨rfl, ow, hs82⟩ := r82
   replace hs82 := hs82.md
   replace hm0 := hm0.trL hs82 (MIL.o (MI.r nx_hm0_ow))
   refine LR.nil (hK20 _ _ (CW.s1 (fun hK21 => CW.region ?_)))
   refine LR.m1 ?_
   refine LR.a1 (LR.nil (hK21 _ _ ?_))
   refine CW.ret (hE17 .ret nofun _ _ (hret .ret (.inr rfl) _ _ _ (res1 rfl rfl) ?_))
   exact ⟨.slice (some ⟨g, 0, none⟩) (l.length + 1) cap, k, rfl, by have h9 := ow; rw [show i + [x].length = i + 1 from rfl, ins_up hin] at h9; exact h9, nx_hm0_ow, hm0⟩
theorem cb_neg : ∀ {a b : List UInt8}, Lib.compareBytes a b < 0 ↔ Op.bytesLess a b = true
 | [], [] => by simp [Lib.compareBytes, Op.bytesLess]
 | [], _ :: _ => by simp [Lib.compareBytes, Op.bytesLess]
 | _ :: _, [] => by simp [Lib.compareBytes, Op.bytesLess]
 | x :: a, y :: b => by
   simp only [Lib.compareBytes, Op.bytesLess]
   by_cases h1 : x < y
   · simp [h1]
   · by_cases h2 : y < x
     · have : ¬ x = y := fun e => by subst e; exact h1 h2
       simp [h1, h2, this]
     · have e : x = y := by apply UInt8.toNat.inj; rw [UInt8.lt_iff_toNat_lt] at h1 h2; omega
       subst e
       simp [h1, cb_neg (a := a) (b := b)]
theorem cb_zero : ∀ {a b : List UInt8}, Lib.compareBytes a b = 0 ↔ a = b
 | [], [] => by simp [Lib.compareBytes]
 | [], _ :: _ => by simp [Lib.compareBytes]
 | _ :: _, [] => by simp [Lib.compareBytes]
 | x :: a, y :: b => by
   simp only [Lib.compareBytes]
   by_cases h1 : x < y
   · have : ¬ x = y := fun e => by subst e; simp [UInt8.lt_iff_toNat_lt] at h1
     simp [h1, this]
   · by_cases h2 : y < x
     · have : ¬ x = y := fun e => by subst e; exact h1 h2
       simp [h1, h2, this]
     · have e : x = y := by apply UInt8.toNat.inj; rw [UInt8.lt_iff_toNat_lt] at h1 h2; omega
       subst e
       simp [h1, cb_zero (a := a) (b := b)]
theorem cmp_ct (u v : Value) (a b : List UInt8) (w0 : World) (H0 : Heap)
 (ha : RdT H0 fB 1 u a) (hb : RdT H0 fB 1 v b) :
 Ct Tryz.prog w0 62 #[u, v] H0 (fun r H2 => r = .int .i64 (Lib.compareBytes a b) ∧ Nw H0 H2) := by
 refine Ct.enter (args := [u, v]) Tryz.func62 rfl rfl rfl ?_
 intro Q0 hret
 have hm0 : Nw H0 H0 := Mo.refl _ _
 replace ha := ha.bnd
 replace hb := hb.bnd
 refine CW.s1 (fun hK1 => CW.region ?_)
 refine LR.a1 (LR.nil (hK1 _ _ ?_))
 refine CW.s1 (fun hK2 => CW.region ?_)
 refine LR.m1 ?_
 refine LR.m1 ?_
 refine LR.v1 (Y.compare ha hb rfl Tryz.func136 (by kernel_rfl) (by kernel_rfl) (by kernel_rfl) (by kernel_rfl) rfl) ?_
 refine LR.a1 (LR.nil (hK2 _ _ ?_))
 refine CW.ret (hret .ret (.inr rfl) _ _ _ (res1 rfl rfl) ?_)
 exact ⟨rfl, hm0⟩
set_option maxHeartbeats 8000000 in
theorem twin_ct (s : TSt) (F : Nat → Prop) (w0 : World) (H0 : Heap)
 (hs : StR F H0 s) (bf_hs : BF F H0.size) (ok : s.m.Ok) :
 Ct Tryz.prog w0 39 #[stV s] H0 (fun r H2 => ∃ s2 : TSt, ∃ ke : Nat, ∃ G : Nat → Prop, r = stV s2 ∧ (StQ G H2 s2) ∧ (Ow ke 68 H2 fMm 33 s2.ev.v s2.el) ∧ (Nx 0 H0.size ke) ∧ (BF G H2.size) ∧ (∀ c, G c → H0.size ≤ c) ∧ (DF G ke) ∧ (s2.m = s.m) ∧ Nw H0 H2) := by
 refine Ct.enter (args := [stV s]) Tryz.func39 rfl rfl rfl ?_
 intro Q0 hret
 have hm0 : Nw H0 H0 := Mo.refl _ _
 have z1 := rlM_ok ok
 have z2 := llM_ok ok
 have z3 := elM_ok ok
 have z4 := ln_ok ok
 have z5 := md_ok ok
 have z6 := td_ok ok
 refine CW.s1 (fun hK1 => CW.region ?_)
 refine LR.z1 (Z.boxv rfl rfl) fun v1 H1 r1 => ?_
 obtain ⟨rfl, va, hs1, ob1, hH1⟩ := r1
 have hzs1 : H1.size = H0.size + 1 := by rw [hH1]; simp
 replace hs := hs.nw hs1
 replace hm0 := hm0.tr hs1
 have hz1 := hs1.size
 replace va : Var 47 H1 H0.size (fSt s) := va
 refine LR.z1 (Z.allocv rfl z'47) fun v2 H2 r2 => ?_
 obtain ⟨rfl, vr, hs2, ob2, hH2⟩ := r2
 have hzs2 : H2.size = H1.size + 1 := by rw [hH2]; simp
 have nx5 : Nx 0 H0.size (H1.size + 1) := Nx.new hm0.size
 replace hs := hs.nw hs2
 replace va := va.nw hs2
 replace hm0 := hm0.tr hs2
 have hz2 := hs2.size
 refine LR.nil (hK1 _ _ (CW.s1 (fun hK2 => ?_)))
 refine CW.region_any (fun Hq => Nw H2 Hq) [9] rfl ?_
 have hq1 : Nw H2 H2 := Mo.refl _ _
 refine LH.t1 0 rfl (fun Hq hq => Y.FA (va.pt.nw hq) rfl u'47 rfl s'9) hq1 ?_
 refine LH.t1 1 rfl (fun Hq hq => Y.load1 (va.pt.nw hq) rfl a'9 rfl) hq1 ?_
 refine LH.t1 2 rfl (fun Hq hq => Y.FA (va.pt.nw hq) rfl u'47 rfl s'44) hq1 ?_
 refine LH.t1 3 rfl (fun Hq hq => Y.load1 ((va.pt.drop 1).nw hq) rfl a'44 rfl) hq1 ?_
 refine LH.t1 5 rfl (fun Hq hq => Y.FA (va.pt.nw hq) rfl u'47 rfl s'29) hq1 ?_
 refine LH.t1 6 rfl (fun Hq hq => Y.cast (v2 := sqV s.q) (Y.loadN (((va.pt.drop 3).nw hq).take 70) rfl a'29 s'29 (by rw [fSt_q]; exact fSq_len _) rfl) (congrArg (fun z : List Value => Value.agg z.toArray) (fSt_q s))) hq1 ?_
 refine LH.two (i := 4) (j := 8) (by kernel_rfl) ?_ ?_
 ·
  refine LO.call rfl rfl c'113 rfl (Wd.u rfl) rfl rfl (rclone_ct s.rv.v s.rl w0 _ hs.r.any (by omega)) (fun v12 H12 r12 => ?_)
  obtain ⟨s12, k12, rfl, or, hk12, hs12⟩ := r12
  have dj8 : Dj (H1.size + 1) k12 := Dj.app (Dj.z) vr.lt hk12
  have nx9 : Nx 0 H0.size k12 := Nx.tr (Nx.refl 0 _) hk12 hm0.size
  have nx10 : Nx 0 H2.size k12 := Nx.tr (Nx.refl 0 _) hk12 hq1.size
  replace hs := hs.nw hs12
  replace va := va.nw hs12
  replace vr := vr.nw hs12
  replace hm0 := hm0.tr hs12
  replace hq1 := hq1.tr hs12
  have hz3 := hs12.size
  have hle_or := or.le
  refine ⟨.inr hq1, LH.narrow (SH2 := fun Hq => Mo (Ms [k12]) H12 Hq) (fun Hq hq => (Mo.trL (ks := []) (hq1.mdn []) hq (MIL.o (MI.q nx10))).nil) ?_⟩
  have hq1 : Mo (Ms [k12]) H12 H12 := Mo.refl _ _
  have nx11 := Nx.refl k12 H12.size
  refine LH.t1 (v := stV ⟨s.hd, s12, s.rl, n0, [], s.q, n0, []⟩) 7 rfl (fun Hq hq => ?_) hq1 ?_
  · exact Y.build (v := stV ⟨s.hd, s12, s.rl, n0, [], s.q, n0, []⟩) rfl rfl (by intro w; exact build_st _)
  refine LH.o1 8 ?_
  refine LO.z rfl (Z.allocv rfl z'47) (Wd.u rfl) rfl rfl (fun v3 H3 r3 => ?_)
  obtain ⟨rfl, vo, hs3, ob3, hH3⟩ := r3
  have hzs3 : H3.size = H12.size + 1 := by rw [hH3]; simp
  have df12 := (DF.new (bf_hs.mono hm0.size) : DF _ (H12.size + 1))
  have dj13 : Dj (H0.size + 1) (H12.size + 1) := Dj.new va.lt
  have dj14 : Dj (H1.size + 1) (H12.size + 1) := Dj.new vr.lt
  have dj15 : Dj k12 (H12.size + 1) := Dj.new or.le
  have nx16 : Nx 0 H0.size (H12.size + 1) := Nx.new hm0.size
  have nx17 : Nx 0 H12.size (H12.size + 1) := Nx.new hq1.size
  replace hs := hs.nw hs3
  replace va := va.nw hs3
  replace vr := vr.nw hs3
  replace or := or.nw hs3
  replace hm0 := hm0.tr hs3
  replace hq1 := hq1.trN hs3
  have hz4 := hs3.size
  refine ⟨.inr hq1, LH.narrow (SH2 := fun Hq => Mo (Ms [k12, (H12.size + 1)]) H3 Hq) (fun Hq hq => hq1.trL hq (MIL.cons (MI.r nx11) (MIL.o (MI.q nx17)))) ?_⟩
  refine LH.o1 9 ?_
  refine LO.s rfl (S.var vo (_) (fSt ⟨s.hd, s12, s.rl, n0, [], s.q, n0, []⟩) rfl rfl rfl rfl (fSt_one _) s'47 (fSt_len _) (by decide) ((splice_all2 (fSt_len _).symm))) (Wd.u rfl) rfl (fun H1_9 r1_9 => ?_)
  obtain ⟨vo, hs1_9⟩ := r1_9
  replace hs1_9 := hs1_9.md1
  replace hs := hs.upL hs1_9 (DFL.o df12)
  replace va := va.upL hs1_9 (DL.o dj13)
  replace vr := vr.upL hs1_9 (DL.o dj14)
  replace or := or.upL hs1_9 (DL.o dj15)
  replace hm0 := hm0.tq hs1_9 (MIL.o (MI.q nx16))
  have hz5 := hs1_9.size
  refine ⟨.inl rfl, ?_⟩
  refine LH.done (by kernel_rfl) ?_
  refine hK2 _ _ (CW.s1 (fun hK3 => CW.region ?_))
  refine LR.v1 (Y.FA va.pt rfl u'47 rfl s'29) ?_
  refine LR.v1 (Y.FA (va.pt.drop 3) rfl u'29 rfl s'27) ?_
  refine LR.v1 (Y.load1 va.pt.st69 rfl a'27 rfl) ?_
  refine LR.call rfl c'52 rfl (Wd.u rfl) rfl rfl (tclone_ct s.q.tv.v s.q.td w0 _ hs.q.any (by omega)) (fun v19 H19 r19 => ?_)
  obtain ⟨s19, k19, rfl, oq, hk19, hs19⟩ := r19
  have dj22 : Dj (H1.size + 1) k19 := Dj.app (Dj.z) vr.lt hk19
  have dj24 : Dj (H12.size + 1) k19 := Dj.app (Dj.z) vo.lt hk19
  have nx25 : Nx 0 H0.size k19 := Nx.tr (Nx.refl 0 _) hk19 hm0.size
  replace hs := hs.nw hs19
  replace va := va.nw hs19
  replace vr := vr.nw hs19
  replace or := or.nw hs19
  replace vo := vo.nw hs19
  replace hm0 := hm0.tr hs19
  have hz6 := hs19.size
  have hle_oq := oq.le
  refine LR.v1 (Y.FA vo.pt rfl u'47 rfl s'29) ?_
  refine LR.v1 (Y.FA (vo.pt.drop 3) rfl u'29 rfl s'27) ?_
  refine LR.s1 (S.var1 vo 69 (fSt ⟨s.hd, s12, s.rl, n0, [], { s.q with tv := s19 }, n0, []⟩) rfl rfl rfl (rfl) s'27 (by rw [fSt_len]; omega) ((st_tv _ _))) fun H2_6 r2_6 => ?_
  obtain ⟨vo, hs2_6⟩ := r2_6
  replace hs2_6 := hs2_6.md1
  replace hs := hs.upL hs2_6 (DFL.o df12)
  replace va := va.upL hs2_6 (DL.o dj13)
  replace vr := vr.upL hs2_6 (DL.o dj14)
  replace or := or.upL hs2_6 (DL.o dj15)
  replace oq := oq.upL hs2_6 (DL.o dj24.symm)
  replace hm0 := hm0.tq hs2_6 (MIL.o (MI.q nx16))
  have hz7 := hs2_6.size
  refine LR.nil (hK3 _ _ (CW.s1 (fun hK4 => CW.s1 (fun hK5 => CW.region ?_))))
  refine LR.v1 (Y.FA va.pt rfl u'47 rfl s'45) ?_
  refine LR.v1 (Y.load1 (va.pt.drop 2) rfl a'45 rfl) ?_
  refine LR.v1 (Y.len hs.g rfl u'45 rfl) ?_
  refine LR.m1 (LR.nil (hK5 _ _ ?_))
  refine CW.block (fun _ _ hX6 _ => ?_)
  refine CW.loop (fun (s_ : (Nat) × (SV) × (Nat) × (List TLg) × (Nat → Prop)) => match s_ with | (j, s1, k1, l1, G1) => [(1, .pointer (some ⟨H0.size, 0, none⟩)), (2, .pointer (some ⟨H1.size, 0, none⟩)), (3, .pointer (some ⟨H12.size, 0, none⟩)), (23, s.lv.v), (24, .int .i64 (s.ll.length : Int)), (25, .int .i64 (j : Int))])
   (fun (s_ : (Nat) × (SV) × (Nat) × (List TLg) × (Nat → Prop)) (H : Heap) => match s_ with | (j, s1, k1, l1, G1) => (j ≤ s.ll.length) ∧ (Var 47 H H12.size (fSt ⟨s.hd, s12, s.rl, s1, l1, { s.q with tv := s19 }, n0, []⟩)) ∧ (Ow k1 62 H fLg 2 s1.v l1) ∧ (∀ x ∈ l1, Rd G1 H fLn 65 x.v.v x.l) ∧ (BF G1 H.size) ∧ (DF G1 (H12.size + 1)) ∧ (DF G1 k1) ∧ (DF G1 (H1.size + 1)) ∧ (∀ c, G1 c → H0.size ≤ c) ∧ (llM l1 = llM (s.ll.take j)) ∧ (Nx 0 H2_6.size k1) ∧ (Dj (H12.size + 1) k1) ∧ Mo (Ms [(H12.size + 1)]) H2_6 H)
   (fun (s_ : (Nat) × (SV) × (Nat) × (List TLg) × (Nat → Prop)) => match s_ with | (j, s1, k1, l1, G1) => s.ll.length - j) (0, n0, 0, [], fun _ => False) ⟨rfl, rfl, rfl, rfl, rfl, rfl, trivial⟩ ?_ ?_
  ·
   exact ⟨(by omega), vo, Ow.nil fLg_len fLg_one, (fun x h => by cases h), (fun b e => e.elim), (fun b e => e.elim), (fun b e => e.elim), (fun b e => e.elim), (fun c e => e.elim), rfl, Nx.refl _ _, Dj.z, Mo.refl _ _⟩
  rintro ⟨j, s1, k1, l1, G1⟩ HL1 hI1 K7 hN7 hE7
  obtain ⟨hj, vo, owl, hx1, bf_hx1, f1, f2, f5, a1, hl1, nxl_owl, dj_vo_owl, hlm1⟩ := hI1
  have dj28 : Dj (H1.size + 1) k1 := Dj.app (Dj.z) vr.lt nxl_owl
  have nx31 : Nx 0 H0.size k1 := Nx.tr (Nx.refl 0 _) nxl_owl hm0.size
  replace hs := hs.upL hlm1 (DFL.o df12)
  replace va := va.upL hlm1 (DL.o dj13)
  replace vr := vr.upL hlm1 (DL.o dj14)
  replace or := or.upL hlm1 (DL.o dj15)
  replace oq := oq.upL hlm1 (DL.o dj24.symm)
  replace hm0 := hm0.tq hlm1 (MIL.o (MI.q nx16))
  have hz8 := hlm1.size
  have hle_owl := owl.le
  have dj32 := dj_vo_owl
  have nx_hlm1_vo := Nx.refl (H12.size + 1) H2_6.size
  have nx33 := nxl_owl
  refine CW.s1 (fun hK8 => CW.region ?_)
  refine LR.v1 (Y.lss rfl rfl rfl) (LR.nil (hK8 _ _ ?_))
  refine CW.s2 (fun hK9 hE9 => ?_)
  refine CW.condp rfl (fun c26 => ?_) (fun c26 => ?_)
  ·
   refine CW.skip (hK9 _ _ (CW.s1 (fun hK10 => CW.block (fun _ hK11 _ _ => CW.s1 (fun hK12 => CW.region ?_)))))
   have hil : j < s.ll.length := by omega
   obtain ⟨y, hey⟩ : ∃ q, q = s.ll[j] := ⟨_, rfl⟩
   have hmy : y ∈ s.ll := by rw [hey]; exact List.getElem_mem hil
   have hyl := z4 y hmy
   have hl1l : l1.length = j := by have h9 := congrArg List.length hl1; simp only [llM, List.length_map, List.length_take] at h9; omega
   refine LR.e1 (g := fun ad => .pointer (some ad)) (Y.iF hs.g (j) rfl u'45 s'62 rfl rfl) fun ad27 pt27 => ?_
   refine LR.v1 (Y.cast (v2 := .agg (fLg y).toArray) (Y.loadN pt27.pt rfl a'62 s'62 (fLg_len _) rfl) (by rw [hey])) ?_
   refine LR.z1 (Z.allocv rfl z'62) fun v5 H5 r5 => ?_
   obtain ⟨rfl, vl, hs5, ob5, hH5⟩ := r5
   have hzs5 : H5.size = HL1.size + 1 := by rw [hH5]; simp
   have df34 := (DF.new (bf_hs.mono hm0.size) : DF _ (HL1.size + 1))
   have dj36 : Dj (H1.size + 1) (HL1.size + 1) := Dj.new vr.lt
   have dj39 : Dj (H12.size + 1) (HL1.size + 1) := Dj.new vo.lt
   have dj40 : Dj k1 (HL1.size + 1) := Dj.new owl.le
   have df41 := (DF.new (bf_hx1.mono (by omega)) : DF _ (HL1.size + 1))
   have nx43 : Nx 0 H0.size (HL1.size + 1) := Nx.new hm0.size
   have nx44 : Nx 0 H2_6.size (HL1.size + 1) := Nx.new hlm1.size
   replace hs := hs.nw hs5
   replace vr := vr.nw hs5
   replace vo := vo.nw hs5
   replace owl := owl.nw hs5
   replace hx1 := fun x hx_ => (hx1 x hx_).nw hs5
   replace hm0 := hm0.tr hs5
   replace hlm1 := hlm1.trN hs5
   have hz9 := hs5.size
   refine LR.s1 (S.var vl (_) (fLg y) rfl rfl rfl rfl (fLg_one y) s'62 (fLg_len _) (by decide) ((splice_all2 (fLg_len _).symm))) fun H5_3 r5_3 => ?_
   obtain ⟨vl, hs5_3⟩ := r5_3
   replace hs5_3 := hs5_3.md1
   replace hs := hs.upL hs5_3 (DFL.o df34)
   replace vr := vr.upL hs5_3 (DL.o dj36)
   replace vo := vo.upL hs5_3 (DL.o dj39)
   replace owl := owl.upL hs5_3 (DL.o dj40)
   replace hx1 := fun x hx_ => (hx1 x hx_).upL hs5_3 (DFL.o df41)
   replace hm0 := hm0.tq hs5_3 (MIL.o (MI.q nx43))
   replace hlm1 := hlm1.trL hs5_3 (MIL.o (MI.q nx44))
   have hz10 := hs5_3.size
   refine LR.nil (hK12 _ _ ?_)
   refine CW.region_any (fun Hq => Mo (Ms [k1]) H5_3 Hq) [11] rfl ?_
   have hq6 : Mo (Ms [k1]) H5_3 H5_3 := Mo.refl _ _
   have nx45 := Nx.refl k1 H5_3.size
   refine LH.t1 0 rfl (fun Hq hq => Y.fieldAddr (vo.upL hq (DL.o dj32)).pt rfl u'47 rfl rfl s'45 (by decide) rfl) hq6 ?_
   refine LH.t1 1 rfl (fun Hq hq => Y.load1 ((vo.upL hq (DL.o dj32)).pt.drop 2) rfl a'45 rfl) hq6 ?_
   refine LH.t1 2 rfl (fun Hq hq => Y.fieldAddr (vl.upL hq (DL.o dj40.symm)).pt rfl u'62 rfl rfl s'9 (by decide) rfl) hq6 ?_
   refine LH.t1 3 rfl (fun Hq hq => Y.load1 (vl.upL hq (DL.o dj40.symm)).pt rfl a'9 rfl) hq6 ?_
   refine LH.t1 4 rfl (fun Hq hq => Y.fieldAddr (vl.upL hq (DL.o dj40.symm)).pt rfl u'62 rfl rfl s'60 (by decide) rfl) hq6 ?_
   refine LH.t1 5 rfl (fun Hq hq => Y.load1 ((vl.upL hq (DL.o dj40.symm)).pt.drop 1) rfl a'60 rfl) hq6 ?_
   refine LH.o1 6 ?_
   refine LO.call rfl rfl c'114 rfl (Wd.u rfl) rfl rfl (lclone_ct y.v.v y.l w0 _ (hs.n y hmy).any (by omega)) (fun v35 H35 r35 => ?_)
   obtain ⟨s35, k35, rfl, oz, hk35, hs35⟩ := r35
   have dj48 : Dj (H1.size + 1) k35 := Dj.app (Dj.z) vr.lt hk35
   have dj51 : Dj (H12.size + 1) k35 := Dj.app (Dj.z) vo.lt hk35
   have dj52 : Dj k1 k35 := Dj.app (Dj.z) owl.le hk35
   have nx55 : Nx 0 H0.size k35 := Nx.tr (Nx.refl 0 _) hk35 hm0.size
   have nx57 : Nx 0 H5_3.size k35 := Nx.tr (Nx.refl 0 _) hk35 hq6.size
   replace vo := vo.nw hs35
   replace owl := owl.nw hs35
   replace hx1 := fun x hx_ => (hx1 x hx_).nw hs35
   replace hlm1 := hlm1.trN hs35
   replace hq6 := hq6.trN hs35
   have hz11 := hs35.size
   have hle_oz := oz.le
   refine ⟨.inr hq6, LH.narrow (SH2 := fun Hq => Mo (Ms [k1, k35]) H35 Hq) (fun Hq hq => hq6.trL hq (MIL.cons (MI.r nx45) (MIL.o (MI.q nx57)))) ?_⟩
   have hq6 : Mo (Ms [k1, k35]) H35 H35 := Mo.refl _ _
   have nx58 := Nx.refl k1 H35.size
   have nx59 := Nx.refl k35 H35.size
   refine LH.t1 7 rfl (fun Hq hq => Y.build (v := .agg (fLg ⟨y.n, s35, y.l⟩).toArray) rfl rfl (by intro w; kernel_rfl)) hq6 ?_
   refine LH.o1 8 ?_
   refine LO.z rfl (Z.litw _ ([(⟨y.n, s35, y.l⟩ : TLg)]) rfl inf45 rfl rfl rfl (by decide) (by decide) fLg_len fLg_one (rfl)) (Wd.u rfl) rfl rfl (fun v37 H37 r37 => ?_)
   obtain ⟨nw37, hs37, ob37, hH37⟩ := r37
   have hzs37 : H37.size = H35.size + 1 := by rw [hH37]; simp
   have dj65 : Dj (H12.size + 1) (H35.size + 1) := Dj.new vo.lt
   have nx72 : Nx 0 H35.size (H35.size + 1) := Nx.new hq6.size
   replace vo := vo.nw hs37
   replace owl := owl.nw hs37
   replace hx1 := fun x hx_ => (hx1 x hx_).nw hs37
   replace oz := oz.nw hs37
   replace hlm1 := hlm1.trN hs37
   replace hq6 := hq6.trN hs37
   have hz12 := hs37.size
   refine ⟨.inr hq6, LH.narrow (SH2 := fun Hq => Mo (Ms [k1, k35, (H35.size + 1)]) H37 Hq) (fun Hq hq => hq6.trL hq (MIL.cons (MI.r nx58) (MIL.cons (MI.r nx59) (MIL.o (MI.q nx72))))) ?_⟩
   have hq6 : Mo (Ms [k1, k35, (H35.size + 1)]) H37 H37 := Mo.refl _ _
   have nx73 := Nx.refl k1 H37.size
   have nx74 := Nx.refl k35 H37.size
   have nx75 := Nx.refl (H35.size + 1) H37.size
   refine LH.o1 9 ?_
   refine LO.z rfl (Z.apnd owl nw37.rd rfl inf45 rfl rfl (by simp; omega) (by simp; omega)) (Wd.u rfl) rfl rfl (fun v38 H38 r38 => ?_)
   obtain ⟨k38, owl, hk38, hs38⟩ := r38
   replace hk38 : Nx k1 H37.size k38 := hk38
   replace hs38 := hs38.md
   have dj81 : Dj (H12.size + 1) k38 := Dj.app (dj32) vo.lt hk38
   have df82 := DF.app (f2) (bf_hx1.mono (by omega)) hk38
   have dj84 : Dj k35 k38 := Dj.app (dj52.symm) oz.le hk38
   have nx87 : Nx 0 H2_6.size k38 := Nx.tr (nx33) hk38 hlm1.size
   have nx88 : Nx k1 H37.size k38 := Nx.tr (nx73) hk38 hq6.size
   replace vo := vo.upL hs38 (DL.o dj32)
   replace hx1 := fun x hx_ => (hx1 x hx_).upL hs38 (DFL.o f2)
   replace oz := oz.upL hs38 (DL.o dj52.symm)
   replace hlm1 := hlm1.trL hs38 (MIL.o (MI.q nx33))
   replace hq6 := hq6.trL hs38 (MIL.o (MI.r nx73))
   have hz13 := hs38.size
   have hle_owl := owl.le
   obtain ⟨s38, rfl⟩ : ∃ s : SV, v38 = s.v := ⟨toSV v38, owl.sv.symm⟩
   refine ⟨.inr hq6, LH.narrow (SH2 := fun Hq => Mo (Ms [k38, k35, (H35.size + 1)]) H38 Hq) (fun Hq hq => hq6.trL hq (MIL.cons (MI.r nx88) (MIL.cons (MI.r nx74) (MIL.o (MI.r nx75))))) ?_⟩
   have hq6 : Mo (Ms [k38, k35, (H35.size + 1)]) H38 H38 := Mo.refl _ _
   refine LH.t1 10 rfl (fun Hq hq => Y.fieldAddr (vo.upL hq (DL.cons dj81 (DL.cons dj51 (DL.o dj65)))).pt rfl u'47 rfl rfl s'45 (by decide) rfl) hq6 ?_
   refine LH.o1 11 ?_
   refine LO.s rfl (S.var1 vo 2 (fSt ⟨s.hd, s12, s.rl, s38, l1 ++ [⟨y.n, s35, y.l⟩], { s.q with tv := s19 }, n0, []⟩) rfl rfl rfl (rfl) s'45 (by rw [fSt_len]; omega) ((st_lv _ _))) (Wd.u rfl) rfl (fun H6_11 r6_11 => ?_)
   obtain ⟨vo, hs6_11⟩ := r6_11
   replace hs6_11 := hs6_11.md1
   replace owl := owl.upL hs6_11 (DL.o dj81.symm)
   replace hx1 := fun x hx_ => (hx1 x hx_).upL hs6_11 (DFL.o f1)
   replace oz := oz.upL hs6_11 (DL.o dj51.symm)
   replace hlm1 := hlm1.trL hs6_11 (MIL.o (MI.r nx_hlm1_vo))
   have hz14 := hs6_11.size
   refine ⟨.inl rfl, ?_⟩
   refine LH.done (by kernel_rfl) ?_
   refine hK11 _ _ (hK10 _ _ (CW.region ?_))
   refine LR.v1 (Y.addi rfl rfl rfl (by omega)) ?_
   refine LR.m1 (LR.nil ?_)
   refine QN.sub (hN7 (j + 1, s38, k38, l1 ++ [⟨y.n, s35, y.l⟩], fun b => G1 b ∨ b + 1 = k35) _ ?_ ?_) ⟨rfl, rfl, rfl, rfl, (iv (by omega)), (iv (by omega)), trivial⟩
   · exact ⟨(by omega), vo, owl, snocR hx1 (fun b e => .inl e) (oz.rd.imp (fun b _ e => .inr e)), BF.or1 (bf_hx1.mono (by omega)) oz.le, DF.or1 (f1) (dj51), DF.or1 (df82) (dj84.symm), DF.or1 (f5) (dj48), ab_or a1 (nx55), by unfold llM at hl1 ⊢; rw [List.map_append, hl1, List.take_succ_eq_append_getElem hil, List.map_append, ← hey]; rfl, nx87, dj81, hlm1⟩
   · first | omega | (simp only; omega) | (simp; omega)
  ·
   obtain rfl : j = s.ll.length := by omega
   rw [List.take_length] at hl1
   refine CW.exit (hE9 (.exit 0) nofun _ _ (hE7 (.exit 0) nofun _ _ (hX6 _ _ ?_)))
   refine hK4 _ _ (CW.s1 (fun hK13 => CW.s1 (fun hK14 => CW.region ?_)))
   refine LR.v1 (Y.FA va.pt rfl u'47 rfl s'30) ?_
   refine LR.v1 (Y.load1 va.pt.st73 rfl a'30 rfl) ?_
   refine LR.v1 (Y.len hs.e rfl u'30 rfl) ?_
   refine LR.m1 (LR.nil (hK14 _ _ ?_))
   refine CW.block (fun _ _ hX15 _ => ?_)
   refine CW.loop (fun (s_ : (Nat) × (SV) × (Nat) × (List TMm) × (Nat → Prop)) => match s_ with | (i, s2_, k2, l2, G2) => [(2, .pointer (some ⟨H1.size, 0, none⟩)), (3, .pointer (some ⟨H12.size, 0, none⟩)), (42, s.ev.v), (43, .int .i64 (s.el.length : Int)), (44, .int .i64 (i : Int))])
    (fun (s_ : (Nat) × (SV) × (Nat) × (List TMm) × (Nat → Prop)) (H : Heap) => match s_ with | (i, s2_, k2, l2, G2) => (i ≤ s.el.length) ∧ (Var 47 H H12.size (fSt ⟨s.hd, s12, s.rl, s1, l1, { s.q with tv := s19 }, s2_, l2⟩)) ∧ (Ow k2 68 H fMm 33 s2_.v l2) ∧ (∀ x ∈ l2, Rd G2 H fB 1 x.v.v x.d) ∧ (BF G2 H.size) ∧ (DF G2 (H12.size + 1)) ∧ (DF G2 k2) ∧ (DF G2 (H1.size + 1)) ∧ (∀ c, G2 c → H0.size ≤ c) ∧ (elM l2 = elM (s.el.take i)) ∧ (Nx 0 HL1.size k2) ∧ (Dj (H12.size + 1) k2) ∧ Mo (Ms [(H12.size + 1)]) HL1 H)
    (fun (s_ : (Nat) × (SV) × (Nat) × (List TMm) × (Nat → Prop)) => match s_ with | (i, s2_, k2, l2, G2) => s.el.length - i) (0, n0, 0, [], fun _ => False) ⟨rfl, rfl, rfl, rfl, rfl, trivial⟩ ?_ ?_
   ·
    exact ⟨(by omega), vo, Ow.nil fMm_len fMm_one, (fun x h => by cases h), (fun b e => e.elim), (fun b e => e.elim), (fun b e => e.elim), (fun b e => e.elim), (fun c e => e.elim), rfl, Nx.refl _ _, Dj.z, Mo.refl _ _⟩
   rintro ⟨i, s2_, k2, l2, G2⟩ HL2 hI2 K16 hN16 hE16
   obtain ⟨hi, vo, owe, hx2, bf_hx2, f3, f4, f6, a2, hl2, nxl_owe, dj_vo_owe, hlm2⟩ := hI2
   have dj93 : Dj (H1.size + 1) k2 := Dj.app (Dj.z) vr.lt nxl_owe
   have dj94 : Dj k12 k2 := Dj.app (Dj.z) or.le nxl_owe
   have dj95 : Dj k19 k2 := Dj.app (Dj.z) oq.le nxl_owe
   have dj96 : Dj k1 k2 := Dj.app (Dj.z) owl.le nxl_owe
   have df97 := DF.app (DF.z) (bf_hx1.mono (by omega)) nxl_owe
   have nx98 : Nx 0 H0.size k2 := Nx.tr (Nx.refl 0 _) nxl_owe hm0.size
   replace hs := hs.upL hlm2 (DFL.o df12)
   replace vr := vr.upL hlm2 (DL.o dj14)
   replace or := or.upL hlm2 (DL.o dj15)
   replace oq := oq.upL hlm2 (DL.o dj24.symm)
   replace owl := owl.upL hlm2 (DL.o dj32.symm)
   replace hx1 := fun x hx_ => (hx1 x hx_).upL hlm2 (DFL.o f1)
   replace hm0 := hm0.tq hlm2 (MIL.o (MI.q nx16))
   have hz15 := hlm2.size
   have hle_owe := owe.le
   have dj99 := dj_vo_owe
   have nx_hlm2_vo := Nx.refl (H12.size + 1) HL1.size
   have nx100 := nxl_owe
   refine CW.s1 (fun hK17 => CW.region ?_)
   refine LR.v1 (Y.lss rfl rfl rfl) (LR.nil (hK17 _ _ ?_))
   refine CW.s2 (fun hK18 hE18 => ?_)
   refine CW.condp rfl (fun c45 => ?_) (fun c45 => ?_)
   ·
    refine CW.skip (hK18 _ _ (CW.s1 (fun hK19 => CW.block (fun _ hK20 _ _ => CW.s1 (fun hK21 => CW.region ?_)))))
    have hil : i < s.el.length := by omega
    obtain ⟨y, hey⟩ : ∃ q, q = s.el[i] := ⟨_, rfl⟩
    have hmy : y ∈ s.el := by rw [hey]; exact List.getElem_mem hil
    have hyl := z5 y hmy
    have hl2l : l2.length = i := by have h9 := congrArg List.length hl2; simp only [elM, List.length_map, List.length_take] at h9; omega
    refine LR.e1 (g := fun ad => .pointer (some ad)) (Y.iF hs.e (i) rfl u'30 s'68 rfl rfl) fun ad46 pt46 => ?_
    refine LR.v1 (Y.cast (v2 := .agg (fMm y).toArray) (Y.loadN pt46.pt rfl a'68 s'68 (fMm_len _) rfl) (by rw [hey])) ?_
    refine LR.z1 (Z.allocv rfl z'68) fun v7 H7 r7 => ?_
    obtain ⟨rfl, vn, hs7, ob7, hH7⟩ := r7
    have hzs7 : H7.size = HL2.size + 1 := by rw [hH7]; simp
    have df101 := (DF.new (bf_hs.mono hm0.size) : DF _ (HL2.size + 1))
    have dj102 : Dj (H1.size + 1) (HL2.size + 1) := Dj.new vr.lt
    have dj107 : Dj (H12.size + 1) (HL2.size + 1) := Dj.new vo.lt
    have dj108 : Dj k2 (HL2.size + 1) := Dj.new owe.le
    have df109 := (DF.new (bf_hx2.mono (by omega)) : DF _ (HL2.size + 1))
    have nx111 : Nx 0 H0.size (HL2.size + 1) := Nx.new hm0.size
    have nx112 : Nx 0 HL1.size (HL2.size + 1) := Nx.new hlm2.size
    replace hs := hs.nw hs7
    replace vr := vr.nw hs7
    replace vo := vo.nw hs7
    replace owe := owe.nw hs7
    replace hx2 := fun x hx_ => (hx2 x hx_).nw hs7
    replace hm0 := hm0.tr hs7
    replace hlm2 := hlm2.trN hs7
    have hz16 := hs7.size
    refine LR.s1 (S.var vn (_) (fMm y) rfl rfl rfl rfl (fMm_one y) s'68 (fMm_len _) (by decide) ((splice_all2 (fMm_len _).symm))) fun H10_3 r10_3 => ?_
    obtain ⟨vn, hs10_3⟩ := r10_3
    replace hs10_3 := hs10_3.md1
    replace hs := hs.upL hs10_3 (DFL.o df101)
    replace vr := vr.upL hs10_3 (DL.o dj102)
    replace vo := vo.upL hs10_3 (DL.o dj107)
    replace owe := owe.upL hs10_3 (DL.o dj108)
    replace hx2 := fun x hx_ => (hx2 x hx_).upL hs10_3 (DFL.o df109)
    replace hm0 := hm0.tq hs10_3 (MIL.o (MI.q nx111))
    replace hlm2 := hlm2.trL hs10_3 (MIL.o (MI.q nx112))
    have hz17 := hs10_3.size
    refine LR.nil (hK21 _ _ ?_)
    refine CW.region_any (fun Hq => Mo (Ms [k2]) H10_3 Hq) [11] rfl ?_
    have hq11 : Mo (Ms [k2]) H10_3 H10_3 := Mo.refl _ _
    have nx113 := Nx.refl k2 H10_3.size
    refine LH.t1 0 rfl (fun Hq hq => Y.fieldAddr (vo.upL hq (DL.o dj99)).pt rfl u'47 rfl rfl s'30 (by decide) rfl) hq11 ?_
    refine LH.t1 1 rfl (fun Hq hq => Y.load1 (vo.upL hq (DL.o dj99)).pt.st73 rfl a'30 rfl) hq11 ?_
    refine LH.t1 2 rfl (fun Hq hq => Y.fieldAddr (vn.upL hq (DL.o dj108.symm)).pt rfl u'68 rfl rfl s'26 (by decide) rfl) hq11 ?_
    refine LH.t1 3 rfl (fun Hq hq => Y.cast (v2 := vA y.k) (Y.loadN ((vn.upL hq (DL.o dj108.symm)).pt.take 32) rfl a'26 s'26 (by rw [show (fMm y).take 32 = fA y.k from fMm_k y]; exact fA_len _) rfl) (congrArg (fun z : List Value => Value.agg z.toArray) (show (fMm y).take 32 = fA y.k from fMm_k y))) hq11 ?_
    refine LH.t1 4 rfl (fun Hq hq => Y.fieldAddr (vn.upL hq (DL.o dj108.symm)).pt rfl u'68 rfl rfl s'57 (by decide) rfl) hq11 ?_
    refine LH.t1 5 rfl (fun Hq hq => Y.load1 (vn.upL hq (DL.o dj108.symm)).pt.mm32 rfl a'57 rfl) hq11 ?_
    refine LH.o1 6 ?_
    refine LO.call rfl rfl c'59 rfl (Wd.u rfl) rfl rfl (bclone_ct y.v.v y.d w0 _ (hs.d y hmy).any (by omega)) (fun v54 H54 r54 => ?_)
    obtain ⟨s54, k54, rfl, od, hk54, hs54⟩ := r54
    have dj115 : Dj (H1.size + 1) k54 := Dj.app (Dj.z) vr.lt hk54
    have dj120 : Dj (H12.size + 1) k54 := Dj.app (Dj.z) vo.lt hk54
    have dj121 : Dj k2 k54 := Dj.app (Dj.z) owe.le hk54
    have nx124 : Nx 0 H0.size k54 := Nx.tr (Nx.refl 0 _) hk54 hm0.size
    have nx126 : Nx 0 H10_3.size k54 := Nx.tr (Nx.refl 0 _) hk54 hq11.size
    replace vo := vo.nw hs54
    replace owe := owe.nw hs54
    replace hx2 := fun x hx_ => (hx2 x hx_).nw hs54
    replace hlm2 := hlm2.trN hs54
    replace hq11 := hq11.trN hs54
    have hz18 := hs54.size
    have hle_od := od.le
    refine ⟨.inr hq11, LH.narrow (SH2 := fun Hq => Mo (Ms [k2, k54]) H54 Hq) (fun Hq hq => hq11.trL hq (MIL.cons (MI.r nx113) (MIL.o (MI.q nx126)))) ?_⟩
    have hq11 : Mo (Ms [k2, k54]) H54 H54 := Mo.refl _ _
    have nx127 := Nx.refl k2 H54.size
    have nx128 := Nx.refl k54 H54.size
    refine LH.t1 (v := mmV ⟨y.k, s54, y.d⟩) 7 rfl (fun Hq hq => ?_) hq11 ?_
    · exact Y.build (v := mmV ⟨y.k, s54, y.d⟩) rfl rfl (by intro w; exact build_mm _ _ _)
    refine LH.o1 8 ?_
    refine LO.z rfl (Z.litw _ ([(⟨y.k, s54, y.d⟩ : TMm)]) rfl inf30 rfl rfl rfl (by decide) (by decide) fMm_len fMm_one (rfl)) (Wd.u rfl) rfl rfl (fun v56 H56 r56 => ?_)
    obtain ⟨nw56, hs56, ob56, hH56⟩ := r56
    have hzs56 : H56.size = H54.size + 1 := by rw [hH56]; simp
    have dj135 : Dj (H12.size + 1) (H54.size + 1) := Dj.new vo.lt
    have nx142 : Nx 0 H54.size (H54.size + 1) := Nx.new hq11.size
    replace vo := vo.nw hs56
    replace owe := owe.nw hs56
    replace hx2 := fun x hx_ => (hx2 x hx_).nw hs56
    replace od := od.nw hs56
    replace hlm2 := hlm2.trN hs56
    replace hq11 := hq11.trN hs56
    have hz19 := hs56.size
    refine ⟨.inr hq11, LH.narrow (SH2 := fun Hq => Mo (Ms [k2, k54, (H54.size + 1)]) H56 Hq) (fun Hq hq => hq11.trL hq (MIL.cons (MI.r nx127) (MIL.cons (MI.r nx128) (MIL.o (MI.q nx142))))) ?_⟩
    have hq11 : Mo (Ms [k2, k54, (H54.size + 1)]) H56 H56 := Mo.refl _ _
    have nx143 := Nx.refl k2 H56.size
    have nx144 := Nx.refl k54 H56.size
    have nx145 := Nx.refl (H54.size + 1) H56.size
    refine LH.o1 9 ?_
    refine LO.z rfl (Z.apnd owe nw56.rd rfl inf30 rfl rfl (by simp; omega) (by simp; omega)) (Wd.u rfl) rfl rfl (fun v57 H57 r57 => ?_)
    obtain ⟨k57, owe, hk57, hs57⟩ := r57
    replace hk57 : Nx k2 H56.size k57 := hk57
    replace hs57 := hs57.md
    have dj152 : Dj (H12.size + 1) k57 := Dj.app (dj99) vo.lt hk57
    have df153 := DF.app (f4) (bf_hx2.mono (by omega)) hk57
    have dj155 : Dj k54 k57 := Dj.app (dj121.symm) od.le hk57
    have nx158 : Nx 0 HL1.size k57 := Nx.tr (nx100) hk57 hlm2.size
    have nx159 : Nx k2 H56.size k57 := Nx.tr (nx143) hk57 hq11.size
    replace vo := vo.upL hs57 (DL.o dj99)
    replace hx2 := fun x hx_ => (hx2 x hx_).upL hs57 (DFL.o f4)
    replace od := od.upL hs57 (DL.o dj121.symm)
    replace hlm2 := hlm2.trL hs57 (MIL.o (MI.q nx100))
    replace hq11 := hq11.trL hs57 (MIL.o (MI.r nx143))
    have hz20 := hs57.size
    have hle_owe := owe.le
    obtain ⟨s57, rfl⟩ : ∃ s : SV, v57 = s.v := ⟨toSV v57, owe.sv.symm⟩
    refine ⟨.inr hq11, LH.narrow (SH2 := fun Hq => Mo (Ms [k57, k54, (H54.size + 1)]) H57 Hq) (fun Hq hq => hq11.trL hq (MIL.cons (MI.r nx159) (MIL.cons (MI.r nx144) (MIL.o (MI.r nx145))))) ?_⟩
    have hq11 : Mo (Ms [k57, k54, (H54.size + 1)]) H57 H57 := Mo.refl _ _
    refine LH.t1 10 rfl (fun Hq hq => Y.fieldAddr (vo.upL hq (DL.cons dj152 (DL.cons dj120 (DL.o dj135)))).pt rfl u'47 rfl rfl s'30 (by decide) rfl) hq11 ?_
    refine LH.o1 11 ?_
    refine LO.s rfl (S.var1 vo 73 (fSt ⟨s.hd, s12, s.rl, s1, l1, { s.q with tv := s19 }, s57, l2 ++ [⟨y.k, s54, y.d⟩]⟩) rfl rfl rfl (rfl) s'30 (by rw [fSt_len]; omega) ((st_ev _ _))) (Wd.u rfl) rfl (fun H11_11 r11_11 => ?_)
    obtain ⟨vo, hs11_11⟩ := r11_11
    replace hs11_11 := hs11_11.md1
    replace owe := owe.upL hs11_11 (DL.o dj152.symm)
    replace hx2 := fun x hx_ => (hx2 x hx_).upL hs11_11 (DFL.o f3)
    replace od := od.upL hs11_11 (DL.o dj120.symm)
    replace hlm2 := hlm2.trL hs11_11 (MIL.o (MI.r nx_hlm2_vo))
    have hz21 := hs11_11.size
    refine ⟨.inl rfl, ?_⟩
    refine LH.done (by kernel_rfl) ?_
    refine hK20 _ _ (hK19 _ _ (CW.region ?_))
    refine LR.v1 (Y.addi rfl rfl rfl (by omega)) ?_
    refine LR.m1 (LR.nil ?_)
    refine QN.sub (hN16 (i + 1, s57, k57, l2 ++ [⟨y.k, s54, y.d⟩], fun b => G2 b ∨ b + 1 = k54) _ ?_ ?_) ⟨rfl, rfl, rfl, (iv (by omega)), (iv (by omega)), trivial⟩
    · exact ⟨(by omega), vo, owe, snocR hx2 (fun b e => .inl e) (od.rd.imp (fun b _ e => .inr e)), BF.or1 (bf_hx2.mono (by omega)) od.le, DF.or1 (f3) (dj120), DF.or1 (df153) (dj155.symm), DF.or1 (f6) (dj115), ab_or a2 (nx124), by unfold elM at hl2 ⊢; rw [List.map_append, hl2, List.take_succ_eq_append_getElem hil, List.map_append, ← hey]; rfl, nx158, dj152, hlm2⟩
    · first | omega | (simp only; omega) | (simp; omega)
   ·
    obtain rfl : i = s.el.length := by omega
    rw [List.take_length] at hl2
    refine CW.exit (hE18 (.exit 2) nofun _ _ (hE16 (.exit 2) nofun _ _ (hX15 _ _ ?_)))
    refine hK13 _ _ (CW.s1 (fun hK22 => CW.region ?_))
    refine LR.v1 (Y.loadN vo.pt rfl a'47 s'47 (fSt_len _) rfl) ?_
    refine LR.s1 (S.var vr (_) (fSt ⟨s.hd, s12, s.rl, s1, l1, { s.q with tv := s19 }, s2_, l2⟩) rfl rfl rfl rfl (fSt_one _) s'47 (fSt_len _) (by decide) ((splice_all2 (fSt_len _).symm))) fun H13_1 r13_1 => ?_
    obtain ⟨vr, hs13_1⟩ := r13_1
    replace hs13_1 := hs13_1.md1
    replace or := or.upL hs13_1 (DL.o dj8.symm)
    replace oq := oq.upL hs13_1 (DL.o dj22.symm)
    replace owl := owl.upL hs13_1 (DL.o dj28.symm)
    replace hx1 := fun x hx_ => (hx1 x hx_).upL hs13_1 (DFL.o f5)
    replace owe := owe.upL hs13_1 (DL.o dj93.symm)
    replace hx2 := fun x hx_ => (hx2 x hx_).upL hs13_1 (DFL.o f6)
    replace hm0 := hm0.tq hs13_1 (MIL.o (MI.q nx5))
    have hz22 := hs13_1.size
    refine LR.nil (hK22 _ _ ?_)
    refine CW.ret (hret .ret (.inr rfl) _ _ _ (resC rfl rfl vr.pt a'47 s'47 (fSt_len _)) ?_)
    exact ⟨⟨s.hd, s12, s.rl, s1, l1, { s.q with tv := s19 }, s2_, l2⟩, k2, (fun b => b + 1 = k12 ∨ b + 1 = k19 ∨ b + 1 = k1 ∨ G1 b ∨ G2 b), rfl, ⟨or.rd.imp (fun b _ e => .inl e), owl.rd.imp (fun b _ e => .inr (.inr (.inl e))), (fun y hy => (hx1 y hy).imp (fun b _ e => .inr (.inr (.inr (.inl e))))), oq.rd.imp (fun b _ e => .inr (.inl e)), (fun y hy => (hx2 y hy).imp (fun b _ e => .inr (.inr (.inr (.inr e)))))⟩, owe, (nx98), (fun b e => by have q1 := or.le; have q2 := oq.le; have q3 := owl.le; rcases e with e | e | e | e | e; omega; omega; omega; exact (bf_hx1.mono (by omega)) b e; exact (bf_hx2.mono (by omega)) b e), (fun c e => by have q1 := (nx9); have q2 := (nx25); have q3 := (nx31); unfold Nx at q1 q2 q3; rcases e with e | e | e | e | e; omega; omega; omega; exact a1 c e; exact a2 c e), (fun b e h2 => by rcases e with e | e | e | e | e; exact (dj94) b e h2; exact (dj95) b e h2; exact (dj96) b e h2; exact (df97) b e h2; exact (f4) b e h2), by unfold TSt.m; simp only [hl1, hl2]; rfl, hm0⟩
 ·
  refine LO.z rfl (Z.allocv rfl z'47) (Wd.u rfl) rfl rfl (fun v3 H3 r3 => ?_)
  obtain ⟨rfl, vo, hs3, ob3, hH3⟩ := r3
  have hzs3 : H3.size = H2.size + 1 := by rw [hH3]; simp
  have df163 := (DF.new (bf_hs.mono hm0.size) : DF _ (H2.size + 1))
  have dj164 : Dj (H0.size + 1) (H2.size + 1) := Dj.new va.lt
  have dj165 : Dj (H1.size + 1) (H2.size + 1) := Dj.new vr.lt
  have nx166 : Nx 0 H0.size (H2.size + 1) := Nx.new hm0.size
  have nx167 : Nx 0 H2.size (H2.size + 1) := Nx.new hq1.size
  replace hs := hs.nw hs3
  replace va := va.nw hs3
  replace vr := vr.nw hs3
  replace hm0 := hm0.tr hs3
  replace hq1 := hq1.tr hs3
  have hz23 := hs3.size
  refine ⟨.inr hq1, LH.narrow (SH2 := fun Hq => Mo (Ms [(H2.size + 1)]) H3 Hq) (fun Hq hq => (Mo.trL (ks := []) (hq1.mdn []) hq (MIL.o (MI.q nx167))).nil) ?_⟩
  have hq1 : Mo (Ms [(H2.size + 1)]) H3 H3 := Mo.refl _ _
  have nx168 := Nx.refl (H2.size + 1) H3.size
  refine LH.o1 4 ?_
  refine LO.call rfl rfl c'113 rfl (Wd.u rfl) rfl rfl (rclone_ct s.rv.v s.rl w0 _ hs.r.any (by omega)) (fun v12 H12 r12 => ?_)
  obtain ⟨s12, k12, rfl, or, hk12, hs12⟩ := r12
  have dj171 : Dj (H1.size + 1) k12 := Dj.app (Dj.z) vr.lt hk12
  have dj172 : Dj (H2.size + 1) k12 := Dj.app (Dj.z) vo.lt hk12
  have nx173 : Nx 0 H0.size k12 := Nx.tr (Nx.refl 0 _) hk12 hm0.size
  have nx174 : Nx 0 H3.size k12 := Nx.tr (Nx.refl 0 _) hk12 hq1.size
  replace hs := hs.nw hs12
  replace va := va.nw hs12
  replace vr := vr.nw hs12
  replace vo := vo.nw hs12
  replace hm0 := hm0.tr hs12
  replace hq1 := hq1.trN hs12
  have hz24 := hs12.size
  have hle_or := or.le
  refine ⟨.inr hq1, LH.narrow (SH2 := fun Hq => Mo (Ms [(H2.size + 1), k12]) H12 Hq) (fun Hq hq => hq1.trL hq (MIL.cons (MI.r nx168) (MIL.o (MI.q nx174)))) ?_⟩
  have hq1 : Mo (Ms [(H2.size + 1), k12]) H12 H12 := Mo.refl _ _
  refine LH.t1 (v := stV ⟨s.hd, s12, s.rl, n0, [], s.q, n0, []⟩) 7 rfl (fun Hq hq => ?_) hq1 ?_
  · exact Y.build (v := stV ⟨s.hd, s12, s.rl, n0, [], s.q, n0, []⟩) rfl rfl (by intro w; exact build_st _)
  refine LH.o1 9 ?_
  refine LO.s rfl (S.var vo (_) (fSt ⟨s.hd, s12, s.rl, n0, [], s.q, n0, []⟩) rfl rfl rfl rfl (fSt_one _) s'47 (fSt_len _) (by decide) ((splice_all2 (fSt_len _).symm))) (Wd.u rfl) rfl (fun H1_9 r1_9 => ?_)
  obtain ⟨vo, hs1_9⟩ := r1_9
  replace hs1_9 := hs1_9.md1
  replace hs := hs.upL hs1_9 (DFL.o df163)
  replace va := va.upL hs1_9 (DL.o dj164)
  replace vr := vr.upL hs1_9 (DL.o dj165)
  replace or := or.upL hs1_9 (DL.o dj172.symm)
  replace hm0 := hm0.tq hs1_9 (MIL.o (MI.q nx166))
  have hz25 := hs1_9.size
  refine ⟨.inl rfl, ?_⟩
  refine LH.done (by kernel_rfl) ?_
  refine hK2 _ _ (CW.s1 (fun hK23 => CW.region ?_))
  refine LR.v1 (Y.FA va.pt rfl u'47 rfl s'29) ?_
  refine LR.v1 (Y.FA (va.pt.drop 3) rfl u'29 rfl s'27) ?_
  refine LR.v1 (Y.load1 va.pt.st69 rfl a'27 rfl) ?_
  refine LR.call rfl c'52 rfl (Wd.u rfl) rfl rfl (tclone_ct s.q.tv.v s.q.td w0 _ hs.q.any (by omega)) (fun v19 H19 r19 => ?_)
  obtain ⟨s19, k19, rfl, oq, hk19, hs19⟩ := r19
  have dj179 : Dj (H1.size + 1) k19 := Dj.app (Dj.z) vr.lt hk19
  have dj180 : Dj (H2.size + 1) k19 := Dj.app (Dj.z) vo.lt hk19
  have nx182 : Nx 0 H0.size k19 := Nx.tr (Nx.refl 0 _) hk19 hm0.size
  replace hs := hs.nw hs19
  replace va := va.nw hs19
  replace vr := vr.nw hs19
  replace vo := vo.nw hs19
  replace or := or.nw hs19
  replace hm0 := hm0.tr hs19
  have hz26 := hs19.size
  have hle_oq := oq.le
  refine LR.v1 (Y.FA vo.pt rfl u'47 rfl s'29) ?_
  refine LR.v1 (Y.FA (vo.pt.drop 3) rfl u'29 rfl s'27) ?_
  refine LR.s1 (S.var1 vo 69 (fSt ⟨s.hd, s12, s.rl, n0, [], { s.q with tv := s19 }, n0, []⟩) rfl rfl rfl (rfl) s'27 (by rw [fSt_len]; omega) ((st_tv _ _))) fun H2_6 r2_6 => ?_
  obtain ⟨vo, hs2_6⟩ := r2_6
  replace hs2_6 := hs2_6.md1
  replace hs := hs.upL hs2_6 (DFL.o df163)
  replace va := va.upL hs2_6 (DL.o dj164)
  replace vr := vr.upL hs2_6 (DL.o dj165)
  replace or := or.upL hs2_6 (DL.o dj172.symm)
  replace oq := oq.upL hs2_6 (DL.o dj180.symm)
  replace hm0 := hm0.tq hs2_6 (MIL.o (MI.q nx166))
  have hz27 := hs2_6.size
  refine LR.nil (hK23 _ _ (CW.s1 (fun hK24 => CW.s1 (fun hK25 => CW.region ?_))))
  refine LR.v1 (Y.FA va.pt rfl u'47 rfl s'45) ?_
  refine LR.v1 (Y.load1 (va.pt.drop 2) rfl a'45 rfl) ?_
  refine LR.v1 (Y.len hs.g rfl u'45 rfl) ?_
  refine LR.m1 (LR.nil (hK25 _ _ ?_))
  refine CW.block (fun _ _ hX26 _ => ?_)
  refine CW.loop (fun (s_ : (Nat) × (SV) × (Nat) × (List TLg) × (Nat → Prop)) => match s_ with | (j, s1, k1, l1, G1) => [(1, .pointer (some ⟨H0.size, 0, none⟩)), (2, .pointer (some ⟨H1.size, 0, none⟩)), (3, .pointer (some ⟨H2.size, 0, none⟩)), (23, s.lv.v), (24, .int .i64 (s.ll.length : Int)), (25, .int .i64 (j : Int))])
   (fun (s_ : (Nat) × (SV) × (Nat) × (List TLg) × (Nat → Prop)) (H : Heap) => match s_ with | (j, s1, k1, l1, G1) => (j ≤ s.ll.length) ∧ (Var 47 H H2.size (fSt ⟨s.hd, s12, s.rl, s1, l1, { s.q with tv := s19 }, n0, []⟩)) ∧ (Ow k1 62 H fLg 2 s1.v l1) ∧ (∀ x ∈ l1, Rd G1 H fLn 65 x.v.v x.l) ∧ (BF G1 H.size) ∧ (DF G1 (H2.size + 1)) ∧ (DF G1 k1) ∧ (DF G1 (H1.size + 1)) ∧ (∀ c, G1 c → H0.size ≤ c) ∧ (llM l1 = llM (s.ll.take j)) ∧ (Nx 0 H2_6.size k1) ∧ (Dj (H2.size + 1) k1) ∧ Mo (Ms [(H2.size + 1)]) H2_6 H)
   (fun (s_ : (Nat) × (SV) × (Nat) × (List TLg) × (Nat → Prop)) => match s_ with | (j, s1, k1, l1, G1) => s.ll.length - j) (0, n0, 0, [], fun _ => False) ⟨rfl, rfl, rfl, rfl, rfl, rfl, trivial⟩ ?_ ?_
  ·
   exact ⟨(by omega), vo, Ow.nil fLg_len fLg_one, (fun x h => by cases h), (fun b e => e.elim), (fun b e => e.elim), (fun b e => e.elim), (fun b e => e.elim), (fun c e => e.elim), rfl, Nx.refl _ _, Dj.z, Mo.refl _ _⟩
  rintro ⟨j, s1, k1, l1, G1⟩ HL1 hI1 K27 hN27 hE27
  obtain ⟨hj, vo, owl, hx1, bf_hx1, f1, f2, f5, a1, hl1, nxl_owl, dj_vo_owl, hlm1⟩ := hI1
  have dj185 : Dj (H1.size + 1) k1 := Dj.app (Dj.z) vr.lt nxl_owl
  have nx188 : Nx 0 H0.size k1 := Nx.tr (Nx.refl 0 _) nxl_owl hm0.size
  replace hs := hs.upL hlm1 (DFL.o df163)
  replace va := va.upL hlm1 (DL.o dj164)
  replace vr := vr.upL hlm1 (DL.o dj165)
  replace or := or.upL hlm1 (DL.o dj172.symm)
  replace oq := oq.upL hlm1 (DL.o dj180.symm)
  replace hm0 := hm0.tq hlm1 (MIL.o (MI.q nx166))
  have hz28 := hlm1.size
  have hle_owl := owl.le
  have dj189 := dj_vo_owl
  have nx_hlm1_vo := Nx.refl (H2.size + 1) H2_6.size
  have nx190 := nxl_owl
  refine CW.s1 (fun hK28 => CW.region ?_)
  refine LR.v1 (Y.lss rfl rfl rfl) (LR.nil (hK28 _ _ ?_))
  refine CW.s2 (fun hK29 hE29 => ?_)
  refine CW.condp rfl (fun c26 => ?_) (fun c26 => ?_)
  ·
   refine CW.skip (hK29 _ _ (CW.s1 (fun hK30 => CW.block (fun _ hK31 _ _ => CW.s1 (fun hK32 => CW.region ?_)))))
   have hil : j < s.ll.length := by omega
   obtain ⟨y, hey⟩ : ∃ q, q = s.ll[j] := ⟨_, rfl⟩
   have hmy : y ∈ s.ll := by rw [hey]; exact List.getElem_mem hil
   have hyl := z4 y hmy
   have hl1l : l1.length = j := by have h9 := congrArg List.length hl1; simp only [llM, List.length_map, List.length_take] at h9; omega
   refine LR.e1 (g := fun ad => .pointer (some ad)) (Y.iF hs.g (j) rfl u'45 s'62 rfl rfl) fun ad27 pt27 => ?_
   refine LR.v1 (Y.cast (v2 := .agg (fLg y).toArray) (Y.loadN pt27.pt rfl a'62 s'62 (fLg_len _) rfl) (by rw [hey])) ?_
   refine LR.z1 (Z.allocv rfl z'62) fun v5 H5 r5 => ?_
   obtain ⟨rfl, vl, hs5, ob5, hH5⟩ := r5
   have hzs5 : H5.size = HL1.size + 1 := by rw [hH5]; simp
   have df191 := (DF.new (bf_hs.mono hm0.size) : DF _ (HL1.size + 1))
   have dj193 : Dj (H1.size + 1) (HL1.size + 1) := Dj.new vr.lt
   have dj196 : Dj (H2.size + 1) (HL1.size + 1) := Dj.new vo.lt
   have dj197 : Dj k1 (HL1.size + 1) := Dj.new owl.le
   have df198 := (DF.new (bf_hx1.mono (by omega)) : DF _ (HL1.size + 1))
   have nx200 : Nx 0 H0.size (HL1.size + 1) := Nx.new hm0.size
   have nx201 : Nx 0 H2_6.size (HL1.size + 1) := Nx.new hlm1.size
   replace hs := hs.nw hs5
   replace vr := vr.nw hs5
   replace vo := vo.nw hs5
   replace owl := owl.nw hs5
   replace hx1 := fun x hx_ => (hx1 x hx_).nw hs5
   replace hm0 := hm0.tr hs5
   replace hlm1 := hlm1.trN hs5
   have hz29 := hs5.size
   refine LR.s1 (S.var vl (_) (fLg y) rfl rfl rfl rfl (fLg_one y) s'62 (fLg_len _) (by decide) ((splice_all2 (fLg_len _).symm))) fun H5_3 r5_3 => ?_
   obtain ⟨vl, hs5_3⟩ := r5_3
   replace hs5_3 := hs5_3.md1
   replace hs := hs.upL hs5_3 (DFL.o df191)
   replace vr := vr.upL hs5_3 (DL.o dj193)
   replace vo := vo.upL hs5_3 (DL.o dj196)
   replace owl := owl.upL hs5_3 (DL.o dj197)
   replace hx1 := fun x hx_ => (hx1 x hx_).upL hs5_3 (DFL.o df198)
   replace hm0 := hm0.tq hs5_3 (MIL.o (MI.q nx200))
   replace hlm1 := hlm1.trL hs5_3 (MIL.o (MI.q nx201))
   have hz30 := hs5_3.size
   refine LR.nil (hK32 _ _ ?_)
   refine CW.region_any (fun Hq => Mo (Ms [k1]) H5_3 Hq) [11] rfl ?_
   have hq6 : Mo (Ms [k1]) H5_3 H5_3 := Mo.refl _ _
   have nx202 := Nx.refl k1 H5_3.size
   refine LH.t1 0 rfl (fun Hq hq => Y.fieldAddr (vo.upL hq (DL.o dj189)).pt rfl u'47 rfl rfl s'45 (by decide) rfl) hq6 ?_
   refine LH.t1 1 rfl (fun Hq hq => Y.load1 ((vo.upL hq (DL.o dj189)).pt.drop 2) rfl a'45 rfl) hq6 ?_
   refine LH.t1 2 rfl (fun Hq hq => Y.fieldAddr (vl.upL hq (DL.o dj197.symm)).pt rfl u'62 rfl rfl s'9 (by decide) rfl) hq6 ?_
   refine LH.t1 3 rfl (fun Hq hq => Y.load1 (vl.upL hq (DL.o dj197.symm)).pt rfl a'9 rfl) hq6 ?_
   refine LH.t1 4 rfl (fun Hq hq => Y.fieldAddr (vl.upL hq (DL.o dj197.symm)).pt rfl u'62 rfl rfl s'60 (by decide) rfl) hq6 ?_
   refine LH.t1 5 rfl (fun Hq hq => Y.load1 ((vl.upL hq (DL.o dj197.symm)).pt.drop 1) rfl a'60 rfl) hq6 ?_
   refine LH.o1 6 ?_
   refine LO.call rfl rfl c'114 rfl (Wd.u rfl) rfl rfl (lclone_ct y.v.v y.l w0 _ (hs.n y hmy).any (by omega)) (fun v35 H35 r35 => ?_)
   obtain ⟨s35, k35, rfl, oz, hk35, hs35⟩ := r35
   have dj205 : Dj (H1.size + 1) k35 := Dj.app (Dj.z) vr.lt hk35
   have dj208 : Dj (H2.size + 1) k35 := Dj.app (Dj.z) vo.lt hk35
   have dj209 : Dj k1 k35 := Dj.app (Dj.z) owl.le hk35
   have nx212 : Nx 0 H0.size k35 := Nx.tr (Nx.refl 0 _) hk35 hm0.size
   have nx214 : Nx 0 H5_3.size k35 := Nx.tr (Nx.refl 0 _) hk35 hq6.size
   replace vo := vo.nw hs35
   replace owl := owl.nw hs35
   replace hx1 := fun x hx_ => (hx1 x hx_).nw hs35
   replace hlm1 := hlm1.trN hs35
   replace hq6 := hq6.trN hs35
   have hz31 := hs35.size
   have hle_oz := oz.le
   refine ⟨.inr hq6, LH.narrow (SH2 := fun Hq => Mo (Ms [k1, k35]) H35 Hq) (fun Hq hq => hq6.trL hq (MIL.cons (MI.r nx202) (MIL.o (MI.q nx214)))) ?_⟩
   have hq6 : Mo (Ms [k1, k35]) H35 H35 := Mo.refl _ _
   have nx215 := Nx.refl k1 H35.size
   have nx216 := Nx.refl k35 H35.size
   refine LH.t1 7 rfl (fun Hq hq => Y.build (v := .agg (fLg ⟨y.n, s35, y.l⟩).toArray) rfl rfl (by intro w; kernel_rfl)) hq6 ?_
   refine LH.o1 8 ?_
   refine LO.z rfl (Z.litw _ ([(⟨y.n, s35, y.l⟩ : TLg)]) rfl inf45 rfl rfl rfl (by decide) (by decide) fLg_len fLg_one (rfl)) (Wd.u rfl) rfl rfl (fun v37 H37 r37 => ?_)
   obtain ⟨nw37, hs37, ob37, hH37⟩ := r37
   have hzs37 : H37.size = H35.size + 1 := by rw [hH37]; simp
   have dj222 : Dj (H2.size + 1) (H35.size + 1) := Dj.new vo.lt
   have nx229 : Nx 0 H35.size (H35.size + 1) := Nx.new hq6.size
   replace vo := vo.nw hs37
   replace owl := owl.nw hs37
   replace hx1 := fun x hx_ => (hx1 x hx_).nw hs37
   replace oz := oz.nw hs37
   replace hlm1 := hlm1.trN hs37
   replace hq6 := hq6.trN hs37
   have hz32 := hs37.size
   refine ⟨.inr hq6, LH.narrow (SH2 := fun Hq => Mo (Ms [k1, k35, (H35.size + 1)]) H37 Hq) (fun Hq hq => hq6.trL hq (MIL.cons (MI.r nx215) (MIL.cons (MI.r nx216) (MIL.o (MI.q nx229))))) ?_⟩
   have hq6 : Mo (Ms [k1, k35, (H35.size + 1)]) H37 H37 := Mo.refl _ _
   have nx230 := Nx.refl k1 H37.size
   have nx231 := Nx.refl k35 H37.size
   have nx232 := Nx.refl (H35.size + 1) H37.size
   refine LH.o1 9 ?_
   refine LO.z rfl (Z.apnd owl nw37.rd rfl inf45 rfl rfl (by simp; omega) (by simp; omega)) (Wd.u rfl) rfl rfl (fun v38 H38 r38 => ?_)
   obtain ⟨k38, owl, hk38, hs38⟩ := r38
   replace hk38 : Nx k1 H37.size k38 := hk38
   replace hs38 := hs38.md
   have dj238 : Dj (H2.size + 1) k38 := Dj.app (dj189) vo.lt hk38
   have df239 := DF.app (f2) (bf_hx1.mono (by omega)) hk38
   have dj241 : Dj k35 k38 := Dj.app (dj209.symm) oz.le hk38
   have nx244 : Nx 0 H2_6.size k38 := Nx.tr (nx190) hk38 hlm1.size
   have nx245 : Nx k1 H37.size k38 := Nx.tr (nx230) hk38 hq6.size
   replace vo := vo.upL hs38 (DL.o dj189)
   replace hx1 := fun x hx_ => (hx1 x hx_).upL hs38 (DFL.o f2)
   replace oz := oz.upL hs38 (DL.o dj209.symm)
   replace hlm1 := hlm1.trL hs38 (MIL.o (MI.q nx190))
   replace hq6 := hq6.trL hs38 (MIL.o (MI.r nx230))
   have hz33 := hs38.size
   have hle_owl := owl.le
   obtain ⟨s38, rfl⟩ : ∃ s : SV, v38 = s.v := ⟨toSV v38, owl.sv.symm⟩
   refine ⟨.inr hq6, LH.narrow (SH2 := fun Hq => Mo (Ms [k38, k35, (H35.size + 1)]) H38 Hq) (fun Hq hq => hq6.trL hq (MIL.cons (MI.r nx245) (MIL.cons (MI.r nx231) (MIL.o (MI.r nx232))))) ?_⟩
   have hq6 : Mo (Ms [k38, k35, (H35.size + 1)]) H38 H38 := Mo.refl _ _
   refine LH.t1 10 rfl (fun Hq hq => Y.fieldAddr (vo.upL hq (DL.cons dj238 (DL.cons dj208 (DL.o dj222)))).pt rfl u'47 rfl rfl s'45 (by decide) rfl) hq6 ?_
   refine LH.o1 11 ?_
   refine LO.s rfl (S.var1 vo 2 (fSt ⟨s.hd, s12, s.rl, s38, l1 ++ [⟨y.n, s35, y.l⟩], { s.q with tv := s19 }, n0, []⟩) rfl rfl rfl (rfl) s'45 (by rw [fSt_len]; omega) ((st_lv _ _))) (Wd.u rfl) rfl (fun H6_11 r6_11 => ?_)
   obtain ⟨vo, hs6_11⟩ := r6_11
   replace hs6_11 := hs6_11.md1
   replace owl := owl.upL hs6_11 (DL.o dj238.symm)
   replace hx1 := fun x hx_ => (hx1 x hx_).upL hs6_11 (DFL.o f1)
   replace oz := oz.upL hs6_11 (DL.o dj208.symm)
   replace hlm1 := hlm1.trL hs6_11 (MIL.o (MI.r nx_hlm1_vo))
   have hz34 := hs6_11.size
   refine ⟨.inl rfl, ?_⟩
   refine LH.done (by kernel_rfl) ?_
   refine hK31 _ _ (hK30 _ _ (CW.region ?_))
   refine LR.v1 (Y.addi rfl rfl rfl (by omega)) ?_
   refine LR.m1 (LR.nil ?_)
   refine QN.sub (hN27 (j + 1, s38, k38, l1 ++ [⟨y.n, s35, y.l⟩], fun b => G1 b ∨ b + 1 = k35) _ ?_ ?_) ⟨rfl, rfl, rfl, rfl, (iv (by omega)), (iv (by omega)), trivial⟩
   · exact ⟨(by omega), vo, owl, snocR hx1 (fun b e => .inl e) (oz.rd.imp (fun b _ e => .inr e)), BF.or1 (bf_hx1.mono (by omega)) oz.le, DF.or1 (f1) (dj208), DF.or1 (df239) (dj241.symm), DF.or1 (f5) (dj205), ab_or a1 (nx212), by unfold llM at hl1 ⊢; rw [List.map_append, hl1, List.take_succ_eq_append_getElem hil, List.map_append, ← hey]; rfl, nx244, dj238, hlm1⟩
   · first | omega | (simp only; omega) | (simp; omega)
  ·
   obtain rfl : j = s.ll.length := by omega
   rw [List.take_length] at hl1
   refine CW.exit (hE29 (.exit 0) nofun _ _ (hE27 (.exit 0) nofun _ _ (hX26 _ _ ?_)))
   refine hK24 _ _ (CW.s1 (fun hK33 => CW.s1 (fun hK34 => CW.region ?_)))
   refine LR.v1 (Y.FA va.pt rfl u'47 rfl s'30) ?_
   refine LR.v1 (Y.load1 va.pt.st73 rfl a'30 rfl) ?_
   refine LR.v1 (Y.len hs.e rfl u'30 rfl) ?_
   refine LR.m1 (LR.nil (hK34 _ _ ?_))
   refine CW.block (fun _ _ hX35 _ => ?_)
   refine CW.loop (fun (s_ : (Nat) × (SV) × (Nat) × (List TMm) × (Nat → Prop)) => match s_ with | (i, s2_, k2, l2, G2) => [(2, .pointer (some ⟨H1.size, 0, none⟩)), (3, .pointer (some ⟨H2.size, 0, none⟩)), (42, s.ev.v), (43, .int .i64 (s.el.length : Int)), (44, .int .i64 (i : Int))])
    (fun (s_ : (Nat) × (SV) × (Nat) × (List TMm) × (Nat → Prop)) (H : Heap) => match s_ with | (i, s2_, k2, l2, G2) => (i ≤ s.el.length) ∧ (Var 47 H H2.size (fSt ⟨s.hd, s12, s.rl, s1, l1, { s.q with tv := s19 }, s2_, l2⟩)) ∧ (Ow k2 68 H fMm 33 s2_.v l2) ∧ (∀ x ∈ l2, Rd G2 H fB 1 x.v.v x.d) ∧ (BF G2 H.size) ∧ (DF G2 (H2.size + 1)) ∧ (DF G2 k2) ∧ (DF G2 (H1.size + 1)) ∧ (∀ c, G2 c → H0.size ≤ c) ∧ (elM l2 = elM (s.el.take i)) ∧ (Nx 0 HL1.size k2) ∧ (Dj (H2.size + 1) k2) ∧ Mo (Ms [(H2.size + 1)]) HL1 H)
    (fun (s_ : (Nat) × (SV) × (Nat) × (List TMm) × (Nat → Prop)) => match s_ with | (i, s2_, k2, l2, G2) => s.el.length - i) (0, n0, 0, [], fun _ => False) ⟨rfl, rfl, rfl, rfl, rfl, trivial⟩ ?_ ?_
   ·
    exact ⟨(by omega), vo, Ow.nil fMm_len fMm_one, (fun x h => by cases h), (fun b e => e.elim), (fun b e => e.elim), (fun b e => e.elim), (fun b e => e.elim), (fun c e => e.elim), rfl, Nx.refl _ _, Dj.z, Mo.refl _ _⟩
   rintro ⟨i, s2_, k2, l2, G2⟩ HL2 hI2 K36 hN36 hE36
   obtain ⟨hi, vo, owe, hx2, bf_hx2, f3, f4, f6, a2, hl2, nxl_owe, dj_vo_owe, hlm2⟩ := hI2
   have dj250 : Dj (H1.size + 1) k2 := Dj.app (Dj.z) vr.lt nxl_owe
   have dj251 : Dj k12 k2 := Dj.app (Dj.z) or.le nxl_owe
   have dj252 : Dj k19 k2 := Dj.app (Dj.z) oq.le nxl_owe
   have dj253 : Dj k1 k2 := Dj.app (Dj.z) owl.le nxl_owe
   have df254 := DF.app (DF.z) (bf_hx1.mono (by omega)) nxl_owe
   have nx255 : Nx 0 H0.size k2 := Nx.tr (Nx.refl 0 _) nxl_owe hm0.size
   replace hs := hs.upL hlm2 (DFL.o df163)
   replace vr := vr.upL hlm2 (DL.o dj165)
   replace or := or.upL hlm2 (DL.o dj172.symm)
   replace oq := oq.upL hlm2 (DL.o dj180.symm)
   replace owl := owl.upL hlm2 (DL.o dj189.symm)
   replace hx1 := fun x hx_ => (hx1 x hx_).upL hlm2 (DFL.o f1)
   replace hm0 := hm0.tq hlm2 (MIL.o (MI.q nx166))
   have hz35 := hlm2.size
   have hle_owe := owe.le
   have dj256 := dj_vo_owe
   have nx_hlm2_vo := Nx.refl (H2.size + 1) HL1.size
   have nx257 := nxl_owe
   refine CW.s1 (fun hK37 => CW.region ?_)
   refine LR.v1 (Y.lss rfl rfl rfl) (LR.nil (hK37 _ _ ?_))
   refine CW.s2 (fun hK38 hE38 => ?_)
   refine CW.condp rfl (fun c45 => ?_) (fun c45 => ?_)
   ·
    refine CW.skip (hK38 _ _ (CW.s1 (fun hK39 => CW.block (fun _ hK40 _ _ => CW.s1 (fun hK41 => CW.region ?_)))))
    have hil : i < s.el.length := by omega
    obtain ⟨y, hey⟩ : ∃ q, q = s.el[i] := ⟨_, rfl⟩
    have hmy : y ∈ s.el := by rw [hey]; exact List.getElem_mem hil
    have hyl := z5 y hmy
    have hl2l : l2.length = i := by have h9 := congrArg List.length hl2; simp only [elM, List.length_map, List.length_take] at h9; omega
    refine LR.e1 (g := fun ad => .pointer (some ad)) (Y.iF hs.e (i) rfl u'30 s'68 rfl rfl) fun ad46 pt46 => ?_
    refine LR.v1 (Y.cast (v2 := .agg (fMm y).toArray) (Y.loadN pt46.pt rfl a'68 s'68 (fMm_len _) rfl) (by rw [hey])) ?_
    refine LR.z1 (Z.allocv rfl z'68) fun v7 H7 r7 => ?_
    obtain ⟨rfl, vn, hs7, ob7, hH7⟩ := r7
    have hzs7 : H7.size = HL2.size + 1 := by rw [hH7]; simp
    have df258 := (DF.new (bf_hs.mono hm0.size) : DF _ (HL2.size + 1))
    have dj259 : Dj (H1.size + 1) (HL2.size + 1) := Dj.new vr.lt
    have dj264 : Dj (H2.size + 1) (HL2.size + 1) := Dj.new vo.lt
    have dj265 : Dj k2 (HL2.size + 1) := Dj.new owe.le
    have df266 := (DF.new (bf_hx2.mono (by omega)) : DF _ (HL2.size + 1))
    have nx268 : Nx 0 H0.size (HL2.size + 1) := Nx.new hm0.size
    have nx269 : Nx 0 HL1.size (HL2.size + 1) := Nx.new hlm2.size
    replace hs := hs.nw hs7
    replace vr := vr.nw hs7
    replace vo := vo.nw hs7
    replace owe := owe.nw hs7
    replace hx2 := fun x hx_ => (hx2 x hx_).nw hs7
    replace hm0 := hm0.tr hs7
    replace hlm2 := hlm2.trN hs7
    have hz36 := hs7.size
    refine LR.s1 (S.var vn (_) (fMm y) rfl rfl rfl rfl (fMm_one y) s'68 (fMm_len _) (by decide) ((splice_all2 (fMm_len _).symm))) fun H10_3 r10_3 => ?_
    obtain ⟨vn, hs10_3⟩ := r10_3
    replace hs10_3 := hs10_3.md1
    replace hs := hs.upL hs10_3 (DFL.o df258)
    replace vr := vr.upL hs10_3 (DL.o dj259)
    replace vo := vo.upL hs10_3 (DL.o dj264)
    replace owe := owe.upL hs10_3 (DL.o dj265)
    replace hx2 := fun x hx_ => (hx2 x hx_).upL hs10_3 (DFL.o df266)
    replace hm0 := hm0.tq hs10_3 (MIL.o (MI.q nx268))
    replace hlm2 := hlm2.trL hs10_3 (MIL.o (MI.q nx269))
    have hz37 := hs10_3.size
    refine LR.nil (hK41 _ _ ?_)
    refine CW.region_any (fun Hq => Mo (Ms [k2]) H10_3 Hq) [11] rfl ?_
    have hq11 : Mo (Ms [k2]) H10_3 H10_3 := Mo.refl _ _
    have nx270 := Nx.refl k2 H10_3.size
    refine LH.t1 0 rfl (fun Hq hq => Y.fieldAddr (vo.upL hq (DL.o dj256)).pt rfl u'47 rfl rfl s'30 (by decide) rfl) hq11 ?_
    refine LH.t1 1 rfl (fun Hq hq => Y.load1 (vo.upL hq (DL.o dj256)).pt.st73 rfl a'30 rfl) hq11 ?_
    refine LH.t1 2 rfl (fun Hq hq => Y.fieldAddr (vn.upL hq (DL.o dj265.symm)).pt rfl u'68 rfl rfl s'26 (by decide) rfl) hq11 ?_
    refine LH.t1 3 rfl (fun Hq hq => Y.cast (v2 := vA y.k) (Y.loadN ((vn.upL hq (DL.o dj265.symm)).pt.take 32) rfl a'26 s'26 (by rw [show (fMm y).take 32 = fA y.k from fMm_k y]; exact fA_len _) rfl) (congrArg (fun z : List Value => Value.agg z.toArray) (show (fMm y).take 32 = fA y.k from fMm_k y))) hq11 ?_
    refine LH.t1 4 rfl (fun Hq hq => Y.fieldAddr (vn.upL hq (DL.o dj265.symm)).pt rfl u'68 rfl rfl s'57 (by decide) rfl) hq11 ?_
    refine LH.t1 5 rfl (fun Hq hq => Y.load1 (vn.upL hq (DL.o dj265.symm)).pt.mm32 rfl a'57 rfl) hq11 ?_
    refine LH.o1 6 ?_
    refine LO.call rfl rfl c'59 rfl (Wd.u rfl) rfl rfl (bclone_ct y.v.v y.d w0 _ (hs.d y hmy).any (by omega)) (fun v54 H54 r54 => ?_)
    obtain ⟨s54, k54, rfl, od, hk54, hs54⟩ := r54
    have dj272 : Dj (H1.size + 1) k54 := Dj.app (Dj.z) vr.lt hk54
    have dj277 : Dj (H2.size + 1) k54 := Dj.app (Dj.z) vo.lt hk54
    have dj278 : Dj k2 k54 := Dj.app (Dj.z) owe.le hk54
    have nx281 : Nx 0 H0.size k54 := Nx.tr (Nx.refl 0 _) hk54 hm0.size
    have nx283 : Nx 0 H10_3.size k54 := Nx.tr (Nx.refl 0 _) hk54 hq11.size
    replace vo := vo.nw hs54
    replace owe := owe.nw hs54
    replace hx2 := fun x hx_ => (hx2 x hx_).nw hs54
    replace hlm2 := hlm2.trN hs54
    replace hq11 := hq11.trN hs54
    have hz38 := hs54.size
    have hle_od := od.le
    refine ⟨.inr hq11, LH.narrow (SH2 := fun Hq => Mo (Ms [k2, k54]) H54 Hq) (fun Hq hq => hq11.trL hq (MIL.cons (MI.r nx270) (MIL.o (MI.q nx283)))) ?_⟩
    have hq11 : Mo (Ms [k2, k54]) H54 H54 := Mo.refl _ _
    have nx284 := Nx.refl k2 H54.size
    have nx285 := Nx.refl k54 H54.size
    refine LH.t1 (v := mmV ⟨y.k, s54, y.d⟩) 7 rfl (fun Hq hq => ?_) hq11 ?_
    · exact Y.build (v := mmV ⟨y.k, s54, y.d⟩) rfl rfl (by intro w; exact build_mm _ _ _)
    refine LH.o1 8 ?_
    refine LO.z rfl (Z.litw _ ([(⟨y.k, s54, y.d⟩ : TMm)]) rfl inf30 rfl rfl rfl (by decide) (by decide) fMm_len fMm_one (rfl)) (Wd.u rfl) rfl rfl (fun v56 H56 r56 => ?_)
    obtain ⟨nw56, hs56, ob56, hH56⟩ := r56
    have hzs56 : H56.size = H54.size + 1 := by rw [hH56]; simp
    have dj292 : Dj (H2.size + 1) (H54.size + 1) := Dj.new vo.lt
    have nx299 : Nx 0 H54.size (H54.size + 1) := Nx.new hq11.size
    replace vo := vo.nw hs56
    replace owe := owe.nw hs56
    replace hx2 := fun x hx_ => (hx2 x hx_).nw hs56
    replace od := od.nw hs56
    replace hlm2 := hlm2.trN hs56
    replace hq11 := hq11.trN hs56
    have hz39 := hs56.size
    refine ⟨.inr hq11, LH.narrow (SH2 := fun Hq => Mo (Ms [k2, k54, (H54.size + 1)]) H56 Hq) (fun Hq hq => hq11.trL hq (MIL.cons (MI.r nx284) (MIL.cons (MI.r nx285) (MIL.o (MI.q nx299))))) ?_⟩
    have hq11 : Mo (Ms [k2, k54, (H54.size + 1)]) H56 H56 := Mo.refl _ _
    have nx300 := Nx.refl k2 H56.size
    have nx301 := Nx.refl k54 H56.size
    have nx302 := Nx.refl (H54.size + 1) H56.size
    refine LH.o1 9 ?_
    refine LO.z rfl (Z.apnd owe nw56.rd rfl inf30 rfl rfl (by simp; omega) (by simp; omega)) (Wd.u rfl) rfl rfl (fun v57 H57 r57 => ?_)
    obtain ⟨k57, owe, hk57, hs57⟩ := r57
    replace hk57 : Nx k2 H56.size k57 := hk57
    replace hs57 := hs57.md
    have dj309 : Dj (H2.size + 1) k57 := Dj.app (dj256) vo.lt hk57
    have df310 := DF.app (f4) (bf_hx2.mono (by omega)) hk57
    have dj312 : Dj k54 k57 := Dj.app (dj278.symm) od.le hk57
    have nx315 : Nx 0 HL1.size k57 := Nx.tr (nx257) hk57 hlm2.size
    have nx316 : Nx k2 H56.size k57 := Nx.tr (nx300) hk57 hq11.size
    replace vo := vo.upL hs57 (DL.o dj256)
    replace hx2 := fun x hx_ => (hx2 x hx_).upL hs57 (DFL.o f4)
    replace od := od.upL hs57 (DL.o dj278.symm)
    replace hlm2 := hlm2.trL hs57 (MIL.o (MI.q nx257))
    replace hq11 := hq11.trL hs57 (MIL.o (MI.r nx300))
    have hz40 := hs57.size
    have hle_owe := owe.le
    obtain ⟨s57, rfl⟩ : ∃ s : SV, v57 = s.v := ⟨toSV v57, owe.sv.symm⟩
    refine ⟨.inr hq11, LH.narrow (SH2 := fun Hq => Mo (Ms [k57, k54, (H54.size + 1)]) H57 Hq) (fun Hq hq => hq11.trL hq (MIL.cons (MI.r nx316) (MIL.cons (MI.r nx301) (MIL.o (MI.r nx302))))) ?_⟩
    have hq11 : Mo (Ms [k57, k54, (H54.size + 1)]) H57 H57 := Mo.refl _ _
    refine LH.t1 10 rfl (fun Hq hq => Y.fieldAddr (vo.upL hq (DL.cons dj309 (DL.cons dj277 (DL.o dj292)))).pt rfl u'47 rfl rfl s'30 (by decide) rfl) hq11 ?_
    refine LH.o1 11 ?_
    refine LO.s rfl (S.var1 vo 73 (fSt ⟨s.hd, s12, s.rl, s1, l1, { s.q with tv := s19 }, s57, l2 ++ [⟨y.k, s54, y.d⟩]⟩) rfl rfl rfl (rfl) s'30 (by rw [fSt_len]; omega) ((st_ev _ _))) (Wd.u rfl) rfl (fun H11_11 r11_11 => ?_)
    obtain ⟨vo, hs11_11⟩ := r11_11
    replace hs11_11 := hs11_11.md1
    replace owe := owe.upL hs11_11 (DL.o dj309.symm)
    replace hx2 := fun x hx_ => (hx2 x hx_).upL hs11_11 (DFL.o f3)
    replace od := od.upL hs11_11 (DL.o dj277.symm)
    replace hlm2 := hlm2.trL hs11_11 (MIL.o (MI.r nx_hlm2_vo))
    have hz41 := hs11_11.size
    refine ⟨.inl rfl, ?_⟩
    refine LH.done (by kernel_rfl) ?_
    refine hK40 _ _ (hK39 _ _ (CW.region ?_))
    refine LR.v1 (Y.addi rfl rfl rfl (by omega)) ?_
    refine LR.m1 (LR.nil ?_)
    refine QN.sub (hN36 (i + 1, s57, k57, l2 ++ [⟨y.k, s54, y.d⟩], fun b => G2 b ∨ b + 1 = k54) _ ?_ ?_) ⟨rfl, rfl, rfl, (iv (by omega)), (iv (by omega)), trivial⟩
    · exact ⟨(by omega), vo, owe, snocR hx2 (fun b e => .inl e) (od.rd.imp (fun b _ e => .inr e)), BF.or1 (bf_hx2.mono (by omega)) od.le, DF.or1 (f3) (dj277), DF.or1 (df310) (dj312.symm), DF.or1 (f6) (dj272), ab_or a2 (nx281), by unfold elM at hl2 ⊢; rw [List.map_append, hl2, List.take_succ_eq_append_getElem hil, List.map_append, ← hey]; rfl, nx315, dj309, hlm2⟩
    · first | omega | (simp only; omega) | (simp; omega)
   ·
    obtain rfl : i = s.el.length := by omega
    rw [List.take_length] at hl2
    refine CW.exit (hE38 (.exit 2) nofun _ _ (hE36 (.exit 2) nofun _ _ (hX35 _ _ ?_)))
    refine hK33 _ _ (CW.s1 (fun hK42 => CW.region ?_))
    refine LR.v1 (Y.loadN vo.pt rfl a'47 s'47 (fSt_len _) rfl) ?_
    refine LR.s1 (S.var vr (_) (fSt ⟨s.hd, s12, s.rl, s1, l1, { s.q with tv := s19 }, s2_, l2⟩) rfl rfl rfl rfl (fSt_one _) s'47 (fSt_len _) (by decide) ((splice_all2 (fSt_len _).symm))) fun H13_1 r13_1 => ?_
    obtain ⟨vr, hs13_1⟩ := r13_1
    replace hs13_1 := hs13_1.md1
    replace or := or.upL hs13_1 (DL.o dj171.symm)
    replace oq := oq.upL hs13_1 (DL.o dj179.symm)
    replace owl := owl.upL hs13_1 (DL.o dj185.symm)
    replace hx1 := fun x hx_ => (hx1 x hx_).upL hs13_1 (DFL.o f5)
    replace owe := owe.upL hs13_1 (DL.o dj250.symm)
    replace hx2 := fun x hx_ => (hx2 x hx_).upL hs13_1 (DFL.o f6)
    replace hm0 := hm0.tq hs13_1 (MIL.o (MI.q nx5))
    have hz42 := hs13_1.size
    refine LR.nil (hK42 _ _ ?_)
    refine CW.ret (hret .ret (.inr rfl) _ _ _ (resC rfl rfl vr.pt a'47 s'47 (fSt_len _)) ?_)
    exact ⟨⟨s.hd, s12, s.rl, s1, l1, { s.q with tv := s19 }, s2_, l2⟩, k2, (fun b => b + 1 = k12 ∨ b + 1 = k19 ∨ b + 1 = k1 ∨ G1 b ∨ G2 b), rfl, ⟨or.rd.imp (fun b _ e => .inl e), owl.rd.imp (fun b _ e => .inr (.inr (.inl e))), (fun y hy => (hx1 y hy).imp (fun b _ e => .inr (.inr (.inr (.inl e))))), oq.rd.imp (fun b _ e => .inr (.inl e)), (fun y hy => (hx2 y hy).imp (fun b _ e => .inr (.inr (.inr (.inr e)))))⟩, owe, (nx255), (fun b e => by have q1 := or.le; have q2 := oq.le; have q3 := owl.le; rcases e with e | e | e | e | e; omega; omega; omega; exact (bf_hx1.mono (by omega)) b e; exact (bf_hx2.mono (by omega)) b e), (fun c e => by have q1 := (nx173); have q2 := (nx182); have q3 := (nx188); unfold Nx at q1 q2 q3; rcases e with e | e | e | e | e; omega; omega; omega; exact a1 c e; exact a2 c e), (fun b e h2 => by rcases e with e | e | e | e | e; exact (dj251) b e h2; exact (dj252) b e h2; exact (dj253) b e h2; exact (df254) b e h2; exact (f4) b e h2), by unfold TSt.m; simp only [hl1, hl2]; rfl, hm0⟩
end Go.Proofs.YtfjmpninmdjcaaaGreatDoor.RefH
