/-
  Long rows of commits, and ladders.
-/
import Derived.Test.YtepdhokpfecdnaaGraU
namespace Go.Proofs.Ytepdhokpfecdnaa.GraW
open Go.Proofs.Ytepdhokpfecdnaa.E Go.RowKit Go.Proofs.Ytepdhokpfecdnaa.GraA Go.Proofs.Ytepdhokpfecdnaa.GraB Go.Proofs.Ytepdhokpfecdnaa.GraC Go.Proofs.Ytepdhokpfecdnaa.GraD Go.Proofs.Ytepdhokpfecdnaa.GraE Go.Proofs.Ytepdhokpfecdnaa.GraF Go.Proofs.Ytepdhokpfecdnaa.GraG Go.Proofs.Ytepdhokpfecdnaa.GraH Go.Proofs.Ytepdhokpfecdnaa.GraI Go.Proofs.Ytepdhokpfecdnaa.GraJ Go.Proofs.Ytepdhokpfecdnaa.GraK Go.Proofs.Ytepdhokpfecdnaa.GraL Go.Proofs.Ytepdhokpfecdnaa.GraM Go.Proofs.Ytepdhokpfecdnaa.GraN Go.Proofs.Ytepdhokpfecdnaa.GraO Go.Proofs.Ytepdhokpfecdnaa.GraP Go.Proofs.Ytepdhokpfecdnaa.GraQ Go.Proofs.Ytepdhokpfecdnaa.GraR Go.Proofs.Ytepdhokpfecdnaa.GraS Go.Proofs.Ytepdhokpfecdnaa.GraT Go.Proofs.Ytepdhokpfecdnaa.GraU
set_option maxRecDepth 20000
set_option linter.unusedVariables false
set_option linter.unusedSimpArgs false
set_option linter.unusedSectionVars false

section
variable {N a : Nat} {lad : Bool} {i j : Ide} {ps st K : List Ide} {e : Nat}
def paT (lad : Bool) (a : Nat) : List Nat := if lad = true then (if a < 2 then [] else [a / 2 * 2 - 2, a / 2 * 2 - 1]) else if a = 0 then [] else [a - 1]
theorem paT_lt {q : Nat} (h : q ∈ paT lad a) : q < a := by
  unfold paT at h
  split at h <;> split at h
  · cases h
  · simp only [List.mem_cons, List.not_mem_nil, or_false] at h; omega
  · cases h
  · simp only [List.mem_cons, List.not_mem_nil, or_false] at h; omega
theorem paN_at (hN : N ≤ 1000000) (ha : a < N) : paN N lad (nbn a) = some ((paT lad a).map nbn) := by
  unfold paN paT
  rw [nbi_nbn (by omega), if_neg (by simp only [ne_eq, not_true_eq_false, false_or]; omega)]
  split <;> split <;> rfl
theorem paN_told (h : paN N lad i = some ps) : ∃ a, a < N ∧ i = nbn a := by
  unfold paN at h
  split at h
  · cases h
  · rename_i h1
    exact ⟨nbi i, by omega, (Decidable.not_not.1 (fun e => h1 (.inl e))).symm⟩
theorem upN (hN : N ≤ 1000000) (ha : a < N) (h : UpO (paN N lad) (nbn a) j) : ∃ k, k ≤ a ∧ j = nbn k := by
  induction h with
  | refl => exact ⟨a, Nat.le_refl _, rfl⟩
  | @step j p ps _ hq hp ih =>
    obtain ⟨k, hk, rfl⟩ := ih
    rw [paN_at hN (by omega)] at hq
    cases hq
    obtain ⟨q, hq2, rfl⟩ := List.mem_map.1 hp
    have := paT_lt hq2
    exact ⟨q, by omega, rfl⟩
theorem acN (hN : N ≤ 1000000) : ∀ k ps, paN N lad k = some ps → ∀ p ∈ ps, nbi p < nbi k := by
  intro k ps h p hp
  obtain ⟨a, ha, rfl⟩ := paN_told h
  rw [paN_at hN ha] at h
  cases h
  obtain ⟨q, hq, rfl⟩ := List.mem_map.1 hp
  have := paT_lt hq
  rw [nbi_nbn (by omega), nbi_nbn (by omega)]; exact this
/-- a commit's number -/
def gN (lad : Bool) (N : Nat) (i : Ide) : Nat := if N ≤ nbi i then 0 else if lad = true then nbi i / 2 else nbi i
theorem gN_at (hN : N ≤ 1000000) (ha : a < N) : gN lad N (nbn a) = if lad = true then a / 2 else a := by
  unfold gN; rw [nbi_nbn (by omega), if_neg (by omega)]
theorem gN_le (hN : N ≤ 1000000) : ∀ k, gN lad N k ≤ 1000000 := by
  intro k; unfold gN
  split
  · omega
  · split <;> omega
theorem gN_all (hN : N ≤ 1000000) : ∀ k ps, paN N lad k = some ps → gN lad N k = gmax (gN lad N) ps := by
  intro k ps h
  obtain ⟨a, ha, rfl⟩ := paN_told h
  rw [paN_at hN ha] at h
  cases h
  rw [gN_at hN ha]
  unfold paT
  cases lad with
  | true =>
    rw [if_pos rfl, if_pos rfl]
    by_cases h2 : a < 2
    · rw [if_pos h2]; simp only [gmax, List.map_nil, List.foldl_nil]; omega
    · rw [if_neg h2]
      have e1 := gN_at (lad := true) hN (show a / 2 * 2 - 2 < N by omega)
      have e2 := gN_at (lad := true) hN (show a / 2 * 2 - 1 < N by omega)
      rw [if_pos rfl] at e1 e2
      simp only [gmax, List.map_cons, List.map_nil, List.foldl_cons, List.foldl_nil, e1, e2]
      omega
  | false =>
    rw [if_neg (by decide), if_neg (by decide)]
    by_cases h2 : a = 0
    · rw [if_pos h2]; simp only [gmax, List.map_nil, List.foldl_nil]; omega
    · rw [if_neg h2]
      have e1 := gN_at (lad := false) hN (show a - 1 < N by omega)
      rw [if_neg (by decide)] at e1
      simp only [gmax, List.map_cons, List.map_nil, List.foldl_cons, List.foldl_nil, e1]
      omega
theorem rowUp (hN : N ≤ 1000000) (ha : a < N) : ∀ d, d ≤ a → UpO (paN N false) (nbn a) (nbn (a - d))
  | 0, _ => .refl
  | d + 1, hd => by
    refine UpO.step (rowUp hN ha d (by omega)) (paN_at hN (by omega)) (List.mem_map.2 ⟨a - (d + 1), ?_, rfl⟩)
    unfold paT
    rw [if_neg (by decide), if_neg (by omega)]
    exact List.mem_singleton.2 (by omega)
theorem ladUp (hN : N ≤ 1000000) {m : Nat} (hm : 2 * m ≤ N) : ∀ d, d + 2 ≤ m → UpO (paN N true) (nbn (2 * m - 1)) (nbn (2 * (m - 2 - d)))
  | 0, hd => by
    refine UpO.step .refl (paN_at hN (by omega)) (List.mem_map.2 ⟨2 * (m - 2 - 0), ?_, rfl⟩)
    unfold paT
    rw [if_pos rfl, if_neg (by omega)]
    have : 2 * (m - 2 - 0) = (2 * m - 1) / 2 * 2 - 2 := by omega
    rw [this]; exact List.mem_cons_self
  | d + 1, hd => by
    refine UpO.step (ladUp hN hm d (by omega)) (paN_at hN (by omega)) (List.mem_map.2 ⟨2 * (m - 2 - (d + 1)), ?_, rfl⟩)
    unfold paT
    rw [if_pos rfl, if_neg (by omega)]
    have : 2 * (m - 2 - (d + 1)) = 2 * (m - 2 - d) / 2 * 2 - 2 := by omega
    rw [this]; exact List.mem_cons_self
theorem topUp (hN : N ≤ 1000000) (h : (lad = true ∧ ∃ m, N = 2 * m ∧ 20 ≤ m ∧ m ≤ 219) ∨ (lad = false ∧ 4990 ≤ N ∧ N ≤ 5009)) : UpO (paN N lad) (nbn (N - 1)) (nbn 0) := by
  rcases h with ⟨rfl, m, h1, h2, _⟩ | ⟨rfl, h1, _⟩
  · have := ladUp (N := N) hN (m := m) (by omega) (m - 2) (by omega)
    rw [show 2 * (m - 2 - (m - 2)) = 0 by omega, show 2 * m - 1 = N - 1 by omega] at this
    exact this
  · have := rowUp (N := N) hN (a := N - 1) (by omega) (N - 1) (Nat.le_refl _)
    rw [Nat.sub_self] at this
    exact this
theorem plN (hN : N ≤ 1000000) (hst : ∀ i ∈ st, ∃ a, a < N ∧ i = nbn a) {k : Ide} (h : ∃ i ∈ st, UpO (paN N lad) i k) : ∃ a, a < N ∧ k = nbn a := by
  obtain ⟨i, hi, hu⟩ := h
  obtain ⟨a, ha, rfl⟩ := hst i hi
  obtain ⟨b, hb, rfl⟩ := upN hN ha hu
  exact ⟨b, by omega, rfl⟩
theorem nodN (hN : N ≤ 1000000) : ((List.range N).map nbn).Nodup := by
  rw [List.nodup_iff_pairwise_ne, List.pairwise_map]
  refine (List.nodup_iff_pairwise_ne.1 List.nodup_range).imp_of_mem ?_
  intro a b ha hb hne e
  rw [List.mem_range] at ha hb
  exact hne (nbn_inj (by omega) (by omega) e)
theorem allN_le (hN : N ≤ 5000) (hst : ∀ i ∈ st, ∃ a, a < N ∧ i = nbn a) (h : AllR (paN N lad) st K e) : e = 0 := by
  rcases h with ⟨h, _⟩ | ⟨_, k, hk, hn⟩ | ⟨_, K2, hd, hl, hK, k, hk, hk2⟩
  · exact h
  · obtain ⟨a, ha, rfl⟩ := plN (by omega) hst hk
    rw [paN_at (by omega) ha] at hn; cases hn
  · have := nodup_le (b := (List.range N).map nbn) (a := k :: K2) (List.nodup_cons.2 ⟨hk, hd⟩) (fun x hx => by
      have hx2 : ∃ i ∈ st, UpO (paN N lad) i x := by
        rcases List.mem_cons.1 hx with rfl | hx
        · exact hk2
        · exact (hK x hx).1
      obtain ⟨a, ha, rfl⟩ := plN (by omega) hst hx2
      exact List.mem_map.2 ⟨a, by simpa using ha, rfl⟩)
    rw [List.length_map, List.length_range, List.length_cons] at this
    omega
theorem allN_gt (hl : lad = false) (hN : N ≤ 1000000) (h5 : 5000 < N) (hst : ∀ i ∈ st, ∃ a, a < N ∧ i = nbn a) (hm : nbn (N - 1) ∈ st) (h : AllR (paN N lad) st K e) : e = 4 := by
  subst hl
  by_cases e0 : e = 0
  · subst e0
    have hin := (all0 h).2.2.1 _ hm
    have := nodup_le (a := (List.range N).map nbn) (b := K) (nodN hN) (fun x hx => by
      obtain ⟨a, ha, rfl⟩ := List.mem_map.1 hx
      rw [List.mem_range] at ha
      have hu := rowUp (N := N) hN (a := N - 1) (by omega) (N - 1 - a) (by omega)
      rw [show N - 1 - (N - 1 - a) = a by omega] at hu
      exact up_in h hin hu)
    have := (all0 h).2.2.2.2
    simp at *; omega
  · rcases h with ⟨h, _⟩ | ⟨_, k, hk, hn⟩ | ⟨h, _⟩
    · exact absurd h e0
    · obtain ⟨a, ha, rfl⟩ := plN hN hst hk
      rw [paN_at hN ha] at hn; cases hn
    · exact h
theorem basN_gt {out : List Ide} (hl : lad = false) (hN : N ≤ 1000000) (h5 : 5000 < N) (h : BsR (paN N lad) (nbn (N - 1)) (nbn 0) out e) : e = 4 := by
  have hk : ∀ K e, AllR (paN N lad) [nbn (N - 1), nbn 0] K e → e = 4 := fun K e h => allN_gt hl hN h5 (fun i hi => by
    simp only [List.mem_cons, List.not_mem_nil, or_false] at hi
    rcases hi with rfl | rfl
    · exact ⟨N - 1, by omega, rfl⟩
    · exact ⟨0, by omega, rfl⟩) (by simp) h
  rcases h with ⟨_, ⟨K, h⟩, _⟩ | ⟨_, _, ⟨K, h⟩, _⟩ | ⟨_, _, K, h⟩
  · have := hk K 0 h; omega
  · have := hk K 0 h; omega
  · exact hk K e h
theorem srd_row {F : Nat → Prop} {H : Heap} {b : Bool} : SRd F H (Sou.row N b) := ⟨fun _ _ e => (by cases e), fun _ _ e => (by cases e)⟩
end

set_option maxHeartbeats 8000000 in
theorem glong_ct (a : Int) (b : Bool) (w0 : World) (H0 : Heap)
    (ha : i64b a) :
    Ct Try.prog w0 9 #[.int .i64 a, .bool b] H0 (fun r H2 => r = .bool true ∧ Nw H0 H2) := by
  refine Ct.enter (args := [.int .i64 a, .bool b]) Try.func9 rfl rfl rfl ?_
  intro Q0 hret
  have hm0 : Nw H0 H0 := Mo.refl _ _
  refine CW.seq (fun K1 hK1 hE1 => ?_)
  refine CW.region ?_
  refine LR.v (Y.assign rfl rfl) (Wd.u rfl) rfl rfl ?_
  refine LR.nil ?_
  refine hK1 _ _ ?_
  refine CW.seq (fun K2 hK2 hE2 => ?_)
  refine CW.seq (fun K3 hK3 hE3 => ?_)
  refine CW.region ?_
  -- call selvage/selvagelaw11.known
  refine LR.call rfl Try.call10 rfl (Wd.u rfl) rfl rfl (known_ct w0 _) (fun v13 H13 r13 => ?_)
  obtain ⟨rfl, hs13⟩ := r13
  replace hm0 := hm0.tr hs13
  have hz1 := hs13.size
  refine LR.v (Y.not rfl rfl) (Wd.u rfl) rfl rfl ?_
  refine LR.nil ?_
  refine hK3 _ _ ?_
  refine CW.cond_f rfl ?_
  refine CW.skip ?_
  refine hK2 _ _ ?_
  refine CW.seq (fun K4 hK4 hE4 => ?_)
  refine CW.region ?_
  refine LR.v (Y.move rfl rfl) (Wd.u rfl) rfl rfl ?_
  -- call selvage/selvagelaw11.within
  refine LR.call rfl Try.call14 rfl (Wd.u rfl) rfl rfl (within_ct a 20 w0 _ (by omega) ha) (fun v16 H16 r16 => ?_)
  obtain ⟨q16, rfl, hq16, hs16⟩ := r16
  replace hm0 := hm0.tr hs16
  have hz2 := hs16.size
  refine LR.v (Y.cast (v2 := .int .i64 ((4990 + q16 : Nat) : Int)) (Y.addi rfl rfl rfl (by omega)) (ivv (by omega))) (Wd.u rfl) rfl rfl ?_
  refine LR.v (Y.move rfl rfl) (Wd.u rfl) rfl rfl ?_
  refine LR.v (Y.build (v := .agg #[.int .i64 ((4990 + q16 : Nat) : Int), .bool b]) rfl rfl (by intro w; kernel_rfl)) (Wd.u rfl) rfl rfl ?_
  refine LR.z (Z.boxv rfl rfl) (Wd.u rfl) rfl rfl (fun v20 H20 r20 => ?_)
  obtain ⟨rfl, hv, hs20, ob20, hH20⟩ := r20
  have hzs20 : H20.size = H16.size + 1 := by rw [hH20]; simp
  have nx1 : Nx 0 H0.size (H16.size + 1) := Nx.new hm0.size
  replace hm0 := hm0.tr hs20
  have hz3 := hs20.size
  replace hv : Var 63 H20 H16.size ([.int .i64 ((4990 + q16 : Nat) : Int), .bool b]) := hv
  refine LR.v (Y.assign rfl rfl) (Wd.u rfl) rfl rfl ?_
  refine LR.nil ?_
  refine hK4 _ _ ?_
  refine CW.cut (fun (N : (Nat)) => [(1, .bool b), (5, .pointer (some ⟨H16.size, 0, none⟩))])
    (fun (N : (Nat)) (H : Heap) => (Var 63 H H16.size [.int .i64 (N : Int), .bool b]) ∧ ((b = true ∧ ∃ m, N = 2 * m ∧ 20 ≤ m ∧ m ≤ 219) ∨ (b = false ∧ 4990 ≤ N ∧ N ≤ 5009)) ∧ Mo (Ms [(H16.size + 1)]) H20 H) (fun K5 hK5 hE5 => ?_) ?_
  ·
    have hcm5 : Mo (Ms [(H16.size + 1)]) H20 H20 := Mo.refl _ _
    have nx_hcm5_hv := Nx.refl (H16.size + 1) H20.size
    refine CW.seq (fun K6 hK6 hE6 => ?_)
    refine CW.region ?_
    refine LR.v (Y.move rfl rfl) (Wd.u rfl) rfl rfl ?_
    refine LR.nil ?_
    refine hK6 _ _ ?_
    refine CW.cond rfl (fun c21 => ?_) (fun c21 => ?_)
    ·
      refine CW.region ?_
      refine LR.v (Y.move rfl rfl) (Wd.u rfl) rfl rfl ?_
      refine LR.v (Y.move rfl rfl) (Wd.u rfl) rfl rfl ?_
      -- call selvage/selvagelaw11.within
      refine LR.call rfl Try.call14 rfl (Wd.u rfl) rfl rfl (within_ct a 200 w0 _ (by omega) ha) (fun v24 H24 r24 => ?_)
      obtain ⟨q24, rfl, hq24, hs24⟩ := r24
      replace hv := hv.nw hs24
      replace hm0 := hm0.tr hs24
      replace hcm5 := hcm5.trN hs24
      have hz4 := hs24.size
      refine LR.v (Y.cast (v2 := .int .i64 ((20 + q24 : Nat) : Int)) (Y.addi rfl rfl rfl (by omega)) (ivv (by omega))) (Wd.u rfl) rfl rfl ?_
      refine LR.v (Y.cast (v2 := .int .i64 ((2 * (20 + q24) : Nat) : Int)) (Y.muli rfl rfl rfl (by omega)) (ivv (by omega))) (Wd.u rfl) rfl rfl ?_
      refine LR.v (Y.nilCheck rfl rfl) (Wd.u rfl) rfl rfl ?_
      refine LR.v (Y.fieldAddr hv.pt rfl Try.runUnderlying63 rfl rfl Try.sizeOf3 (by decide) rfl) (Wd.u rfl) rfl rfl ?_
      refine LR.s (S.var1 hv 0 ([.int .i64 ((2 * (20 + q24) : Nat) : Int), .bool b]) rfl rfl rfl (rfl) Try.sizeOf3 (by simp) (rfl)) (Wd.u rfl) rfl (fun H5_7 r5_7 => ?_)
      obtain ⟨hv, hs5_7⟩ := r5_7
      replace hs5_7 := hs5_7.md1
      replace hm0 := (Mo.trL (ks := []) (hm0.mdn []) hs5_7 (MIL.cons (MI.app MI.z (nx1) (Nat.le_refl _)) MIL.nil)).nil
      replace hcm5 := hcm5.trL hs5_7 (MIL.cons (MI.app (MI.root (by simp)) (nx_hcm5_hv) (Nat.le_refl _)) MIL.nil)
      have hz5 := hs5_7.size
      refine LR.nil ?_
      refine QN.sub (hK5 (2 * (20 + q24)) _ ?_) ⟨rfl, rfl, trivial⟩
      exact ⟨hv, .inl ⟨c21, 20 + q24, rfl, by omega, by omega⟩, hcm5⟩
    ·
      refine CW.skip ?_
      refine QN.sub (hK5 (4990 + q16) _ ?_) ⟨rfl, rfl, trivial⟩
      exact ⟨hv, .inr ⟨by simpa using c21, by omega, by omega⟩, hcm5⟩
  ·
    intro N Hcutc21 hIcutc21
    obtain ⟨hv, hN, hlmcutc21⟩ := hIcutc21
    replace hm0 := (Mo.trL (ks := []) (hm0.mdn []) hlmcutc21 (MIL.cons (MI.app MI.z (nx1) (Nat.le_refl _)) MIL.nil)).nil
    have hz6 := hlmcutc21.size
    have nx_hlmcutc21_hv := Nx.refl (H16.size + 1) H20.size
    refine CW.seq (fun K7 hK7 hE7 => ?_)
    refine CW.region ?_
    have hNb : 40 ≤ N ∧ N ≤ 5009 := by rcases hN with ⟨_, m, h1, h2, h3⟩ | ⟨_, h1, h2⟩ <;> omega
    refine LR.v (Y.move rfl rfl) (Wd.u rfl) rfl rfl ?_
    refine LR.v (Y.mki rfl Try.runUnderlying61 (by intro ms h; cases h) rfl) (Wd.u rfl) rfl rfl ?_
    refine LR.v (Y.move rfl rfl) (Wd.u rfl) rfl rfl ?_
    refine LR.v (Y.nilCheck rfl rfl) (Wd.u rfl) rfl rfl ?_
    refine LR.v (Y.fieldAddr hv.pt rfl Try.runUnderlying63 rfl rfl Try.sizeOf3 (by decide) rfl) (Wd.u rfl) rfl rfl ?_
    refine LR.v (Y.load1 hv.pt rfl Try.isAgg3 rfl) (Wd.u rfl) rfl rfl ?_
    refine LR.v (Y.cast (v2 := .int .i64 ((N - 1 : Nat) : Int)) (Y.subi rfl rfl rfl (by omega)) (ivv (by omega))) (Wd.u rfl) rfl rfl ?_
    -- call selvage/selvagelaw11.number
    refine LR.call rfl Try.call26 rfl (Wd.u rfl) rfl rfl (nbn_ct (N - 1) w0 _ (by omega)) (fun v37 H37 r37 => ?_)
    obtain ⟨rfl, hs37⟩ := r37
    replace hv := hv.nw hs37
    replace hm0 := hm0.tr hs37
    have hz7 := hs37.size
    -- call selvage/graph.Gen
    refine LR.call rfl Try.call17 rfl (Wd.u rfl) rfl rfl (gen_ct (Sou.row N b) H16.size 0 (fun _ => False) (nbn (N - 1)) (gN b N) w0 _ hv srd_row (fun _ e => e.elim) (fun _ e => e.elim) (show N ≤ 1000000 by omega) (by omega) (gN_all (by omega)) (gN_le (by omega))) (fun v38 H38 r38 => ?_)
    obtain ⟨rr, e38, q38, rfl, hv, hR38, hq38, hs38⟩ := r38
    replace hm0 := (Mo.trL (ks := []) (hm0.mdn []) hs38 (MIL.cons (MI.app MI.z (nx1) (Nat.le_refl _)) MIL.nil)).nil
    have hz8 := hs38.size
    obtain ⟨⟨K38, hA38, _⟩, hrr38, hr0⟩ := hR38
    replace hv : Var 63 _ _ [.int .i64 (N : Int), .bool b] := hv
    refine LR.v (Y.move rfl rfl) (Wd.u rfl) rfl rfl ?_
    refine LR.v (Y.extract rfl rfl rfl) (Wd.u rfl) rfl rfl ?_
    refine LR.v (Y.extract rfl rfl rfl) (Wd.u rfl) rfl rfl ?_
    refine LR.v (Y.assign rfl rfl) (Wd.u rfl) rfl rfl ?_
    refine LR.v (Y.assign rfl rfl) (Wd.u rfl) rfl rfl ?_
    refine LR.nil ?_
    refine hK7 _ _ ?_
    refine CW.seq (fun K8 hK8 hE8 => ?_)
    refine CW.seq (fun K9 hK9 hE9 => ?_)
    refine CW.region ?_
    refine LR.v (Y.move rfl rfl) (Wd.u rfl) rfl rfl ?_
    refine LR.v (Y.nilCheck rfl rfl) (Wd.u rfl) rfl rfl ?_
    refine LR.v (Y.fieldAddr hv.pt rfl Try.runUnderlying63 rfl rfl Try.sizeOf3 (by decide) rfl) (Wd.u rfl) rfl rfl ?_
    refine LR.v (Y.load1 hv.pt rfl Try.isAgg3 rfl) (Wd.u rfl) rfl rfl ?_
    refine LR.v (Y.gtr rfl rfl rfl) (Wd.u rfl) rfl rfl ?_
    refine LR.nil ?_
    refine hK9 _ _ ?_
    refine CW.condp rfl (fun c45 => ?_) (fun c45 => ?_)
    ·
      have hbF : b = false := by
        rcases hN with ⟨_, m, h1, h2, h3⟩ | ⟨h1, _⟩
        · omega
        · exact h1
      have he38 := allN_gt hbF (by omega) (by omega) (fun i hi => ⟨N - 1, by omega, List.mem_singleton.1 hi⟩) (List.mem_singleton.2 rfl) hA38
      refine CW.seq (fun K10 hK10 hE10 => ?_)
      refine CW.region ?_
      refine LR.v (Y.move rfl rfl) (Wd.u rfl) rfl rfl ?_
      refine LR.v (Y.mki rfl Try.runUnderlying61 (by intro ms h; cases h) rfl) (Wd.u rfl) rfl rfl ?_
      refine LR.v (Y.move rfl rfl) (Wd.u rfl) rfl rfl ?_
      refine LR.v (Y.nilCheck rfl rfl) (Wd.u rfl) rfl rfl ?_
      refine LR.v (Y.fieldAddr hv.pt rfl Try.runUnderlying63 rfl rfl Try.sizeOf3 (by decide) rfl) (Wd.u rfl) rfl rfl ?_
      refine LR.v (Y.load1 hv.pt rfl Try.isAgg3 rfl) (Wd.u rfl) rfl rfl ?_
      refine LR.v (Y.cast (v2 := .int .i64 ((N - 1 : Nat) : Int)) (Y.subi rfl rfl rfl (by omega)) (ivv (by omega))) (Wd.u rfl) rfl rfl ?_
      -- call selvage/selvagelaw11.number
      refine LR.call rfl Try.call26 rfl (Wd.u rfl) rfl rfl (nbn_ct (N - 1) w0 _ (by omega)) (fun v54 H54 r54 => ?_)
      obtain ⟨rfl, hs54⟩ := r54
      replace hv := hv.nw hs54
      replace hm0 := hm0.tr hs54
      have hz9 := hs54.size
      -- call selvage/selvagelaw11.number
      refine LR.call rfl Try.call26 rfl (Wd.u rfl) rfl rfl (nbn_ct 0 w0 _ (by omega)) (fun v55 H55 r55 => ?_)
      obtain ⟨rfl, hs55⟩ := r55
      replace hv := hv.nw hs55
      replace hm0 := hm0.tr hs55
      have hz10 := hs55.size
      -- call selvage/graph.Bases
      refine LR.call rfl Try.call18 rfl (Wd.u rfl) rfl rfl (bas_ct (Sou.row N b) H16.size 0 (fun _ => False) (nbn (N - 1)) (nbn 0) nbi w0 _ hv srd_row (fun _ e => e.elim) (fun _ e => e.elim) (show N ≤ 1000000 by omega) (by omega) (acN (by omega))) (fun v56 H56 r56 => ?_)
      have ql2 := hv.lt
      obtain ⟨s56, k56, o56, e56, q56, rfl, ow56, hk56, hv, hR56, hq56, hs56⟩ := r56
      have dj3 : Dj (H16.size + 1) k56 := Dj.app (Dj.z) ql2 hk56
      have nx4 : Nx 0 H0.size k56 := Nx.tr (Nx.refl 0 _) hk56 hm0.size
      replace hm0 := (Mo.trL (ks := []) (hm0.mdn []) hs56 (MIL.cons (MI.app MI.z (nx1) (Nat.le_refl _)) MIL.nil)).nil
      have hz11 := hs56.size
      have hle_ow56 := ow56.le
      have he56 := basN_gt hbF (by omega) (by omega) hR56
      replace hv : Var 63 _ _ [.int .i64 (N : Int), .bool b] := hv
      refine LR.v (Y.move rfl rfl) (Wd.u rfl) rfl rfl ?_
      refine LR.v (Y.extract rfl rfl rfl) (Wd.u rfl) rfl rfl ?_
      refine LR.v (Y.extract rfl rfl rfl) (Wd.u rfl) rfl rfl ?_
      refine LR.v (Y.assign rfl rfl) (Wd.u rfl) rfl rfl ?_
      refine LR.v (Y.assign rfl rfl) (Wd.u rfl) rfl rfl ?_
      refine LR.nil ?_
      refine hK10 _ _ ?_
      refine CW.seq (fun K11 hK11 hE11 => ?_)
      refine CW.region ?_
      refine LR.v (Y.move rfl rfl) (Wd.u rfl) rfl rfl ?_
      -- call selvage/selvagelaw11.is
      refine LR.call rfl Try.call20 rfl (Wd.u rfl) rfl rfl (isT_ct e38 4 he38 w0 _) (fun v60 H60 r60 => ?_)
      obtain ⟨rfl, hs60⟩ := r60
      replace hv := hv.nw hs60
      replace hm0 := hm0.tr hs60
      have hz12 := hs60.size
      refine LR.v (Y.move rfl rfl) (Wd.u rfl) rfl rfl ?_
      refine LR.v (Y.move rfl rfl) (Wd.g rfl rfl rfl) rfl rfl ?_
      refine LR.v ((Y.eql rfl rfl rfl).isT (by have := hr0 (by omega); omega)) (Wd.g rfl rfl rfl) rfl rfl ?_
      refine LR.v (Y.pick_t rfl rfl rfl) (Wd.u rfl) rfl rfl ?_
      refine LR.v (Y.move rfl rfl) (Wd.u rfl) rfl rfl ?_
      refine LR.v (Y.move rfl rfl) (Wd.g rfl rfl rfl) rfl rfl ?_
      -- call selvage/selvagelaw11.is
      refine LR.call rfl Try.call20 rfl (Wd.g rfl rfl rfl) rfl rfl (isT_ct e56 4 he56 w0 _) (fun v67 H67 r67 => ?_)
      obtain ⟨rfl, hs67⟩ := r67
      replace hv := hv.nw hs67
      replace hm0 := hm0.tr hs67
      have hz13 := hs67.size
      refine LR.v (Y.pick_t rfl rfl rfl) (Wd.u rfl) rfl rfl ?_
      refine LR.v (Y.assign rfl rfl) (Wd.u rfl) rfl rfl ?_
      refine LR.nil ?_
      refine hK11 _ _ ?_
      refine CW.ret (hE8 .ret nofun _ _ (hret .ret (.inr rfl) _ _ _ (res1 rfl rfl) ?_))
      exact ⟨rfl, hm0⟩
    ·
      have he38 := allN_le (by omega) (fun i hi => ⟨N - 1, by omega, List.mem_singleton.1 hi⟩) hA38
      have hrr := hrr38 he38
      rw [gN_at (by omega) (by omega)] at hrr
      refine CW.skip ?_
      refine hK8 _ _ ?_
      refine CW.seq (fun K12 hK12 hE12 => ?_)
      refine CW.region ?_
      refine LR.v (Y.move rfl rfl) (Wd.u rfl) rfl rfl ?_
      refine LR.v (Y.nilCheck rfl rfl) (Wd.u rfl) rfl rfl ?_
      refine LR.v (Y.fieldAddr hv.pt rfl Try.runUnderlying63 rfl rfl Try.sizeOf3 (by decide) rfl) (Wd.u rfl) rfl rfl ?_
      refine LR.v (Y.load1 hv.pt rfl Try.isAgg3 rfl) (Wd.u rfl) rfl rfl ?_
      refine LR.v (Y.cast (v2 := .int .i64 ((N - 1 : Nat) : Int)) (Y.subi rfl rfl rfl (by omega)) (ivv (by omega))) (Wd.u rfl) rfl rfl ?_
      refine LR.v (Y.assign rfl rfl) (Wd.u rfl) rfl rfl ?_
      refine LR.nil ?_
      refine hK12 _ _ ?_
      refine CW.cut (fun (wn : (Nat)) => [(5, .pointer (some ⟨H16.size, 0, none⟩)), (6, .int .i64 (rr : Int)), (7, eV e38), (10, .int .i64 (wn : Int))])
        (fun (wn : (Nat)) (H : Heap) => (wn = rr) ∧ Nw H38 H) (fun K13 hK13 hE13 => ?_) ?_
      ·
        have hcm13 : Nw H38 H38 := Mo.refl _ _
        refine CW.seq (fun K14 hK14 hE14 => ?_)
        refine CW.region ?_
        refine LR.v (Y.move rfl rfl) (Wd.u rfl) rfl rfl ?_
        refine LR.nil ?_
        refine hK14 _ _ ?_
        refine CW.cond rfl (fun c74 => ?_) (fun c74 => ?_)
        ·
          refine CW.region ?_
          refine LR.v (Y.move rfl rfl) (Wd.u rfl) rfl rfl ?_
          refine LR.v (Y.nilCheck rfl rfl) (Wd.u rfl) rfl rfl ?_
          refine LR.v (Y.fieldAddr hv.pt rfl Try.runUnderlying63 rfl rfl Try.sizeOf3 (by decide) rfl) (Wd.u rfl) rfl rfl ?_
          refine LR.v (Y.load1 hv.pt rfl Try.isAgg3 rfl) (Wd.u rfl) rfl rfl ?_
          refine LR.v (Y.cast (v2 := .int .i64 ((N / 2 : Nat) : Int)) (Y.quoi rfl rfl rfl (by omega)) (ivv (by omega))) (Wd.u rfl) rfl rfl ?_
          refine LR.v (Y.cast (v2 := .int .i64 ((N / 2 - 1 : Nat) : Int)) (Y.subi rfl rfl rfl (by omega)) (ivv (by omega))) (Wd.u rfl) rfl rfl ?_
          refine LR.v (Y.assign rfl rfl) (Wd.u rfl) rfl rfl ?_
          refine LR.nil ?_
          have hw9 : N / 2 - 1 = rr := by
            rw [hrr, if_pos c74]
            rcases hN with ⟨_, m, h1, h2, h3⟩ | ⟨h1, _⟩
            · omega
            · rw [c74] at h1; cases h1
          refine QN.sub (hK13 (N / 2 - 1) _ ?_) ⟨rfl, (iv (by omega)), rfl, (iv (by omega)), trivial⟩
          exact ⟨hw9, hcm13⟩
        ·
          refine CW.skip ?_
          have hw9 : N - 1 = rr := by rw [hrr, if_neg (by simpa using c74)]
          refine QN.sub (hK13 (N - 1) _ ?_) ⟨rfl, (iv (by omega)), rfl, (iv (by omega)), trivial⟩
          exact ⟨hw9, hcm13⟩
      ·
        intro wn Hcutc74 hIcutc74
        obtain ⟨hwn, hlmcutc74⟩ := hIcutc74
        replace hv := hv.nw hlmcutc74
        replace hm0 := hm0.tr hlmcutc74
        have hz14 := hlmcutc74.size
        refine CW.seq (fun K15 hK15 hE15 => ?_)
        refine CW.region_any (fun Hq => Var 63 Hq H16.size [.int .i64 (N : Int), .bool b] ∧ Mo (Ms [H16.size + 1]) Hcutc74 Hq) [] rfl ?_
        have hqs := (⟨hv, Mo.refl _ _⟩ : Var 63 Hcutc74 H16.size [.int .i64 (N : Int), .bool b] ∧ Mo (Ms [H16.size + 1]) Hcutc74 Hcutc74)
        refine LH.take 0 (by kernel_rfl) rfl (by kernel_rfl) (by kernel_rfl) (by kernel_rfl) (fun Hq hq => Y.move rfl rfl) (Wd.u rfl) rfl rfl hqs ?_
        refine LH.take 1 (by kernel_rfl) rfl (by kernel_rfl) (by kernel_rfl) (by kernel_rfl) (fun Hq hq => Y.mki rfl Try.runUnderlying61 (by intro ms h; cases h) rfl) (Wd.u rfl) rfl rfl hqs ?_
        refine LH.take 3 (by kernel_rfl) rfl (by kernel_rfl) (by kernel_rfl) (by kernel_rfl) (fun Hq hq => Y.move rfl rfl) (Wd.u rfl) rfl rfl hqs ?_
        refine LH.take 4 (by kernel_rfl) rfl (by kernel_rfl) (by kernel_rfl) (by kernel_rfl) (fun Hq hq => Y.nilCheck rfl rfl) (Wd.u rfl) rfl rfl hqs ?_
        refine LH.take 5 (by kernel_rfl) rfl (by kernel_rfl) (by kernel_rfl) (by kernel_rfl) (fun Hq hq => Y.fieldAddr hq.1.pt rfl Try.runUnderlying63 rfl rfl Try.sizeOf3 (by decide) rfl) (Wd.u rfl) rfl rfl hqs ?_
        refine LH.take 6 (by kernel_rfl) rfl (by kernel_rfl) (by kernel_rfl) (by kernel_rfl) (fun Hq hq => Y.load1 hq.1.pt rfl Try.isAgg3 rfl) (Wd.u rfl) rfl rfl hqs ?_
        refine LH.take 7 (by kernel_rfl) rfl (by kernel_rfl) (by kernel_rfl) (by kernel_rfl) (fun Hq hq => Y.cast (v2 := .int .i64 ((N - 1 : Nat) : Int)) (Y.subi rfl rfl rfl (by omega)) (ivv (by omega))) (Wd.u rfl) rfl rfl hqs ?_
        refine LH.one (i := 2) (by kernel_rfl) ?_
        -- call selvage/selvagelaw11.number
        refine LO.call rfl rfl Try.call26 rfl (Wd.u rfl) rfl rfl (nbn_ct 0 w0 _ (by omega)) (fun v84 H84 r84 => ?_)
        obtain ⟨rfl, hs84⟩ := r84
        replace hv := hv.nw hs84
        replace hm0 := hm0.tr hs84
        have hz15 := hs84.size
        have hq84 := And.intro hv (hqs.2.trN hs84)
        refine ⟨.inr hq84, ?_⟩
        refine LH.one (i := 8) (by kernel_rfl) ?_
        -- call selvage/selvagelaw11.number
        refine LO.call rfl rfl Try.call26 rfl (Wd.u rfl) rfl rfl (nbn_ct (N - 1) w0 _ (by omega)) (fun v90 H90 r90 => ?_)
        obtain ⟨rfl, hs90⟩ := r90
        replace hv := hv.nw hs90
        replace hm0 := hm0.tr hs90
        have hz16 := hs90.size
        have hq90 := And.intro hv (hq84.2.trN hs90)
        refine ⟨.inr hq90, ?_⟩
        refine LH.one (i := 9) (by kernel_rfl) ?_
        -- call selvage/graph.Above
        refine LO.call rfl rfl Try.call16 rfl (Wd.u rfl) rfl rfl (abv_ct (Sou.row N b) H16.size 0 (fun _ => False) (nbn 0) (nbn (N - 1)) w0 _ hv srd_row (fun _ e => e.elim) (fun _ e => e.elim) (show N ≤ 1000000 by omega) (by omega)) (fun v91 H91 r91 => ?_)
        obtain ⟨up91, e91, q91, rfl, hv, hR91, hqn91, hs91⟩ := r91
        replace hm0 := (Mo.trL (ks := []) (hm0.mdn []) hs91 (MIL.cons (MI.app MI.z (nx1) (Nat.le_refl _)) MIL.nil)).nil
        have hz17 := hs91.size
        obtain ⟨⟨K91, hA91⟩, hup91, _⟩ := hR91
        have he91 := allN_le (by omega) (fun i hi => by
          simp only [List.mem_cons, List.not_mem_nil, or_false] at hi
          rcases hi with rfl | rfl
          · exact ⟨0, by omega, rfl⟩
          · exact ⟨N - 1, by omega, rfl⟩) hA91
        replace hup91 : up91 = true := (hup91 he91).2 (topUp (by omega) hN)
        replace hv : Var 63 _ _ [.int .i64 (N : Int), .bool b] := hv
        have hq91 := And.intro hv (hq90.2.trans hs91 (fun _ _ e => e) (fun _ _ e => e))
        refine ⟨.inr hq91, ?_⟩
        refine LH.take 10 (by kernel_rfl) rfl (by kernel_rfl) (by kernel_rfl) (by kernel_rfl) (fun Hq hq => Y.move rfl rfl) (Wd.u rfl) rfl rfl hq91 ?_
        refine LH.take 11 (by kernel_rfl) rfl (by kernel_rfl) (by kernel_rfl) (by kernel_rfl) (fun Hq hq => Y.extract rfl rfl rfl) (Wd.u rfl) rfl rfl hq91 ?_
        refine LH.take 12 (by kernel_rfl) rfl (by kernel_rfl) (by kernel_rfl) (by kernel_rfl) (fun Hq hq => Y.extract rfl rfl rfl) (Wd.u rfl) rfl rfl hq91 ?_
        refine LH.take 13 (by kernel_rfl) rfl (by kernel_rfl) (by kernel_rfl) (by kernel_rfl) (fun Hq hq => Y.assign rfl rfl) (Wd.u rfl) rfl rfl hq91 ?_
        refine LH.take 14 (by kernel_rfl) rfl (by kernel_rfl) (by kernel_rfl) (by kernel_rfl) (fun Hq hq => Y.assign rfl rfl) (Wd.u rfl) rfl rfl hq91 ?_
        refine LH.done (by kernel_rfl) ?_
        have hqe := hq91
        refine hK15 _ _ ?_
        refine CW.seq (fun K16 hK16 hE16 => ?_)
        refine CW.region ?_
        refine LR.v (Y.move rfl rfl) (Wd.u rfl) rfl rfl ?_
        refine LR.v ((Y.eeq rfl Try.underlying33 rfl).isT (he38)) (Wd.u rfl) rfl rfl ?_
        refine LR.v (Y.move rfl rfl) (Wd.u rfl) rfl rfl ?_
        refine LR.v (Y.move rfl rfl) (Wd.g rfl rfl rfl) rfl rfl ?_
        refine LR.v ((Y.eeq rfl Try.underlying33 rfl).isT (he91)) (Wd.g rfl rfl rfl) rfl rfl ?_
        refine LR.v (Y.pick_t rfl rfl rfl) (Wd.u rfl) rfl rfl ?_
        refine LR.v (Y.move rfl rfl) (Wd.u rfl) rfl rfl ?_
        refine LR.v (Y.cast (v2 := .bool true) (Y.move rfl rfl) (by rw [hup91]; rfl)) (Wd.g rfl rfl rfl) rfl rfl ?_
        refine LR.v (Y.pick_t rfl rfl rfl) (Wd.u rfl) rfl rfl ?_
        refine LR.v (Y.move rfl rfl) (Wd.u rfl) rfl rfl ?_
        refine LR.v (Y.move rfl rfl) (Wd.g rfl rfl rfl) rfl rfl ?_
        refine LR.v (Y.move rfl rfl) (Wd.g rfl rfl rfl) rfl rfl ?_
        refine LR.v ((Y.eql rfl rfl rfl).isT (by rw [hwn])) (Wd.g rfl rfl rfl) rfl rfl ?_
        refine LR.v (Y.pick_t rfl rfl rfl) (Wd.u rfl) rfl rfl ?_
        refine LR.v (Y.assign rfl rfl) (Wd.u rfl) rfl rfl ?_
        refine LR.nil ?_
        refine hK16 _ _ ?_
        refine CW.ret (hret .ret (.inr rfl) _ _ _ (res1 rfl rfl) ?_)
        exact ⟨rfl, hm0⟩

end Go.Proofs.Ytepdhokpfecdnaa.GraW
