/-
  Common ancestors.
-/
import Derived.Test.YtepdhokpfecdnaaGraU
namespace Go.Proofs.Ytepdhokpfecdnaa.GraV
open Go.Proofs.Ytepdhokpfecdnaa.E Go.RowKit Go.Proofs.Ytepdhokpfecdnaa.GraA Go.Proofs.Ytepdhokpfecdnaa.GraB Go.Proofs.Ytepdhokpfecdnaa.GraC Go.Proofs.Ytepdhokpfecdnaa.GraD Go.Proofs.Ytepdhokpfecdnaa.GraE Go.Proofs.Ytepdhokpfecdnaa.GraF Go.Proofs.Ytepdhokpfecdnaa.GraG Go.Proofs.Ytepdhokpfecdnaa.GraH Go.Proofs.Ytepdhokpfecdnaa.GraI Go.Proofs.Ytepdhokpfecdnaa.GraJ Go.Proofs.Ytepdhokpfecdnaa.GraK Go.Proofs.Ytepdhokpfecdnaa.GraL Go.Proofs.Ytepdhokpfecdnaa.GraM Go.Proofs.Ytepdhokpfecdnaa.GraN Go.Proofs.Ytepdhokpfecdnaa.GraO Go.Proofs.Ytepdhokpfecdnaa.GraP Go.Proofs.Ytepdhokpfecdnaa.GraQ Go.Proofs.Ytepdhokpfecdnaa.GraR Go.Proofs.Ytepdhokpfecdnaa.GraS Go.Proofs.Ytepdhokpfecdnaa.GraT Go.Proofs.Ytepdhokpfecdnaa.GraU
set_option maxRecDepth 20000
set_option linter.unusedVariables false
set_option linter.unusedSimpArgs false
set_option linter.unusedSectionVars false

section
variable {pa : Ide → Option (List Ide)} {rk : Ide → Nat} {a b k : Ide} {o1 o2 : List Ide} {e1 e2 : Nat}
theorem com_sym : Com pa a b k ↔ Com pa b a k := ⟨fun h => ⟨h.2, h.1⟩, fun h => ⟨h.2, h.1⟩⟩
theorem best_sym : Best pa a b k ↔ Best pa b a k := ⟨fun h => ⟨com_sym.1 h.1, fun j hj => h.2 j (com_sym.2 hj)⟩, fun h => ⟨com_sym.2 h.1, fun j hj => h.2 j (com_sym.1 hj)⟩⟩
theorem bas_two (h1 : BsR pa a b o1 e1) (h2 : BsR pa b a o2 e2) (k1 : ∀ K e, AllR pa [a, b] K e → e = 0) (k2 : ∀ K e, AllR pa [b, a] K e → e = 0) :
    o1 = o2 ∧ e1 = e2 ∧ (e1 ≠ 0 → e1 = 4) ∧ o1.length ≤ 16 ∧ (e1 = 0 → Ris o1 ∧ o1.length ≤ 16 ∧ ∀ k, k ∈ o1 ↔ Best pa a b k) := by
  rcases h1 with ⟨a1, _, a3, a4, a5⟩ | ⟨a1, a2, _, l1, a3, a4, a5⟩ | ⟨a1, _, K, a3⟩
  · rcases h2 with ⟨b1, _, b3, b4, b5⟩ | ⟨b1, b2, _, l2, b3, b4, b5⟩ | ⟨b1, _, K, b3⟩
    · exact ⟨ris_ext a3 b3 (fun k => by rw [a5, b5, best_sym]), by rw [a1, b1], fun h => absurd a1 h, a4, fun _ => ⟨a3, a4, a5⟩⟩
    · have := nodup_le (b := o1) b3 (fun k hk => (a5 k).2 (best_sym.1 ((b5 k).1 hk)))
      omega
    · exact absurd (k2 K e2 b3) b1
  · rcases h2 with ⟨b1, _, b3, b4, b5⟩ | ⟨b1, b2, _, l2, b3, b4, b5⟩ | ⟨b1, _, K, b3⟩
    · have := nodup_le (b := o2) a3 (fun k hk => (b5 k).2 (best_sym.1 ((a5 k).1 hk)))
      omega
    · exact ⟨by rw [a2, b2], by rw [a1, b1], fun _ => a1, by rw [a2]; simp, fun h => by omega⟩
    · exact absurd (k2 K e2 b3) b1
  · exact absurd (k1 K e1 a3) a1
theorem rk_ne (hac : ∀ k ps, pa k = some ps → ∀ p ∈ ps, rk p < rk k) {j k : Ide} (h : UpO pa j k) (hne : j ≠ k) : rk k < rk j := by
  rcases upo_first h with e | ⟨ps, p, h1, h2, h3⟩
  · exact absurd e hne
  · have := upo_rk hac h3
    have := hac j ps h1 p h2
    omega
theorem best_up (hac : ∀ k ps, pa k = some ps → ∀ p ∈ ps, rk p < rk k) {B : Nat} (hb : ∀ k, Com pa a b k → rk k < B) : ∀ f k, B - rk k ≤ f → Com pa a b k → ∃ m, Best pa a b m ∧ UpO pa m k
  | 0, k, hf, hk => by have := hb k hk; omega
  | f + 1, k, hf, hk => by
    by_cases h : ∃ j, Com pa a b j ∧ UpO pa j k ∧ j ≠ k
    · obtain ⟨j, hj, hu, hne⟩ := h
      have h1 := rk_ne hac hu hne
      have h2 := hb k hk
      obtain ⟨m, hm, hum⟩ := best_up hac hb f j (by omega) hj
      exact ⟨m, hm, UpO.trans hum hu⟩
    · exact ⟨k, ⟨hk, fun j hj hu => Classical.byContradiction (fun hne => h ⟨j, hj, hu, hne⟩)⟩, .refl⟩
theorem best_uni {o : List Ide} (hr : Ris o) (hm : ∀ k, k ∈ o ↔ Best pa a b k) {i k : Nat} (hi : i < o.length) (hk : k < o.length) {u : Bool} (hu : u = true ↔ UpO pa o[k] o[i]) : u = decide ((i : Int) = (k : Int)) := by
  by_cases e : i = k
  · subst e
    rw [decide_eq_true rfl]
    exact hu.2 .refl
  · rw [decide_eq_false (by omega)]
    cases hb : u with
    | false => rfl
    | true =>
      have h1 := ((hm _).1 (List.getElem_mem hi)).2 o[k] ((hm _).1 (List.getElem_mem hk)).1 (hu.1 hb)
      exact absurd ((List.getElem_inj (ris_nodup hr)).1 h1) (fun q => e q.symm)
/-- whether one of the first j leads there -/
abbrev InI (pa : Ide → Option (List Ide)) (l : List Ide) (x : Ide) (j : Nat) : Prop := ∃ y ∈ l.take j, UpO pa y x
variable {l : List Ide} {x : Ide} {j : Nat} {p u : Bool}
theorem ini_zero : (false = true) ↔ InI pa l x 0 := ⟨fun h => (by cases h), fun ⟨x, hx, _⟩ => (by simp at hx)⟩
theorem ini_t (h : p = true ↔ InI pa l x j) (hb : p = true) : (true = true) ↔ InI pa l x (j + 1) := by
  obtain ⟨y, hy, hu⟩ := h.1 hb
  exact ⟨fun _ => ⟨y, List.take_subset_take_left _ (by omega) hy, hu⟩, fun _ => rfl⟩
theorem ini_f (h : p = true ↔ InI pa l x j) (hb : p = false) (hj : j < l.length) (hu : u = true ↔ UpO pa l[j] x) : u = true ↔ InI pa l x (j + 1) := by
  unfold InI
  rw [List.take_succ_eq_append_getElem hj]
  constructor
  · intro h1; exact ⟨_, List.mem_append_right _ (List.mem_singleton.2 rfl), hu.1 h1⟩
  · rintro ⟨y, hy, h1⟩
    rcases List.mem_append.1 hy with hy | hy
    · have := h.2 ⟨y, hy, h1⟩; rw [hb] at this; cases this
    · rw [List.mem_singleton.1 hy] at h1; exact hu.2 h1
theorem ini_all (hac : ∀ k ps, pa k = some ps → ∀ p ∈ ps, rk p < rk k) {B : Nat} (hB : ∀ k, Com pa a b k → rk k < B) (hm : ∀ k, k ∈ l ↔ Best pa a b k) (h : p = true ↔ InI pa l x j) (hj : l.length ≤ j) : p = true ↔ Com pa a b x := by
  rw [h]
  unfold InI
  rw [List.take_of_length_le hj]
  constructor
  · rintro ⟨y, hy, hu⟩
    have h1 := ((hm y).1 hy).1
    exact ⟨UpO.trans h1.1 hu, UpO.trans h1.2 hu⟩
  · intro hc
    obtain ⟨m, h1, h2⟩ := best_up hac hB _ x (Nat.le_refl _) hc
    exact ⟨m, (hm m).2 h1, h2⟩
theorem com_t {s u v : Bool} (h : s = true ↔ Com pa a b x) (hu : u = true ↔ UpO pa a x) (hv : v = true ↔ UpO pa b x) (g : u = true) : s = v := by
  cases s <;> cases v
  · rfl
  · exact absurd (h.2 ⟨hu.1 g, hv.1 rfl⟩) (by decide)
  · exact absurd (hv.2 (h.1 rfl).2) (by decide)
  · rfl
theorem com_f {s u : Bool} (h : s = true ↔ Com pa a b x) (hu : u = true ↔ UpO pa a x) (g : u = false) : s = false := by
  cases s
  · rfl
  · have := hu.2 (h.1 rfl).1; rw [g] at this; cases this
theorem bas_up (hac : ∀ k ps, pa k = some ps → ∀ p ∈ ps, rk p < rk k) (hr : Ris l) (hm : ∀ k, k ∈ l ↔ Best pa a b k) (hu : UpO pa b a) : l = [a] := by
  refine ris_ext hr (List.pairwise_singleton _ _) (fun k => ?_)
  rw [hm, List.mem_singleton]
  constructor
  · intro h; exact (h.2 a ⟨.refl, hu⟩ h.1.1).symm
  · rintro rfl
    refine ⟨⟨.refl, hu⟩, fun j hj hju => Classical.byContradiction (fun hne => ?_)⟩
    have h1 := rk_ne hac hju hne
    have h2 := upo_rk hac hj.1
    omega
end

set_option maxHeartbeats 8000000 in
theorem gbas_ct (vl : Value) (li : List (SV × List Int)) (a b : Int) (w0 : World) (H0 : Heap)
    (hl : RdT H0 fPi 1 vl li) (hlx : ∀ x ∈ li, RdT H0 fI 1 x.1.v x.2) (hi64 : ∀ x ∈ li, ∀ a ∈ x.2, i64b a) (ha : i64b a) (hb : i64b b) :
    Ct Try.prog w0 7 #[vl, .int .i64 a, .int .i64 b] H0 (fun r H2 => r = .bool true ∧ Nw H0 H2) := by
  refine Ct.enter (args := [vl, .int .i64 a, .int .i64 b]) Try.func7 rfl rfl rfl ?_
  intro Q0 hret
  have hm0 : Nw H0 H0 := Mo.refl _ _
  replace hl := hl.bnd
  have bf_hl := hl.bf
  replace hlx := fun x h_ => (hlx x h_).bnd
  have bf_hlx : BF (fun b => True ∧ b < H0.size) H0.size := fun b h => h.2
  refine CW.seq (fun K1 hK1 hE1 => ?_)
  refine CW.region ?_
  refine LR.v (Y.assign rfl rfl) (Wd.u rfl) rfl rfl ?_
  refine LR.nil ?_
  refine hK1 _ _ ?_
  refine CW.seq (fun K2 hK2 hE2 => ?_)
  refine CW.seq (fun K3 hK3 hE3 => ?_)
  refine CW.region ?_
  -- call selvage/selvagelaw11.known
  refine LR.call rfl Try.call10 rfl (Wd.u rfl) rfl rfl (known_ct w0 _) (fun v29 H29 r29 => ?_)
  obtain ⟨rfl, hs29⟩ := r29
  replace hl := hl.nw hs29
  replace hlx := fun x h_ => (hlx x h_).nw hs29
  replace hm0 := hm0.tr hs29
  have hz1 := hs29.size
  refine LR.v (Y.not rfl rfl) (Wd.u rfl) rfl rfl ?_
  refine LR.nil ?_
  refine hK3 _ _ ?_
  refine CW.cond_f rfl ?_
  refine CW.skip ?_
  refine hK2 _ _ ?_
  refine CW.seq (fun K4 hK4 hE4 => ?_)
  refine CW.region ?_
  refine LR.v (Y.move rfl rfl) (Wd.u rfl) rfl rfl ?_
  -- call selvage/selvagelaw11.Rows
  refine LR.call rfl Try.call11 rfl (Wd.u rfl) rfl rfl (rows_ct vl li w0 _ hl.any (fun x hx => (hlx x hx).any) hi64) (fun v32 H32 r32 => ?_)
  obtain ⟨sR, out, rfl, hsr, hR, hs32⟩ := r32
  replace hl := hl.nw hs32
  replace hlx := fun x h_ => (hlx x h_).nw hs32
  replace hm0 := hm0.tr hs32
  have hz2 := hs32.size
  replace hsr := hsr.bnd
  have bf_hsr := hsr.bf
  have hg : GOk (out.map Rw.l) := hR.g
  have hol := hR.le
  refine LR.v (Y.assign rfl rfl) (Wd.u rfl) rfl rfl ?_
  refine LR.nil ?_
  refine hK4 _ _ ?_
  refine CW.seq (fun K5 hK5 hE5 => ?_)
  refine CW.seq (fun K6 hK6 hE6 => ?_)
  refine CW.region ?_
  refine LR.v (Y.move rfl rfl) (Wd.u rfl) rfl rfl ?_
  refine LR.v (Y.len (hsr.l _ _ rfl) rfl Try.runUnderlying22 rfl) (Wd.u rfl) rfl rfl ?_
  refine LR.v (Y.eql rfl rfl rfl) (Wd.u rfl) rfl rfl ?_
  refine LR.nil ?_
  refine hK6 _ _ ?_
  refine CW.condp rfl (fun c35 => ?_) (fun c35 => ?_)
  ·
    refine CW.seq (fun K7 hK7 hE7 => ?_)
    refine CW.region ?_
    refine LR.v (Y.assign rfl rfl) (Wd.u rfl) rfl rfl ?_
    refine LR.nil ?_
    refine hK7 _ _ ?_
    refine CW.ret (hE5 .ret nofun _ _ (hret .ret (.inr rfl) _ _ _ (res1 rfl rfl) ?_))
    exact ⟨rfl, hm0⟩
  ·
    refine CW.skip ?_
    refine hK5 _ _ ?_
    refine CW.seq (fun K8 hK8 hE8 => ?_)
    refine CW.region ?_
    refine LR.v (Y.move rfl rfl) (Wd.u rfl) rfl rfl ?_
    refine LR.v (Y.build (v := .agg #[sR.v, .int .i64 0]) rfl rfl (by intro w; kernel_rfl)) (Wd.u rfl) rfl rfl ?_
    refine LR.z (Z.boxv rfl rfl) (Wd.u rfl) rfl rfl (fun v38 H38 r38 => ?_)
    obtain ⟨rfl, hv, hs38, ob38, hH38⟩ := r38
    have hzs38 : H38.size = H32.size + 1 := by rw [hH38]; simp
    have df1 := (DF.new (bf_hl.mono hm0.size) : DF _ (H32.size + 1))
    have df2 := (DF.new (bf_hlx.mono hm0.size) : DF _ (H32.size + 1))
    have df3 := (DF.new (bf_hsr.mono (by omega)) : DF _ (H32.size + 1))
    have nx4 : Nx 0 H0.size (H32.size + 1) := Nx.new hm0.size
    replace hl := hl.nw hs38
    replace hlx := fun x h_ => (hlx x h_).nw hs38
    replace hsr := hsr.nw hs38
    replace hm0 := hm0.tr hs38
    have hz3 := hs38.size
    replace hv : Var 27 H38 H32.size ([sR.v, .int .i64 ((0 : Nat) : Int)]) := hv
    refine LR.v (Y.assign rfl rfl) (Wd.u rfl) rfl rfl ?_
    refine LR.nil ?_
    refine hK8 _ _ ?_
    refine CW.seq (fun K9 hK9 hE9 => ?_)
    refine CW.region ?_
    refine LR.v (Y.move rfl rfl) (Wd.u rfl) rfl rfl ?_
    refine LR.v (Y.move rfl rfl) (Wd.u rfl) rfl rfl ?_
    refine LR.v (Y.len (hsr.l _ _ rfl) rfl Try.runUnderlying22 rfl) (Wd.u rfl) rfl rfl ?_
    -- call selvage/selvagelaw11.within
    refine LR.call rfl Try.call14 rfl (Wd.u rfl) rfl rfl (within_ct a out.length w0 _ (by omega) ha) (fun v42 H42 r42 => ?_)
    obtain ⟨xa, rfl, hxa, hs42⟩ := r42
    replace hl := hl.nw hs42
    replace hlx := fun x h_ => (hlx x h_).nw hs42
    replace hsr := hsr.nw hs42
    replace hv := hv.nw hs42
    replace hm0 := hm0.tr hs42
    have hz4 := hs42.size
    -- call selvage/selvagelaw11.Id
    refine LR.call rfl Try.call12 rfl (Wd.u rfl) rfl rfl (idn_ct xa w0 _ (by omega)) (fun v43 H43 r43 => ?_)
    obtain ⟨rfl, hs43⟩ := r43
    replace hl := hl.nw hs43
    replace hlx := fun x h_ => (hlx x h_).nw hs43
    replace hsr := hsr.nw hs43
    replace hv := hv.nw hs43
    replace hm0 := hm0.tr hs43
    have hz5 := hs43.size
    refine LR.v (Y.move rfl rfl) (Wd.u rfl) rfl rfl ?_
    refine LR.v (Y.move rfl rfl) (Wd.u rfl) rfl rfl ?_
    refine LR.v (Y.len (hsr.l _ _ rfl) rfl Try.runUnderlying22 rfl) (Wd.u rfl) rfl rfl ?_
    -- call selvage/selvagelaw11.within
    refine LR.call rfl Try.call14 rfl (Wd.u rfl) rfl rfl (within_ct b out.length w0 _ (by omega) hb) (fun v47 H47 r47 => ?_)
    obtain ⟨yb, rfl, hyb, hs47⟩ := r47
    replace hl := hl.nw hs47
    replace hlx := fun x h_ => (hlx x h_).nw hs47
    replace hsr := hsr.nw hs47
    replace hv := hv.nw hs47
    replace hm0 := hm0.tr hs47
    have hz6 := hs47.size
    -- call selvage/selvagelaw11.Id
    refine LR.call rfl Try.call12 rfl (Wd.u rfl) rfl rfl (idn_ct yb w0 _ (by omega)) (fun v48 H48 r48 => ?_)
    obtain ⟨rfl, hs48⟩ := r48
    replace hl := hl.nw hs48
    replace hlx := fun x h_ => (hlx x h_).nw hs48
    replace hsr := hsr.nw hs48
    replace hv := hv.nw hs48
    replace hm0 := hm0.tr hs48
    have hz7 := hs48.size
    have hgl : (out.map Rw.l).length = out.length := List.length_map _
    refine LR.z (Z.allocv rfl Try.zeroValue30) (Wd.u rfl) rfl rfl (fun v8 H8 r8 => ?_)
    obtain ⟨rfl, vx, hs8, ob8, hH8⟩ := r8
    have hzs8 : H8.size = H48.size + 1 := by rw [hH8]; simp
    have df5 := (DF.new (bf_hl.mono hm0.size) : DF _ (H48.size + 1))
    have df6 := (DF.new (bf_hlx.mono hm0.size) : DF _ (H48.size + 1))
    have df7 := (DF.new (bf_hsr.mono (by omega)) : DF _ (H48.size + 1))
    have dj8 : Dj (H32.size + 1) (H48.size + 1) := Dj.new hv.lt
    have nx9 : Nx 0 H0.size (H48.size + 1) := Nx.new hm0.size
    replace hl := hl.nw hs8
    replace hlx := fun x h_ => (hlx x h_).nw hs8
    replace hsr := hsr.nw hs8
    replace hv := hv.nw hs8
    replace hm0 := hm0.tr hs8
    have hz8 := hs8.size
    replace vx : Var 30 H8 H48.size (fA Zid) := vx
    refine LR.z (Z.allocv rfl Try.zeroValue30) (Wd.u rfl) rfl rfl (fun v9 H9 r9 => ?_)
    obtain ⟨rfl, vy, hs9, ob9, hH9⟩ := r9
    have hzs9 : H9.size = H8.size + 1 := by rw [hH9]; simp
    have df10 := (DF.new (bf_hl.mono hm0.size) : DF _ (H8.size + 1))
    have df11 := (DF.new (bf_hlx.mono hm0.size) : DF _ (H8.size + 1))
    have df12 := (DF.new (bf_hsr.mono (by omega)) : DF _ (H8.size + 1))
    have dj13 : Dj (H32.size + 1) (H8.size + 1) := Dj.new hv.lt
    have dj14 : Dj (H48.size + 1) (H8.size + 1) := Dj.new vx.lt
    have nx15 : Nx 0 H0.size (H8.size + 1) := Nx.new hm0.size
    replace hl := hl.nw hs9
    replace hlx := fun x h_ => (hlx x h_).nw hs9
    replace hsr := hsr.nw hs9
    replace hv := hv.nw hs9
    replace vx := vx.nw hs9
    replace hm0 := hm0.tr hs9
    have hz9 := hs9.size
    replace vy : Var 30 H9 H8.size (fA Zid) := vy
    refine LR.s (S.var vx (_) (fA ((idn xa))) rfl rfl rfl rfl (fA_one _) Try.sizeOf30 (fA_len _) (by first | decide | simp [fA_len]) ((splice_all2 (by first | exact (fA_len _).symm | rfl | exact (fA_len _).trans (fA_len _).symm)))) (Wd.u rfl) rfl (fun H7_12 r7_12 => ?_)
    obtain ⟨vx, hs7_12⟩ := r7_12
    replace hs7_12 := hs7_12.md1
    replace hl := hl.upL hs7_12 (DFL.cons df5 DFL.nil)
    replace hlx := fun x h_ => (hlx x h_).upL hs7_12 (DFL.cons df6 DFL.nil)
    replace hsr := hsr.upL hs7_12 (DFL.cons df7 DFL.nil)
    replace hv := hv.upL hs7_12 (DL.cons dj8 DL.nil)
    replace vy := vy.upL hs7_12 (DL.cons dj14.symm DL.nil)
    replace hm0 := (Mo.trL (ks := []) (hm0.mdn []) hs7_12 (MIL.cons (MI.app MI.z (nx9) (Nat.le_refl _)) MIL.nil)).nil
    have hz10 := hs7_12.size
    refine LR.s (S.var vy (_) (fA ((idn yb))) rfl rfl rfl rfl (fA_one _) Try.sizeOf30 (fA_len _) (by first | decide | simp [fA_len]) ((splice_all2 (by first | exact (fA_len _).symm | rfl | exact (fA_len _).trans (fA_len _).symm)))) (Wd.u rfl) rfl (fun H7_13 r7_13 => ?_)
    obtain ⟨vy, hs7_13⟩ := r7_13
    replace hs7_13 := hs7_13.md1
    replace hl := hl.upL hs7_13 (DFL.cons df10 DFL.nil)
    replace hlx := fun x h_ => (hlx x h_).upL hs7_13 (DFL.cons df11 DFL.nil)
    replace hsr := hsr.upL hs7_13 (DFL.cons df12 DFL.nil)
    replace hv := hv.upL hs7_13 (DL.cons dj13 DL.nil)
    replace vx := vx.upL hs7_13 (DL.cons dj14 DL.nil)
    replace hm0 := (Mo.trL (ks := []) (hm0.mdn []) hs7_13 (MIL.cons (MI.app MI.z (nx15) (Nat.le_refl _)) MIL.nil)).nil
    have hz11 := hs7_13.size
    refine LR.nil ?_
    refine hK9 _ _ ?_
    refine CW.seq (fun K10 hK10 hE10 => ?_)
    refine CW.region ?_
    refine LR.v (Y.move rfl rfl) (Wd.u rfl) rfl rfl ?_
    refine LR.v (Y.mki rfl Try.runUnderlying25 (by intro ms h; cases h) rfl) (Wd.u rfl) rfl rfl ?_
    refine LR.v (Y.loadN vx.pt rfl Try.isAgg30 Try.sizeOf30 (fA_len _) rfl) (Wd.u rfl) rfl rfl ?_
    refine LR.v (Y.loadN vy.pt rfl Try.isAgg30 Try.sizeOf30 (fA_len _) rfl) (Wd.u rfl) rfl rfl ?_
    -- call selvage/graph.Bases
    refine LR.call rfl Try.call18 rfl (Wd.u rfl) rfl rfl (bas_ct (Sou.rows sR out) H32.size 0 _ (idn xa) (idn yb) (rkL (out.map Rw.l)) w0 _ hv hsr (bf_hsr.mono (by omega)) (df3) hR.ok (by omega) hg.ac) (fun v54 H54 r54 => ?_)
    have ql16 := hv.lt
    have ql17 := vx.lt
    have ql18 := vy.lt
    obtain ⟨s54, k54, o54, e54, q54, rfl, ow54, hk54, hv, hR54, hq54, hs54⟩ := r54
    have df19 := DF.app (DF.z) (bf_hl.mono hm0.size) hk54
    have df20 := DF.app (DF.z) (bf_hlx.mono hm0.size) hk54
    have df21 := DF.app (DF.z) (bf_hsr.mono (by omega)) hk54
    have dj22 : Dj (H32.size + 1) k54 := Dj.app (Dj.z) ql16 hk54
    have dj23 : Dj (H48.size + 1) k54 := Dj.app (Dj.z) ql17 hk54
    have dj24 : Dj (H8.size + 1) k54 := Dj.app (Dj.z) ql18 hk54
    have nx25 : Nx 0 H0.size k54 := Nx.tr (Nx.refl 0 _) hk54 hm0.size
    replace hl := hl.upL hs54 (DFL.cons df1 DFL.nil)
    replace hlx := fun x h_ => (hlx x h_).upL hs54 (DFL.cons df2 DFL.nil)
    replace hsr := hsr.upL hs54 (DFL.cons df3 DFL.nil)
    replace vx := vx.upL hs54 (DL.cons dj8.symm DL.nil)
    replace vy := vy.upL hs54 (DL.cons dj13.symm DL.nil)
    replace hm0 := (Mo.trL (ks := []) (hm0.mdn []) hs54 (MIL.cons (MI.app MI.z (nx4) (Nat.le_refl _)) MIL.nil)).nil
    have hz12 := hs54.size
    have hle_ow54 := ow54.le
    
    refine LR.v (Y.move rfl rfl) (Wd.u rfl) rfl rfl ?_
    refine LR.v (Y.extract rfl rfl rfl) (Wd.u rfl) rfl rfl ?_
    refine LR.v (Y.extract rfl rfl rfl) (Wd.u rfl) rfl rfl ?_
    refine LR.v (Y.assign rfl rfl) (Wd.u rfl) rfl rfl ?_
    refine LR.v (Y.assign rfl rfl) (Wd.u rfl) rfl rfl ?_
    refine LR.nil ?_
    refine hK10 _ _ ?_
    refine CW.seq (fun K11 hK11 hE11 => ?_)
    refine CW.region ?_
    refine LR.v (Y.move rfl rfl) (Wd.u rfl) rfl rfl ?_
    refine LR.v (Y.mki rfl Try.runUnderlying25 (by intro ms h; cases h) rfl) (Wd.u rfl) rfl rfl ?_
    refine LR.v (Y.loadN vy.pt rfl Try.isAgg30 Try.sizeOf30 (fA_len _) rfl) (Wd.u rfl) rfl rfl ?_
    refine LR.v (Y.loadN vx.pt rfl Try.isAgg30 Try.sizeOf30 (fA_len _) rfl) (Wd.u rfl) rfl rfl ?_
    -- call selvage/graph.Bases
    refine LR.call rfl Try.call18 rfl (Wd.u rfl) rfl rfl (bas_ct (Sou.rows sR out) H32.size q54 _ (idn yb) (idn xa) (rkL (out.map Rw.l)) w0 _ hv hsr (bf_hsr.mono (by omega)) (df3) hR.ok (by omega) hg.ac) (fun v62 H62 r62 => ?_)
    have ql26 := hv.lt
    have ql27 := vx.lt
    have ql28 := vy.lt
    have ql29 := ow54.le
    obtain ⟨s62, k62, o62, e62, q62, rfl, ow62, hk62, hv, hR62, hq62, hs62⟩ := r62
    have df30 := DF.app (DF.z) (bf_hl.mono hm0.size) hk62
    have df31 := DF.app (DF.z) (bf_hlx.mono hm0.size) hk62
    have df32 := DF.app (DF.z) (bf_hsr.mono (by omega)) hk62
    have dj33 : Dj (H32.size + 1) k62 := Dj.app (Dj.z) ql26 hk62
    have dj34 : Dj (H48.size + 1) k62 := Dj.app (Dj.z) ql27 hk62
    have dj35 : Dj (H8.size + 1) k62 := Dj.app (Dj.z) ql28 hk62
    have dj36 : Dj k54 k62 := Dj.app (Dj.z) ql29 hk62
    have nx37 : Nx 0 H0.size k62 := Nx.tr (Nx.refl 0 _) hk62 hm0.size
    replace hl := hl.upL hs62 (DFL.cons df1 DFL.nil)
    replace hlx := fun x h_ => (hlx x h_).upL hs62 (DFL.cons df2 DFL.nil)
    replace hsr := hsr.upL hs62 (DFL.cons df3 DFL.nil)
    replace vx := vx.upL hs62 (DL.cons dj8.symm DL.nil)
    replace vy := vy.upL hs62 (DL.cons dj13.symm DL.nil)
    replace ow54 := ow54.upL hs62 (DL.cons dj22.symm DL.nil)
    replace hm0 := (Mo.trL (ks := []) (hm0.mdn []) hs62 (MIL.cons (MI.app MI.z (nx4) (Nat.le_refl _)) MIL.nil)).nil
    have hz13 := hs62.size
    have hle_ow62 := ow62.le
    obtain ⟨ho62, he62, he4, hl16, he0⟩ := bas_two hR54 hR62 (fun K e => hg.ok (fun i hi => by
      simp only [List.mem_cons, List.not_mem_nil, or_false] at hi
      rcases hi with rfl | rfl
      · exact ⟨xa, by omega, rfl⟩
      · exact ⟨yb, by omega, rfl⟩)) (fun K e => hg.ok (fun i hi => by
      simp only [List.mem_cons, List.not_mem_nil, or_false] at hi
      rcases hi with rfl | rfl
      · exact ⟨yb, by omega, rfl⟩
      · exact ⟨xa, by omega, rfl⟩))
    subst ho62
    subst he62
    refine LR.v (Y.move rfl rfl) (Wd.u rfl) rfl rfl ?_
    refine LR.v (Y.extract rfl rfl rfl) (Wd.u rfl) rfl rfl ?_
    refine LR.v (Y.extract rfl rfl rfl) (Wd.u rfl) rfl rfl ?_
    refine LR.v (Y.assign rfl rfl) (Wd.u rfl) rfl rfl ?_
    refine LR.v (Y.assign rfl rfl) (Wd.u rfl) rfl rfl ?_
    refine LR.nil ?_
    refine hK11 _ _ ?_
    refine CW.seq (fun K12 hK12 hE12 => ?_)
    refine CW.seq (fun K13 hK13 hE13 => ?_)
    refine CW.region_any (fun Hq => Nw H62 Hq) [] rfl ?_
    have hqs := Nw.refl H62
    refine LH.take 0 (by kernel_rfl) rfl (by kernel_rfl) (by kernel_rfl) (by kernel_rfl) (fun Hq hq => Y.move rfl rfl) (Wd.u rfl) rfl rfl hqs ?_
    refine LH.take 1 (by kernel_rfl) rfl (by kernel_rfl) (by kernel_rfl) (by kernel_rfl) (fun Hq hq => Y.move rfl rfl) (Wd.u rfl) rfl rfl hqs ?_
    refine LH.one (i := 2) (by kernel_rfl) ?_
    -- call selvage/selvagelaw11.sameIds
    refine LO.call rfl rfl Try.call19 rfl (Wd.u rfl) rfl rfl (same_ct s54.v s62.v _ w0 _ ow54.rd.any ow62.rd.any (by omega)) (fun v67 H67 r67 => ?_)
    obtain ⟨rfl, hs67⟩ := r67
    replace hl := hl.nw hs67
    replace hlx := fun x h_ => (hlx x h_).nw hs67
    replace hsr := hsr.nw hs67
    replace hv := hv.nw hs67
    replace vx := vx.nw hs67
    replace vy := vy.nw hs67
    replace ow54 := ow54.nw hs67
    replace ow62 := ow62.nw hs67
    replace hm0 := hm0.tr hs67
    have hz14 := hs67.size
    have hq67 := hqs.tr hs67
    refine ⟨.inr hq67, LH.narrow (SH2 := fun Hq => Nw H67 Hq) (fun Hq hq => hq67.tr hq) ?_⟩
    have hqn67 := Nw.refl H67
    refine LH.take 3 (by kernel_rfl) rfl (by kernel_rfl) (by kernel_rfl) (by kernel_rfl) (fun Hq hq => Y.not rfl rfl) (Wd.u rfl) rfl rfl hqn67 ?_
    refine LH.take 4 (by kernel_rfl) rfl (by kernel_rfl) (by kernel_rfl) (by kernel_rfl) (fun Hq hq => Y.move rfl rfl) (Wd.u rfl) rfl rfl hqn67 ?_
    refine LH.take 5 (by kernel_rfl) rfl (by kernel_rfl) (by kernel_rfl) (by kernel_rfl) (fun Hq hq => Y.move rfl rfl) (Wd.g rfl rfl rfl) rfl rfl hqn67 ?_
    refine LH.take 6 (by kernel_rfl) rfl (by kernel_rfl) (by kernel_rfl) (by kernel_rfl) (fun Hq hq => Y.eeq rfl Try.underlying33 rfl) (Wd.g rfl rfl rfl) rfl rfl hqn67 ?_
    refine LH.take 7 (by kernel_rfl) rfl (by kernel_rfl) (by kernel_rfl) (by kernel_rfl) (fun Hq hq => Y.move rfl rfl) (Wd.g rfl rfl rfl) rfl rfl hqn67 ?_
    refine LH.take 8 (by kernel_rfl) rfl (by kernel_rfl) (by kernel_rfl) (by kernel_rfl) (fun Hq hq => Y.eeq rfl Try.underlying33 rfl) (Wd.g rfl rfl rfl) rfl rfl hqn67 ?_
    refine LH.take 9 (by kernel_rfl) rfl (by kernel_rfl) (by kernel_rfl) (by kernel_rfl) (fun Hq hq => (Y.bneq rfl Try.underlying4 rfl rfl).isF (fun h => h rfl)) (Wd.g rfl rfl rfl) rfl rfl hqn67 ?_
    refine LH.take 10 (by kernel_rfl) rfl (by kernel_rfl) (by kernel_rfl) (by kernel_rfl) (fun Hq hq => Y.pick_f rfl rfl rfl) (Wd.u rfl) rfl rfl hqn67 ?_
    refine LH.done (by kernel_rfl) ?_
    have hqe := hqn67
    refine hK13 _ _ ?_
    refine CW.cond_f rfl ?_
    refine CW.skip ?_
    refine hK12 _ _ ?_
    refine CW.seq (fun K14 hK14 hE14 => ?_)
    refine CW.seq (fun K15 hK15 hE15 => ?_)
    refine CW.region ?_
    refine LR.v (Y.move rfl rfl) (Wd.u rfl) rfl rfl ?_
    refine LR.v (Y.ene rfl Try.underlying33 rfl) (Wd.u rfl) rfl rfl ?_
    refine LR.nil ?_
    refine hK15 _ _ ?_
    refine CW.condp rfl (fun c77 => ?_) (fun c77 => ?_)
    ·
      refine CW.seq (fun K16 hK16 hE16 => ?_)
      refine CW.region ?_
      refine LR.v (Y.move rfl rfl) (Wd.u rfl) rfl rfl ?_
      -- call selvage/selvagelaw11.is
      refine LR.call rfl Try.call20 rfl (Wd.u rfl) rfl rfl (isT_ct e54 4 (he4 c77) w0 _) (fun v79 H79 r79 => ?_)
      obtain ⟨rfl, hs79⟩ := r79
      replace hl := hl.nw hs79
      replace hlx := fun x h_ => (hlx x h_).nw hs79
      replace hsr := hsr.nw hs79
      replace hv := hv.nw hs79
      replace vx := vx.nw hs79
      replace vy := vy.nw hs79
      replace ow54 := ow54.nw hs79
      replace ow62 := ow62.nw hs79
      replace hm0 := hm0.tr hs79
      have hz15 := hs79.size
      refine LR.v (Y.assign rfl rfl) (Wd.u rfl) rfl rfl ?_
      refine LR.nil ?_
      refine hK16 _ _ ?_
      refine CW.ret (hE14 .ret nofun _ _ (hret .ret (.inr rfl) _ _ _ (res1 rfl rfl) ?_))
      exact ⟨rfl, hm0⟩
    ·
      obtain ⟨hris, _, hbm⟩ := he0 (by omega)
      have hpl : ∀ x, x ∈ o54 → ∃ n, n < (out.map Rw.l).length ∧ x = idn n := fun x hx => by
        obtain ⟨n, hn, e⟩ := GOk.up hg (by omega : xa < (out.map Rw.l).length) ((hbm x).1 hx).1.1
        exact ⟨n, by omega, e⟩
      have hrk : ∀ k, Com (paL (out.map Rw.l)) (idn xa) (idn yb) k → rkL (out.map Rw.l) k < (out.map Rw.l).length := fun k hk => by
        obtain ⟨n, hn, rfl⟩ := GOk.up hg (by omega : xa < (out.map Rw.l).length) hk.1
        rw [GOk.rk hg (by omega)]; omega
      refine CW.skip ?_
      refine hK14 _ _ ?_
      refine CW.seq (fun K17 hK17 hE17 => ?_)
      refine CW.seq (fun K18 hK18 hE18 => ?_)
      refine CW.region ?_
      refine LR.v (Y.assign rfl rfl) (Wd.u rfl) rfl rfl ?_
      refine LR.nil ?_
      refine hK18 _ _ ?_
      refine CW.block (fun K19 hK19 hX19 hE19 => ?_)
      refine CW.loop (fun (s_ : (Nat) × (Nat)) => match s_ with | (i, q) => [(0, sR.v), (7, .pointer (some ⟨H32.size, 0, none⟩)), (8, .pointer (some ⟨H48.size, 0, none⟩)), (9, .pointer (some ⟨H8.size, 0, none⟩)), (10, s54.v), (14, .int .i64 (i : Int))])
        (fun (s_ : (Nat) × (Nat)) (H : Heap) => match s_ with | (i, q) => (Var (Sou.rows sR out).e H H32.size ((Sou.rows sR out).cs q)) ∧ (i ≤ o54.length) ∧ (q ≤ 10002 + i * 80016) ∧ Mo (Ms [(H32.size + 1)]) H67 H)
        (fun (s_ : (Nat) × (Nat)) => match s_ with | (i, q) => o54.length - i) (0, q62) ⟨rfl, rfl, rfl, rfl, rfl, rfl, trivial⟩ ?_ ?_
      ·
        exact ⟨hv, (by omega), (by omega), Mo.refl _ _⟩
      rintro ⟨i, q⟩ HL1 hI1 K20 hN20 hE20
      obtain ⟨hv, hi, bq1, hlm1⟩ := hI1
      replace hl := hl.upL hlm1 (DFL.cons df1 DFL.nil)
      replace hlx := fun x h_ => (hlx x h_).upL hlm1 (DFL.cons df2 DFL.nil)
      replace hsr := hsr.upL hlm1 (DFL.cons df3 DFL.nil)
      replace vx := vx.upL hlm1 (DL.cons dj8.symm DL.nil)
      replace vy := vy.upL hlm1 (DL.cons dj13.symm DL.nil)
      replace ow54 := ow54.upL hlm1 (DL.cons dj22.symm DL.nil)
      replace ow62 := ow62.upL hlm1 (DL.cons dj33.symm DL.nil)
      replace hm0 := (Mo.trL (ks := []) (hm0.mdn []) hlm1 (MIL.cons (MI.app MI.z (nx4) (Nat.le_refl _)) MIL.nil)).nil
      have hz16 := hlm1.size
      have nx_hlm1_hv := Nx.refl (H32.size + 1) H67.size
      refine CW.seq (fun K21 hK21 hE21 => ?_)
      refine CW.seq (fun K22 hK22 hE22 => ?_)
      refine CW.region ?_
      refine LR.v (Y.move rfl rfl) (Wd.u rfl) rfl rfl ?_
      refine LR.v (Y.move rfl rfl) (Wd.u rfl) rfl rfl ?_
      refine LR.v (Y.len ow54.rd rfl Try.runUnderlying28 rfl) (Wd.u rfl) rfl rfl ?_
      refine LR.v (Y.lss rfl rfl rfl) (Wd.u rfl) rfl rfl ?_
      refine LR.nil ?_
      refine hK22 _ _ ?_
      refine CW.condp rfl (fun c83 => ?_) (fun c83 => ?_)
      ·
        have hil : i < o54.length := by omega
        obtain ⟨x1, hx1⟩ : ∃ x, x = o54[i] := ⟨_, rfl⟩
        refine CW.skip ?_
        refine hK21 _ _ ?_
        refine CW.seq (fun K23 hK23 hE23 => ?_)
        refine CW.block (fun K24 hK24 hX24 hE24 => ?_)
        refine CW.seq (fun K25 hK25 hE25 => ?_)
        refine CW.region ?_
        refine LR.v (Y.assign rfl rfl) (Wd.u rfl) rfl rfl ?_
        refine LR.nil ?_
        refine hK25 _ _ ?_
        refine CW.block (fun K26 hK26 hX26 hE26 => ?_)
        refine CW.loop (fun (s_ : (Nat) × (Nat)) => match s_ with | (k, q) => [(0, sR.v), (7, .pointer (some ⟨H32.size, 0, none⟩)), (8, .pointer (some ⟨H48.size, 0, none⟩)), (9, .pointer (some ⟨H8.size, 0, none⟩)), (10, s54.v), (14, .int .i64 (i : Int)), (15, .int .i64 (k : Int))])
          (fun (s_ : (Nat) × (Nat)) (H : Heap) => match s_ with | (k, q) => (Var (Sou.rows sR out).e H H32.size ((Sou.rows sR out).cs q)) ∧ (k ≤ o54.length) ∧ (q ≤ 10002 + i * 80016 + k * 5001) ∧ Mo (Ms [(H32.size + 1)]) HL1 H)
          (fun (s_ : (Nat) × (Nat)) => match s_ with | (k, q) => o54.length - k) (0, q) ⟨rfl, rfl, rfl, rfl, rfl, rfl, rfl, trivial⟩ ?_ ?_
        ·
          exact ⟨hv, (by omega), (by omega), Mo.refl _ _⟩
        rintro ⟨k, q⟩ HL2 hI2 K27 hN27 hE27
        obtain ⟨hv, hk, bq2, hlm2⟩ := hI2
        replace hl := hl.upL hlm2 (DFL.cons df1 DFL.nil)
        replace hlx := fun x h_ => (hlx x h_).upL hlm2 (DFL.cons df2 DFL.nil)
        replace hsr := hsr.upL hlm2 (DFL.cons df3 DFL.nil)
        replace vx := vx.upL hlm2 (DL.cons dj8.symm DL.nil)
        replace vy := vy.upL hlm2 (DL.cons dj13.symm DL.nil)
        replace ow54 := ow54.upL hlm2 (DL.cons dj22.symm DL.nil)
        replace ow62 := ow62.upL hlm2 (DL.cons dj33.symm DL.nil)
        replace hm0 := (Mo.trL (ks := []) (hm0.mdn []) hlm2 (MIL.cons (MI.app MI.z (nx4) (Nat.le_refl _)) MIL.nil)).nil
        replace hlm1 := hlm1.trL hlm2 (MIL.cons (MI.app (MI.root (by simp)) (nx_hlm1_hv) (Nat.le_refl _)) MIL.nil)
        have hz17 := hlm2.size
        have nx_hlm2_hv := Nx.refl (H32.size + 1) HL1.size
        refine CW.seq (fun K28 hK28 hE28 => ?_)
        refine CW.seq (fun K29 hK29 hE29 => ?_)
        refine CW.region ?_
        refine LR.v (Y.move rfl rfl) (Wd.u rfl) rfl rfl ?_
        refine LR.v (Y.move rfl rfl) (Wd.u rfl) rfl rfl ?_
        refine LR.v (Y.len ow54.rd rfl Try.runUnderlying28 rfl) (Wd.u rfl) rfl rfl ?_
        refine LR.v (Y.lss rfl rfl rfl) (Wd.u rfl) rfl rfl ?_
        refine LR.nil ?_
        refine hK29 _ _ ?_
        refine CW.condp rfl (fun c89 => ?_) (fun c89 => ?_)
        ·
          have hkl : k < o54.length := by omega
          obtain ⟨x2, hx2⟩ : ∃ x, x = o54[k] := ⟨_, rfl⟩
          refine CW.skip ?_
          refine hK28 _ _ ?_
          refine CW.seq (fun K30 hK30 hE30 => ?_)
          refine CW.block (fun K31 hK31 hX31 hE31 => ?_)
          refine CW.seq (fun K32 hK32 hE32 => ?_)
          refine CW.region_any (fun Hq => Mo (Ms [(H32.size + 1)]) HL2 Hq) [] rfl ?_
          have hq20 : Mo (Ms [(H32.size + 1)]) HL2 HL2 := Mo.refl _ _
          have nx38 := Nx.refl (H32.size + 1) HL2.size
          refine LH.take 0 (by kernel_rfl) rfl (by kernel_rfl) (by kernel_rfl) (by kernel_rfl) (fun Hq hq => Y.move rfl rfl) (Wd.u rfl) rfl rfl hq20 ?_
          refine LH.take 1 (by kernel_rfl) rfl (by kernel_rfl) (by kernel_rfl) (by kernel_rfl) (fun Hq hq => Y.mki rfl Try.runUnderlying25 (by intro ms h; cases h) rfl) (Wd.u rfl) rfl rfl hq20 ?_
          refine LH.take 2 (by kernel_rfl) rfl (by kernel_rfl) (by kernel_rfl) (by kernel_rfl) (fun Hq hq => Y.move rfl rfl) (Wd.u rfl) rfl rfl hq20 ?_
          refine LH.take 3 (by kernel_rfl) rfl (by kernel_rfl) (by kernel_rfl) (by kernel_rfl) (fun Hq hq => Y.move rfl rfl) (Wd.u rfl) rfl rfl hq20 ?_
          refine LH.take 4 (by kernel_rfl) rfl (by kernel_rfl) (by kernel_rfl) (by kernel_rfl) (fun Hq hq => Y.owAddr (ow54.upL hq (DL.cons dj22.symm DL.nil)) (i) rfl Try.runUnderlying28 Try.sizeOf30 rfl rfl (by first | rfl | omega) (by omega)) (Wd.u rfl) rfl rfl hq20 ?_
          refine LH.take 5 (by kernel_rfl) rfl (by kernel_rfl) (by kernel_rfl) (by kernel_rfl) (fun Hq hq => Y.cast (v2 := vA x1) (Y.loadN ((ow54.upL hq (DL.cons dj22.symm DL.nil)).pt (j := i) (by omega)) rfl Try.isAgg30 Try.sizeOf30 (fA_len _) rfl) (by rw [hx1]; rfl)) (Wd.u rfl) rfl rfl hq20 ?_
          refine LH.take 6 (by kernel_rfl) rfl (by kernel_rfl) (by kernel_rfl) (by kernel_rfl) (fun Hq hq => Y.move rfl rfl) (Wd.u rfl) rfl rfl hq20 ?_
          refine LH.take 7 (by kernel_rfl) rfl (by kernel_rfl) (by kernel_rfl) (by kernel_rfl) (fun Hq hq => Y.move rfl rfl) (Wd.u rfl) rfl rfl hq20 ?_
          refine LH.take 8 (by kernel_rfl) rfl (by kernel_rfl) (by kernel_rfl) (by kernel_rfl) (fun Hq hq => Y.owAddr (ow54.upL hq (DL.cons dj22.symm DL.nil)) (k) rfl Try.runUnderlying28 Try.sizeOf30 rfl rfl (by first | rfl | omega) (by omega)) (Wd.u rfl) rfl rfl hq20 ?_
          refine LH.take 9 (by kernel_rfl) rfl (by kernel_rfl) (by kernel_rfl) (by kernel_rfl) (fun Hq hq => Y.cast (v2 := vA x2) (Y.loadN ((ow54.upL hq (DL.cons dj22.symm DL.nil)).pt (j := k) (by omega)) rfl Try.isAgg30 Try.sizeOf30 (fA_len _) rfl) (by rw [hx2]; rfl)) (Wd.u rfl) rfl rfl hq20 ?_
          refine LH.one (i := 10) (by kernel_rfl) ?_
          -- call selvage/graph.Above
          refine LO.call rfl rfl Try.call16 rfl (Wd.u rfl) rfl rfl (abv_ct (Sou.rows sR out) H32.size q _ x1 x2 w0 _ hv hsr (bf_hsr.mono (by omega)) (df3) hR.ok (by omega)) (fun v103 H103 r103 => ?_)
          obtain ⟨up103, e103, q103, rfl, hv, hR103, hq103, hs103⟩ := r103
          replace hl := hl.upL hs103 (DFL.cons df1 DFL.nil)
          replace hlx := fun x h_ => (hlx x h_).upL hs103 (DFL.cons df2 DFL.nil)
          replace hsr := hsr.upL hs103 (DFL.cons df3 DFL.nil)
          replace vx := vx.upL hs103 (DL.cons dj8.symm DL.nil)
          replace vy := vy.upL hs103 (DL.cons dj13.symm DL.nil)
          replace ow54 := ow54.upL hs103 (DL.cons dj22.symm DL.nil)
          replace ow62 := ow62.upL hs103 (DL.cons dj33.symm DL.nil)
          replace hm0 := (Mo.trL (ks := []) (hm0.mdn []) hs103 (MIL.cons (MI.app MI.z (nx4) (Nat.le_refl _)) MIL.nil)).nil
          replace hlm1 := hlm1.trL hs103 (MIL.cons (MI.app (MI.root (by simp)) (nx_hlm1_hv) (Nat.le_refl _)) MIL.nil)
          replace hlm2 := hlm2.trL hs103 (MIL.cons (MI.app (MI.root (by simp)) (nx_hlm2_hv) (Nat.le_refl _)) MIL.nil)
          replace hq20 := hq20.trL hs103 (MIL.cons (MI.app (MI.root (by simp)) (nx38) (Nat.le_refl _)) MIL.nil)
          have hz18 := hs103.size
          obtain ⟨⟨K103, hA103⟩, hup103, _⟩ := hR103
          replace hup103 := hup103 (hg.ok (fun i hi => by
            simp only [List.mem_cons, List.not_mem_nil, or_false] at hi
            rcases hi with rfl | rfl
            · exact (hpl _ (by rw [hx1]; exact List.getElem_mem hil))
            · exact (hpl _ (by rw [hx2]; exact List.getElem_mem hkl))) hA103)
          refine ⟨.inr hq20, LH.narrow (SH2 := fun Hq => Mo (Ms [(H32.size + 1)]) H103 Hq) (fun Hq hq => hq20.trL hq (MIL.cons (MI.app (MI.root (by simp)) (nx38) (Nat.le_refl _)) MIL.nil)) ?_⟩
          have hq20 : Mo (Ms [(H32.size + 1)]) H103 H103 := Mo.refl _ _
          have nx39 := Nx.refl (H32.size + 1) H103.size
          refine LH.take 11 (by kernel_rfl) rfl (by kernel_rfl) (by kernel_rfl) (by kernel_rfl) (fun Hq hq => Y.move rfl rfl) (Wd.u rfl) rfl rfl hq20 ?_
          refine LH.take 12 (by kernel_rfl) rfl (by kernel_rfl) (by kernel_rfl) (by kernel_rfl) (fun Hq hq => Y.extract rfl rfl rfl) (Wd.u rfl) rfl rfl hq20 ?_
          refine LH.take 13 (by kernel_rfl) rfl (by kernel_rfl) (by kernel_rfl) (by kernel_rfl) (fun Hq hq => Y.extract rfl rfl rfl) (Wd.u rfl) rfl rfl hq20 ?_
          refine LH.take 14 (by kernel_rfl) rfl (by kernel_rfl) (by kernel_rfl) (by kernel_rfl) (fun Hq hq => Y.assign rfl rfl) (Wd.u rfl) rfl rfl hq20 ?_
          refine LH.take 15 (by kernel_rfl) rfl (by kernel_rfl) (by kernel_rfl) (by kernel_rfl) (fun Hq hq => Y.assign rfl rfl) (Wd.u rfl) rfl rfl hq20 ?_
          refine LH.done (by kernel_rfl) ?_
          refine hK32 _ _ ?_
          refine CW.seq (fun K33 hK33 hE33 => ?_)
          refine CW.region ?_
          refine LR.v (Y.move rfl rfl) (Wd.u rfl) rfl rfl ?_
          refine LR.v (Y.move rfl rfl) (Wd.u rfl) rfl rfl ?_
          refine LR.v (Y.move rfl rfl) (Wd.u rfl) rfl rfl ?_
          refine LR.v (Y.eql rfl rfl rfl) (Wd.u rfl) rfl rfl ?_
          refine LR.v ((Y.bneq rfl Try.underlying4 rfl rfl).isF (fun h => h (best_uni hris hbm hil hkl (by rw [← hx1, ← hx2]; exact hup103)))) (Wd.u rfl) rfl rfl ?_
          refine LR.nil ?_
          refine hK33 _ _ ?_
          refine CW.cond_f rfl ?_
          refine CW.skip ?_
          refine hK31 _ _ ?_
          refine hK30 _ _ ?_
          refine CW.region ?_
          refine LR.v (Y.move rfl rfl) (Wd.u rfl) rfl rfl ?_
          refine LR.v (Y.addi rfl rfl rfl (by omega)) (Wd.u rfl) rfl rfl ?_
          refine LR.v (Y.assign rfl rfl) (Wd.u rfl) rfl rfl ?_
          refine LR.nil ?_
          refine QN.sub (hN27 (k + 1, q103) _ ?_ ?_) ⟨rfl, rfl, rfl, rfl, rfl, (iv (by omega)), (iv (by omega)), trivial⟩
          · exact ⟨hv, (by omega), (by omega), hlm2⟩
          · first | omega | (simp only; omega) | (simp; omega)
        ·
          refine CW.exit (hE28 (.exit 2) nofun _ _ (hE27 (.exit 2) nofun _ _ (hX26 _ _ ?_)))
          refine hK24 _ _ ?_
          refine hK23 _ _ ?_
          refine CW.region ?_
          refine LR.v (Y.move rfl rfl) (Wd.u rfl) rfl rfl ?_
          refine LR.v (Y.addi rfl rfl rfl (by omega)) (Wd.u rfl) rfl rfl ?_
          refine LR.v (Y.assign rfl rfl) (Wd.u rfl) rfl rfl ?_
          refine LR.nil ?_
          refine QN.sub (hN20 (i + 1, q) _ ?_ ?_) ⟨rfl, rfl, rfl, rfl, rfl, (iv (by omega)), trivial⟩
          · exact ⟨hv, (by omega), (by omega), hlm1⟩
          · first | omega | (simp only; omega) | (simp; omega)
      ·
        refine CW.exit (hE21 (.exit 0) nofun _ _ (hE20 (.exit 0) nofun _ _ (hX19 _ _ ?_)))
        refine hK17 _ _ ?_
        refine CW.seq (fun K34 hK34 hE34 => ?_)
        refine CW.seq (fun K35 hK35 hE35 => ?_)
        refine CW.region ?_
        refine LR.v (Y.assign rfl rfl) (Wd.u rfl) rfl rfl ?_
        refine LR.nil ?_
        refine hK35 _ _ ?_
        refine CW.block (fun K36 hK36 hX36 hE36 => ?_)
        refine CW.loop (fun (s_ : (Nat) × (Nat)) => match s_ with | (n, q) => [(0, sR.v), (7, .pointer (some ⟨H32.size, 0, none⟩)), (8, .pointer (some ⟨H48.size, 0, none⟩)), (9, .pointer (some ⟨H8.size, 0, none⟩)), (10, s54.v), (18, .int .i64 (n : Int))])
          (fun (s_ : (Nat) × (Nat)) (H : Heap) => match s_ with | (n, q) => (Var (Sou.rows sR out).e H H32.size ((Sou.rows sR out).cs q)) ∧ (n ≤ out.length) ∧ (q ≤ 1290258 + n * 90018) ∧ Mo (Ms [(H32.size + 1)]) HL1 H)
          (fun (s_ : (Nat) × (Nat)) => match s_ with | (n, q) => out.length - n) (0, q) ⟨rfl, rfl, rfl, rfl, rfl, rfl, trivial⟩ ?_ ?_
        ·
          exact ⟨hv, (by omega), (by omega), Mo.refl _ _⟩
        rintro ⟨n, q⟩ HL3 hI3 K37 hN37 hE37
        obtain ⟨hv, hn, bq3, hlm3⟩ := hI3
        replace hl := hl.upL hlm3 (DFL.cons df1 DFL.nil)
        replace hlx := fun x h_ => (hlx x h_).upL hlm3 (DFL.cons df2 DFL.nil)
        replace hsr := hsr.upL hlm3 (DFL.cons df3 DFL.nil)
        replace vx := vx.upL hlm3 (DL.cons dj8.symm DL.nil)
        replace vy := vy.upL hlm3 (DL.cons dj13.symm DL.nil)
        replace ow54 := ow54.upL hlm3 (DL.cons dj22.symm DL.nil)
        replace ow62 := ow62.upL hlm3 (DL.cons dj33.symm DL.nil)
        replace hm0 := (Mo.trL (ks := []) (hm0.mdn []) hlm3 (MIL.cons (MI.app MI.z (nx4) (Nat.le_refl _)) MIL.nil)).nil
        have hz19 := hlm3.size
        have nx_hlm3_hv := Nx.refl (H32.size + 1) HL1.size
        refine CW.seq (fun K38 hK38 hE38 => ?_)
        refine CW.seq (fun K39 hK39 hE39 => ?_)
        refine CW.region ?_
        refine LR.v (Y.move rfl rfl) (Wd.u rfl) rfl rfl ?_
        refine LR.v (Y.move rfl rfl) (Wd.u rfl) rfl rfl ?_
        refine LR.v (Y.len (hsr.l _ _ rfl) rfl Try.runUnderlying22 rfl) (Wd.u rfl) rfl rfl ?_
        refine LR.v (Y.lss rfl rfl rfl) (Wd.u rfl) rfl rfl ?_
        refine LR.nil ?_
        refine hK39 _ _ ?_
        refine CW.condp rfl (fun c114 => ?_) (fun c114 => ?_)
        ·
          have hnl : n < out.length := by omega
          refine CW.skip ?_
          refine hK38 _ _ ?_
          refine CW.seq (fun K40 hK40 hE40 => ?_)
          refine CW.block (fun K41 hK41 hX41 hE41 => ?_)
          refine CW.seq (fun K42 hK42 hE42 => ?_)
          refine CW.region_any (fun Hq => Mo (Ms [(H32.size + 1)]) HL3 Hq) [] rfl ?_
          have hq26 : Mo (Ms [(H32.size + 1)]) HL3 HL3 := Mo.refl _ _
          have nx40 := Nx.refl (H32.size + 1) HL3.size
          refine LH.take 0 (by kernel_rfl) rfl (by kernel_rfl) (by kernel_rfl) (by kernel_rfl) (fun Hq hq => Y.move rfl rfl) (Wd.u rfl) rfl rfl hq26 ?_
          refine LH.take 1 (by kernel_rfl) rfl (by kernel_rfl) (by kernel_rfl) (by kernel_rfl) (fun Hq hq => Y.mki rfl Try.runUnderlying25 (by intro ms h; cases h) rfl) (Wd.u rfl) rfl rfl hq26 ?_
          refine LH.take 2 (by kernel_rfl) rfl (by kernel_rfl) (by kernel_rfl) (by kernel_rfl) (fun Hq hq => Y.move rfl rfl) (Wd.u rfl) rfl rfl hq26 ?_
          refine LH.take 4 (by kernel_rfl) rfl (by kernel_rfl) (by kernel_rfl) (by kernel_rfl) (fun Hq hq => Y.loadN (vx.upL hq (DL.cons dj8.symm DL.nil)).pt rfl Try.isAgg30 Try.sizeOf30 (fA_len _) rfl) (Wd.u rfl) rfl rfl hq26 ?_
          refine LH.one (i := 3) (by kernel_rfl) ?_
          -- call selvage/selvagelaw11.Id
          refine LO.call rfl rfl Try.call12 rfl (Wd.u rfl) rfl rfl (idn_ct n w0 _ (by omega)) (fun v121 H121 r121 => ?_)
          obtain ⟨rfl, hs121⟩ := r121
          replace hl := hl.nw hs121
          replace hlx := fun x h_ => (hlx x h_).nw hs121
          replace hsr := hsr.nw hs121
          replace hv := hv.nw hs121
          replace vx := vx.nw hs121
          replace vy := vy.nw hs121
          replace ow54 := ow54.nw hs121
          replace ow62 := ow62.nw hs121
          replace hm0 := hm0.tr hs121
          replace hlm3 := hlm3.trN hs121
          replace hq26 := hq26.trN hs121
          have hz20 := hs121.size
          refine ⟨.inr hq26, LH.narrow (SH2 := fun Hq => Mo (Ms [(H32.size + 1)]) H121 Hq) (fun Hq hq => hq26.trL hq (MIL.cons (MI.app (MI.root (by simp)) (nx40) (Nat.le_refl _)) MIL.nil)) ?_⟩
          have hq26 : Mo (Ms [(H32.size + 1)]) H121 H121 := Mo.refl _ _
          have nx41 := Nx.refl (H32.size + 1) H121.size
          refine LH.one (i := 5) (by kernel_rfl) ?_
          -- call selvage/graph.Above
          refine LO.call rfl rfl Try.call16 rfl (Wd.u rfl) rfl rfl (abv_ct (Sou.rows sR out) H32.size q _ (idn n) (idn xa) w0 _ hv hsr (bf_hsr.mono (by omega)) (df3) hR.ok (by omega)) (fun v123 H123 r123 => ?_)
          obtain ⟨up123, e123, q123, rfl, hv, hR123, hq123, hs123⟩ := r123
          replace hl := hl.upL hs123 (DFL.cons df1 DFL.nil)
          replace hlx := fun x h_ => (hlx x h_).upL hs123 (DFL.cons df2 DFL.nil)
          replace hsr := hsr.upL hs123 (DFL.cons df3 DFL.nil)
          replace vx := vx.upL hs123 (DL.cons dj8.symm DL.nil)
          replace vy := vy.upL hs123 (DL.cons dj13.symm DL.nil)
          replace ow54 := ow54.upL hs123 (DL.cons dj22.symm DL.nil)
          replace ow62 := ow62.upL hs123 (DL.cons dj33.symm DL.nil)
          replace hm0 := (Mo.trL (ks := []) (hm0.mdn []) hs123 (MIL.cons (MI.app MI.z (nx4) (Nat.le_refl _)) MIL.nil)).nil
          replace hlm3 := hlm3.trL hs123 (MIL.cons (MI.app (MI.root (by simp)) (nx_hlm3_hv) (Nat.le_refl _)) MIL.nil)
          replace hq26 := hq26.trL hs123 (MIL.cons (MI.app (MI.root (by simp)) (nx41) (Nat.le_refl _)) MIL.nil)
          have hz21 := hs123.size
          obtain ⟨⟨K123, hA123⟩, hup123, _⟩ := hR123
          replace hup123 := hup123 (hg.ok (fun i hi => by
            simp only [List.mem_cons, List.not_mem_nil, or_false] at hi
            rcases hi with rfl | rfl
            · exact ⟨n, by omega, rfl⟩
            · exact ⟨xa, by omega, rfl⟩) hA123)
          refine ⟨.inr hq26, LH.narrow (SH2 := fun Hq => Mo (Ms [(H32.size + 1)]) H123 Hq) (fun Hq hq => hq26.trL hq (MIL.cons (MI.app (MI.root (by simp)) (nx41) (Nat.le_refl _)) MIL.nil)) ?_⟩
          have hq26 : Mo (Ms [(H32.size + 1)]) H123 H123 := Mo.refl _ _
          have nx42 := Nx.refl (H32.size + 1) H123.size
          refine LH.take 6 (by kernel_rfl) rfl (by kernel_rfl) (by kernel_rfl) (by kernel_rfl) (fun Hq hq => Y.move rfl rfl) (Wd.u rfl) rfl rfl hq26 ?_
          refine LH.take 7 (by kernel_rfl) rfl (by kernel_rfl) (by kernel_rfl) (by kernel_rfl) (fun Hq hq => Y.extract rfl rfl rfl) (Wd.u rfl) rfl rfl hq26 ?_
          refine LH.take 8 (by kernel_rfl) rfl (by kernel_rfl) (by kernel_rfl) (by kernel_rfl) (fun Hq hq => Y.extract rfl rfl rfl) (Wd.u rfl) rfl rfl hq26 ?_
          refine LH.take 9 (by kernel_rfl) rfl (by kernel_rfl) (by kernel_rfl) (by kernel_rfl) (fun Hq hq => Y.assign rfl rfl) (Wd.u rfl) rfl rfl hq26 ?_
          refine LH.take 10 (by kernel_rfl) rfl (by kernel_rfl) (by kernel_rfl) (by kernel_rfl) (fun Hq hq => Y.assign rfl rfl) (Wd.u rfl) rfl rfl hq26 ?_
          refine LH.done (by kernel_rfl) ?_
          refine hK42 _ _ ?_
          refine CW.seq (fun K43 hK43 hE43 => ?_)
          refine CW.region_any (fun Hq => Mo (Ms [(H32.size + 1)]) H123 Hq) [] rfl ?_
          have hq27 : Mo (Ms [(H32.size + 1)]) H123 H123 := Mo.refl _ _
          have nx43 := Nx.refl (H32.size + 1) H123.size
          refine LH.take 0 (by kernel_rfl) rfl (by kernel_rfl) (by kernel_rfl) (by kernel_rfl) (fun Hq hq => Y.move rfl rfl) (Wd.u rfl) rfl rfl hq27 ?_
          refine LH.take 1 (by kernel_rfl) rfl (by kernel_rfl) (by kernel_rfl) (by kernel_rfl) (fun Hq hq => Y.mki rfl Try.runUnderlying25 (by intro ms h; cases h) rfl) (Wd.u rfl) rfl rfl hq27 ?_
          refine LH.take 2 (by kernel_rfl) rfl (by kernel_rfl) (by kernel_rfl) (by kernel_rfl) (fun Hq hq => Y.move rfl rfl) (Wd.u rfl) rfl rfl hq27 ?_
          refine LH.take 4 (by kernel_rfl) rfl (by kernel_rfl) (by kernel_rfl) (by kernel_rfl) (fun Hq hq => Y.loadN (vy.upL hq (DL.cons dj13.symm DL.nil)).pt rfl Try.isAgg30 Try.sizeOf30 (fA_len _) rfl) (Wd.u rfl) rfl rfl hq27 ?_
          refine LH.one (i := 3) (by kernel_rfl) ?_
          -- call selvage/selvagelaw11.Id
          refine LO.call rfl rfl Try.call12 rfl (Wd.u rfl) rfl rfl (idn_ct n w0 _ (by omega)) (fun v130 H130 r130 => ?_)
          obtain ⟨rfl, hs130⟩ := r130
          replace hl := hl.nw hs130
          replace hlx := fun x h_ => (hlx x h_).nw hs130
          replace hsr := hsr.nw hs130
          replace hv := hv.nw hs130
          replace vx := vx.nw hs130
          replace vy := vy.nw hs130
          replace ow54 := ow54.nw hs130
          replace ow62 := ow62.nw hs130
          replace hm0 := hm0.tr hs130
          replace hlm3 := hlm3.trN hs130
          replace hq27 := hq27.trN hs130
          have hz22 := hs130.size
          refine ⟨.inr hq27, LH.narrow (SH2 := fun Hq => Mo (Ms [(H32.size + 1)]) H130 Hq) (fun Hq hq => hq27.trL hq (MIL.cons (MI.app (MI.root (by simp)) (nx43) (Nat.le_refl _)) MIL.nil)) ?_⟩
          have hq27 : Mo (Ms [(H32.size + 1)]) H130 H130 := Mo.refl _ _
          have nx44 := Nx.refl (H32.size + 1) H130.size
          refine LH.one (i := 5) (by kernel_rfl) ?_
          -- call selvage/graph.Above
          refine LO.call rfl rfl Try.call16 rfl (Wd.u rfl) rfl rfl (abv_ct (Sou.rows sR out) H32.size q123 _ (idn n) (idn yb) w0 _ hv hsr (bf_hsr.mono (by omega)) (df3) hR.ok (by omega)) (fun v132 H132 r132 => ?_)
          obtain ⟨up132, e132, q132, rfl, hv, hR132, hq132, hs132⟩ := r132
          replace hl := hl.upL hs132 (DFL.cons df1 DFL.nil)
          replace hlx := fun x h_ => (hlx x h_).upL hs132 (DFL.cons df2 DFL.nil)
          replace hsr := hsr.upL hs132 (DFL.cons df3 DFL.nil)
          replace vx := vx.upL hs132 (DL.cons dj8.symm DL.nil)
          replace vy := vy.upL hs132 (DL.cons dj13.symm DL.nil)
          replace ow54 := ow54.upL hs132 (DL.cons dj22.symm DL.nil)
          replace ow62 := ow62.upL hs132 (DL.cons dj33.symm DL.nil)
          replace hm0 := (Mo.trL (ks := []) (hm0.mdn []) hs132 (MIL.cons (MI.app MI.z (nx4) (Nat.le_refl _)) MIL.nil)).nil
          replace hlm3 := hlm3.trL hs132 (MIL.cons (MI.app (MI.root (by simp)) (nx_hlm3_hv) (Nat.le_refl _)) MIL.nil)
          replace hq27 := hq27.trL hs132 (MIL.cons (MI.app (MI.root (by simp)) (nx44) (Nat.le_refl _)) MIL.nil)
          have hz23 := hs132.size
          obtain ⟨⟨K132, hA132⟩, hup132, _⟩ := hR132
          replace hup132 := hup132 (hg.ok (fun i hi => by
            simp only [List.mem_cons, List.not_mem_nil, or_false] at hi
            rcases hi with rfl | rfl
            · exact ⟨n, by omega, rfl⟩
            · exact ⟨yb, by omega, rfl⟩) hA132)
          refine ⟨.inr hq27, LH.narrow (SH2 := fun Hq => Mo (Ms [(H32.size + 1)]) H132 Hq) (fun Hq hq => hq27.trL hq (MIL.cons (MI.app (MI.root (by simp)) (nx44) (Nat.le_refl _)) MIL.nil)) ?_⟩
          have hq27 : Mo (Ms [(H32.size + 1)]) H132 H132 := Mo.refl _ _
          have nx45 := Nx.refl (H32.size + 1) H132.size
          refine LH.take 6 (by kernel_rfl) rfl (by kernel_rfl) (by kernel_rfl) (by kernel_rfl) (fun Hq hq => Y.move rfl rfl) (Wd.u rfl) rfl rfl hq27 ?_
          refine LH.take 7 (by kernel_rfl) rfl (by kernel_rfl) (by kernel_rfl) (by kernel_rfl) (fun Hq hq => Y.extract rfl rfl rfl) (Wd.u rfl) rfl rfl hq27 ?_
          refine LH.take 8 (by kernel_rfl) rfl (by kernel_rfl) (by kernel_rfl) (by kernel_rfl) (fun Hq hq => Y.extract rfl rfl rfl) (Wd.u rfl) rfl rfl hq27 ?_
          refine LH.take 9 (by kernel_rfl) rfl (by kernel_rfl) (by kernel_rfl) (by kernel_rfl) (fun Hq hq => Y.assign rfl rfl) (Wd.u rfl) rfl rfl hq27 ?_
          refine LH.take 10 (by kernel_rfl) rfl (by kernel_rfl) (by kernel_rfl) (by kernel_rfl) (fun Hq hq => Y.assign rfl rfl) (Wd.u rfl) rfl rfl hq27 ?_
          refine LH.done (by kernel_rfl) ?_
          refine hK43 _ _ ?_
          refine CW.seq (fun K44 hK44 hE44 => ?_)
          refine CW.region ?_
          refine LR.v (Y.assign rfl rfl) (Wd.u rfl) rfl rfl ?_
          refine LR.nil ?_
          refine hK44 _ _ ?_
          refine CW.seq (fun K45 hK45 hE45 => ?_)
          refine CW.seq (fun K46 hK46 hE46 => ?_)
          refine CW.region ?_
          refine LR.v (Y.assign rfl rfl) (Wd.u rfl) rfl rfl ?_
          refine LR.nil ?_
          refine hK46 _ _ ?_
          refine CW.block (fun K47 hK47 hX47 hE47 => ?_)
          refine CW.loop (fun (s_ : (Nat) × (Bool) × (Nat)) => match s_ with | (i, so, q) => [(0, sR.v), (7, .pointer (some ⟨H32.size, 0, none⟩)), (8, .pointer (some ⟨H48.size, 0, none⟩)), (9, .pointer (some ⟨H8.size, 0, none⟩)), (10, s54.v), (18, .int .i64 (n : Int)), (19, .bool up123), (21, .bool up132), (23, .bool so), (24, .int .i64 (i : Int))])
            (fun (s_ : (Nat) × (Bool) × (Nat)) (H : Heap) => match s_ with | (i, so, q) => (Var (Sou.rows sR out).e H H32.size ((Sou.rows sR out).cs q)) ∧ (so = true ↔ InI (paL (out.map Rw.l)) o54 (idn n) i) ∧ (i ≤ o54.length) ∧ (q ≤ 1290258 + n * 90018 + 10002 + i * 5001) ∧ Mo (Ms [(H32.size + 1)]) H132 H)
            (fun (s_ : (Nat) × (Bool) × (Nat)) => match s_ with | (i, so, q) => o54.length - i) (0, false, q132) ⟨rfl, rfl, rfl, rfl, rfl, rfl, rfl, rfl, rfl, rfl, trivial⟩ ?_ ?_
          ·
            exact ⟨hv, ini_zero, (by omega), (by omega), Mo.refl _ _⟩
          rintro ⟨i, so, q⟩ HL4 hI4 K48 hN48 hE48
          obtain ⟨hv, hso, hi, bq4, hlm4⟩ := hI4
          replace hl := hl.upL hlm4 (DFL.cons df1 DFL.nil)
          replace hlx := fun x h_ => (hlx x h_).upL hlm4 (DFL.cons df2 DFL.nil)
          replace hsr := hsr.upL hlm4 (DFL.cons df3 DFL.nil)
          replace vx := vx.upL hlm4 (DL.cons dj8.symm DL.nil)
          replace vy := vy.upL hlm4 (DL.cons dj13.symm DL.nil)
          replace ow54 := ow54.upL hlm4 (DL.cons dj22.symm DL.nil)
          replace ow62 := ow62.upL hlm4 (DL.cons dj33.symm DL.nil)
          replace hm0 := (Mo.trL (ks := []) (hm0.mdn []) hlm4 (MIL.cons (MI.app MI.z (nx4) (Nat.le_refl _)) MIL.nil)).nil
          replace hlm3 := hlm3.trL hlm4 (MIL.cons (MI.app (MI.root (by simp)) (nx_hlm3_hv) (Nat.le_refl _)) MIL.nil)
          have hz24 := hlm4.size
          have nx_hlm4_hv := Nx.refl (H32.size + 1) H132.size
          refine CW.seq (fun K49 hK49 hE49 => ?_)
          refine CW.seq (fun K50 hK50 hE50 => ?_)
          refine CW.region ?_
          refine LR.v (Y.move rfl rfl) (Wd.u rfl) rfl rfl ?_
          refine LR.v (Y.move rfl rfl) (Wd.u rfl) rfl rfl ?_
          refine LR.v (Y.len ow54.rd rfl Try.runUnderlying28 rfl) (Wd.u rfl) rfl rfl ?_
          refine LR.v (Y.lss rfl rfl rfl) (Wd.u rfl) rfl rfl ?_
          refine LR.nil ?_
          refine hK50 _ _ ?_
          refine CW.condp rfl (fun c138 => ?_) (fun c138 => ?_)
          ·
            have hil : i < o54.length := by omega
            obtain ⟨x1, hx1⟩ : ∃ x, x = o54[i] := ⟨_, rfl⟩
            refine CW.skip ?_
            refine hK49 _ _ ?_
            refine CW.seq (fun K51 hK51 hE51 => ?_)
            refine CW.block (fun K52 hK52 hX52 hE52 => ?_)
            refine CW.seq (fun K53 hK53 hE53 => ?_)
            refine CW.region_any (fun Hq => Mo (Ms [(H32.size + 1)]) HL4 Hq) [] rfl ?_
            have hq32 : Mo (Ms [(H32.size + 1)]) HL4 HL4 := Mo.refl _ _
            have nx46 := Nx.refl (H32.size + 1) HL4.size
            refine LH.take 0 (by kernel_rfl) rfl (by kernel_rfl) (by kernel_rfl) (by kernel_rfl) (fun Hq hq => Y.move rfl rfl) (Wd.u rfl) rfl rfl hq32 ?_
            refine LH.take 1 (by kernel_rfl) rfl (by kernel_rfl) (by kernel_rfl) (by kernel_rfl) (fun Hq hq => Y.mki rfl Try.runUnderlying25 (by intro ms h; cases h) rfl) (Wd.u rfl) rfl rfl hq32 ?_
            refine LH.take 2 (by kernel_rfl) rfl (by kernel_rfl) (by kernel_rfl) (by kernel_rfl) (fun Hq hq => Y.move rfl rfl) (Wd.u rfl) rfl rfl hq32 ?_
            refine LH.take 4 (by kernel_rfl) rfl (by kernel_rfl) (by kernel_rfl) (by kernel_rfl) (fun Hq hq => Y.move rfl rfl) (Wd.u rfl) rfl rfl hq32 ?_
            refine LH.take 5 (by kernel_rfl) rfl (by kernel_rfl) (by kernel_rfl) (by kernel_rfl) (fun Hq hq => Y.move rfl rfl) (Wd.u rfl) rfl rfl hq32 ?_
            refine LH.take 6 (by kernel_rfl) rfl (by kernel_rfl) (by kernel_rfl) (by kernel_rfl) (fun Hq hq => Y.owAddr (ow54.upL hq (DL.cons dj22.symm DL.nil)) (i) rfl Try.runUnderlying28 Try.sizeOf30 rfl rfl (by first | rfl | omega) (by omega)) (Wd.u rfl) rfl rfl hq32 ?_
            refine LH.take 7 (by kernel_rfl) rfl (by kernel_rfl) (by kernel_rfl) (by kernel_rfl) (fun Hq hq => Y.cast (v2 := vA x1) (Y.loadN ((ow54.upL hq (DL.cons dj22.symm DL.nil)).pt (j := i) (by omega)) rfl Try.isAgg30 Try.sizeOf30 (fA_len _) rfl) (by rw [hx1]; rfl)) (Wd.u rfl) rfl rfl hq32 ?_
            refine LH.one (i := 3) (by kernel_rfl) ?_
            -- call selvage/selvagelaw11.Id
            refine LO.call rfl rfl Try.call12 rfl (Wd.u rfl) rfl rfl (idn_ct n w0 _ (by omega)) (fun v145 H145 r145 => ?_)
            obtain ⟨rfl, hs145⟩ := r145
            replace hl := hl.nw hs145
            replace hlx := fun x h_ => (hlx x h_).nw hs145
            replace hsr := hsr.nw hs145
            replace hv := hv.nw hs145
            replace vx := vx.nw hs145
            replace vy := vy.nw hs145
            replace ow54 := ow54.nw hs145
            replace ow62 := ow62.nw hs145
            replace hm0 := hm0.tr hs145
            replace hlm3 := hlm3.trN hs145
            replace hlm4 := hlm4.trN hs145
            replace hq32 := hq32.trN hs145
            have hz25 := hs145.size
            refine ⟨.inr hq32, LH.narrow (SH2 := fun Hq => Mo (Ms [(H32.size + 1)]) H145 Hq) (fun Hq hq => hq32.trL hq (MIL.cons (MI.app (MI.root (by simp)) (nx46) (Nat.le_refl _)) MIL.nil)) ?_⟩
            have hq32 : Mo (Ms [(H32.size + 1)]) H145 H145 := Mo.refl _ _
            have nx47 := Nx.refl (H32.size + 1) H145.size
            refine LH.one (i := 8) (by kernel_rfl) ?_
            -- call selvage/graph.Above
            refine LO.call rfl rfl Try.call16 rfl (Wd.u rfl) rfl rfl (abv_ct (Sou.rows sR out) H32.size q _ (idn n) x1 w0 _ hv hsr (bf_hsr.mono (by omega)) (df3) hR.ok (by omega)) (fun v150 H150 r150 => ?_)
            obtain ⟨up150, e150, q150, rfl, hv, hR150, hq150, hs150⟩ := r150
            replace hl := hl.upL hs150 (DFL.cons df1 DFL.nil)
            replace hlx := fun x h_ => (hlx x h_).upL hs150 (DFL.cons df2 DFL.nil)
            replace hsr := hsr.upL hs150 (DFL.cons df3 DFL.nil)
            replace vx := vx.upL hs150 (DL.cons dj8.symm DL.nil)
            replace vy := vy.upL hs150 (DL.cons dj13.symm DL.nil)
            replace ow54 := ow54.upL hs150 (DL.cons dj22.symm DL.nil)
            replace ow62 := ow62.upL hs150 (DL.cons dj33.symm DL.nil)
            replace hm0 := (Mo.trL (ks := []) (hm0.mdn []) hs150 (MIL.cons (MI.app MI.z (nx4) (Nat.le_refl _)) MIL.nil)).nil
            replace hlm3 := hlm3.trL hs150 (MIL.cons (MI.app (MI.root (by simp)) (nx_hlm3_hv) (Nat.le_refl _)) MIL.nil)
            replace hlm4 := hlm4.trL hs150 (MIL.cons (MI.app (MI.root (by simp)) (nx_hlm4_hv) (Nat.le_refl _)) MIL.nil)
            replace hq32 := hq32.trL hs150 (MIL.cons (MI.app (MI.root (by simp)) (nx47) (Nat.le_refl _)) MIL.nil)
            have hz26 := hs150.size
            obtain ⟨⟨K150, hA150⟩, hup150, _⟩ := hR150
            replace hup150 := hup150 (hg.ok (fun i hi => by
              simp only [List.mem_cons, List.not_mem_nil, or_false] at hi
              rcases hi with rfl | rfl
              · exact ⟨n, by omega, rfl⟩
              · exact (hpl _ (by rw [hx1]; exact List.getElem_mem hil))) hA150)
            refine ⟨.inr hq32, LH.narrow (SH2 := fun Hq => Mo (Ms [(H32.size + 1)]) H150 Hq) (fun Hq hq => hq32.trL hq (MIL.cons (MI.app (MI.root (by simp)) (nx47) (Nat.le_refl _)) MIL.nil)) ?_⟩
            have hq32 : Mo (Ms [(H32.size + 1)]) H150 H150 := Mo.refl _ _
            have nx48 := Nx.refl (H32.size + 1) H150.size
            refine LH.take 9 (by kernel_rfl) rfl (by kernel_rfl) (by kernel_rfl) (by kernel_rfl) (fun Hq hq => Y.move rfl rfl) (Wd.u rfl) rfl rfl hq32 ?_
            refine LH.take 10 (by kernel_rfl) rfl (by kernel_rfl) (by kernel_rfl) (by kernel_rfl) (fun Hq hq => Y.extract rfl rfl rfl) (Wd.u rfl) rfl rfl hq32 ?_
            refine LH.take 11 (by kernel_rfl) rfl (by kernel_rfl) (by kernel_rfl) (by kernel_rfl) (fun Hq hq => Y.extract rfl rfl rfl) (Wd.u rfl) rfl rfl hq32 ?_
            refine LH.take 12 (by kernel_rfl) rfl (by kernel_rfl) (by kernel_rfl) (by kernel_rfl) (fun Hq hq => Y.assign rfl rfl) (Wd.u rfl) rfl rfl hq32 ?_
            refine LH.take 13 (by kernel_rfl) rfl (by kernel_rfl) (by kernel_rfl) (by kernel_rfl) (fun Hq hq => Y.assign rfl rfl) (Wd.u rfl) rfl rfl hq32 ?_
            refine LH.done (by kernel_rfl) ?_
            refine hK53 _ _ ?_
            refine CW.region ?_
            refine LR.v (Y.move rfl rfl) (Wd.u rfl) rfl rfl ?_
            refine LR.v (Y.move rfl rfl) (Wd.u rfl) rfl rfl ?_
            refine LR.split (d := 154) rfl (fun g154 => ?_) (fun g154 => ?_)
            ·
              refine LR.gs rfl rfl rfl rfl rfl rfl ?_
              refine LR.v (Y.pick_t rfl rfl rfl) (Wd.u rfl) rfl rfl ?_
              refine LR.v (Y.assign rfl rfl) (Wd.u rfl) rfl rfl ?_
              refine LR.nil ?_
              refine hK52 _ _ ?_
              refine hK51 _ _ ?_
              refine CW.region ?_
              refine LR.v (Y.move rfl rfl) (Wd.u rfl) rfl rfl ?_
              refine LR.v (Y.addi rfl rfl rfl (by omega)) (Wd.u rfl) rfl rfl ?_
              refine LR.v (Y.assign rfl rfl) (Wd.u rfl) rfl rfl ?_
              refine LR.nil ?_
              refine QN.sub (hN48 (i + 1, true, q150) _ ?_ ?_) ⟨rfl, rfl, rfl, rfl, rfl, (iv (by omega)), rfl, rfl, rfl, (iv (by omega)), trivial⟩
              · exact ⟨hv, ini_t hso g154, (by omega), (by omega), hlm4⟩
              · first | omega | (simp only; omega) | (simp; omega)
            ·
              refine LR.v (Y.move rfl rfl) (Wd.g rfl rfl rfl) rfl rfl ?_
              refine LR.v (Y.pick_f rfl rfl rfl) (Wd.u rfl) rfl rfl ?_
              refine LR.v (Y.assign rfl rfl) (Wd.u rfl) rfl rfl ?_
              refine LR.nil ?_
              refine hK52 _ _ ?_
              refine hK51 _ _ ?_
              refine CW.region ?_
              refine LR.v (Y.move rfl rfl) (Wd.u rfl) rfl rfl ?_
              refine LR.v (Y.addi rfl rfl rfl (by omega)) (Wd.u rfl) rfl rfl ?_
              refine LR.v (Y.assign rfl rfl) (Wd.u rfl) rfl rfl ?_
              refine LR.nil ?_
              refine QN.sub (hN48 (i + 1, up150, q150) _ ?_ ?_) ⟨rfl, rfl, rfl, rfl, rfl, (iv (by omega)), rfl, rfl, rfl, (iv (by omega)), trivial⟩
              · exact ⟨hv, ini_f hso g154 hil (by rw [← hx1]; exact hup150), (by omega), (by omega), hlm4⟩
              · first | omega | (simp only; omega) | (simp; omega)
          ·
            have hsc := ini_all hg.ac hrk hbm hso (by omega)
            refine CW.exit (hE49 (.exit 6) nofun _ _ (hE48 (.exit 6) nofun _ _ (hX47 _ _ ?_)))
            refine hK45 _ _ ?_
            refine CW.seq (fun K54 hK54 hE54 => ?_)
            refine CW.region ?_
            refine LR.v (Y.move rfl rfl) (Wd.u rfl) rfl rfl ?_
            refine LR.v (Y.move rfl rfl) (Wd.u rfl) rfl rfl ?_
            refine LR.v (Y.move rfl rfl) (Wd.u rfl) rfl rfl ?_
            refine LR.split (d := 159) rfl (fun g159 => ?_) (fun g159 => ?_)
            ·
              refine LR.v (Y.move rfl rfl) (Wd.g rfl rfl rfl) rfl rfl ?_
              refine LR.v (Y.pick_t rfl rfl rfl) (Wd.u rfl) rfl rfl ?_
              refine LR.v ((Y.bneq rfl Try.underlying4 rfl rfl).isF (fun h => h (by first | exact com_t hsc hup123 hup132 g159 | exact com_f hsc hup123 g159))) (Wd.u rfl) rfl rfl ?_
              refine LR.nil ?_
              refine hK54 _ _ ?_
              refine CW.cond_f rfl ?_
              refine CW.skip ?_
              refine hK41 _ _ ?_
              refine hK40 _ _ ?_
              refine CW.region ?_
              refine LR.v (Y.move rfl rfl) (Wd.u rfl) rfl rfl ?_
              refine LR.v (Y.addi rfl rfl rfl (by omega)) (Wd.u rfl) rfl rfl ?_
              refine LR.v (Y.assign rfl rfl) (Wd.u rfl) rfl rfl ?_
              refine LR.nil ?_
              refine QN.sub (hN37 (n + 1, q) _ ?_ ?_) ⟨rfl, rfl, rfl, rfl, rfl, (iv (by omega)), trivial⟩
              · exact ⟨hv, (by omega), (by omega), hlm3⟩
              · first | omega | (simp only; omega) | (simp; omega)
            ·
              refine LR.gs rfl rfl rfl rfl rfl rfl ?_
              refine LR.v (Y.pick_f rfl rfl rfl) (Wd.u rfl) rfl rfl ?_
              refine LR.v ((Y.bneq rfl Try.underlying4 rfl rfl).isF (fun h => h (by first | exact com_t hsc hup123 hup132 g159 | exact com_f hsc hup123 g159))) (Wd.u rfl) rfl rfl ?_
              refine LR.nil ?_
              refine hK54 _ _ ?_
              refine CW.cond_f rfl ?_
              refine CW.skip ?_
              refine hK41 _ _ ?_
              refine hK40 _ _ ?_
              refine CW.region ?_
              refine LR.v (Y.move rfl rfl) (Wd.u rfl) rfl rfl ?_
              refine LR.v (Y.addi rfl rfl rfl (by omega)) (Wd.u rfl) rfl rfl ?_
              refine LR.v (Y.assign rfl rfl) (Wd.u rfl) rfl rfl ?_
              refine LR.nil ?_
              refine QN.sub (hN37 (n + 1, q) _ ?_ ?_) ⟨rfl, rfl, rfl, rfl, rfl, (iv (by omega)), trivial⟩
              · exact ⟨hv, (by omega), (by omega), hlm3⟩
              · first | omega | (simp only; omega) | (simp; omega)
        ·
          refine CW.exit (hE38 (.exit 4) nofun _ _ (hE37 (.exit 4) nofun _ _ (hX36 _ _ ?_)))
          refine hK34 _ _ ?_
          refine CW.seq (fun K55 hK55 hE55 => ?_)
          refine CW.region ?_
          refine LR.v (Y.move rfl rfl) (Wd.u rfl) rfl rfl ?_
          refine LR.v (Y.mki rfl Try.runUnderlying25 (by intro ms h; cases h) rfl) (Wd.u rfl) rfl rfl ?_
          refine LR.v (Y.loadN vx.pt rfl Try.isAgg30 Try.sizeOf30 (fA_len _) rfl) (Wd.u rfl) rfl rfl ?_
          refine LR.v (Y.loadN vy.pt rfl Try.isAgg30 Try.sizeOf30 (fA_len _) rfl) (Wd.u rfl) rfl rfl ?_
          -- call selvage/graph.Above
          refine LR.call rfl Try.call16 rfl (Wd.u rfl) rfl rfl (abv_ct (Sou.rows sR out) H32.size q _ (idn xa) (idn yb) w0 _ hv hsr (bf_hsr.mono (by omega)) (df3) hR.ok (by omega)) (fun v168 H168 r168 => ?_)
          obtain ⟨up168, e168, q168, rfl, hv, hR168, hq168, hs168⟩ := r168
          replace hl := hl.upL hs168 (DFL.cons df1 DFL.nil)
          replace hlx := fun x h_ => (hlx x h_).upL hs168 (DFL.cons df2 DFL.nil)
          replace hsr := hsr.upL hs168 (DFL.cons df3 DFL.nil)
          replace vx := vx.upL hs168 (DL.cons dj8.symm DL.nil)
          replace vy := vy.upL hs168 (DL.cons dj13.symm DL.nil)
          replace ow54 := ow54.upL hs168 (DL.cons dj22.symm DL.nil)
          replace ow62 := ow62.upL hs168 (DL.cons dj33.symm DL.nil)
          replace hm0 := (Mo.trL (ks := []) (hm0.mdn []) hs168 (MIL.cons (MI.app MI.z (nx4) (Nat.le_refl _)) MIL.nil)).nil
          have hz27 := hs168.size
          obtain ⟨⟨K168, hA168⟩, hup168, _⟩ := hR168
          replace hup168 := hup168 (hg.ok (fun i hi => by
            simp only [List.mem_cons, List.not_mem_nil, or_false] at hi
            rcases hi with rfl | rfl
            · exact ⟨xa, by omega, rfl⟩
            · exact ⟨yb, by omega, rfl⟩) hA168)
          refine LR.v (Y.move rfl rfl) (Wd.u rfl) rfl rfl ?_
          refine LR.v (Y.extract rfl rfl rfl) (Wd.u rfl) rfl rfl ?_
          refine LR.v (Y.extract rfl rfl rfl) (Wd.u rfl) rfl rfl ?_
          refine LR.v (Y.assign rfl rfl) (Wd.u rfl) rfl rfl ?_
          refine LR.v (Y.assign rfl rfl) (Wd.u rfl) rfl rfl ?_
          refine LR.nil ?_
          refine hK55 _ _ ?_
          refine CW.seq (fun K56 hK56 hE56 => ?_)
          refine CW.region_draw rfl (by kernel_rfl) ?_
          refine LR.v (Y.move rfl rfl) (Wd.u rfl) rfl rfl ?_
          refine LR.v (Y.not rfl rfl) (Wd.u rfl) rfl rfl ?_
          refine LR.v (Y.move rfl rfl) (Wd.u rfl) rfl rfl ?_
          refine LR.split (d := 173) rfl (fun g173 => ?_) (fun g173 => ?_)
          ·
            refine LR.gs rfl rfl rfl rfl rfl rfl ?_
            refine LR.gs rfl rfl rfl rfl rfl rfl ?_
            refine LR.gs rfl rfl rfl rfl rfl rfl ?_
            refine LR.gs rfl rfl rfl rfl rfl rfl ?_
            refine LR.gsu rfl rfl rfl rfl rfl ?_
            refine LR.gsu rfl rfl rfl rfl rfl ?_
            refine LR.gsu rfl rfl rfl rfl rfl ?_
            refine LR.gsu rfl rfl rfl rfl rfl ?_
            refine LR.gsu rfl rfl rfl rfl rfl ?_
            refine LR.gs rfl rfl rfl rfl rfl rfl ?_
            refine LR.v (Y.pick_t rfl rfl rfl) (Wd.u rfl) rfl rfl ?_
            refine LR.v (Y.assign rfl rfl) (Wd.u rfl) rfl rfl ?_
            refine LR.nil ?_
            refine hK56 _ _ ?_
            refine CW.ret (hret .ret (.inr rfl) _ _ _ (res1 rfl rfl) ?_)
            exact ⟨rfl, hm0⟩
          ·
            have hone := bas_up hg.ac hris hbm (hup168.1 (by simpa using g173))
            refine LR.v (Y.move rfl rfl) (Wd.g rfl rfl rfl) rfl rfl ?_
            refine LR.v (Y.len ow54.rd rfl Try.runUnderlying28 rfl) (Wd.g rfl rfl rfl) rfl rfl ?_
            refine LR.v ((Y.eql rfl rfl rfl).isT (by rw [hone]; rfl)) (Wd.g rfl rfl rfl) rfl rfl ?_
            refine LR.v (Y.move rfl rfl) (Wd.g rfl rfl rfl) rfl rfl ?_
            refine LR.v (Y.move rfl rfl) (Wd.g rfl rfl rfl) rfl rfl ?_
            refine LR.v (Y.owAddr ow54 (0) rfl Try.runUnderlying28 Try.sizeOf30 rfl rfl (by first | rfl | omega) (by rw [hone]; simp)) (Wd.g rfl rfl rfl) rfl rfl ?_
            refine LR.v (Y.cast (v2 := vA (idn xa)) (Y.loadN (ow54.pt (j := 0) (by rw [hone]; simp)) rfl Try.isAgg30 Try.sizeOf30 (fA_len _) rfl) (el0 hone (by rw [hone]; simp) rfl)) (Wd.g rfl rfl rfl) rfl rfl ?_
            refine LR.v (Y.loadN vx.pt rfl Try.isAgg30 Try.sizeOf30 (fA_len _) rfl) (Wd.g rfl rfl rfl) rfl rfl ?_
            refine LR.v ((Y.aeql rfl Try.eqGuardType30 (fun w => run_equalIn_id 9998 Try.underlying30 Try.underlying5 Try.sizeOf5 Try.isAgg5 ((idn xa).2) ((idn xa).2) w) rfl rfl).isT (rfl)) (Wd.g rfl rfl rfl) rfl rfl ?_
            refine LR.v (Y.pick_t rfl rfl rfl) (Wd.g rfl rfl rfl) rfl rfl ?_
            refine LR.v (Y.pick_f rfl rfl rfl) (Wd.u rfl) rfl rfl ?_
            refine LR.v (Y.assign rfl rfl) (Wd.u rfl) rfl rfl ?_
            refine LR.nil ?_
            refine hK56 _ _ ?_
            refine CW.ret (hret .ret (.inr rfl) _ _ _ (res1 rfl rfl) ?_)
            exact ⟨rfl, hm0⟩

end Go.Proofs.Ytepdhokpfecdnaa.GraV
