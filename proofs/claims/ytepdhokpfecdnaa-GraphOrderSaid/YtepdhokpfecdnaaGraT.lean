/-
  Each commit once, behind its parents.
-/
import Derived.Test.YtepdhokpfecdnaaGraS
namespace Go.Proofs.Ytepdhokpfecdnaa.GraT
open Go.Proofs.Ytepdhokpfecdnaa.E Go.RowKit Go.Proofs.Ytepdhokpfecdnaa.GraA Go.Proofs.Ytepdhokpfecdnaa.GraB Go.Proofs.Ytepdhokpfecdnaa.GraC Go.Proofs.Ytepdhokpfecdnaa.GraD Go.Proofs.Ytepdhokpfecdnaa.GraE Go.Proofs.Ytepdhokpfecdnaa.GraF Go.Proofs.Ytepdhokpfecdnaa.GraG Go.Proofs.Ytepdhokpfecdnaa.GraH Go.Proofs.Ytepdhokpfecdnaa.GraI Go.Proofs.Ytepdhokpfecdnaa.GraJ Go.Proofs.Ytepdhokpfecdnaa.GraK Go.Proofs.Ytepdhokpfecdnaa.GraL Go.Proofs.Ytepdhokpfecdnaa.GraM Go.Proofs.Ytepdhokpfecdnaa.GraN Go.Proofs.Ytepdhokpfecdnaa.GraO Go.Proofs.Ytepdhokpfecdnaa.GraP Go.Proofs.Ytepdhokpfecdnaa.GraQ Go.Proofs.Ytepdhokpfecdnaa.GraR Go.Proofs.Ytepdhokpfecdnaa.GraS
set_option maxRecDepth 20000
set_option linter.unusedVariables false
set_option linter.unusedSimpArgs false
set_option linter.unusedSectionVars false
set_option maxRecDepth 100000 in
theorem inf38 : Inf Try.prog 38 3 1 8 := ⟨Try.underlying38, _, _, rfl, rfl, rfl, rfl, rfl⟩

section
variable {P : Program} {w0 : World} {n : Nat} {l : FL} {H : Heap} {o : Oper}
theorem _root_.Go.Proofs.Ytepdhokpfecdnaa.E.Y.bneq {x y : Operand} {t u : TypeId} {a b : Bool} (ho : o.op = .binOp .neq t x y u) (ht : P.underlying t = some .bool) (hx : opv l x = some (.bool a)) (hy : opv l y = some (.bool b)) : Y P w0 n l H o (.bool (decide (a ≠ b))) := by
  intro ac w hf ha
  have h := run_equalIn_bool' w 9999 t a b ht
  have h2 : (a == b) = decide (a = b) := by cases a <;> cases b <;> rfl
  rw [h2] at h
  simp [execOp, ho, hf.eval hx, hf.eval hy, binOp, eqGuard, Op.equal, Op.maxDepth, h]
end
theorem ord_le {g : List (List Nat)} (hg : GOk g) {fr un out : List Ide} (h : Ord (paL g) fr un out) (hf : ∀ i ∈ fr, ∃ a, a < g.length ∧ i = idn a) : out.length ≤ g.length := by
  obtain ⟨hd, hm⟩ := ord_mem h
  have := nodup_le (b := allI g.length) hd (fun k hk => by
    obtain ⟨⟨i, hi, hu⟩, _⟩ := (hm k).1 hk
    obtain ⟨a, ha, rfl⟩ := hf i hi
    obtain ⟨b, hb, rfl⟩ := GOk.up hg ha hu
    exact List.mem_map.2 ⟨b, by simp; omega, rfl⟩)
  simpa using this
/-- where a name stands among the first j, and one; 0: nowhere -/
def posL (o : List Ide) (x : Ide) (j : Nat) : Nat := (List.range j).foldl (fun r t => if o[t]? = some x then t + 1 else r) 0
/-- how often -/
def tmL (o : List Ide) (x : Ide) (j : Nat) : Nat := (List.range j).foldl (fun r t => if o[t]? = some x then r + 1 else r) 0
section
variable {o : List Ide} {x : Ide} {j : Nat}
theorem posL_succ : posL o x (j + 1) = if o[j]? = some x then j + 1 else posL o x j := by unfold posL; rw [List.range_succ, List.foldl_append]; rfl
theorem tmL_succ : tmL o x (j + 1) = if o[j]? = some x then tmL o x j + 1 else tmL o x j := by unfold tmL; rw [List.range_succ, List.foldl_append]; rfl
theorem pos_spec (hd : o.Nodup) : ∀ j, j ≤ o.length → (posL o x j = 0 ∧ tmL o x j = 0 ∧ ∀ t, t < j → o[t]? ≠ some x) ∨ ∃ t, t < j ∧ posL o x j = t + 1 ∧ tmL o x j = 1 ∧ o[t]? = some x
  | 0, _ => .inl ⟨rfl, rfl, fun t h => by omega⟩
  | j + 1, hj => by
    rw [posL_succ, tmL_succ]
    by_cases hx : o[j]? = some x
    · rw [if_pos hx, if_pos hx]
      rcases pos_spec hd j (by omega) with ⟨_, h2, h3⟩ | ⟨t, ht, _, _, h3⟩
      · exact .inr ⟨j, by omega, rfl, by rw [h2], hx⟩
      · have h4 : t < o.length := by omega
        have h5 : j < o.length := by omega
        rw [List.getElem?_eq_getElem h4] at h3
        rw [List.getElem?_eq_getElem h5] at hx
        have := (List.getElem_inj hd).1 ((Option.some.inj h3).trans (Option.some.inj hx).symm)
        omega
    · rw [if_neg hx, if_neg hx]
      rcases pos_spec hd j (by omega) with ⟨h1, h2, h3⟩ | ⟨t, ht, h1, h2, h3⟩
      · refine .inl ⟨h1, h2, fun t ht => ?_⟩
        by_cases e : t = j
        · rw [e]; exact hx
        · exact h3 t (by omega)
      · exact .inr ⟨t, by omega, h1, h2, h3⟩
theorem pos_mem (hd : o.Nodup) : tmL o x o.length ≤ 1 ∧ (tmL o x o.length = 1 ↔ x ∈ o) := by
  rcases pos_spec (x := x) hd o.length (Nat.le_refl _) with ⟨_, h2, h3⟩ | ⟨t, ht, _, h2, h3⟩
  · refine ⟨by omega, fun h => by omega, fun h => ?_⟩
    obtain ⟨t, ht, e⟩ := List.getElem_of_mem h
    exact absurd (by rw [List.getElem?_eq_getElem ht, e]) (h3 t ht)
  · exact ⟨by omega, fun _ => List.mem_of_getElem? h3, fun _ => h2⟩
end
/-- where the first n commits stand, and the n-th among the first j -/
def atR (o : List Ide) (N n j : Nat) : List Nat := (List.range N).map (fun m => if m < n then posL o (idn m) o.length else if m = n then posL o (idn m) j else 0)
section
variable {o : List Ide} {N n j : Nat}
theorem atR_len : (atR o N n j).length = N := by simp [atR]
theorem atR_zero : atR o N 0 0 = List.replicate N 0 := by
  refine List.ext_getElem (by simp [atR]) (fun i h1 h2 => ?_)
  simp only [atR, List.getElem_map, List.getElem_range, List.getElem_replicate]
  by_cases h : i = 0
  · subst h; rfl
  · rw [if_neg (by omega), if_neg h]
theorem atR_next : atR o N (n + 1) 0 = atR o N n o.length := by
  refine List.ext_getElem (by simp [atR]) (fun i h1 h2 => ?_)
  simp only [atR, List.getElem_map, List.getElem_range]
  by_cases h : i < n
  · rw [if_pos (by omega), if_pos h]
  · by_cases h2 : i = n
    · rw [if_pos (by omega), if_neg h, if_pos h2]
    · rw [if_neg (by omega), if_neg h, if_neg h2]
      by_cases h3 : i = n + 1
      · rw [if_pos h3]; rfl
      · rw [if_neg h3]
theorem atR_hit (h : o[j]? = some (idn n)) : (atR o N n j).set n (j + 1) = atR o N n (j + 1) := by
  refine List.ext_getElem (by simp [atR]) (fun i h1 h2 => ?_)
  rw [List.getElem_set]
  simp only [atR, List.getElem_map, List.getElem_range]
  by_cases h3 : n = i
  · subst h3
    rw [if_pos rfl, if_neg (by omega), if_pos rfl, posL_succ, if_pos h]
  · rw [if_neg h3]
    by_cases h4 : i < n
    · rw [if_pos h4, if_pos h4]
    · rw [if_neg h4, if_neg h4, if_neg (fun e => h3 e.symm), if_neg (fun e => h3 e.symm)]
theorem atR_miss (h : ¬ o[j]? = some (idn n)) : atR o N n (j + 1) = atR o N n j := by
  refine List.ext_getElem (by simp [atR]) (fun i h1 h2 => ?_)
  simp only [atR, List.getElem_map, List.getElem_range]
  by_cases h4 : i < n
  · rw [if_pos h4, if_pos h4]
  · rw [if_neg h4, if_neg h4]
    by_cases h5 : i = n
    · subst h5; rw [if_pos rfl, if_pos rfl, posL_succ, if_neg h]
    · rw [if_neg h5, if_neg h5]
theorem atR_end (h : n < (atR o N N 0).length) : (atR o N N 0)[n] = posL o (idn n) o.length := by
  simp only [atR, List.getElem_map, List.getElem_range]
  rw [atR_len] at h
  rw [if_pos h]
end
theorem ord_pos {g : List (List Nat)} (hg : GOk g) {fr un out : List Ide} (h : Ord (paL g) fr un out) {n k : Nat} (hn : n < g.length) (hk : k ∈ g[n]) : posL out (idn n) out.length = 0 ∨ posL out (idn k) out.length ≤ posL out (idn n) out.length := by
  obtain ⟨hd, hm⟩ := ord_mem h
  obtain ⟨K, S, hA, hT, hS⟩ := h
  rcases pos_spec (x := idn n) hd out.length (Nat.le_refl _) with ⟨h1, _⟩ | ⟨t, ht, h1, _, h3⟩
  · exact .inl h1
  · right
    rcases pos_spec (x := idn k) hd out.length (Nat.le_refl _) with ⟨h4, _⟩ | ⟨u, hu, h4, _, h6⟩
    · omega
    · rw [List.getElem?_eq_getElem ht] at h3
      rw [List.getElem?_eq_getElem hu] at h6
      have h3 := Option.some.inj h3
      have h6 := Option.some.inj h6
      have hnS : idn n ∈ S := hT.dsub _ (by rw [← h3]; exact List.getElem_mem ht)
      have hkS : idn k ∈ S := hT.dsub _ (by rw [← h6]; exact List.getElem_mem hu)
      have hnK : idn n ∈ K := by
        obtain ⟨⟨i, hi, hui⟩, _⟩ := (hS _).1 hnS
        exact up_in hA ((all0 hA).2.2.1 i (List.mem_append_left _ hi)) hui
      have hpp : idn k ∈ cpa (paL g) K out[t] := by
        have h9 := cpa_in hA hnK
        rw [GOk.pa hg hn] at h9
        rw [h3, ← Option.some.inj h9]
        exact List.mem_map.2 ⟨k, hk, rfl⟩
      have h7 := hT.par t ht _ hpp hkS
      obtain ⟨m, hml, hme⟩ := List.getElem_of_mem h7
      rw [List.length_take] at hml
      rw [List.getElem_take, ← h6] at hme
      have := (List.getElem_inj hd).1 hme
      omega
theorem bqT {p : Prop} [Decidable p] {bi bo : Bool} (h : p ↔ (bi = true ∧ bo = false)) (g : bi = true) : decide p = !bo := by
  subst g; cases bo
  · exact decide_eq_true (h.2 ⟨rfl, rfl⟩)
  · exact decide_eq_false (fun q => by cases (h.1 q).2)
theorem bqF {p : Prop} [Decidable p] {bi bo : Bool} (h : p ↔ (bi = true ∧ bo = false)) (g : bi = false) : decide p = false :=
  decide_eq_false (fun q => by rw [g] at h; cases (h.1 q).1)
/-- whether one of the first j leads to n -/
abbrev InL (g : List (List Nat)) (ps : List Nat) (n j : Nat) : Prop := ∃ x ∈ ps.take j, UpO (paL g) (idn x) (idn n)
section
variable {g : List (List Nat)} {ps : List Nat} {n j : Nat} {b u : Bool}
theorem inl_zero : (false = true) ↔ InL g ps n 0 := ⟨fun h => (by cases h), fun ⟨x, hx, _⟩ => (by simp at hx)⟩
theorem inl_t (h : b = true ↔ InL g ps n j) (hb : b = true) : (true = true) ↔ InL g ps n (j + 1) := by
  obtain ⟨x, hx, hu⟩ := h.1 hb
  exact ⟨fun _ => ⟨x, List.take_subset_take_left _ (by omega) hx, hu⟩, fun _ => rfl⟩
theorem inl_f (h : b = true ↔ InL g ps n j) (hb : b = false) (hj : j < ps.length) (hu : u = true ↔ UpO (paL g) (idn ps[j]) (idn n)) : u = true ↔ InL g ps n (j + 1) := by
  unfold InL
  rw [List.take_succ_eq_append_getElem hj]
  constructor
  · intro h1; exact ⟨_, List.mem_append_right _ (List.mem_singleton.2 rfl), hu.1 h1⟩
  · rintro ⟨x, hx, h1⟩
    rcases List.mem_append.1 hx with hx | hx
    · have := h.2 ⟨x, hx, h1⟩; rw [hb] at this; cases this
    · rw [List.mem_singleton.1 hx] at h1; exact hu.2 h1
theorem inl_all (h : b = true ↔ InL g ps n j) (hj : ps.length ≤ j) : b = true ↔ ∃ i ∈ ps.map idn, UpO (paL g) i (idn n) := by
  rw [h]
  unfold InL
  rw [List.take_of_length_le hj]
  exact ⟨fun ⟨x, hx, h1⟩ => ⟨_, List.mem_map.2 ⟨x, hx, rfl⟩, h1⟩, fun ⟨i, hi, h1⟩ => by obtain ⟨x, hx, rfl⟩ := List.mem_map.1 hi; exact ⟨x, hx, h1⟩⟩
theorem el1 {l : List Nat} {j : Nat} (h : j < l.length) (h2 : j < (l.map idn).length) : (.agg (fA (l.map idn)[j]).toArray : Value) = vA (idn l[j]) := by rw [List.getElem_map]; rfl
theorem ord_in {o fr un : List Ide} {N : Int} {bi bo : Bool} (h : Ord (paL g) fr un o) (h1 : bi = true ↔ ∃ i ∈ fr, UpO (paL g) i (idn n)) (h2 : bo = true ↔ ∃ i ∈ un, UpO (paL g) i (idn n)) (hN : N = ((tmL o (idn n) o.length : Nat) : Int)) : (N = 1 ↔ (bi = true ∧ bo = false)) := by
  obtain ⟨hd, hm⟩ := ord_mem h
  have h3 : tmL o (idn n) o.length = 1 ↔ idn n ∈ o := (pos_mem hd).2
  rw [hN, show (((tmL o (idn n) o.length : Nat) : Int) = 1 ↔ tmL o (idn n) o.length = 1) by omega, h3, hm, ← h1, ← h2]
  cases bo <;> simp
end

set_option maxHeartbeats 8000000 in
theorem gord_ct (vl : Value) (li : List (SV × List Int)) (vf : Value) (lf : List Int) (vu : Value) (lu : List Int) (w0 : World) (H0 : Heap)
    (hl : RdT H0 fPi 1 vl li) (hlx : ∀ x ∈ li, RdT H0 fI 1 x.1.v x.2) (hi64 : ∀ x ∈ li, ∀ a ∈ x.2, i64b a) (hf : RdT H0 fI 1 vf lf) (hf64 : ∀ a ∈ lf, i64b a) (hu : RdT H0 fI 1 vu lu) (hu64 : ∀ a ∈ lu, i64b a) :
    Ct Try.prog w0 4 #[vl, vf, vu] H0 (fun r H2 => r = .bool true ∧ Nw H0 H2) := by
  refine Ct.enter (args := [vl, vf, vu]) Try.func4 rfl rfl rfl ?_
  intro Q0 hret
  have hm0 : Nw H0 H0 := Mo.refl _ _
  replace hl := hl.bnd
  have bf_hl := hl.bf
  replace hlx := fun x h_ => (hlx x h_).bnd
  have bf_hlx : BF (fun b => True ∧ b < H0.size) H0.size := fun b h => h.2
  replace hf := hf.bnd
  have bf_hf := hf.bf
  replace hu := hu.bnd
  have bf_hu := hu.bf
  refine CW.seq (fun K1 hK1 hE1 => ?_)
  refine CW.region ?_
  refine LR.v (Y.assign rfl rfl) (Wd.u rfl) rfl rfl ?_
  refine LR.nil ?_
  refine hK1 _ _ ?_
  refine CW.seq (fun K2 hK2 hE2 => ?_)
  refine CW.seq (fun K3 hK3 hE3 => ?_)
  refine CW.region ?_
  -- call selvage/selvagelaw11.known
  refine LR.call rfl Try.call10 rfl (Wd.u rfl) rfl rfl (known_ct w0 _) (fun v26 H26 r26 => ?_)
  obtain ⟨rfl, hs26⟩ := r26
  replace hl := hl.nw hs26
  replace hlx := fun x h_ => (hlx x h_).nw hs26
  replace hf := hf.nw hs26
  replace hu := hu.nw hs26
  replace hm0 := hm0.tr hs26
  have hz1 := hs26.size
  refine LR.v (Y.not rfl rfl) (Wd.u rfl) rfl rfl ?_
  refine LR.nil ?_
  refine hK3 _ _ ?_
  refine CW.cond_f rfl ?_
  refine CW.skip ?_
  refine hK2 _ _ ?_
  refine CW.seq (fun K4 hK4 hE4 => ?_)
  refine CW.region ?_
  refine LR.v (Y.move rfl rfl) (Wd.u rfl) rfl rfl ?_
  -- call selvage/selvagelaw11.Rows
  refine LR.call rfl Try.call11 rfl (Wd.u rfl) rfl rfl (rows_ct vl li w0 _ hl.any (fun x hx => (hlx x hx).any) hi64) (fun v29 H29 r29 => ?_)
  obtain ⟨sR, out, rfl, hsr, hR, hs29⟩ := r29
  replace hl := hl.nw hs29
  replace hlx := fun x h_ => (hlx x h_).nw hs29
  replace hf := hf.nw hs29
  replace hu := hu.nw hs29
  replace hm0 := hm0.tr hs29
  have hz2 := hs29.size
  replace hsr := hsr.bnd
  have bf_hsr := hsr.bf
  have hg : GOk (out.map Rw.l) := hR.g
  have hol := hR.le
  refine LR.v (Y.assign rfl rfl) (Wd.u rfl) rfl rfl ?_
  refine LR.nil ?_
  refine hK4 _ _ ?_
  refine CW.seq (fun K5 hK5 hE5 => ?_)
  refine CW.seq (fun K6 hK6 hE6 => ?_)
  refine CW.region ?_
  refine LR.v (Y.move rfl rfl) (Wd.u rfl) rfl rfl ?_
  refine LR.v (Y.len (hsr.l _ _ rfl) rfl Try.runUnderlying22 rfl) (Wd.u rfl) rfl rfl ?_
  refine LR.v (Y.eql rfl rfl rfl) (Wd.u rfl) rfl rfl ?_
  refine LR.nil ?_
  refine hK6 _ _ ?_
  refine CW.condp rfl (fun c32 => ?_) (fun c32 => ?_)
  ·
    refine CW.seq (fun K7 hK7 hE7 => ?_)
    refine CW.region ?_
    refine LR.v (Y.assign rfl rfl) (Wd.u rfl) rfl rfl ?_
    refine LR.nil ?_
    refine hK7 _ _ ?_
    refine CW.ret (hE5 .ret nofun _ _ (hret .ret (.inr rfl) _ _ _ (res1 rfl rfl) ?_))
    exact ⟨rfl, hm0⟩
  ·
    refine CW.skip ?_
    refine hK5 _ _ ?_
    refine CW.seq (fun K8 hK8 hE8 => ?_)
    refine CW.region ?_
    refine LR.v (Y.move rfl rfl) (Wd.u rfl) rfl rfl ?_
    refine LR.v (Y.build (v := .agg #[sR.v, .int .i64 0]) rfl rfl (by intro w; kernel_rfl)) (Wd.u rfl) rfl rfl ?_
    refine LR.z (Z.boxv rfl rfl) (Wd.u rfl) rfl rfl (fun v35 H35 r35 => ?_)
    obtain ⟨rfl, hv, hs35, ob35, hH35⟩ := r35
    have hzs35 : H35.size = H29.size + 1 := by rw [hH35]; simp
    have df1 := (DF.new (bf_hl.mono hm0.size) : DF _ (H29.size + 1))
    have df2 := (DF.new (bf_hlx.mono hm0.size) : DF _ (H29.size + 1))
    have df3 := (DF.new (bf_hf.mono hm0.size) : DF _ (H29.size + 1))
    have df4 := (DF.new (bf_hu.mono hm0.size) : DF _ (H29.size + 1))
    have df5 := (DF.new (bf_hsr.mono (by omega)) : DF _ (H29.size + 1))
    have nx6 : Nx 0 H0.size (H29.size + 1) := Nx.new hm0.size
    replace hl := hl.nw hs35
    replace hlx := fun x h_ => (hlx x h_).nw hs35
    replace hf := hf.nw hs35
    replace hu := hu.nw hs35
    replace hsr := hsr.nw hs35
    replace hm0 := hm0.tr hs35
    have hz3 := hs35.size
    replace hv : Var 27 H35 H29.size ([sR.v, .int .i64 ((0 : Nat) : Int)]) := hv
    refine LR.v (Y.assign rfl rfl) (Wd.u rfl) rfl rfl ?_
    refine LR.nil ?_
    refine hK8 _ _ ?_
    refine CW.seq (fun K9 hK9 hE9 => ?_)
    refine CW.region ?_
    refine LR.v (Y.move rfl rfl) (Wd.u rfl) rfl rfl ?_
    refine LR.v (Y.move rfl rfl) (Wd.u rfl) rfl rfl ?_
    refine LR.v (Y.len (hsr.l _ _ rfl) rfl Try.runUnderlying22 rfl) (Wd.u rfl) rfl rfl ?_
    refine LR.v (Y.cast (v2 := .int .i64 ((out.length - 1 : Nat) : Int)) (Y.subi rfl rfl rfl (by omega)) (ivv (by omega))) (Wd.u rfl) rfl rfl ?_
    -- call selvage/selvagelaw11.some
    refine LR.call rfl Try.call15 rfl (Wd.u rfl) rfl rfl (some_ct vf lf (out.length - 1) w0 _ hf.any hf64 (by omega)) (fun v40 H40 r40 => ?_)
    obtain ⟨s40, k40, ps, rfl, ow40, hk40, hp40, hs40⟩ := r40
    have df7 := DF.app (DF.z) (bf_hl.mono hm0.size) hk40
    have df8 := DF.app (DF.z) (bf_hlx.mono hm0.size) hk40
    have df9 := DF.app (DF.z) (bf_hf.mono hm0.size) hk40
    have df10 := DF.app (DF.z) (bf_hu.mono hm0.size) hk40
    have df11 := DF.app (DF.z) (bf_hsr.mono (by omega)) hk40
    have dj12 : Dj (H29.size + 1) k40 := Dj.app (Dj.z) hv.lt hk40
    have nx13 : Nx 0 H0.size k40 := Nx.tr (Nx.refl 0 _) hk40 hm0.size
    replace hl := hl.nw hs40
    replace hlx := fun x h_ => (hlx x h_).nw hs40
    replace hf := hf.nw hs40
    replace hu := hu.nw hs40
    replace hsr := hsr.nw hs40
    replace hv := hv.nw hs40
    replace hm0 := hm0.tr hs40
    have hz4 := hs40.size
    have hle_ow40 := ow40.le
    have hgl : (out.map Rw.l).length = out.length := List.length_map _
    have hlti : ∀ b ∈ ps, b < (out.map Rw.l).length := fun b hb => by have := hp40.2 b hb; omega
    have hpl := hp40.1
    refine LR.v (Y.move rfl rfl) (Wd.u rfl) rfl rfl ?_
    refine LR.v (Y.move rfl rfl) (Wd.u rfl) rfl rfl ?_
    refine LR.v (Y.len (hsr.l _ _ rfl) rfl Try.runUnderlying22 rfl) (Wd.u rfl) rfl rfl ?_
    refine LR.v (Y.cast (v2 := .int .i64 ((out.length - 1 : Nat) : Int)) (Y.subi rfl rfl rfl (by omega)) (ivv (by omega))) (Wd.u rfl) rfl rfl ?_
    -- call selvage/selvagelaw11.some
    refine LR.call rfl Try.call15 rfl (Wd.u rfl) rfl rfl (some_ct vu lu (out.length - 1) w0 _ hu.any hu64 (by omega)) (fun v45 H45 r45 => ?_)
    obtain ⟨s45, k45, qs, rfl, ow45, hk45, hp45, hs45⟩ := r45
    have df14 := DF.app (DF.z) (bf_hl.mono hm0.size) hk45
    have df15 := DF.app (DF.z) (bf_hlx.mono hm0.size) hk45
    have df16 := DF.app (DF.z) (bf_hf.mono hm0.size) hk45
    have df17 := DF.app (DF.z) (bf_hu.mono hm0.size) hk45
    have df18 := DF.app (DF.z) (bf_hsr.mono (by omega)) hk45
    have dj19 : Dj (H29.size + 1) k45 := Dj.app (Dj.z) hv.lt hk45
    have dj20 : Dj k40 k45 := Dj.app (Dj.z) ow40.le hk45
    have nx21 : Nx 0 H0.size k45 := Nx.tr (Nx.refl 0 _) hk45 hm0.size
    replace hl := hl.nw hs45
    replace hlx := fun x h_ => (hlx x h_).nw hs45
    replace hf := hf.nw hs45
    replace hu := hu.nw hs45
    replace hsr := hsr.nw hs45
    replace hv := hv.nw hs45
    replace ow40 := ow40.nw hs45
    replace hm0 := hm0.tr hs45
    have hz5 := hs45.size
    have hle_ow45 := ow45.le
    have hltk : ∀ b ∈ qs, b < (out.map Rw.l).length := fun b hb => by have := hp45.2 b hb; omega
    have hql := hp45.1
    refine LR.v (Y.assign rfl rfl) (Wd.u rfl) rfl rfl ?_
    refine LR.v (Y.assign rfl rfl) (Wd.u rfl) rfl rfl ?_
    refine LR.nil ?_
    refine hK9 _ _ ?_
    refine CW.seq (fun K10 hK10 hE10 => ?_)
    refine CW.region ?_
    refine LR.v (Y.move rfl rfl) (Wd.u rfl) rfl rfl ?_
    refine LR.v (Y.mki rfl Try.runUnderlying25 (by intro ms h; cases h) rfl) (Wd.u rfl) rfl rfl ?_
    refine LR.v (Y.move rfl rfl) (Wd.u rfl) rfl rfl ?_
    refine LR.v (Y.move rfl rfl) (Wd.u rfl) rfl rfl ?_
    -- call selvage/graph.Order
    refine LR.call rfl Try.call13 rfl (Wd.u rfl) rfl rfl (ord_ct (Sou.rows sR out) H29.size 0 _ s40 s45 (ps.map idn) (qs.map idn) (rkL (out.map Rw.l)) w0 _ hv hsr (bf_hsr.mono (by omega)) (df5) hR.ok (by omega) (Ow.ne ow40 (dj12)) (Ow.ne ow45 (dj19)) (by simp; omega) hg.ac) (fun v51 H51 r51 => ?_)
    have ql22 := hv.lt
    have ql23 := ow40.le
    have ql24 := ow45.le
    obtain ⟨s51, k51, o51, e51, q51, rfl, ow51, hk51, hv, hR51, hq51, hs51⟩ := r51
    have df25 := DF.app (DF.z) (bf_hl.mono hm0.size) hk51
    have df26 := DF.app (DF.z) (bf_hlx.mono hm0.size) hk51
    have df27 := DF.app (DF.z) (bf_hf.mono hm0.size) hk51
    have df28 := DF.app (DF.z) (bf_hu.mono hm0.size) hk51
    have df29 := DF.app (DF.z) (bf_hsr.mono (by omega)) hk51
    have dj30 : Dj (H29.size + 1) k51 := Dj.app (Dj.z) ql22 hk51
    have dj31 : Dj k40 k51 := Dj.app (Dj.z) ql23 hk51
    have dj32 : Dj k45 k51 := Dj.app (Dj.z) ql24 hk51
    have nx33 : Nx 0 H0.size k51 := Nx.tr (Nx.refl 0 _) hk51 hm0.size
    replace hl := hl.upL hs51 (DFL.cons df1 DFL.nil)
    replace hlx := fun x h_ => (hlx x h_).upL hs51 (DFL.cons df2 DFL.nil)
    replace hf := hf.upL hs51 (DFL.cons df3 DFL.nil)
    replace hu := hu.upL hs51 (DFL.cons df4 DFL.nil)
    replace hsr := hsr.upL hs51 (DFL.cons df5 DFL.nil)
    replace ow40 := ow40.upL hs51 (DL.cons dj12.symm DL.nil)
    replace ow45 := ow45.upL hs51 (DL.cons dj19.symm DL.nil)
    replace hm0 := (Mo.trL (ks := []) (hm0.mdn []) hs51 (MIL.cons (MI.app MI.z (nx6) (Nat.le_refl _)) MIL.nil)).nil
    have hz6 := hs51.size
    have hle_ow51 := ow51.le
    obtain ⟨he51, ho51⟩ := ord_ok hR51 (fun K h => hg.ok (fun i hi => by
      simp only [List.mem_append, List.mem_map] at hi
      rcases hi with ⟨b, hb, rfl⟩ | ⟨b, hb, rfl⟩
      · exact ⟨b, hlti b hb, rfl⟩
      · exact ⟨b, hltk b hb, rfl⟩) h)
    obtain ⟨hnd51, hmm51⟩ := ord_mem ho51
    have hol51 := ord_le hg ho51 (fun i hi => by
      obtain ⟨b, hb, rfl⟩ := List.mem_map.1 hi
      exact ⟨b, hlti b hb, rfl⟩)
    refine LR.v (Y.move rfl rfl) (Wd.u rfl) rfl rfl ?_
    refine LR.v (Y.extract rfl rfl rfl) (Wd.u rfl) rfl rfl ?_
    refine LR.v (Y.extract rfl rfl rfl) (Wd.u rfl) rfl rfl ?_
    refine LR.v (Y.assign rfl rfl) (Wd.u rfl) rfl rfl ?_
    refine LR.v (Y.assign rfl rfl) (Wd.u rfl) rfl rfl ?_
    refine LR.nil ?_
    refine hK10 _ _ ?_
    refine CW.seq (fun K11 hK11 hE11 => ?_)
    refine CW.seq (fun K12 hK12 hE12 => ?_)
    refine CW.region ?_
    refine LR.v (Y.move rfl rfl) (Wd.u rfl) rfl rfl ?_
    refine LR.v ((Y.ene rfl Try.underlying33 rfl).isF (fun h => h he51)) (Wd.u rfl) rfl rfl ?_
    refine LR.nil ?_
    refine hK12 _ _ ?_
    refine CW.cond_f rfl ?_
    refine CW.skip ?_
    refine hK11 _ _ ?_
    refine CW.seq (fun K13 hK13 hE13 => ?_)
    refine CW.region ?_
    refine LR.v (Y.move rfl rfl) (Wd.u rfl) rfl rfl ?_
    refine LR.v (Y.len (hsr.l _ _ rfl) rfl Try.runUnderlying22 rfl) (Wd.u rfl) rfl rfl ?_
    refine LR.z (Z.makew (out.length) (0) rfl inf38 Try.zeroValue3 rfl fN_len fN_one rfl rfl (by first | rfl | omega) (by omega) (by omega)) (Wd.u rfl) rfl rfl (fun v58 H58 r58 => ?_)
    obtain ⟨oat, hs58, ob58, hH58⟩ := r58
    have hzs58 : H58.size = H51.size + 1 := by rw [hH58]; simp
    have df34 := (DF.new (bf_hl.mono hm0.size) : DF _ (H51.size + 1))
    have df35 := (DF.new (bf_hlx.mono hm0.size) : DF _ (H51.size + 1))
    have df36 := (DF.new (bf_hf.mono hm0.size) : DF _ (H51.size + 1))
    have df37 := (DF.new (bf_hu.mono hm0.size) : DF _ (H51.size + 1))
    have df38 := (DF.new (bf_hsr.mono (by omega)) : DF _ (H51.size + 1))
    have dj39 : Dj (H29.size + 1) (H51.size + 1) := Dj.new hv.lt
    have dj40 : Dj k40 (H51.size + 1) := Dj.new ow40.le
    have dj41 : Dj k45 (H51.size + 1) := Dj.new ow45.le
    have dj42 : Dj k51 (H51.size + 1) := Dj.new ow51.le
    have nx43 : Nx 0 H0.size (H51.size + 1) := Nx.new hm0.size
    replace hl := hl.nw hs58
    replace hlx := fun x h_ => (hlx x h_).nw hs58
    replace hf := hf.nw hs58
    replace hu := hu.nw hs58
    replace hsr := hsr.nw hs58
    replace hv := hv.nw hs58
    replace ow40 := ow40.nw hs58
    replace ow45 := ow45.nw hs58
    replace ow51 := ow51.nw hs58
    replace hm0 := hm0.tr hs58
    have hz7 := hs58.size
    refine LR.v (Y.assign rfl rfl) (Wd.u rfl) rfl rfl ?_
    refine LR.nil ?_
    refine hK13 _ _ ?_
    refine CW.seq (fun K14 hK14 hE14 => ?_)
    refine CW.seq (fun K15 hK15 hE15 => ?_)
    refine CW.region ?_
    refine LR.v (Y.assign rfl rfl) (Wd.u rfl) rfl rfl ?_
    refine LR.nil ?_
    refine hK15 _ _ ?_
    refine CW.block (fun K16 hK16 hX16 hE16 => ?_)
    refine CW.loop (fun (s_ : (Nat) × (Nat)) => match s_ with | (n, q) => [(0, sR.v), (7, .pointer (some ⟨H29.size, 0, none⟩)), (8, s40.v), (9, s45.v), (10, s51.v), (12, v58), (13, .int .i64 (n : Int))])
      (fun (s_ : (Nat) × (Nat)) (H : Heap) => match s_ with | (n, q) => (Var (Sou.rows sR out).e H H29.size ((Sou.rows sR out).cs q)) ∧ (Ow (H51.size + 1) 3 H fN 1 v58 (atR o51 out.length n 0)) ∧ (n ≤ out.length) ∧ (q ≤ 5001 + n * 100020) ∧ (Nx (H51.size + 1) H58.size ((H51.size + 1))) ∧ (Dj (H29.size + 1) ((H51.size + 1))) ∧ Mo (Ms [(H29.size + 1), (H51.size + 1)]) H58 H)
      (fun (s_ : (Nat) × (Nat)) => match s_ with | (n, q) => out.length - n) (0, q51) ⟨rfl, rfl, rfl, rfl, rfl, rfl, rfl, trivial⟩ ?_ ?_
    ·
      exact ⟨hv, by rw [atR_zero]; exact oat, (by omega), (by omega), Nx.refl _ _, dj39, Mo.refl _ _⟩
    rintro ⟨n, q⟩ HL1 hI1 K17 hN17 hE17
    obtain ⟨hv, oat, hn, bq1, nxl_oat, dj_hv_oat, hlm1⟩ := hI1
    have df44 := DF.app (df34) (bf_hl.mono hm0.size) nxl_oat
    have df45 := DF.app (df35) (bf_hlx.mono hm0.size) nxl_oat
    have df46 := DF.app (df36) (bf_hf.mono hm0.size) nxl_oat
    have df47 := DF.app (df37) (bf_hu.mono hm0.size) nxl_oat
    have df48 := DF.app (df38) (bf_hsr.mono (by omega)) nxl_oat
    have dj49 : Dj k40 ((H51.size + 1)) := Dj.app (dj40) ow40.le nxl_oat
    have dj50 : Dj k45 ((H51.size + 1)) := Dj.app (dj41) ow45.le nxl_oat
    have dj51 : Dj k51 ((H51.size + 1)) := Dj.app (dj42) ow51.le nxl_oat
    have nx52 : Nx 0 H0.size ((H51.size + 1)) := Nx.tr (nx43) nxl_oat hm0.size
    replace hl := hl.upL hlm1 (DFL.cons df1 (DFL.cons df34 DFL.nil))
    replace hlx := fun x h_ => (hlx x h_).upL hlm1 (DFL.cons df2 (DFL.cons df35 DFL.nil))
    replace hf := hf.upL hlm1 (DFL.cons df3 (DFL.cons df36 DFL.nil))
    replace hu := hu.upL hlm1 (DFL.cons df4 (DFL.cons df37 DFL.nil))
    replace hsr := hsr.upL hlm1 (DFL.cons df5 (DFL.cons df38 DFL.nil))
    replace ow40 := ow40.upL hlm1 (DL.cons dj12.symm (DL.cons dj40 DL.nil))
    replace ow45 := ow45.upL hlm1 (DL.cons dj19.symm (DL.cons dj41 DL.nil))
    replace ow51 := ow51.upL hlm1 (DL.cons dj30.symm (DL.cons dj42 DL.nil))
    replace hm0 := (Mo.trL (ks := []) (hm0.mdn []) hlm1 (MIL.cons (MI.app MI.z (nx6) (Nat.le_refl _)) (MIL.cons (MI.app MI.z (nx43) (Nat.le_refl _)) MIL.nil))).nil
    have hz8 := hlm1.size
    have hle_oat := oat.le
    have dj53 := dj_hv_oat
    have nx_hlm1_hv := Nx.refl (H29.size + 1) H58.size
    have nx54 := nxl_oat
    refine CW.seq (fun K18 hK18 hE18 => ?_)
    refine CW.seq (fun K19 hK19 hE19 => ?_)
    refine CW.region ?_
    refine LR.v (Y.move rfl rfl) (Wd.u rfl) rfl rfl ?_
    refine LR.v (Y.move rfl rfl) (Wd.u rfl) rfl rfl ?_
    refine LR.v (Y.len (hsr.l _ _ rfl) rfl Try.runUnderlying22 rfl) (Wd.u rfl) rfl rfl ?_
    refine LR.v (Y.lss rfl rfl rfl) (Wd.u rfl) rfl rfl ?_
    refine LR.nil ?_
    refine hK19 _ _ ?_
    refine CW.condp rfl (fun c62 => ?_) (fun c62 => ?_)
    ·
      have hgl : (out.map Rw.l).length = out.length := List.length_map _
      have hgn : n < (out.map Rw.l).length := by omega
      refine CW.skip ?_
      refine hK18 _ _ ?_
      refine CW.seq (fun K20 hK20 hE20 => ?_)
      refine CW.block (fun K21 hK21 hX21 hE21 => ?_)
      refine CW.seq (fun K22 hK22 hE22 => ?_)
      refine CW.region ?_
      refine LR.v (Y.assign rfl rfl) (Wd.u rfl) rfl rfl ?_
      refine LR.v (Y.assign rfl rfl) (Wd.u rfl) rfl rfl ?_
      refine LR.nil ?_
      refine hK22 _ _ ?_
      refine CW.seq (fun K23 hK23 hE23 => ?_)
      refine CW.seq (fun K24 hK24 hE24 => ?_)
      refine CW.region ?_
      refine LR.v (Y.assign rfl rfl) (Wd.u rfl) rfl rfl ?_
      refine LR.nil ?_
      refine hK24 _ _ ?_
      refine CW.block (fun K25 hK25 hX25 hE25 => ?_)
      refine CW.loop (fun (s_ : (Nat) × (Bool) × (Nat)) => match s_ with | (j, bi, q) => [(0, sR.v), (7, .pointer (some ⟨H29.size, 0, none⟩)), (8, s40.v), (9, s45.v), (10, s51.v), (12, v58), (13, .int .i64 (n : Int)), (14, .bool bi), (15, .bool false), (16, .int .i64 (j : Int))])
        (fun (s_ : (Nat) × (Bool) × (Nat)) (H : Heap) => match s_ with | (j, bi, q) => (Var (Sou.rows sR out).e H H29.size ((Sou.rows sR out).cs q)) ∧ (bi = true ↔ InL (out.map Rw.l) ps n j) ∧ (j ≤ ps.length) ∧ (q ≤ 5001 + n * 100020 + j * 5001) ∧ Mo (Ms [(H29.size + 1)]) HL1 H)
        (fun (s_ : (Nat) × (Bool) × (Nat)) => match s_ with | (j, bi, q) => ps.length - j) (0, false, q) ⟨rfl, rfl, rfl, rfl, rfl, rfl, rfl, rfl, rfl, rfl, trivial⟩ ?_ ?_
      ·
        exact ⟨hv, inl_zero, (by omega), (by omega), Mo.refl _ _⟩
      rintro ⟨j, bi, q⟩ HL2 hI2 K26 hN26 hE26
      obtain ⟨hv, hbi, hj, bq2, hlm2⟩ := hI2
      replace hl := hl.upL hlm2 (DFL.cons df1 DFL.nil)
      replace hlx := fun x h_ => (hlx x h_).upL hlm2 (DFL.cons df2 DFL.nil)
      replace hf := hf.upL hlm2 (DFL.cons df3 DFL.nil)
      replace hu := hu.upL hlm2 (DFL.cons df4 DFL.nil)
      replace hsr := hsr.upL hlm2 (DFL.cons df5 DFL.nil)
      replace ow40 := ow40.upL hlm2 (DL.cons dj12.symm DL.nil)
      replace ow45 := ow45.upL hlm2 (DL.cons dj19.symm DL.nil)
      replace ow51 := ow51.upL hlm2 (DL.cons dj30.symm DL.nil)
      replace oat := oat.upL hlm2 (DL.cons dj53.symm DL.nil)
      replace hm0 := (Mo.trL (ks := []) (hm0.mdn []) hlm2 (MIL.cons (MI.app MI.z (nx6) (Nat.le_refl _)) MIL.nil)).nil
      replace hlm1 := hlm1.trL hlm2 (MIL.cons (MI.app (MI.root (by simp)) (nx_hlm1_hv) (Nat.le_refl _)) MIL.nil)
      have hz9 := hlm2.size
      have nx_hlm2_hv := Nx.refl (H29.size + 1) HL1.size
      refine CW.seq (fun K27 hK27 hE27 => ?_)
      refine CW.seq (fun K28 hK28 hE28 => ?_)
      refine CW.region ?_
      refine LR.v (Y.move rfl rfl) (Wd.u rfl) rfl rfl ?_
      refine LR.v (Y.move rfl rfl) (Wd.u rfl) rfl rfl ?_
      refine LR.v (Y.len ow40.rd rfl Try.runUnderlying28 rfl) (Wd.u rfl) rfl rfl ?_
      refine LR.v (Y.lss rfl rfl rfl) (Wd.u rfl) rfl rfl ?_
      refine LR.nil ?_
      refine hK28 _ _ ?_
      refine CW.condp rfl (fun c68 => ?_) (fun c68 => ?_)
      ·
        have hjl : j < ps.length := by simp at c68; omega
        refine CW.skip ?_
        refine hK27 _ _ ?_
        refine CW.seq (fun K29 hK29 hE29 => ?_)
        refine CW.block (fun K30 hK30 hX30 hE30 => ?_)
        refine CW.seq (fun K31 hK31 hE31 => ?_)
        refine CW.region_any (fun Hq => Mo (Ms [(H29.size + 1)]) HL2 Hq) [] rfl ?_
        have hq19 : Mo (Ms [(H29.size + 1)]) HL2 HL2 := Mo.refl _ _
        have nx55 := Nx.refl (H29.size + 1) HL2.size
        refine LH.take 0 (by kernel_rfl) rfl (by kernel_rfl) (by kernel_rfl) (by kernel_rfl) (fun Hq hq => Y.move rfl rfl) (Wd.u rfl) rfl rfl hq19 ?_
        refine LH.take 1 (by kernel_rfl) rfl (by kernel_rfl) (by kernel_rfl) (by kernel_rfl) (fun Hq hq => Y.mki rfl Try.runUnderlying25 (by intro ms h; cases h) rfl) (Wd.u rfl) rfl rfl hq19 ?_
        refine LH.take 2 (by kernel_rfl) rfl (by kernel_rfl) (by kernel_rfl) (by kernel_rfl) (fun Hq hq => Y.move rfl rfl) (Wd.u rfl) rfl rfl hq19 ?_
        refine LH.take 4 (by kernel_rfl) rfl (by kernel_rfl) (by kernel_rfl) (by kernel_rfl) (fun Hq hq => Y.move rfl rfl) (Wd.u rfl) rfl rfl hq19 ?_
        refine LH.take 5 (by kernel_rfl) rfl (by kernel_rfl) (by kernel_rfl) (by kernel_rfl) (fun Hq hq => Y.move rfl rfl) (Wd.u rfl) rfl rfl hq19 ?_
        refine LH.take 6 (by kernel_rfl) rfl (by kernel_rfl) (by kernel_rfl) (by kernel_rfl) (fun Hq hq => Y.owAddr (ow40.upL hq (DL.cons dj12.symm DL.nil)) (j) rfl Try.runUnderlying28 Try.sizeOf30 rfl rfl (by first | rfl | omega) (by simp; omega)) (Wd.u rfl) rfl rfl hq19 ?_
        refine LH.take 7 (by kernel_rfl) rfl (by kernel_rfl) (by kernel_rfl) (by kernel_rfl) (fun Hq hq => Y.cast (v2 := vA (idn ps[j])) (Y.loadN ((ow40.upL hq (DL.cons dj12.symm DL.nil)).pt (j := j) (by simp; omega)) rfl Try.isAgg30 Try.sizeOf30 (fA_len _) rfl) (el1 hjl _)) (Wd.u rfl) rfl rfl hq19 ?_
        refine LH.one (i := 3) (by kernel_rfl) ?_
        -- call selvage/selvagelaw11.Id
        refine LO.call rfl rfl Try.call12 rfl (Wd.u rfl) rfl rfl (idn_ct n w0 _ (by omega)) (fun v75 H75 r75 => ?_)
        obtain ⟨rfl, hs75⟩ := r75
        replace hl := hl.nw hs75
        replace hlx := fun x h_ => (hlx x h_).nw hs75
        replace hf := hf.nw hs75
        replace hu := hu.nw hs75
        replace hsr := hsr.nw hs75
        replace ow40 := ow40.nw hs75
        replace ow45 := ow45.nw hs75
        replace ow51 := ow51.nw hs75
        replace oat := oat.nw hs75
        replace hv := hv.nw hs75
        replace hm0 := hm0.tr hs75
        replace hlm1 := hlm1.trN hs75
        replace hlm2 := hlm2.trN hs75
        replace hq19 := hq19.trN hs75
        have hz10 := hs75.size
        refine ⟨.inr hq19, LH.narrow (SH2 := fun Hq => Mo (Ms [(H29.size + 1)]) H75 Hq) (fun Hq hq => hq19.trL hq (MIL.cons (MI.app (MI.root (by simp)) (nx55) (Nat.le_refl _)) MIL.nil)) ?_⟩
        have hq19 : Mo (Ms [(H29.size + 1)]) H75 H75 := Mo.refl _ _
        have nx56 := Nx.refl (H29.size + 1) H75.size
        refine LH.one (i := 8) (by kernel_rfl) ?_
        -- call selvage/graph.Above
        refine LO.call rfl rfl Try.call16 rfl (Wd.u rfl) rfl rfl (abv_ct (Sou.rows sR out) H29.size q _ (idn n) (idn ps[j]) w0 _ hv hsr (bf_hsr.mono (by omega)) (df5) hR.ok (by omega)) (fun v80 H80 r80 => ?_)
        obtain ⟨up80, e80, q80, rfl, hv, hR80, hq80, hs80⟩ := r80
        replace hl := hl.upL hs80 (DFL.cons df1 DFL.nil)
        replace hlx := fun x h_ => (hlx x h_).upL hs80 (DFL.cons df2 DFL.nil)
        replace hf := hf.upL hs80 (DFL.cons df3 DFL.nil)
        replace hu := hu.upL hs80 (DFL.cons df4 DFL.nil)
        replace hsr := hsr.upL hs80 (DFL.cons df5 DFL.nil)
        replace ow40 := ow40.upL hs80 (DL.cons dj12.symm DL.nil)
        replace ow45 := ow45.upL hs80 (DL.cons dj19.symm DL.nil)
        replace ow51 := ow51.upL hs80 (DL.cons dj30.symm DL.nil)
        replace oat := oat.upL hs80 (DL.cons dj53.symm DL.nil)
        replace hm0 := (Mo.trL (ks := []) (hm0.mdn []) hs80 (MIL.cons (MI.app MI.z (nx6) (Nat.le_refl _)) MIL.nil)).nil
        replace hlm1 := hlm1.trL hs80 (MIL.cons (MI.app (MI.root (by simp)) (nx_hlm1_hv) (Nat.le_refl _)) MIL.nil)
        replace hlm2 := hlm2.trL hs80 (MIL.cons (MI.app (MI.root (by simp)) (nx_hlm2_hv) (Nat.le_refl _)) MIL.nil)
        replace hq19 := hq19.trL hs80 (MIL.cons (MI.app (MI.root (by simp)) (nx56) (Nat.le_refl _)) MIL.nil)
        have hz11 := hs80.size
        obtain ⟨⟨K80, hA80⟩, hup80, _⟩ := hR80
        have he80 := hg.ok (fun i hi => by
          simp only [List.mem_cons, List.not_mem_nil, or_false] at hi
          rcases hi with rfl | rfl
          · exact ⟨n, hgn, rfl⟩
          · exact ⟨ps[j], hlti _ (List.getElem_mem (by omega)), rfl⟩) hA80
        replace hup80 := hup80 he80
        refine ⟨.inr hq19, LH.narrow (SH2 := fun Hq => Mo (Ms [(H29.size + 1)]) H80 Hq) (fun Hq hq => hq19.trL hq (MIL.cons (MI.app (MI.root (by simp)) (nx56) (Nat.le_refl _)) MIL.nil)) ?_⟩
        have hq19 : Mo (Ms [(H29.size + 1)]) H80 H80 := Mo.refl _ _
        have nx57 := Nx.refl (H29.size + 1) H80.size
        refine LH.take 9 (by kernel_rfl) rfl (by kernel_rfl) (by kernel_rfl) (by kernel_rfl) (fun Hq hq => Y.move rfl rfl) (Wd.u rfl) rfl rfl hq19 ?_
        refine LH.take 10 (by kernel_rfl) rfl (by kernel_rfl) (by kernel_rfl) (by kernel_rfl) (fun Hq hq => Y.extract rfl rfl rfl) (Wd.u rfl) rfl rfl hq19 ?_
        refine LH.take 11 (by kernel_rfl) rfl (by kernel_rfl) (by kernel_rfl) (by kernel_rfl) (fun Hq hq => Y.extract rfl rfl rfl) (Wd.u rfl) rfl rfl hq19 ?_
        refine LH.take 12 (by kernel_rfl) rfl (by kernel_rfl) (by kernel_rfl) (by kernel_rfl) (fun Hq hq => Y.assign rfl rfl) (Wd.u rfl) rfl rfl hq19 ?_
        refine LH.take 13 (by kernel_rfl) rfl (by kernel_rfl) (by kernel_rfl) (by kernel_rfl) (fun Hq hq => Y.assign rfl rfl) (Wd.u rfl) rfl rfl hq19 ?_
        refine LH.done (by kernel_rfl) ?_
        refine hK31 _ _ ?_
        refine CW.region ?_
        refine LR.v (Y.move rfl rfl) (Wd.u rfl) rfl rfl ?_
        refine LR.v (Y.move rfl rfl) (Wd.u rfl) rfl rfl ?_
        refine LR.split (d := 84) rfl (fun g84 => ?_) (fun g84 => ?_)
        ·
          refine LR.gs rfl rfl rfl rfl rfl rfl ?_
          refine LR.v (Y.pick_t rfl rfl rfl) (Wd.u rfl) rfl rfl ?_
          refine LR.v (Y.assign rfl rfl) (Wd.u rfl) rfl rfl ?_
          refine LR.nil ?_
          refine hK30 _ _ ?_
          refine hK29 _ _ ?_
          refine CW.region ?_
          refine LR.v (Y.move rfl rfl) (Wd.u rfl) rfl rfl ?_
          refine LR.v (Y.addi rfl rfl rfl (by omega)) (Wd.u rfl) rfl rfl ?_
          refine LR.v (Y.assign rfl rfl) (Wd.u rfl) rfl rfl ?_
          refine LR.nil ?_
          refine QN.sub (hN26 (j + 1, true, q80) _ ?_ ?_) ⟨rfl, rfl, rfl, rfl, rfl, rfl, (iv (by omega)), rfl, rfl, (iv (by omega)), trivial⟩
          · exact ⟨hv, inl_t hbi g84, (by omega), (by omega), hlm2⟩
          · first | omega | (simp only; omega) | (simp; omega)
        ·
          refine LR.v (Y.move rfl rfl) (Wd.g rfl rfl rfl) rfl rfl ?_
          refine LR.v (Y.pick_f rfl rfl rfl) (Wd.u rfl) rfl rfl ?_
          refine LR.v (Y.assign rfl rfl) (Wd.u rfl) rfl rfl ?_
          refine LR.nil ?_
          refine hK30 _ _ ?_
          refine hK29 _ _ ?_
          refine CW.region ?_
          refine LR.v (Y.move rfl rfl) (Wd.u rfl) rfl rfl ?_
          refine LR.v (Y.addi rfl rfl rfl (by omega)) (Wd.u rfl) rfl rfl ?_
          refine LR.v (Y.assign rfl rfl) (Wd.u rfl) rfl rfl ?_
          refine LR.nil ?_
          refine QN.sub (hN26 (j + 1, up80, q80) _ ?_ ?_) ⟨rfl, rfl, rfl, rfl, rfl, rfl, (iv (by omega)), rfl, rfl, (iv (by omega)), trivial⟩
          · exact ⟨hv, inl_f hbi g84 (by omega) hup80, (by omega), (by omega), hlm2⟩
          · first | omega | (simp only; omega) | (simp; omega)
      ·
        have hin := inl_all hbi (by simp at c68; omega)
        refine CW.exit (hE27 (.exit 2) nofun _ _ (hE26 (.exit 2) nofun _ _ (hX25 _ _ ?_)))
        refine hK23 _ _ ?_
        refine CW.seq (fun K32 hK32 hE32 => ?_)
        refine CW.seq (fun K33 hK33 hE33 => ?_)
        refine CW.region ?_
        refine LR.v (Y.assign rfl rfl) (Wd.u rfl) rfl rfl ?_
        refine LR.nil ?_
        refine hK33 _ _ ?_
        refine CW.block (fun K34 hK34 hX34 hE34 => ?_)
        refine CW.loop (fun (s_ : (Nat) × (Bool) × (Nat)) => match s_ with | (j, bo, q) => [(0, sR.v), (7, .pointer (some ⟨H29.size, 0, none⟩)), (8, s40.v), (9, s45.v), (10, s51.v), (12, v58), (13, .int .i64 (n : Int)), (14, .bool bi), (15, .bool bo), (19, .int .i64 (j : Int))])
          (fun (s_ : (Nat) × (Bool) × (Nat)) (H : Heap) => match s_ with | (j, bo, q) => (Var (Sou.rows sR out).e H H29.size ((Sou.rows sR out).cs q)) ∧ (bo = true ↔ InL (out.map Rw.l) qs n j) ∧ (j ≤ qs.length) ∧ (q ≤ 5001 + n * 100020 + 50010 + j * 5001) ∧ Mo (Ms [(H29.size + 1)]) HL2 H)
          (fun (s_ : (Nat) × (Bool) × (Nat)) => match s_ with | (j, bo, q) => qs.length - j) (0, false, q) ⟨rfl, rfl, rfl, rfl, rfl, rfl, rfl, rfl, rfl, rfl, trivial⟩ ?_ ?_
        ·
          exact ⟨hv, inl_zero, (by omega), (by omega), Mo.refl _ _⟩
        rintro ⟨j, bo, q⟩ HL3 hI3 K35 hN35 hE35
        obtain ⟨hv, hbo, hj, bq3, hlm3⟩ := hI3
        replace hl := hl.upL hlm3 (DFL.cons df1 DFL.nil)
        replace hlx := fun x h_ => (hlx x h_).upL hlm3 (DFL.cons df2 DFL.nil)
        replace hf := hf.upL hlm3 (DFL.cons df3 DFL.nil)
        replace hu := hu.upL hlm3 (DFL.cons df4 DFL.nil)
        replace hsr := hsr.upL hlm3 (DFL.cons df5 DFL.nil)
        replace ow40 := ow40.upL hlm3 (DL.cons dj12.symm DL.nil)
        replace ow45 := ow45.upL hlm3 (DL.cons dj19.symm DL.nil)
        replace ow51 := ow51.upL hlm3 (DL.cons dj30.symm DL.nil)
        replace oat := oat.upL hlm3 (DL.cons dj53.symm DL.nil)
        replace hm0 := (Mo.trL (ks := []) (hm0.mdn []) hlm3 (MIL.cons (MI.app MI.z (nx6) (Nat.le_refl _)) MIL.nil)).nil
        replace hlm1 := hlm1.trL hlm3 (MIL.cons (MI.app (MI.root (by simp)) (nx_hlm1_hv) (Nat.le_refl _)) MIL.nil)
        have hz12 := hlm3.size
        have nx_hlm3_hv := Nx.refl (H29.size + 1) HL2.size
        refine CW.seq (fun K36 hK36 hE36 => ?_)
        refine CW.seq (fun K37 hK37 hE37 => ?_)
        refine CW.region ?_
        refine LR.v (Y.move rfl rfl) (Wd.u rfl) rfl rfl ?_
        refine LR.v (Y.move rfl rfl) (Wd.u rfl) rfl rfl ?_
        refine LR.v (Y.len ow45.rd rfl Try.runUnderlying28 rfl) (Wd.u rfl) rfl rfl ?_
        refine LR.v (Y.lss rfl rfl rfl) (Wd.u rfl) rfl rfl ?_
        refine LR.nil ?_
        refine hK37 _ _ ?_
        refine CW.condp rfl (fun c90 => ?_) (fun c90 => ?_)
        ·
          have hjl : j < qs.length := by simp at c90; omega
          refine CW.skip ?_
          refine hK36 _ _ ?_
          refine CW.seq (fun K38 hK38 hE38 => ?_)
          refine CW.block (fun K39 hK39 hX39 hE39 => ?_)
          refine CW.seq (fun K40 hK40 hE40 => ?_)
          refine CW.region_any (fun Hq => Mo (Ms [(H29.size + 1)]) HL3 Hq) [] rfl ?_
          have hq24 : Mo (Ms [(H29.size + 1)]) HL3 HL3 := Mo.refl _ _
          have nx58 := Nx.refl (H29.size + 1) HL3.size
          refine LH.take 0 (by kernel_rfl) rfl (by kernel_rfl) (by kernel_rfl) (by kernel_rfl) (fun Hq hq => Y.move rfl rfl) (Wd.u rfl) rfl rfl hq24 ?_
          refine LH.take 1 (by kernel_rfl) rfl (by kernel_rfl) (by kernel_rfl) (by kernel_rfl) (fun Hq hq => Y.mki rfl Try.runUnderlying25 (by intro ms h; cases h) rfl) (Wd.u rfl) rfl rfl hq24 ?_
          refine LH.take 2 (by kernel_rfl) rfl (by kernel_rfl) (by kernel_rfl) (by kernel_rfl) (fun Hq hq => Y.move rfl rfl) (Wd.u rfl) rfl rfl hq24 ?_
          refine LH.take 4 (by kernel_rfl) rfl (by kernel_rfl) (by kernel_rfl) (by kernel_rfl) (fun Hq hq => Y.move rfl rfl) (Wd.u rfl) rfl rfl hq24 ?_
          refine LH.take 5 (by kernel_rfl) rfl (by kernel_rfl) (by kernel_rfl) (by kernel_rfl) (fun Hq hq => Y.move rfl rfl) (Wd.u rfl) rfl rfl hq24 ?_
          refine LH.take 6 (by kernel_rfl) rfl (by kernel_rfl) (by kernel_rfl) (by kernel_rfl) (fun Hq hq => Y.owAddr (ow45.upL hq (DL.cons dj19.symm DL.nil)) (j) rfl Try.runUnderlying28 Try.sizeOf30 rfl rfl (by first | rfl | omega) (by simp; omega)) (Wd.u rfl) rfl rfl hq24 ?_
          refine LH.take 7 (by kernel_rfl) rfl (by kernel_rfl) (by kernel_rfl) (by kernel_rfl) (fun Hq hq => Y.cast (v2 := vA (idn qs[j])) (Y.loadN ((ow45.upL hq (DL.cons dj19.symm DL.nil)).pt (j := j) (by simp; omega)) rfl Try.isAgg30 Try.sizeOf30 (fA_len _) rfl) (el1 hjl _)) (Wd.u rfl) rfl rfl hq24 ?_
          refine LH.one (i := 3) (by kernel_rfl) ?_
          -- call selvage/selvagelaw11.Id
          refine LO.call rfl rfl Try.call12 rfl (Wd.u rfl) rfl rfl (idn_ct n w0 _ (by omega)) (fun v97 H97 r97 => ?_)
          obtain ⟨rfl, hs97⟩ := r97
          replace hl := hl.nw hs97
          replace hlx := fun x h_ => (hlx x h_).nw hs97
          replace hf := hf.nw hs97
          replace hu := hu.nw hs97
          replace hsr := hsr.nw hs97
          replace ow40 := ow40.nw hs97
          replace ow45 := ow45.nw hs97
          replace ow51 := ow51.nw hs97
          replace oat := oat.nw hs97
          replace hv := hv.nw hs97
          replace hm0 := hm0.tr hs97
          replace hlm1 := hlm1.trN hs97
          replace hlm3 := hlm3.trN hs97
          replace hq24 := hq24.trN hs97
          have hz13 := hs97.size
          refine ⟨.inr hq24, LH.narrow (SH2 := fun Hq => Mo (Ms [(H29.size + 1)]) H97 Hq) (fun Hq hq => hq24.trL hq (MIL.cons (MI.app (MI.root (by simp)) (nx58) (Nat.le_refl _)) MIL.nil)) ?_⟩
          have hq24 : Mo (Ms [(H29.size + 1)]) H97 H97 := Mo.refl _ _
          have nx59 := Nx.refl (H29.size + 1) H97.size
          refine LH.one (i := 8) (by kernel_rfl) ?_
          -- call selvage/graph.Above
          refine LO.call rfl rfl Try.call16 rfl (Wd.u rfl) rfl rfl (abv_ct (Sou.rows sR out) H29.size q _ (idn n) (idn qs[j]) w0 _ hv hsr (bf_hsr.mono (by omega)) (df5) hR.ok (by omega)) (fun v102 H102 r102 => ?_)
          obtain ⟨up102, e102, q102, rfl, hv, hR102, hq102, hs102⟩ := r102
          replace hl := hl.upL hs102 (DFL.cons df1 DFL.nil)
          replace hlx := fun x h_ => (hlx x h_).upL hs102 (DFL.cons df2 DFL.nil)
          replace hf := hf.upL hs102 (DFL.cons df3 DFL.nil)
          replace hu := hu.upL hs102 (DFL.cons df4 DFL.nil)
          replace hsr := hsr.upL hs102 (DFL.cons df5 DFL.nil)
          replace ow40 := ow40.upL hs102 (DL.cons dj12.symm DL.nil)
          replace ow45 := ow45.upL hs102 (DL.cons dj19.symm DL.nil)
          replace ow51 := ow51.upL hs102 (DL.cons dj30.symm DL.nil)
          replace oat := oat.upL hs102 (DL.cons dj53.symm DL.nil)
          replace hm0 := (Mo.trL (ks := []) (hm0.mdn []) hs102 (MIL.cons (MI.app MI.z (nx6) (Nat.le_refl _)) MIL.nil)).nil
          replace hlm1 := hlm1.trL hs102 (MIL.cons (MI.app (MI.root (by simp)) (nx_hlm1_hv) (Nat.le_refl _)) MIL.nil)
          replace hlm3 := hlm3.trL hs102 (MIL.cons (MI.app (MI.root (by simp)) (nx_hlm3_hv) (Nat.le_refl _)) MIL.nil)
          replace hq24 := hq24.trL hs102 (MIL.cons (MI.app (MI.root (by simp)) (nx59) (Nat.le_refl _)) MIL.nil)
          have hz14 := hs102.size
          obtain ⟨⟨K102, hA102⟩, hup102, _⟩ := hR102
          have he102 := hg.ok (fun i hi => by
            simp only [List.mem_cons, List.not_mem_nil, or_false] at hi
            rcases hi with rfl | rfl
            · exact ⟨n, hgn, rfl⟩
            · exact ⟨qs[j], hltk _ (List.getElem_mem (by omega)), rfl⟩) hA102
          replace hup102 := hup102 he102
          refine ⟨.inr hq24, LH.narrow (SH2 := fun Hq => Mo (Ms [(H29.size + 1)]) H102 Hq) (fun Hq hq => hq24.trL hq (MIL.cons (MI.app (MI.root (by simp)) (nx59) (Nat.le_refl _)) MIL.nil)) ?_⟩
          have hq24 : Mo (Ms [(H29.size + 1)]) H102 H102 := Mo.refl _ _
          have nx60 := Nx.refl (H29.size + 1) H102.size
          refine LH.take 9 (by kernel_rfl) rfl (by kernel_rfl) (by kernel_rfl) (by kernel_rfl) (fun Hq hq => Y.move rfl rfl) (Wd.u rfl) rfl rfl hq24 ?_
          refine LH.take 10 (by kernel_rfl) rfl (by kernel_rfl) (by kernel_rfl) (by kernel_rfl) (fun Hq hq => Y.extract rfl rfl rfl) (Wd.u rfl) rfl rfl hq24 ?_
          refine LH.take 11 (by kernel_rfl) rfl (by kernel_rfl) (by kernel_rfl) (by kernel_rfl) (fun Hq hq => Y.extract rfl rfl rfl) (Wd.u rfl) rfl rfl hq24 ?_
          refine LH.take 12 (by kernel_rfl) rfl (by kernel_rfl) (by kernel_rfl) (by kernel_rfl) (fun Hq hq => Y.assign rfl rfl) (Wd.u rfl) rfl rfl hq24 ?_
          refine LH.take 13 (by kernel_rfl) rfl (by kernel_rfl) (by kernel_rfl) (by kernel_rfl) (fun Hq hq => Y.assign rfl rfl) (Wd.u rfl) rfl rfl hq24 ?_
          refine LH.done (by kernel_rfl) ?_
          refine hK40 _ _ ?_
          refine CW.region ?_
          refine LR.v (Y.move rfl rfl) (Wd.u rfl) rfl rfl ?_
          refine LR.v (Y.move rfl rfl) (Wd.u rfl) rfl rfl ?_
          refine LR.split (d := 106) rfl (fun g106 => ?_) (fun g106 => ?_)
          ·
            refine LR.gs rfl rfl rfl rfl rfl rfl ?_
            refine LR.v (Y.pick_t rfl rfl rfl) (Wd.u rfl) rfl rfl ?_
            refine LR.v (Y.assign rfl rfl) (Wd.u rfl) rfl rfl ?_
            refine LR.nil ?_
            refine hK39 _ _ ?_
            refine hK38 _ _ ?_
            refine CW.region ?_
            refine LR.v (Y.move rfl rfl) (Wd.u rfl) rfl rfl ?_
            refine LR.v (Y.addi rfl rfl rfl (by omega)) (Wd.u rfl) rfl rfl ?_
            refine LR.v (Y.assign rfl rfl) (Wd.u rfl) rfl rfl ?_
            refine LR.nil ?_
            refine QN.sub (hN35 (j + 1, true, q102) _ ?_ ?_) ⟨rfl, rfl, rfl, rfl, rfl, rfl, (iv (by omega)), rfl, rfl, (iv (by omega)), trivial⟩
            · exact ⟨hv, inl_t hbo g106, (by omega), (by omega), hlm3⟩
            · first | omega | (simp only; omega) | (simp; omega)
          ·
            refine LR.v (Y.move rfl rfl) (Wd.g rfl rfl rfl) rfl rfl ?_
            refine LR.v (Y.pick_f rfl rfl rfl) (Wd.u rfl) rfl rfl ?_
            refine LR.v (Y.assign rfl rfl) (Wd.u rfl) rfl rfl ?_
            refine LR.nil ?_
            refine hK39 _ _ ?_
            refine hK38 _ _ ?_
            refine CW.region ?_
            refine LR.v (Y.move rfl rfl) (Wd.u rfl) rfl rfl ?_
            refine LR.v (Y.addi rfl rfl rfl (by omega)) (Wd.u rfl) rfl rfl ?_
            refine LR.v (Y.assign rfl rfl) (Wd.u rfl) rfl rfl ?_
            refine LR.nil ?_
            refine QN.sub (hN35 (j + 1, up102, q102) _ ?_ ?_) ⟨rfl, rfl, rfl, rfl, rfl, rfl, (iv (by omega)), rfl, rfl, (iv (by omega)), trivial⟩
            · exact ⟨hv, inl_f hbo g106 (by omega) hup102, (by omega), (by omega), hlm3⟩
            · first | omega | (simp only; omega) | (simp; omega)
        ·
          have hout := inl_all hbo (by simp at c90; omega)
          refine CW.exit (hE36 (.exit 4) nofun _ _ (hE35 (.exit 4) nofun _ _ (hX34 _ _ ?_)))
          refine hK32 _ _ ?_
          refine CW.seq (fun K41 hK41 hE41 => ?_)
          refine CW.region ?_
          refine LR.v (Y.assign rfl rfl) (Wd.u rfl) rfl rfl ?_
          refine LR.nil ?_
          refine hK41 _ _ ?_
          refine CW.seq (fun K42 hK42 hE42 => ?_)
          refine CW.seq (fun K43 hK43 hE43 => ?_)
          refine CW.region ?_
          refine LR.v (Y.assign rfl rfl) (Wd.u rfl) rfl rfl ?_
          refine LR.nil ?_
          refine hK43 _ _ ?_
          refine CW.block (fun K44 hK44 hX44 hE44 => ?_)
          refine CW.loop (fun (j : (Nat)) => [(0, sR.v), (7, .pointer (some ⟨H29.size, 0, none⟩)), (8, s40.v), (9, s45.v), (10, s51.v), (12, v58), (13, .int .i64 (n : Int)), (14, .bool bi), (15, .bool bo), (22, .int .i64 ((tmL o51 (idn n) j : Nat) : Int)), (23, .int .i64 (j : Int))])
            (fun (j : (Nat)) (H : Heap) => (Ow (H51.size + 1) 3 H fN 1 v58 (atR o51 out.length n j)) ∧ (j ≤ o51.length) ∧ (Nx ((H51.size + 1)) HL3.size ((H51.size + 1))) ∧ Mo (Ms [((H51.size + 1))]) HL3 H)
            (fun (j : (Nat)) => o51.length - j) 0 ⟨rfl, rfl, rfl, rfl, rfl, rfl, rfl, rfl, rfl, rfl, rfl, trivial⟩ ?_ ?_
          ·
            exact ⟨oat, (by omega), Nx.refl _ _, Mo.refl _ _⟩
          intro j HL4 hI4 K45 hN45 hE45
          obtain ⟨oat, hj, nxl_oat, hlm4⟩ := hI4
          have df61 := DF.app (df44) (bf_hl.mono hm0.size) nxl_oat
          have df62 := DF.app (df45) (bf_hlx.mono hm0.size) nxl_oat
          have df63 := DF.app (df46) (bf_hf.mono hm0.size) nxl_oat
          have df64 := DF.app (df47) (bf_hu.mono hm0.size) nxl_oat
          have df65 := DF.app (df48) (bf_hsr.mono (by omega)) nxl_oat
          have dj66 : Dj k40 ((H51.size + 1)) := Dj.app (dj49) ow40.le nxl_oat
          have dj67 : Dj k45 ((H51.size + 1)) := Dj.app (dj50) ow45.le nxl_oat
          have dj68 : Dj k51 ((H51.size + 1)) := Dj.app (dj51) ow51.le nxl_oat
          have dj69 : Dj (H29.size + 1) ((H51.size + 1)) := Dj.app (dj53) hv.lt nxl_oat
          have nx70 : Nx 0 H0.size ((H51.size + 1)) := Nx.tr (nx52) nxl_oat hm0.size
          have nx71 : Nx (H51.size + 1) H58.size ((H51.size + 1)) := Nx.tr (nx54) nxl_oat hlm1.size
          replace hl := hl.upL hlm4 (DFL.cons df44 DFL.nil)
          replace hlx := fun x h_ => (hlx x h_).upL hlm4 (DFL.cons df45 DFL.nil)
          replace hf := hf.upL hlm4 (DFL.cons df46 DFL.nil)
          replace hu := hu.upL hlm4 (DFL.cons df47 DFL.nil)
          replace hsr := hsr.upL hlm4 (DFL.cons df48 DFL.nil)
          replace ow40 := ow40.upL hlm4 (DL.cons dj49 DL.nil)
          replace ow45 := ow45.upL hlm4 (DL.cons dj50 DL.nil)
          replace ow51 := ow51.upL hlm4 (DL.cons dj51 DL.nil)
          replace hv := hv.upL hlm4 (DL.cons dj53 DL.nil)
          replace hm0 := (Mo.trL (ks := []) (hm0.mdn []) hlm4 (MIL.cons (MI.app MI.z (nx52) (Nat.le_refl _)) MIL.nil)).nil
          replace hlm1 := hlm1.trL hlm4 (MIL.cons (MI.app (MI.root (by simp)) (nx54) (Nat.le_refl _)) MIL.nil)
          have hz15 := hlm4.size
          have hle_oat := oat.le
          have nx72 := nxl_oat
          refine CW.seq (fun K46 hK46 hE46 => ?_)
          refine CW.seq (fun K47 hK47 hE47 => ?_)
          refine CW.region ?_
          refine LR.v (Y.move rfl rfl) (Wd.u rfl) rfl rfl ?_
          refine LR.v (Y.move rfl rfl) (Wd.u rfl) rfl rfl ?_
          refine LR.v (Y.len ow51.rd rfl Try.runUnderlying28 rfl) (Wd.u rfl) rfl rfl ?_
          refine LR.v (Y.lss rfl rfl rfl) (Wd.u rfl) rfl rfl ?_
          refine LR.nil ?_
          refine hK47 _ _ ?_
          refine CW.condp rfl (fun c112 => ?_) (fun c112 => ?_)
          ·
            have hjl : j < o51.length := by omega
            obtain ⟨x1, hx1⟩ : ∃ x, x = o51[j] := ⟨_, rfl⟩
            have htb : tmL o51 (idn n) j ≤ 1 := by rcases pos_spec (x := idn n) hnd51 j (by omega) with h | ⟨_, _, _, h, _⟩ <;> omega
            refine CW.skip ?_
            refine hK46 _ _ ?_
            refine CW.seq (fun K48 hK48 hE48 => ?_)
            refine CW.block (fun K49 hK49 hX49 hE49 => ?_)
            refine CW.seq (fun K50 hK50 hE50 => ?_)
            refine CW.region_any (fun Hq => Nw HL4 Hq) [] rfl ?_
            have hqs := Nw.refl HL4
            refine LH.take 0 (by kernel_rfl) rfl (by kernel_rfl) (by kernel_rfl) (by kernel_rfl) (fun Hq hq => Y.move rfl rfl) (Wd.u rfl) rfl rfl hqs ?_
            refine LH.take 1 (by kernel_rfl) rfl (by kernel_rfl) (by kernel_rfl) (by kernel_rfl) (fun Hq hq => Y.move rfl rfl) (Wd.u rfl) rfl rfl hqs ?_
            refine LH.take 2 (by kernel_rfl) rfl (by kernel_rfl) (by kernel_rfl) (by kernel_rfl) (fun Hq hq => Y.owAddr (ow51.nw hq) (j) rfl Try.runUnderlying28 Try.sizeOf30 rfl rfl (by first | rfl | omega) (by omega)) (Wd.u rfl) rfl rfl hqs ?_
            refine LH.take 3 (by kernel_rfl) rfl (by kernel_rfl) (by kernel_rfl) (by kernel_rfl) (fun Hq hq => Y.cast (v2 := vA x1) (Y.loadN ((ow51.pt (j := j) (by omega)).nw hq) rfl Try.isAgg30 Try.sizeOf30 (fA_len _) rfl) (by rw [hx1]; rfl)) (Wd.u rfl) rfl rfl hqs ?_
            refine LH.take 4 (by kernel_rfl) rfl (by kernel_rfl) (by kernel_rfl) (by kernel_rfl) (fun Hq hq => Y.move rfl rfl) (Wd.u rfl) rfl rfl hqs ?_
            refine LH.one (i := 5) (by kernel_rfl) ?_
            -- call selvage/selvagelaw11.Id
            refine LO.call rfl rfl Try.call12 rfl (Wd.u rfl) rfl rfl (idn_ct n w0 _ (by omega)) (fun v120 H120 r120 => ?_)
            obtain ⟨rfl, hs120⟩ := r120
            replace hl := hl.nw hs120
            replace hlx := fun x h_ => (hlx x h_).nw hs120
            replace hf := hf.nw hs120
            replace hu := hu.nw hs120
            replace hsr := hsr.nw hs120
            replace ow40 := ow40.nw hs120
            replace ow45 := ow45.nw hs120
            replace ow51 := ow51.nw hs120
            replace oat := oat.nw hs120
            replace hv := hv.nw hs120
            replace hm0 := hm0.tr hs120
            replace hlm1 := hlm1.trN hs120
            replace hlm4 := hlm4.trN hs120
            have hz16 := hs120.size
            have hq120 := hqs.tr hs120
            refine ⟨.inr hq120, LH.narrow (SH2 := fun Hq => Nw H120 Hq) (fun Hq hq => hq120.tr hq) ?_⟩
            have hqn120 := Nw.refl H120
            refine LH.take 6 (by kernel_rfl) rfl (by kernel_rfl) (by kernel_rfl) (by kernel_rfl) (fun Hq hq => Y.aeql rfl Try.eqGuardType30 (fun w => run_equalIn_id 9998 Try.underlying30 Try.underlying5 Try.sizeOf5 Try.isAgg5 (x1.2) ((idn n).2) w) rfl rfl) (Wd.u rfl) rfl rfl hqn120 ?_
            refine LH.done (by kernel_rfl) ?_
            have hqe := hqn120
            refine hK50 _ _ ?_
            refine CW.condp rfl (fun c121 => ?_) (fun c121 => ?_)
            ·
              have hje : o51[j]? = some (idn n) := by rw [List.getElem?_eq_getElem hjl, ← hx1, Subtype.ext c121]
              refine CW.seq (fun K51 hK51 hE51 => ?_)
              refine CW.region ?_
              refine LR.v (Y.move rfl rfl) (Wd.u rfl) rfl rfl ?_
              refine LR.v (Y.addi rfl rfl rfl (by omega)) (Wd.u rfl) rfl rfl ?_
              refine LR.v (Y.assign rfl rfl) (Wd.u rfl) rfl rfl ?_
              refine LR.nil ?_
              refine hK51 _ _ ?_
              refine CW.region ?_
              refine LR.v (Y.move rfl rfl) (Wd.u rfl) rfl rfl ?_
              refine LR.v (Y.move rfl rfl) (Wd.u rfl) rfl rfl ?_
              refine LR.v (Y.move rfl rfl) (Wd.u rfl) rfl rfl ?_
              refine LR.v (Y.cast (v2 := .int .i64 ((j + 1 : Nat) : Int)) (Y.addi rfl rfl rfl (by omega)) (ivv (by omega))) (Wd.u rfl) rfl rfl ?_
              refine LR.v (Y.owAddr oat (n) rfl Try.runUnderlying38 Try.sizeOf3 rfl rfl (by first | rfl | omega) (by rw [atR_len]; omega)) (Wd.u rfl) rfl rfl ?_
              refine LR.s (S.oww oat (n) 0 (_) rfl rfl rfl rfl Try.sizeOf3 (by rw [atR_len]; omega) (by decide) (rfl)) (Wd.u rfl) rfl (fun H32_5 r32_5 => ?_)
              obtain ⟨oat, hs32_5⟩ := r32_5
              replace hs32_5 := hs32_5.md
              replace hl := hl.upL hs32_5 (DFL.cons df61 DFL.nil)
              replace hlx := fun x h_ => (hlx x h_).upL hs32_5 (DFL.cons df62 DFL.nil)
              replace hf := hf.upL hs32_5 (DFL.cons df63 DFL.nil)
              replace hu := hu.upL hs32_5 (DFL.cons df64 DFL.nil)
              replace hsr := hsr.upL hs32_5 (DFL.cons df65 DFL.nil)
              replace ow40 := ow40.upL hs32_5 (DL.cons dj66 DL.nil)
              replace ow45 := ow45.upL hs32_5 (DL.cons dj67 DL.nil)
              replace ow51 := ow51.upL hs32_5 (DL.cons dj68 DL.nil)
              replace hv := hv.upL hs32_5 (DL.cons dj69 DL.nil)
              replace hm0 := (Mo.trL (ks := []) (hm0.mdn []) hs32_5 (MIL.cons (MI.app MI.z (nx70) (Nat.le_refl _)) MIL.nil)).nil
              replace hlm1 := hlm1.trL hs32_5 (MIL.cons (MI.app (MI.root (by simp)) (nx71) (Nat.le_refl _)) MIL.nil)
              replace hlm4 := hlm4.trL hs32_5 (MIL.cons (MI.app (MI.root (by simp)) (nx72) (Nat.le_refl _)) MIL.nil)
              have hz17 := hs32_5.size
              refine LR.nil ?_
              refine hK49 _ _ ?_
              refine hK48 _ _ ?_
              refine CW.region ?_
              refine LR.v (Y.move rfl rfl) (Wd.u rfl) rfl rfl ?_
              refine LR.v (Y.addi rfl rfl rfl (by omega)) (Wd.u rfl) rfl rfl ?_
              refine LR.v (Y.assign rfl rfl) (Wd.u rfl) rfl rfl ?_
              refine LR.nil ?_
              have htS : tmL o51 (idn n) (j + 1) = tmL o51 (idn n) j + 1 := by rw [tmL_succ, if_pos hje]
              refine QN.sub (hN45 (j + 1) _ ?_ ?_) ⟨rfl, rfl, rfl, rfl, rfl, rfl, (iv (by omega)), rfl, rfl, (iv (by omega)), (iv (by omega)), trivial⟩
              · exact ⟨by rw [← atR_hit hje]; exact oat, (by omega), nx72, hlm4⟩
              · first | omega | (simp only; omega) | (simp; omega)
            ·
              refine CW.skip ?_
              refine hK49 _ _ ?_
              refine hK48 _ _ ?_
              refine CW.region ?_
              refine LR.v (Y.move rfl rfl) (Wd.u rfl) rfl rfl ?_
              refine LR.v (Y.addi rfl rfl rfl (by omega)) (Wd.u rfl) rfl rfl ?_
              refine LR.v (Y.assign rfl rfl) (Wd.u rfl) rfl rfl ?_
              refine LR.nil ?_
              have hje : ¬ o51[j]? = some (idn n) := fun h => c121 (by rw [List.getElem?_eq_getElem hjl, ← hx1] at h; rw [Option.some.inj h])
              have htS : tmL o51 (idn n) (j + 1) = tmL o51 (idn n) j := by rw [tmL_succ, if_neg hje]
              refine QN.sub (hN45 (j + 1) _ ?_ ?_) ⟨rfl, rfl, rfl, rfl, rfl, rfl, (iv (by omega)), rfl, rfl, (iv (by omega)), (iv (by omega)), trivial⟩
              · exact ⟨by rw [atR_miss hje]; exact oat, (by omega), nx72, hlm4⟩
              · first | omega | (simp only; omega) | (simp; omega)
          ·
            obtain rfl : j = o51.length := by omega
            have hq := ord_in ho51 hin hout rfl
            have htb := (pos_mem (x := idn n) hnd51).1
            refine CW.exit (hE46 (.exit 6) nofun _ _ (hE45 (.exit 6) nofun _ _ (hX44 _ _ ?_)))
            refine hK42 _ _ ?_
            refine CW.seq (fun K52 hK52 hE52 => ?_)
            refine CW.region ?_
            refine LR.v (Y.move rfl rfl) (Wd.u rfl) rfl rfl ?_
            refine LR.v ((Y.gtr rfl rfl rfl).isF (by omega)) (Wd.u rfl) rfl rfl ?_
            refine LR.v (Y.move rfl rfl) (Wd.u rfl) rfl rfl ?_
            refine LR.v (Y.move rfl rfl) (Wd.g rfl rfl rfl) rfl rfl ?_
            refine LR.v (Y.eql rfl rfl rfl) (Wd.g rfl rfl rfl) rfl rfl ?_
            refine LR.v (Y.move rfl rfl) (Wd.g rfl rfl rfl) rfl rfl ?_
            refine LR.v (Y.move rfl rfl) (Wd.g rfl rfl rfl) rfl rfl ?_
            refine LR.split (d := 135) rfl (fun g135 => ?_) (fun g135 => ?_)
            ·
              refine LR.v (Y.move rfl rfl) (Wd.g rfl rfl rfl) rfl rfl ?_
              refine LR.v (Y.not rfl rfl) (Wd.g rfl rfl rfl) rfl rfl ?_
              refine LR.v (Y.pick_t rfl rfl rfl) (Wd.g rfl rfl rfl) rfl rfl ?_
              refine LR.v ((Y.bneq rfl Try.underlying4 rfl rfl).isF (fun h => h (by first | exact bqT hq g135 | exact bqF hq g135))) (Wd.g rfl rfl rfl) rfl rfl ?_
              refine LR.v (Y.pick_f rfl rfl rfl) (Wd.u rfl) rfl rfl ?_
              refine LR.nil ?_
              refine hK52 _ _ ?_
              refine CW.cond_f rfl ?_
              refine CW.skip ?_
              refine hK21 _ _ ?_
              refine hK20 _ _ ?_
              refine CW.region ?_
              refine LR.v (Y.move rfl rfl) (Wd.u rfl) rfl rfl ?_
              refine LR.v (Y.addi rfl rfl rfl (by omega)) (Wd.u rfl) rfl rfl ?_
              refine LR.v (Y.assign rfl rfl) (Wd.u rfl) rfl rfl ?_
              refine LR.nil ?_
              refine QN.sub (hN17 (n + 1, q) _ ?_ ?_) ⟨rfl, rfl, rfl, rfl, rfl, rfl, (iv (by omega)), trivial⟩
              · exact ⟨hv, by rw [atR_next]; exact oat, (by omega), (by omega), nx71, dj69, hlm1⟩
              · first | omega | (simp only; omega) | (simp; omega)
            ·
              refine LR.gs rfl rfl rfl rfl rfl rfl ?_
              refine LR.gs rfl rfl rfl rfl rfl rfl ?_
              refine LR.v (Y.pick_f rfl rfl rfl) (Wd.g rfl rfl rfl) rfl rfl ?_
              refine LR.v ((Y.bneq rfl Try.underlying4 rfl rfl).isF (fun h => h (by first | exact bqT hq g135 | exact bqF hq g135))) (Wd.g rfl rfl rfl) rfl rfl ?_
              refine LR.v (Y.pick_f rfl rfl rfl) (Wd.u rfl) rfl rfl ?_
              refine LR.nil ?_
              refine hK52 _ _ ?_
              refine CW.cond_f rfl ?_
              refine CW.skip ?_
              refine hK21 _ _ ?_
              refine hK20 _ _ ?_
              refine CW.region ?_
              refine LR.v (Y.move rfl rfl) (Wd.u rfl) rfl rfl ?_
              refine LR.v (Y.addi rfl rfl rfl (by omega)) (Wd.u rfl) rfl rfl ?_
              refine LR.v (Y.assign rfl rfl) (Wd.u rfl) rfl rfl ?_
              refine LR.nil ?_
              refine QN.sub (hN17 (n + 1, q) _ ?_ ?_) ⟨rfl, rfl, rfl, rfl, rfl, rfl, (iv (by omega)), trivial⟩
              · exact ⟨hv, by rw [atR_next]; exact oat, (by omega), (by omega), nx71, dj69, hlm1⟩
              · first | omega | (simp only; omega) | (simp; omega)
    ·
      obtain rfl : n = out.length := by omega
      refine CW.exit (hE18 (.exit 0) nofun _ _ (hE17 (.exit 0) nofun _ _ (hX16 _ _ ?_)))
      refine hK14 _ _ ?_
      refine CW.seq (fun K53 hK53 hE53 => ?_)
      refine CW.seq (fun K54 hK54 hE54 => ?_)
      refine CW.region ?_
      refine LR.v (Y.assign rfl rfl) (Wd.u rfl) rfl rfl ?_
      refine LR.nil ?_
      refine hK54 _ _ ?_
      refine CW.block (fun K55 hK55 hX55 hE55 => ?_)
      refine CW.loop (fun (n2 : (Nat)) => [(0, sR.v), (12, v58), (24, .int .i64 (n2 : Int))])
        (fun (n2 : (Nat)) (H : Heap) => (n2 ≤ out.length) ∧ Nw HL1 H)
        (fun (n2 : (Nat)) => out.length - n2) 0 ⟨rfl, rfl, rfl, trivial⟩ ?_ ?_
      ·
        exact ⟨(by omega), Mo.refl _ _⟩
      intro n2 HL5 hI5 K56 hN56 hE56
      obtain ⟨hn2, hlm5⟩ := hI5
      replace hl := hl.nw hlm5
      replace hlx := fun x h_ => (hlx x h_).nw hlm5
      replace hf := hf.nw hlm5
      replace hu := hu.nw hlm5
      replace hsr := hsr.nw hlm5
      replace ow40 := ow40.nw hlm5
      replace ow45 := ow45.nw hlm5
      replace ow51 := ow51.nw hlm5
      replace oat := oat.nw hlm5
      replace hv := hv.nw hlm5
      replace hm0 := hm0.tr hlm5
      have hz18 := hlm5.size
      refine CW.seq (fun K57 hK57 hE57 => ?_)
      refine CW.seq (fun K58 hK58 hE58 => ?_)
      refine CW.region ?_
      refine LR.v (Y.move rfl rfl) (Wd.u rfl) rfl rfl ?_
      refine LR.v (Y.move rfl rfl) (Wd.u rfl) rfl rfl ?_
      refine LR.v (Y.len (hsr.l _ _ rfl) rfl Try.runUnderlying22 rfl) (Wd.u rfl) rfl rfl ?_
      refine LR.v (Y.lss rfl rfl rfl) (Wd.u rfl) rfl rfl ?_
      refine LR.nil ?_
      refine hK58 _ _ ?_
      refine CW.condp rfl (fun c144 => ?_) (fun c144 => ?_)
      ·
        have hgl : (out.map Rw.l).length = out.length := List.length_map _
        have hn2l : n2 < out.length := by omega
        have hge : (out.map Rw.l)[n2] = (out[n2]).l := List.getElem_map _
        have hat := hR.at_ n2 hn2l
        refine CW.skip ?_
        refine hK57 _ _ ?_
        refine CW.seq (fun K59 hK59 hE59 => ?_)
        refine CW.block (fun K60 hK60 hX60 hE60 => ?_)
        refine CW.seq (fun K61 hK61 hE61 => ?_)
        refine CW.region ?_
        refine LR.v (Y.assign rfl rfl) (Wd.u rfl) rfl rfl ?_
        refine LR.nil ?_
        refine hK61 _ _ ?_
        refine CW.block (fun K62 hK62 hX62 hE62 => ?_)
        refine CW.loop (fun (j2 : (Nat)) => [(0, sR.v), (12, v58), (24, .int .i64 (n2 : Int)), (25, .int .i64 (j2 : Int))])
          (fun (j2 : (Nat)) (H : Heap) => (j2 ≤ (out[n2]).l.length) ∧ Nw HL5 H)
          (fun (j2 : (Nat)) => (out[n2]).l.length - j2) 0 ⟨rfl, rfl, rfl, rfl, trivial⟩ ?_ ?_
        ·
          exact ⟨(by omega), Mo.refl _ _⟩
        intro j2 HL6 hI6 K63 hN63 hE63
        obtain ⟨hj2, hlm6⟩ := hI6
        replace hl := hl.nw hlm6
        replace hlx := fun x h_ => (hlx x h_).nw hlm6
        replace hf := hf.nw hlm6
        replace hu := hu.nw hlm6
        replace hsr := hsr.nw hlm6
        replace ow40 := ow40.nw hlm6
        replace ow45 := ow45.nw hlm6
        replace ow51 := ow51.nw hlm6
        replace oat := oat.nw hlm6
        replace hv := hv.nw hlm6
        replace hm0 := hm0.tr hlm6
        replace hlm5 := hlm5.tr hlm6
        have hz19 := hlm6.size
        refine CW.seq (fun K64 hK64 hE64 => ?_)
        refine CW.seq (fun K65 hK65 hE65 => ?_)
        refine CW.region ?_
        refine LR.v (Y.move rfl rfl) (Wd.u rfl) rfl rfl ?_
        refine LR.v (Y.move rfl rfl) (Wd.u rfl) rfl rfl ?_
        refine LR.v (Y.move rfl rfl) (Wd.u rfl) rfl rfl ?_
        refine LR.e (g := fun ad => .pointer (some ad)) (Y.indexAddrF (hsr.l _ _ rfl) (n2) rfl Try.runUnderlying22 Try.sizeOf38 rfl rfl (by first | rfl | omega) (by omega)) (Wd.u rfl) rfl rfl (fun ad150 pt150 => ?_)
        have bf_pt150 := bf_hsr
        refine LR.v (Y.load1 pt150.pt rfl Try.isAgg38 rfl) (Wd.u rfl) rfl rfl ?_
        refine LR.v (Y.len (hsr.x _ _ rfl _ (List.getElem_mem (by omega : n2 < out.length))) rfl Try.runUnderlying38 rfl) (Wd.u rfl) rfl rfl ?_
        refine LR.v (Y.lss rfl rfl rfl) (Wd.u rfl) rfl rfl ?_
        refine LR.nil ?_
        refine hK65 _ _ ?_
        refine CW.condp rfl (fun c153 => ?_) (fun c153 => ?_)
        ·
          have hjl2 : j2 < (out[n2]).l.length := by omega
          have hkn := hat.2 _ (List.getElem_mem hjl2)
          have hpp := ord_pos hg ho51 (n := n2) (k := (out[n2]).l[j2]) (by omega) (by rw [hge]; exact List.getElem_mem hjl2)
          refine CW.skip ?_
          refine hK64 _ _ ?_
          refine CW.seq (fun K66 hK66 hE66 => ?_)
          refine CW.block (fun K67 hK67 hX67 hE67 => ?_)
          refine CW.seq (fun K68 hK68 hE68 => ?_)
          refine CW.region_draw rfl (by kernel_rfl) ?_
          refine LR.v (Y.move rfl rfl) (Wd.u rfl) rfl rfl ?_
          refine LR.v (Y.move rfl rfl) (Wd.u rfl) rfl rfl ?_
          refine LR.v (Y.owAddr oat (n2) rfl Try.runUnderlying38 Try.sizeOf3 rfl rfl (by first | rfl | omega) (by rw [atR_len]; omega)) (Wd.u rfl) rfl rfl ?_
          refine LR.v (Y.cast (v2 := .int .i64 ((posL o51 (idn n2) o51.length : Nat) : Int)) (Y.load1 (oat.pt (j := n2) (by rw [atR_len]; omega)) rfl Try.isAgg3 rfl) (congrArg (fun x : Nat => (Value.int .i64 (x : Int))) (atR_end _))) (Wd.u rfl) rfl rfl ?_
          refine LR.v (Y.gtr rfl rfl rfl) (Wd.u rfl) rfl rfl ?_
          refine LR.v (Y.move rfl rfl) (Wd.u rfl) rfl rfl ?_
          refine LR.splitp (d := 161) rfl (fun g161 => ?_) (fun g161 => ?_)
          ·
            refine LR.v (Y.move rfl rfl) (Wd.g rfl rfl rfl) rfl rfl ?_
            refine LR.v (Y.move rfl rfl) (Wd.g rfl rfl rfl) rfl rfl ?_
            refine LR.v (Y.move rfl rfl) (Wd.g rfl rfl rfl) rfl rfl ?_
            refine LR.e (g := fun ad => .pointer (some ad)) (Y.indexAddrF (hsr.l _ _ rfl) (n2) rfl Try.runUnderlying22 Try.sizeOf38 rfl rfl (by first | rfl | omega) (by omega)) (Wd.g rfl rfl rfl) rfl rfl (fun ad165 pt165 => ?_)
            have bf_pt165 := bf_hsr
            refine LR.v (Y.load1 pt165.pt rfl Try.isAgg38 rfl) (Wd.g rfl rfl rfl) rfl rfl ?_
            refine LR.v (Y.move rfl rfl) (Wd.g rfl rfl rfl) rfl rfl ?_
            refine LR.e (g := fun ad => .pointer (some ad)) (Y.indexAddrF (hsr.x _ _ rfl _ (List.getElem_mem (by omega : n2 < out.length))) (j2) rfl Try.runUnderlying38 Try.sizeOf3 rfl rfl (by first | rfl | omega) (by omega)) (Wd.g rfl rfl rfl) rfl rfl (fun ad168 pt168 => ?_)
            have bf_pt168 := bf_hsr
            refine LR.v (Y.load1 pt168.pt rfl Try.isAgg3 rfl) (Wd.g rfl rfl rfl) rfl rfl ?_
            refine LR.v (Y.owAddr oat ((out[n2]).l[j2]) rfl Try.runUnderlying38 Try.sizeOf3 rfl rfl (by first | rfl | omega) (by rw [atR_len]; omega)) (Wd.g rfl rfl rfl) rfl rfl ?_
            refine LR.v (Y.cast (v2 := .int .i64 ((posL o51 (idn (out[n2]).l[j2]) o51.length : Nat) : Int)) (Y.load1 (oat.pt (j := (out[n2]).l[j2]) (by rw [atR_len]; omega)) rfl Try.isAgg3 rfl) (congrArg (fun x : Nat => (Value.int .i64 (x : Int))) (atR_end _))) (Wd.g rfl rfl rfl) rfl rfl ?_
            refine LR.v (Y.move rfl rfl) (Wd.g rfl rfl rfl) rfl rfl ?_
            refine LR.v (Y.move rfl rfl) (Wd.g rfl rfl rfl) rfl rfl ?_
            refine LR.v (Y.owAddr oat (n2) rfl Try.runUnderlying38 Try.sizeOf3 rfl rfl (by first | rfl | omega) (by rw [atR_len]; omega)) (Wd.g rfl rfl rfl) rfl rfl ?_
            refine LR.v (Y.cast (v2 := .int .i64 ((posL o51 (idn n2) o51.length : Nat) : Int)) (Y.load1 (oat.pt (j := n2) (by rw [atR_len]; omega)) rfl Try.isAgg3 rfl) (congrArg (fun x : Nat => (Value.int .i64 (x : Int))) (atR_end _))) (Wd.g rfl rfl rfl) rfl rfl ?_
            refine LR.v ((Y.gtr rfl rfl rfl).isF (by omega)) (Wd.g rfl rfl rfl) rfl rfl ?_
            refine LR.v (Y.pick_t rfl rfl rfl) (Wd.u rfl) rfl rfl ?_
            refine LR.nil ?_
            refine hK68 _ _ ?_
            refine CW.cond_f rfl ?_
            refine CW.skip ?_
            refine hK67 _ _ ?_
            refine hK66 _ _ ?_
            refine CW.region ?_
            refine LR.v (Y.move rfl rfl) (Wd.u rfl) rfl rfl ?_
            refine LR.v (Y.addi rfl rfl rfl (by omega)) (Wd.u rfl) rfl rfl ?_
            refine LR.v (Y.assign rfl rfl) (Wd.u rfl) rfl rfl ?_
            refine LR.nil ?_
            refine QN.sub (hN63 (j2 + 1) _ ?_ ?_) ⟨rfl, rfl, (iv (by omega)), (iv (by omega)), trivial⟩
            · exact ⟨(by omega), hlm6⟩
            · first | omega | (simp only; omega) | (simp; omega)
          ·
            refine LR.gs rfl rfl rfl rfl rfl rfl ?_
            refine LR.gs rfl rfl rfl rfl rfl rfl ?_
            refine LR.gs rfl rfl rfl rfl rfl rfl ?_
            refine LR.gs rfl rfl rfl rfl rfl rfl ?_
            refine LR.gs rfl rfl rfl rfl rfl rfl ?_
            refine LR.gs rfl rfl rfl rfl rfl rfl ?_
            refine LR.gs rfl rfl rfl rfl rfl rfl ?_
            refine LR.gs rfl rfl rfl rfl rfl rfl ?_
            refine LR.gs rfl rfl rfl rfl rfl rfl ?_
            refine LR.gs rfl rfl rfl rfl rfl rfl ?_
            refine LR.gs rfl rfl rfl rfl rfl rfl ?_
            refine LR.gs rfl rfl rfl rfl rfl rfl ?_
            refine LR.gs rfl rfl rfl rfl rfl rfl ?_
            refine LR.gs rfl rfl rfl rfl rfl rfl ?_
            refine LR.gs rfl rfl rfl rfl rfl rfl ?_
            refine LR.v (Y.pick_f rfl rfl rfl) (Wd.u rfl) rfl rfl ?_
            refine LR.nil ?_
            refine hK68 _ _ ?_
            refine CW.cond_f rfl ?_
            refine CW.skip ?_
            refine hK67 _ _ ?_
            refine hK66 _ _ ?_
            refine CW.region ?_
            refine LR.v (Y.move rfl rfl) (Wd.u rfl) rfl rfl ?_
            refine LR.v (Y.addi rfl rfl rfl (by omega)) (Wd.u rfl) rfl rfl ?_
            refine LR.v (Y.assign rfl rfl) (Wd.u rfl) rfl rfl ?_
            refine LR.nil ?_
            refine QN.sub (hN63 (j2 + 1) _ ?_ ?_) ⟨rfl, rfl, (iv (by omega)), (iv (by omega)), trivial⟩
            · exact ⟨(by omega), hlm6⟩
            · first | omega | (simp only; omega) | (simp; omega)
        ·
          refine CW.exit (hE64 (.exit 10) nofun _ _ (hE63 (.exit 10) nofun _ _ (hX62 _ _ ?_)))
          refine hK60 _ _ ?_
          refine hK59 _ _ ?_
          refine CW.region ?_
          refine LR.v (Y.move rfl rfl) (Wd.u rfl) rfl rfl ?_
          refine LR.v (Y.addi rfl rfl rfl (by omega)) (Wd.u rfl) rfl rfl ?_
          refine LR.v (Y.assign rfl rfl) (Wd.u rfl) rfl rfl ?_
          refine LR.nil ?_
          refine QN.sub (hN56 (n2 + 1) _ ?_ ?_) ⟨rfl, rfl, (iv (by omega)), trivial⟩
          · exact ⟨(by omega), hlm5⟩
          · first | omega | (simp only; omega) | (simp; omega)
      ·
        refine CW.exit (hE57 (.exit 8) nofun _ _ (hE56 (.exit 8) nofun _ _ (hX55 _ _ ?_)))
        refine hK53 _ _ ?_
        refine CW.seq (fun K69 hK69 hE69 => ?_)
        refine CW.region ?_
        refine LR.v (Y.assign rfl rfl) (Wd.u rfl) rfl rfl ?_
        refine LR.nil ?_
        refine hK69 _ _ ?_
        refine CW.ret (hret .ret (.inr rfl) _ _ _ (res1 rfl rfl) ?_)
        exact ⟨rfl, hm0⟩

end Go.Proofs.Ytepdhokpfecdnaa.GraT
