/-
  Files moved elsewhere as they are: the plain law.
-/
import Derived.Test.YtclhnkmkejijjaaRenO
namespace Go.Proofs.Ytclhnkmkejijjaa.RenQ
open Go.Proofs.Ytclhnkmkejijjaa.E Go.RowKit Go.Proofs.Ytclhnkmkejijjaa.RenA Go.Proofs.Ytclhnkmkejijjaa.RenB Go.Proofs.Ytclhnkmkejijjaa.RenC Go.Proofs.Ytclhnkmkejijjaa.RenD Go.Proofs.Ytclhnkmkejijjaa.RenE Go.Proofs.Ytclhnkmkejijjaa.RenF Go.Proofs.Ytclhnkmkejijjaa.RenG Go.Proofs.Ytclhnkmkejijjaa.RenH Go.Proofs.Ytclhnkmkejijjaa.RenI Go.Proofs.Ytclhnkmkejijjaa.RenL Go.Proofs.Ytclhnkmkejijjaa.RenM Go.Proofs.Ytclhnkmkejijjaa.RenN Go.Proofs.Ytclhnkmkejijjaa.RenO
set_option maxRecDepth 20000
set_option linter.unusedVariables false
set_option linter.unusedSimpArgs false
set_option linter.unusedSectionVars false

def c97 (i : Nat) : UInt8 := UInt8.ofNat (97 + i)
theorem c97_nat {i : Nat} (h : i < 21) : (c97 i).toNat = 97 + i := by simp [c97]; omega
def nmP (i : Nat) : List UInt8 := [102, c97 i]
def dat (i : Nat) : List UInt8 := [UInt8.ofNat i, 10, UInt8.ofNat (i + 100), 10]
def pz (dir : List UInt8) (i : Nat) : List UInt8 := (([122, 122, 47] ++ dir) ++ [47]) ++ nmP i
def mv (fl : List Bool) (i : Nat) : Bool := fl.getD i false
def pathB (dir : List UInt8) (fl : List Bool) (i : Nat) : List UInt8 := if mv fl i = true then pz dir i else nmP i
def aC (i : Nat) : Fc := (nmP i, 1, dat i)
def bC (dir : List UInt8) (fl : List Bool) (i : Nat) : Fc := (pathB dir fl i, 1, dat i)
theorem bl_pre (u a b : List UInt8) : Op.bytesLess (u ++ a) (u ++ b) = Op.bytesLess a b := by
  induction u with
  | nil => rfl
  | cons c u ih => simp [Op.bytesLess, ih]
theorem nm_lt {i j : Nat} (h : i < j) (hj : j < 21) : Op.bytesLess (nmP i) (nmP j) = true := by
  have : c97 i < c97 j := by rw [UInt8.lt_iff_toNat_lt, c97_nat (by omega), c97_nat hj]; omega
  simp [nmP, Op.bytesLess, this]
theorem nm_inj {i j : Nat} (hi : i < 21) (hj : j < 21) (e : nmP i = nmP j) : i = j := by
  have h1 : c97 i = c97 j := by simpa [nmP] using e
  have := congrArg UInt8.toNat h1
  rw [c97_nat hi, c97_nat hj] at this; omega
theorem nm_pz (dir : List UInt8) (i j : Nat) : Op.bytesLess (nmP i) (pz dir j) = true := by simp [nmP, pz, Op.bytesLess]
theorem pz_nm (dir : List UInt8) (i j : Nat) : Op.bytesLess (pz dir i) (nmP j) = false := by
  cases h : Op.bytesLess (pz dir i) (nmP j) with
  | false => rfl
  | true => have := bl_trans h (nm_pz dir j i); rw [bl_refl] at this; cases this
theorem pz_lt {dir : List UInt8} {i j : Nat} (h : i < j) (hj : j < 21) : Op.bytesLess (pz dir i) (pz dir j) = true := by unfold pz; rw [bl_pre]; exact nm_lt h hj
theorem pz_inj {dir : List UInt8} {i j : Nat} (hi : i < 21) (hj : j < 21) (e : pz dir i = pz dir j) : i = j := nm_inj hi hj (List.append_cancel_left e)
theorem nm_len (i : Nat) : (nmP i).length = 2 := rfl
theorem pz_len (dir : List UInt8) (i : Nat) : (pz dir i).length = dir.length + 6 := by simp [pz, nm_len]
theorem below_len {p up : List UInt8} (h : p.length ≤ up.length) : belowL p up = false := below_no (fun h1 => by omega)
theorem apart (dir : List UInt8) (fl : List Bool) {i j : Nat} (hi : i < 21) (hj : j < 21) (hne : i ≠ j) : pathB dir fl i ≠ pathB dir fl j ∧ belowL (pathB dir fl i) (pathB dir fl j) = false := by
  unfold pathB
  have l1 := pz_len dir i; have l2 := pz_len dir j; have l3 := nm_len i; have l4 := nm_len j
  split <;> split
  · exact ⟨fun e => hne (pz_inj hi hj e), below_len (by omega)⟩
  · refine ⟨fun e => ?_, below_no (fun h => ?_)⟩
    · have := congrArg List.length e; omega
    · have := h.2; rw [l4] at this; simp [pz, nmP] at this
  · refine ⟨fun e => ?_, below_len (by omega)⟩
    have := congrArg List.length e; omega
  · exact ⟨fun e => hne (nm_inj hi hj e), below_len (by omega)⟩
theorem spl_cut : ∀ (s cur rest : List UInt8), (∀ c ∈ s, c ≠ 47) → spl cur (s ++ 47 :: rest) = (cur ++ s) :: spl [] rest
  | [], cur, rest, _ => by simp [spl]
  | c :: s, cur, rest, h => by rw [List.cons_append, spl, if_neg (h c (by simp)), spl_cut s _ rest (fun d hd => h d (by simp [hd]))]; simp
theorem spl_end : ∀ (s cur : List UInt8), (∀ c ∈ s, c ≠ 47) → spl cur s = [cur ++ s]
  | [], cur, _ => by simp [spl]
  | c :: s, cur, h => by rw [spl, if_neg (h c (by simp)), spl_end s _ (fun d hd => h d (by simp [hd]))]; simp
theorem spl_pos : ∀ (s cur : List UInt8), 1 ≤ (spl cur s).length
  | [], _ => by simp [spl]
  | c :: s, cur => by
    rw [spl]
    split
    · simp
    · exact spl_pos s _
theorem spl_one : ∀ (s cur : List UInt8), (spl cur s).length = 1 → ∀ c ∈ s, c ≠ 47
  | [], _, _ => by simp
  | c :: s, cur, h => by
    rw [spl] at h
    split at h
    · have := spl_pos s []; rw [List.length_cons] at h; omega
    · rename_i hc
      intro d hd
      rcases List.mem_cons.1 hd with rfl | hd
      · exact hc
      · exact spl_one s _ h d hd
/-- a text that is one name -/
def One (dir : List UInt8) : Prop := (∀ c ∈ dir, c ≠ 47) ∧ nameOk dir = true
theorem One.of {dir : List UInt8} (h : (namesL dir).length = 1) : One dir := by
  unfold namesL at h
  split at h
  · rename_i h1
    have h2 := spl_one dir [] h
    refine ⟨h2, ?_⟩
    have := h1.1
    rw [spl_end dir [] h2] at this
    simpa using this
  · simp at h
theorem nm_no {i : Nat} (hi : i < 21) : ∀ c ∈ nmP i, c ≠ 47 ∧ c ≠ 0 := by
  intro c hc
  simp only [nmP, List.mem_cons, List.not_mem_nil, or_false] at hc
  rcases hc with rfl | rfl
  · decide
  · constructor <;> intro e <;> have := congrArg UInt8.toNat e <;> rw [c97_nat hi] at this <;> simp at this <;> omega
theorem nm_ok {i : Nat} (hi : i < 21) : nameOk (nmP i) = true := by
  refine nameOk_all (by rw [nm_len]; simp [nmP]) (fun q hq => nm_no hi _ (List.getElem_mem hq))
theorem names_nm {i : Nat} (hi : i < 21) : (namesL (nmP i)).length = 1 := by
  rw [namesL, spl_end _ _ (fun c hc => (nm_no hi c hc).1)]
  simp [nm_ok hi]
theorem names_pz {dir : List UInt8} (hd : One dir) {i : Nat} (hi : i < 21) : (namesL (pz dir i)).length = 3 := by
  have e : spl [] (pz dir i) = [[122, 122], dir, nmP i] := by
    have h1 : pz dir i = [122, 122] ++ 47 :: (dir ++ 47 :: nmP i) := by simp [pz]
    rw [h1, spl_cut [122, 122] [] _ (by decide), spl_cut dir [] _ hd.1, spl_end _ _ (fun c hc => (nm_no hi c hc).1)]
    simp
  rw [namesL, e]
  have hz : nameOk [122, 122] = true := by decide
  simp [hz, hd.2, nm_ok hi]
theorem gk1 : gk 1 = 1 := by decide
theorem gf_b (dir : List UInt8) (fl : List Bool) (i : Nat) : gf (bC dir fl i) = bC dir fl i := by
  unfold gf bC
  simp only [gk1]
  rw [List.take_of_length_le (by simp [dat])]
theorem chk_b {dir : List UInt8} (hd : One dir) (fl : List Bool) {i : Nat} (hi : i < 21) : chkF (bC dir fl i) = 0 := by
  have hn : (namesL (pathB dir fl i)).length ≠ 0 := by
    unfold pathB
    split
    · rw [names_pz hd hi]; decide
    · rw [names_nm hi]; decide
  unfold chkF bC
  simp only
  rw [if_neg (by decide), if_neg hn, if_neg (by simp [dat])]
theorem rf_succ (p : Nat → Bool) (m : Nat) : (List.range (m + 1)).filter p = (List.range m).filter p ++ (if p m = true then [m] else []) := by
  rw [List.range_succ, List.filter_append]
  congr 1
  rw [List.filter_cons]
  split <;> rfl
def stay (fl : List Bool) (m : Nat) : List Nat := (List.range m).filter (fun i => !(mv fl i))
def went (fl : List Bool) (m : Nat) : List Nat := (List.range m).filter (mv fl)
theorem stay_mem {fl : List Bool} {m i : Nat} (h : i ∈ stay fl m) : i < m ∧ mv fl i = false := by
  obtain ⟨h1, h2⟩ := List.mem_filter.1 h
  exact ⟨List.mem_range.1 h1, by simpa using h2⟩
theorem went_mem {fl : List Bool} {m i : Nat} (h : i ∈ went fl m) : i < m ∧ mv fl i = true := by
  obtain ⟨h1, h2⟩ := List.mem_filter.1 h
  exact ⟨List.mem_range.1 h1, h2⟩
theorem good_moves {dir : List UInt8} (hd : One dir) (fl : List Bool) : ∀ m, m ≤ 20 → ((List.range m).map (bC dir fl)).foldl goodStep [] = (stay fl m).map (bC dir fl) ++ (went fl m).map (bC dir fl)
  | 0, _ => rfl
  | m + 1, hm => by
    rw [List.range_succ, List.map_append, List.foldl_append, good_moves hd fl m (by omega)]
    simp only [List.map_cons, List.map_nil, List.foldl_cons, List.foldl_nil]
    have hall : ∀ y ∈ (stay fl m).map (bC dir fl) ++ (went fl m).map (bC dir fl), ∃ j, j < m ∧ y = bC dir fl j := by
      intro y hy
      rcases List.mem_append.1 hy with hy | hy
      · obtain ⟨j, hj, rfl⟩ := List.mem_map.1 hy; exact ⟨j, (stay_mem hj).1, rfl⟩
      · obtain ⟨j, hj, rfl⟩ := List.mem_map.1 hy; exact ⟨j, (went_mem hj).1, rfl⟩
    have hfit : fitsC ((stay fl m).map (bC dir fl) ++ (went fl m).map (bC dir fl)) (bC dir fl m).1 = true := by
      unfold fitsC
      rw [List.all_eq_true]
      intro y hy
      obtain ⟨j, hj, rfl⟩ := hall y hy
      have a1 := apart dir fl (show j < 21 by omega) (show m < 21 by omega) (by omega)
      have a2 := apart dir fl (show m < 21 by omega) (show j < 21 by omega) (by omega)
      simp [bC, a1.1, a1.2, a2.2]
    rw [goodStep_yes (by rw [gf_b, chk_b hd fl (by omega)]; simp) hfit, gf_b]
    have hs : stay fl (m + 1) = stay fl m ++ if (!(mv fl m)) = true then [m] else [] := rf_succ _ m
    have hw : went fl (m + 1) = went fl m ++ if mv fl m = true then [m] else [] := rf_succ _ m
    have hsl : ((stay fl m).map (bC dir fl)).length = (stay fl m).length := by simp
    cases hmv : mv fl m with
    | false =>
      have hp : placeC (bC dir fl m).1 ((stay fl m).map (bC dir fl) ++ (went fl m).map (bC dir fl)) = (stay fl m).length := by
        have e0 : (bC dir fl m).1 = nmP m := by simp [bC, pathB, hmv]
        rw [e0]
        refine placeC_at (by simp) (fun q hq hlt => ?_) (fun hq => ?_)
        · rw [List.getElem_append_left (by simpa using hlt), List.getElem_map]
          have hj := stay_mem (List.getElem_mem (by simpa using hlt) : (stay fl m)[q] ∈ stay fl m)
          simp only [bC, pathB, hj.2]
          exact nm_lt hj.1 (by omega)
        · rw [List.getElem_append_right (by simp), List.getElem_map]
          simp only [List.length_append, List.length_map] at hq
          have hq2 : (stay fl m).length - ((stay fl m).map (bC dir fl)).length < (went fl m).length := by rw [List.length_map]; omega
          have hj := went_mem (List.getElem_mem hq2 : (went fl m)[_] ∈ went fl m)
          simp only [bC, pathB, hj.2, if_true]
          exact pz_nm dir _ m
      rw [hp, List.take_left' hsl, List.drop_left' hsl, hs, hw, hmv]; simp
    | true =>
      have hp : placeC (bC dir fl m).1 ((stay fl m).map (bC dir fl) ++ (went fl m).map (bC dir fl)) = ((stay fl m).map (bC dir fl) ++ (went fl m).map (bC dir fl)).length := by
        have e0 : (bC dir fl m).1 = pz dir m := by simp [bC, pathB, hmv]
        rw [e0]
        refine placeC_at (Nat.le_refl _) (fun q hq _ => ?_) (fun hq => absurd hq (Nat.lt_irrefl _))
        obtain ⟨j, hj, e⟩ := hall _ (List.getElem_mem hq)
        rw [e]
        simp only [bC, pathB]
        split
        · exact pz_lt hj (by omega)
        · exact nm_pz dir j m
      rw [hp, List.take_length, List.drop_length, hs, hw, hmv]; simp
theorem good_all {dir : List UInt8} (hd : One dir) (fl : List Bool) {n : Nat} (hn : n ≤ 20) : goodC ((List.range n).map (bC dir fl)) = (stay fl n).map (bC dir fl) ++ (went fl n).map (bC dir fl) := by
  unfold goodC
  rw [List.take_of_length_le (by simp; omega), good_moves hd fl n hn]
theorem diffE0 : ∀ (b : List Fl), diffL [] b = b.map (fun y => ⟨zFl, y⟩)
  | [] => by rw [diffL]; rfl
  | y :: b => by rw [diffL, diffE0 b]; rfl
/-- those of a row that went -/
def pickM (fl : List Bool) : List Nat → List Fl → List Fl
  | i :: ls, x :: la => (if mv fl i = true then [x] else []) ++ pickM fl ls la
  | _, _ => []
theorem diff_moves (fl : List Bool) (gZ : List Fl) (hZ : ∀ z ∈ gZ, ∀ i, Op.bytesLess (nmP i) z.p = true) : ∀ (ls : List Nat) (la gN : List Fl), ls.Pairwise (· < ·) → (∀ i ∈ ls, i < 21) → la.map Fl.c = ls.map aC → gN.map Fl.c = (ls.filter (fun i => !(mv fl i))).map aC →
    diffL la (gN ++ gZ) = (pickM fl ls la).map (fun x => ⟨x, zFl⟩) ++ gZ.map (fun y => ⟨zFl, y⟩)
  | [], la, gN, _, _, h1, h2 => by
    have e1 : la = [] := by simpa using h1
    have e2 : gN = [] := by simpa using h2
    rw [e1, e2, List.nil_append, diffE0]; rfl
  | i :: ls, [], _, _, _, h1, _ => by simp at h1
  | i :: ls, x :: la, gN, hp, hb, h1, h2 => by
    obtain ⟨p1, p2⟩ := List.pairwise_cons.1 hp
    simp only [List.map_cons, List.cons.injEq] at h1
    obtain ⟨hx, h1⟩ := h1
    have hxp : x.p = nmP i := congrArg Prod.fst hx
    have hi := hb i (by simp)
    have hb' : ∀ j ∈ ls, j < 21 := fun j hj => hb j (by simp [hj])
    cases hm : mv fl i with
    | true =>
      have h2' : gN.map Fl.c = (ls.filter (fun i => !(mv fl i))).map aC := by rw [h2, List.filter_cons]; simp [hm]
      have ih := diff_moves fl gZ hZ ls la gN p2 hb' h1 h2'
      have hnext : ∀ y ∈ gN ++ gZ, Op.bytesLess x.p y.p = true := by
        intro y hy
        rw [hxp]
        rcases List.mem_append.1 hy with hy | hy
        · have : y.c ∈ gN.map Fl.c := List.mem_map.2 ⟨y, hy, rfl⟩
          rw [h2'] at this
          obtain ⟨j, hj, e⟩ := List.mem_map.1 this
          have hj2 := (List.mem_filter.1 hj).1
          have : y.p = nmP j := (congrArg Prod.fst e).symm
          rw [this]
          exact nm_lt (p1 j hj2) (hb' j hj2)
        · exact hZ y hy i
      have e : diffL (x :: la) (gN ++ gZ) = ⟨x, zFl⟩ :: diffL la (gN ++ gZ) := by
        cases hg : gN ++ gZ with
        | nil => rw [diffL]
        | cons y g => rw [diffL, if_pos (hnext y (by rw [hg]; simp))]
      rw [e, ih, pickM, hm]; rfl
    | false =>
      rw [List.filter_cons] at h2
      simp only [hm, Bool.not_false, if_true, List.map_cons] at h2
      cases gN with
      | nil => simp at h2
      | cons y gN =>
        simp only [List.map_cons, List.cons.injEq] at h2
        obtain ⟨hy, h2⟩ := h2
        have ih := diff_moves fl gZ hZ ls la gN p2 hb' h1 h2
        have hs : x.c = y.c := hx.trans hy.symm
        have hpp : x.p = y.p := congrArg Prod.fst hs
        have hsm : sameF x y = true := by
          have e1 : x.k = y.k := congrArg (fun z : Fc => z.2.1) hs
          have e2 : x.d = y.d := congrArg (fun z : Fc => z.2.2) hs
          simp [sameF, hpp, e1, e2]
        rw [List.cons_append, diffL, if_neg (by rw [hpp, bl_refl]; simp), if_neg (by rw [hpp, bl_refl]; simp), if_pos hsm, ih, pickM, hm]; rfl
theorem pickM_c (fl : List Bool) : ∀ (ls : List Nat) (la : List Fl), la.map Fl.c = ls.map aC → (pickM fl ls la).map Fl.c = (ls.filter (mv fl)).map aC
  | [], la, h => by simp [pickM]
  | i :: ls, [], h => by simp at h
  | i :: ls, x :: la, h => by
    simp only [List.map_cons, List.cons.injEq] at h
    rw [pickM, List.map_append, pickM_c fl ls la h.2, List.filter_cons]
    split
    · simp [h.1]
    · simp
/-- row by row the same bytes, all unlike: each has its own -/
theorem ex_pairs : ∀ (gone come : List Fl) (ps : List Pr), gone.map (·.d) = come.map (·.d) → (come.map (·.d)).Nodup → gone.foldl exStep (ps, [], come) = (ps ++ gone.zipWith (fun f g => ⟨f.p, g.p, 100⟩) come, [], [])
  | [], [], ps, _, _ => by simp
  | [], _ :: _, _, h, _ => by simp at h
  | _ :: _, [], _, h, _ => by simp at h
  | f :: gone, g :: come, ps, h, hn => by
    simp only [List.map_cons, List.cons.injEq] at h
    rw [List.map_cons, List.nodup_cons] at hn
    have hp : ∀ k, k ≤ come.length → pst f (g :: come) (k + 1) = (0 : Nat) := by
      intro k
      induction k with
      | zero => intro _; exact pst_hit (by simp) (by simpa using h.1) (.inl (by simp [pst]))
      | succ k ih =>
        intro hk
        rw [pst_miss (by simp; omega), ih (by omega)]
        rintro ⟨hd, _⟩
        refine hn.1 ?_
        rw [← h.1, hd]
        exact List.mem_map.2 ⟨come[k], List.getElem_mem (by omega), by simp⟩
    rw [List.foldl_cons, exStep_yes (hp come.length (Nat.le_refl _)) (by simp)]
    simp only [List.getElem_cons_zero, List.eraseIdx_zero, List.tail_cons]
    rw [ex_pairs gone come _ h.2 hn.2]; simp
theorem sorted_eq {α : Type} {R : α → α → Prop} (hi : ∀ x, ¬ R x x) (ht : ∀ x y z, R x y → R y z → R x z) : ∀ {l m : List α}, l.Perm m → l.Pairwise R → m.Pairwise R → l = m
  | [], m, h, _, _ => (List.nil_perm.1 h).symm
  | x :: l, [], h, _, _ => by have := h.length_eq; simp at this
  | x :: l, y :: m, h, h1, h2 => by
    obtain ⟨a1, a2⟩ := List.pairwise_cons.1 h1
    obtain ⟨b1, b2⟩ := List.pairwise_cons.1 h2
    have hxy : x = y := by
      rcases List.mem_cons.1 (h.subset (by simp : x ∈ x :: l)) with e | hx
      · exact e
      · rcases List.mem_cons.1 (h.symm.subset (by simp : y ∈ y :: m)) with e | hy
        · exact e.symm
        · exact absurd (ht _ _ _ (a1 y hy) (b1 x hx)) (hi x)
    subst hxy
    rw [sorted_eq hi ht (List.Perm.cons_inv h) a2 b2]
def prM (dir : List UInt8) (i : Nat) : Pr := ⟨nmP i, pz dir i, 100⟩
theorem dat_inj {i j : Nat} (hi : i < 21) (hj : j < 21) (e : dat i = dat j) : i = j := by
  have h1 : UInt8.ofNat i = UInt8.ofNat j := by simp [dat] at e; exact e
  have := congrArg UInt8.toNat h1
  simp at this; omega
theorem moves_det {dir : List UInt8} {fl : List Bool} {n : Nat} (hn : n ≤ 20) {la gb : List Fl} (ha : la.map Fl.c = (List.range n).map aC) (hb : gb.map Fl.c = (stay fl n).map (bC dir fl) ++ (went fl n).map (bC dir fl)) {out : List Pr} (h : DetP (diffL la gb) out) : out = (went fl n).map (prM dir) := by
  obtain ⟨gN, gZ, rfl, hN, hZ⟩ := List.map_eq_append_iff.1 hb
  have hN' : gN.map Fl.c = ((List.range n).filter (fun i => !(mv fl i))).map aC := by
    rw [hN]
    refine List.map_congr_left (fun i hi => ?_)
    have := (stay_mem hi).2
    simp [bC, aC, pathB, this]
  have hZ' : gZ.map Fl.c = (went fl n).map (fun i => (pz dir i, (1 : Int), dat i)) := by
    rw [hZ]
    refine List.map_congr_left (fun i hi => ?_)
    have := (went_mem hi).2
    simp [bC, pathB, this]
  have hZm : ∀ z ∈ gZ, ∃ j ∈ went fl n, z.c = (pz dir j, (1 : Int), dat j) := by
    intro z hz
    have : z.c ∈ gZ.map Fl.c := List.mem_map.2 ⟨z, hz, rfl⟩
    rw [hZ'] at this
    obtain ⟨j, hj, e⟩ := List.mem_map.1 this
    exact ⟨j, hj, e.symm⟩
  have hdf := diff_moves fl gZ (fun z hz i => by
    obtain ⟨j, _, e⟩ := hZm z hz
    rw [show z.p = pz dir j from congrArg Prod.fst e]
    exact nm_pz dir i j) (List.range n) la gN List.pairwise_lt_range (fun i hi => by have := List.mem_range.1 hi; omega) ha hN'
  have hpc := pickM_c fl (List.range n) la ha
  have cnt : ∀ (x : Fl) (q : List UInt8) (j : Nat), x.c = (q, 1, dat j) → cntF x.c = true := by
    intro x q j e; rw [e]; simp [cntF, dat]
  have k1 : ∀ (x : Fl) (q : List UInt8) (j : Nat), x.c = (q, 1, dat j) → x.k = 1 := fun x q j e => congrArg (fun z : Fc => z.2.1) e
  have hpm : ∀ x ∈ pickM fl (List.range n) la, ∃ j, x.c = (nmP j, 1, dat j) := by
    intro x hx
    have : x.c ∈ (pickM fl (List.range n) la).map Fl.c := List.mem_map.2 ⟨x, hx, rfl⟩
    rw [hpc] at this
    obtain ⟨j, _, e⟩ := List.mem_map.1 this
    exact ⟨j, e.symm⟩
  have hg : goneL (diffL la (gN ++ gZ)) = pickM fl (List.range n) la := by
    rw [hdf]
    have e1 : ∀ l : List Fl, (∀ x ∈ l, ∃ j, x.c = (nmP j, 1, dat j)) → goneL (l.map (fun x => ⟨x, zFl⟩) ++ gZ.map (fun y => ⟨zFl, y⟩)) = l := by
      intro l
      induction l with
      | nil =>
        intro _
        have : ∀ m : List Fl, goneL (m.map (fun y => ⟨zFl, y⟩)) = [] := by
          intro m
          induction m with
          | nil => rfl
          | cons y m ih => rw [List.map_cons, goneL_cons, ih, if_neg (by simp [zFl_cnt])]; rfl
        exact this gZ
      | cons x l ih =>
        intro hl
        obtain ⟨j, e⟩ := hl x (by simp)
        rw [List.map_cons, List.cons_append, goneL_cons, ih (fun y hy => hl y (by simp [hy])), if_pos ⟨rfl, cnt x _ j e⟩]; rfl
    exact e1 _ hpm
  have hc : comeL (diffL la (gN ++ gZ)) = gZ := by
    rw [hdf]
    have e1 : ∀ l : List Fl, (∀ x ∈ l, ∃ j, x.c = (nmP j, 1, dat j)) → comeL (l.map (fun x => ⟨x, zFl⟩) ++ gZ.map (fun y => ⟨zFl, y⟩)) = gZ := by
      intro l
      induction l with
      | nil =>
        intro _
        have : ∀ m : List Fl, (∀ z ∈ m, ∃ j ∈ went fl n, z.c = (pz dir j, (1 : Int), dat j)) → comeL (m.map (fun y => ⟨zFl, y⟩)) = m := by
          intro m
          induction m with
          | nil => intro _; rfl
          | cons y m ih =>
            intro hm
            obtain ⟨j, _, e⟩ := hm y (by simp)
            rw [List.map_cons, comeL_cons, ih (fun z hz => hm z (by simp [hz])), if_pos ⟨rfl, cnt y _ j e⟩]; rfl
        exact this gZ hZm
      | cons x l ih =>
        intro hl
        obtain ⟨j, e⟩ := hl x (by simp)
        have := k1 x _ j e
        rw [List.map_cons, List.cons_append, comeL_cons, ih (fun y hy => hl y (by simp [hy])), if_neg (by rintro ⟨h1, _⟩; simp only at h1; omega)]; rfl
    exact e1 _ hpm
  have hgd : (pickM fl (List.range n) la).map (·.d) = gZ.map (·.d) := by
    have e1 := congrArg (List.map (fun z : Fc => z.2.2)) hpc
    have e2 := congrArg (List.map (fun z : Fc => z.2.2)) hZ'
    simp only [List.map_map] at e1 e2
    have e3 : (pickM fl (List.range n) la).map (·.d) = (went fl n).map dat := e1
    have e4 : gZ.map (·.d) = (went fl n).map dat := e2
    rw [e3, e4]
  have hnd : (gZ.map (·.d)).Nodup := by
    have e2 := congrArg (List.map (fun z : Fc => z.2.2)) hZ'
    simp only [List.map_map] at e2
    have e4 : gZ.map (·.d) = (went fl n).map dat := e2
    rw [e4, List.nodup_iff_pairwise_ne, List.pairwise_map]
    refine (List.pairwise_lt_range.filter (mv fl)).imp_of_mem (fun {a b} ha hb hlt e => ?_)
    have h1 := (went_mem ha).1; have h2 := (went_mem hb).1
    have := dat_inj (by omega) (by omega) e
    omega
  have hex : exL (pickM fl (List.range n) la) gZ = ((went fl n).map (prM dir), [], []) := by
    have h0 := ex_pairs (pickM fl (List.range n) la) gZ [] hgd hnd
    unfold exL
    rw [h0, List.nil_append]
    congr 1
    have e1 : (pickM fl (List.range n) la).map (·.p) = (went fl n).map nmP := by
      have e1 := congrArg (List.map (fun z : Fc => z.1)) hpc
      simp only [List.map_map] at e1
      exact e1
    have e2 : gZ.map (·.p) = (went fl n).map (pz dir) := by
      have e2 := congrArg (List.map (fun z : Fc => z.1)) hZ'
      simp only [List.map_map] at e2
      exact e2
    have e3 : (pickM fl (List.range n) la).zipWith (fun f g => (⟨f.p, g.p, 100⟩ : Pr)) gZ = ((pickM fl (List.range n) la).map (·.p)).zipWith (fun a b => (⟨a, b, 100⟩ : Pr)) (gZ.map (·.p)) := by rw [List.zipWith_map]
    rw [e3, e1, e2, List.zipWith_map, List.zipWith_self]; rfl
  have hw : (went fl n).Pairwise (· < ·) := List.pairwise_lt_range.filter (mv fl)
  have hpg : ((goneL (diffL la (gN ++ gZ))).map (·.p)).Nodup := by
    rw [hg]
    have e1 := congrArg (List.map (fun z : Fc => z.1)) hpc
    simp only [List.map_map] at e1
    have e1' : (pickM fl (List.range n) la).map (·.p) = (went fl n).map nmP := e1
    rw [e1', List.nodup_iff_pairwise_ne, List.pairwise_map]
    refine hw.imp_of_mem (fun {a b} ha hb hlt e => ?_)
    have h1 := (went_mem ha).1; have h2 := (went_mem hb).1
    have := nm_inj (by omega) (by omega) e
    omega
  have hpcm : ((comeL (diffL la (gN ++ gZ))).map (·.p)).Nodup := by
    rw [hc]
    have e2 := congrArg (List.map (fun z : Fc => z.1)) hZ'
    simp only [List.map_map] at e2
    have e2' : gZ.map (·.p) = (went fl n).map (pz dir) := e2
    rw [e2', List.nodup_iff_pairwise_ne, List.pairwise_map]
    refine hw.imp_of_mem (fun {a b} ha hb hlt e => ?_)
    have h1 := (went_mem ha).1; have h2 := (went_mem hb).1
    have := pz_inj (by omega) (by omega) e
    omega
  obtain ⟨_, _, _, hsrt⟩ := det_props h hpg hpcm
  obtain ⟨L, h1, _, h2, _⟩ := h
  rw [hg, hc, hex] at h1 h2
  have hcand : candG [] [] = [] := by unfold candG; split <;> rfl
  simp only [hcand] at h1
  rw [List.perm_nil.1 h1] at h2
  refine sorted_eq (R := fun x y : Pr => Op.bytesLess x.o y.o = true) (fun x h => by rw [bl_refl] at h; cases h) (fun x y z => bl_trans) (by simpa [grd] using h2) hsrt ?_
  rw [List.pairwise_map]
  refine hw.imp_of_mem (fun {a b} ha hb hlt => ?_)
  exact nm_lt hlt (by have := (went_mem hb).1; omega)
theorem went_at {fl : List Bool} {n i : Nat} (hi : i < n) (h : mv fl i = true) : ∃ h : (went fl i).length < (went fl n).length, (went fl n)[(went fl i).length] = i := by
  have e : List.range n = List.range i ++ i :: (List.range' (i + 1) (n - i - 1)) := by
    rw [List.range_eq_range', List.range_eq_range', show i :: List.range' (i + 1) (n - i - 1) = List.range' (0 + 1 * i) (n - i) by rw [show n - i = (n - i - 1) + 1 by omega, List.range'_succ]; simp, List.range'_append]
    congr 1; omega
  have e2 : went fl n = went fl i ++ i :: (List.range' (i + 1) (n - i - 1)).filter (mv fl) := by
    unfold went
    rw [e, List.filter_append, List.filter_cons, if_pos h]
  have hl : (went fl i).length < (went fl n).length := by rw [e2]; simp
  refine ⟨hl, ?_⟩
  have : (went fl n)[(went fl i).length]? = some i := by rw [e2]; simp
  rw [List.getElem?_eq_getElem hl] at this
  exact Option.some.inj this

end Go.Proofs.Ytclhnkmkejijjaa.RenQ
