/-
  The disk: how many bytes there are.
-/
import Derived.Test.YtfbfjhppppoilaaDoorSimE
namespace Go.Proofs.YtfbfjhppppoilaaDoor.SimF
open Go.Proofs.YtfbfjhppppoilaaDoor.E Go.RowKit Go.Proofs.YtfbfjhppppoilaaDoor.SimA Go.Proofs.YtfbfjhppppoilaaDoor.SimB Go.Proofs.YtfbfjhppppoilaaDoor.SimC Go.Proofs.YtfbfjhppppoilaaDoor.SimD Go.Proofs.YtfbfjhppppoilaaDoor.SimE
set_option maxRecDepth 20000
set_option linter.unusedVariables false
set_option linter.unusedSimpArgs false
set_option linter.unusedSectionVars false

/-- what is left to count -/
def rst (ks dn : List Pth) (w : Pth → Nat) : Nat := ((ks.filter (fun k => !decide (k ∈ dn))).map w).sum
theorem rst_nil (ks : List Pth) (w : Pth → Nat) : rst ks [] w = (ks.map w).sum := by
  unfold rst; rw [List.filter_eq_self.2 (fun k _ => by simp)]
theorem rst_end {ks dn : List Pth} {w : Pth → Nat} (h : ∀ k ∈ ks, k ∈ dn) : rst ks dn w = 0 := by
  unfold rst; rw [List.filter_eq_nil_iff.2 (fun k hk => by simp [h k hk])]; rfl
theorem rst_step {w : Pth → Nat} {k : Pth} {dn : List Pth} (hd : k ∉ dn) : ∀ {ks : List Pth}, ks.Nodup → k ∈ ks → rst ks dn w = w k + rst ks (dn ++ [k]) w
  | [], _, h => by cases h
  | x :: ks, hn, h => by
    rw [List.nodup_cons] at hn
    unfold rst
    by_cases hx : x = k
    · subst hx
      have e : (x :: ks).filter (fun q => !decide (q ∈ dn ++ [x])) = ks.filter (fun q => !decide (q ∈ dn)) := by
        rw [List.filter_cons_of_neg (by simp)]
        refine List.filter_congr (fun q hq => ?_)
        have : q ≠ x := fun e => hn.1 (by rw [← e]; exact hq)
        simp [this]
      rw [e, List.filter_cons_of_pos (by simp [hd]), List.map_cons, List.sum_cons]
    · have hk : k ∈ ks := by
        rcases List.mem_cons.1 h with e | h
        · exact absurd e.symm hx
        · exact h
      have ih := rst_step (w := w) (dn := dn) hd hn.2 hk
      unfold rst at ih
      by_cases hxd : x ∈ dn
      · rw [List.filter_cons_of_neg (by simp [hxd]), List.filter_cons_of_neg (by simp [hxd])]; exact ih
      · rw [List.filter_cons_of_pos (by simp [hxd]), List.filter_cons_of_pos (by simp [hxd, hx]), List.map_cons, List.map_cons, List.sum_cons, List.sum_cons, ih]; omega
/-- the bytes of one directory's files -/
def dirS (D : Dk) (d : Pth) : Nat := usedL D.fs (D.now.filter (fun x => dirP x.1 = d))
theorem sum_if (ks : List Pth) (hn : ks.Nodup) (d : Pth) (a : Nat) : d ∈ ks → (ks.map (fun k => if d = k then a else 0)).sum = a := by
  induction ks with
  | nil => intro h; cases h
  | cons x ks ih =>
    intro h
    rw [List.nodup_cons] at hn
    rw [List.map_cons, List.sum_cons]
    by_cases hx : d = x
    · subst hx
      rw [if_pos rfl]
      have : (ks.map (fun k => if d = k then a else 0)).sum = 0 := by
        have : ks.map (fun k => if d = k then a else 0) = ks.map (fun _ => 0) := List.map_congr_left (fun k hk => if_neg (fun e => hn.1 (by rw [e]; exact hk)))
        rw [this]
        clear this ih hn h
        induction ks with
        | nil => rfl
        | cons x ks ih => rw [List.map_cons, List.sum_cons, ih]
      omega
    · rw [if_neg hx, ih hn.2 (by
        rcases List.mem_cons.1 h with e | h
        · exact absurd e hx
        · exact h)]; omega
theorem sum_add (ks : List Pth) (f g : Pth → Nat) : (ks.map (fun k => f k + g k)).sum = (ks.map f).sum + (ks.map g).sum := by
  induction ks with
  | nil => rfl
  | cons x ks ih => simp only [List.map_cons, List.sum_cons, ih]; omega
theorem dirS_all (fs : List Fdt) (ks : List Pth) (hn : ks.Nodup) : ∀ l : Nms, (∀ x ∈ l, dirP x.1 ∈ ks) → (ks.map (fun d => usedL fs (l.filter (fun x => dirP x.1 = d)))).sum = usedL fs l
  | [], _ => by
    have : ks.map (fun d => usedL fs (([] : Nms).filter (fun x => dirP x.1 = d))) = ks.map (fun _ => 0) := List.map_congr_left (fun k _ => rfl)
    rw [this]
    clear this hn
    rename_i hh
    clear hh
    induction ks with
    | nil => rfl
    | cons x ks ih => rw [List.map_cons, List.sum_cons, ih]; rfl
  | x :: l, h => by
    have ih := dirS_all fs ks hn l (fun y hy => h y (List.mem_cons_of_mem _ hy))
    have e : ks.map (fun d => usedL fs ((x :: l).filter (fun x => dirP x.1 = d))) = ks.map (fun d => (if dirP x.1 = d then (fget fs x.2).now.length else 0) + usedL fs (l.filter (fun x => dirP x.1 = d))) := by
      refine List.map_congr_left (fun k _ => ?_)
      by_cases hx : dirP x.1 = k
      · rw [List.filter_cons_of_pos (by simpa using hx), if_pos hx]; simp [usedL]
      · rw [List.filter_cons_of_neg (by simpa using hx), if_neg hx]; simp
    rw [e, sum_add, sum_if ks hn _ _ (h x List.mem_cons_self), ih]
    simp [usedL]
theorem names_sum {D : Dk} {nm : Nms} {d : Pth} (hA : Asc D.now) (hn : (nm.map (·.1)).Nodup) (he : ∀ q, mget nm q = if dirP q = d then mget D.now q else none) : ((nm.map (·.1)).map (fun q => (D.wasL q).length)).sum = dirS D d := by
  have hF : Asc (D.now.filter (fun x => decide (dirP x.1 = d))) := hA.filter _
  have hp : (nm.map (·.1)).Perm ((D.now.filter (fun x => decide (dirP x.1 = d))).map (·.1)) := (List.perm_ext_iff_of_nodup hn hF.nodup).2 (fun q => by
    rw [← isSome_iff_key, ← isSome_iff_key, he, mget_filter (f := fun p => decide (dirP p = d))]
    by_cases h : dirP q = d <;> simp [h])
  rw [(hp.map _).sum_nat]
  unfold dirS usedL
  rw [List.map_map]
  congr 1
  refine List.map_congr_left (fun x hx => ?_)
  have := mget_of_mem hA.nodup (show (x.1, x.2) ∈ D.now from (List.mem_filter.1 hx).1)
  simp only [Function.comp, Dk.wasL, this]
theorem used_all {K : List Nat} {g : Gh} {H : Heap} {b : Nat} {D : Dk} (hf : PDk K g H b D) (hA : Asc D.now) : ((g.dm.map (·.1)).map (dirS D)).sum = D.used :=
  dirS_all D.fs _ hf.hm.mo.nodup D.now (fun x hx => by
    have h1 := mget_of_mem hA.nodup (show (x.1, x.2) ∈ D.now from hx)
    rw [← isSome_iff_key]
    cases hq : mget g.dm (dirP x.1) with
    | some _ => rfl
    | none => rw [((hf.abs _ hq).1 x.1 rfl).1] at h1; cases h1)


theorem nodup_le {α : Type} [DecidableEq α] : ∀ {a b : List α}, a.Nodup → (∀ k ∈ a, k ∈ b) → a.length ≤ b.length
  | [], b, _, _ => Nat.zero_le _
  | x :: a, b, hn, hs => by
    rw [List.nodup_cons] at hn
    have h := nodup_le (b := b.erase x) hn.2 (fun k hk => (List.mem_erase_of_ne (fun e => hn.1 (by rw [← e]; exact hk))).2 (hs k (List.mem_cons_of_mem _ hk)))
    have hx := hs x List.mem_cons_self
    rw [List.length_erase_of_mem hx] at h
    have := List.length_pos_of_mem hx
    simp only [List.length_cons]; omega

set_option maxHeartbeats 2000000 in
theorem used_ct (K : List Nat) (g : Gh) (b : Nat) (D : Dk) (w0 : World) (H0 : Heap)
    (hf : PDk K g H0 b D) (hA : Asc D.now) (hU : D.used ≤ 4611686018427387904) :
    Ct Tryd.prog w0 19 #[ptr b] H0 (fun r H2 => r = .int .i64 (D.used : Int) ∧ Nw H0 H2) := by
  refine Ct.enter (args := [ptr b]) Tryd.func19 rfl rfl rfl ?_
  intro Q0 hret
  have hm0 : Nw H0 H0 := Mo.refl _ _
  have nx_hm0_hf := NxK.refl K H0.size
  have hbk_hf := hf.bk
  refine CW.seq (fun K1 hK1 hE1 => ?_)
  refine CW.region ?_
  refine LR.v (Y.assign rfl rfl) (Wd.u rfl) rfl rfl ?_
  refine LR.nil ?_
  refine hK1 _ _ ?_
  refine CW.seq (fun K2 hK2 hE2 => ?_)
  refine CW.region ?_
  refine LR.v (Y.assign rfl rfl) (Wd.u rfl) rfl rfl ?_
  refine LR.nil ?_
  refine hK2 _ _ ?_
  refine CW.seq (fun K3 hK3 hE3 => ?_)
  refine CW.seq (fun K4 hK4 hE4 => ?_)
  refine CW.region ?_
  refine LR.v (Y.move rfl rfl) (Wd.u rfl) rfl rfl ?_
  refine LR.v (Y.nilCheck rfl rfl) (Wd.u rfl) rfl rfl ?_
  refine LR.v (Y.fieldAddr hf.vb.pt rfl Tryd.runUnderlying64 rfl rfl Tryd.sizeOf57 (by decide) rfl) (Wd.u rfl) rfl rfl ?_
  refine LR.v (Y.load1 (hf.vb.pt.drop 2) rfl Tryd.isAgg57 rfl) (Wd.u rfl) rfl rfl ?_
  have hmo := hf.hm
  have hlt_hmo := hmo.lt
  obtain ⟨es, ck, hmo⟩ := hmo.raw
  refine LR.z (Z.rangeA hmo rfl Tryd.runUnderlying57 rfl) (Wd.u rfl) rfl rfl (fun v12 H12 r12 => ?_)
  obtain ⟨rfl, it, hs12, ob12, hH12⟩ := r12
  have hzs12 : H12.size = H0.size + 1 := by rw [hH12]; simp
  have dj1 : DL (H0.size + 1) K := DL.newK hf.bk
  have dj2 : Dj (g.mb + 1) (H0.size + 1) := Dj.new hmo.lt
  have nx3 : Nx 0 H0.size (H0.size + 1) := Nx.new hm0.size
  replace hf := hf.nw hs12
  replace hmo := hmo.nw hs12
  replace hm0 := hm0.tr hs12
  have hz1 := hs12.size
  have hlt_it := it.lt
  refine LR.nil ?_
  refine hK4 _ _ ?_
  refine CW.block (fun K5 hK5 hX5 hE5 => ?_)
  refine CW.loop (fun (s_ : (List Pth) × (Nat)) => match s_ with | (da, n) => [(3, .int .i64 (n : Int)), (12, .pointer (some ⟨H0.size, 0, none⟩))])
    (fun (s_ : (List Pth) × (Nat)) (H : Heap) => match s_ with | (da, n) => (Itr H H0.size g.mb Str es ck da) ∧ (da.Nodup ∧ ∀ k ∈ da, k ∈ g.dm.map (·.1)) ∧ (n + rst (g.dm.map (·.1)) da (dirS D) = D.used) ∧ Mo (Ms [(H0.size + 1)]) H12 H)
    (fun (s_ : (List Pth) × (Nat)) => match s_ with | (da, n) => g.dm.length - da.length) ([], 0) ⟨rfl, rfl, trivial⟩ ?_ ?_
  ·
    exact ⟨it, ⟨List.nodup_nil, by simp⟩, by rw [rst_nil, used_all hf hA]; omega, Mo.refl _ _⟩
  rintro ⟨da, n⟩ HL1 hI1 K6 hN6 hE6
  obtain ⟨it, hda, hsum, hlm1⟩ := hI1
  replace hf := hf.upL hlm1 (DKL.cons dj1 DKL.nil)
  replace hmo := hmo.upL hlm1 (DL.cons dj2 DL.nil)
  replace hm0 := (Mo.trL (ks := []) (hm0.mdn []) hlm1 (MIL.cons (MI.app MI.z (nx3) (Nat.le_refl _)) MIL.nil)).nil
  have hz2 := hlm1.size
  have nx_hlm1_it := Nx.refl (H0.size + 1) H12.size
  have hdl := nodup_le hda.1 hda.2
  rw [List.length_map] at hdl
  refine CW.seq (fun K7 hK7 hE7 => ?_)
  refine CW.region ?_
  refine LR.z (Z.nextA it hmo keyStr.inj rfl rfl) (Wd.u rfl) rfl rfl (fun v13 H13 r13 => ?_)
  obtain ⟨qb, d, db, dn1, rfl, it, hT13, hF13, hs13⟩ := r13
  replace hs13 := hs13.md1
  replace hf := hf.upL hs13 (DKL.cons dj1 DKL.nil)
  replace hmo := hmo.upL hs13 (DL.cons dj2 DL.nil)
  replace hm0 := (Mo.trL (ks := []) (hm0.mdn []) hs13 (MIL.cons (MI.app MI.z (nx3) (Nat.le_refl _)) MIL.nil)).nil
  replace hlm1 := hlm1.trL hs13 (MIL.cons (MI.app (MI.root (by simp)) (nx_hlm1_it) (Nat.le_refl _)) MIL.nil)
  have hz3 := hs13.size
  refine LR.v (Y.ext0 rfl rfl) (Wd.u rfl) rfl rfl ?_
  refine LR.nil ?_
  refine hK7 _ _ ?_
  refine CW.seq (fun K8 hK8 hE8 => ?_)
  refine CW.cond rfl (fun c14 => ?_) (fun c14 => ?_)
  ·
    obtain ⟨hxy, hnd, hdq⟩ := hT13 c14
    rw [hdq] at it
    have hdb := mget_of_mem hmo.mo.nodup hxy
    obtain ⟨nb, sb, kc, sv, nm, sm, hd⟩ := hf.dirs _ db hdb
    have hxd := hxy
    have hndd := hnd
    have hrs : rst (g.dm.map (·.1)) da (dirS D) = dirS D d + rst (g.dm.map (·.1)) (da ++ [d]) (dirS D) := rst_step (w := dirS D) hnd hmo.mo.nodup (List.mem_map.2 ⟨_, hxy, rfl⟩)
    refine CW.skip ?_
    refine hK8 _ _ ?_
    refine CW.block (fun K9 hK9 hX9 hE9 => ?_)
    refine CW.seq (fun K10 hK10 hE10 => ?_)
    refine CW.region ?_
    refine LR.v (Y.entryA it hmo keyStr.inj hxy rfl rfl) (Wd.u rfl) rfl rfl ?_
    refine LR.v (Y.extract rfl rfl rfl) (Wd.u rfl) rfl rfl ?_
    refine LR.v (Y.assign rfl rfl) (Wd.u rfl) rfl rfl ?_
    refine LR.nil ?_
    refine hK10 _ _ ?_
    refine CW.seq (fun K11 hK11 hE11 => ?_)
    refine CW.region ?_
    refine LR.v (Y.move rfl rfl) (Wd.u rfl) rfl rfl ?_
    refine LR.v (Y.nilCheck rfl rfl) (Wd.u rfl) rfl rfl ?_
    refine LR.v (Y.fieldAddr hd.vd.pt rfl Tryd.runUnderlying84 rfl rfl Tryd.sizeOf81 (by decide) rfl) (Wd.u rfl) rfl rfl ?_
    refine LR.v (Y.fieldAddr (hd.vd.pt.drop 0) rfl Tryd.runUnderlying81 rfl rfl Tryd.sizeOf79 (by decide) rfl) (Wd.u rfl) rfl rfl ?_
    refine LR.v (Y.load1 ((hd.vd.pt.drop 0).drop 0) rfl Tryd.isAgg79 rfl) (Wd.u rfl) rfl rfl ?_
    have hmn := hd.hn
    have hlt_hmn := hmn.lt
    obtain ⟨es2, ck2, hmn⟩ := hmn.raw
    refine LR.z (Z.rangeA hmn rfl Tryd.runUnderlying79 rfl) (Wd.u rfl) rfl rfl (fun v22 H22 r22 => ?_)
    obtain ⟨rfl, it2, hs22, ob22, hH22⟩ := r22
    have hzs22 : H22.size = H13.size + 1 := by rw [hH22]; simp
    have dj4 : DL (H13.size + 1) K := DL.newK hf.bk
    have dj5 : Dj (g.mb + 1) (H13.size + 1) := Dj.new hmo.lt
    have dj6 : Dj (H0.size + 1) (H13.size + 1) := Dj.new it.lt
    have dj7 : Dj (nb + 1) (H13.size + 1) := Dj.new hmn.lt
    have nx8 : Nx 0 H0.size (H13.size + 1) := Nx.new hm0.size
    have nx9 : Nx 0 H12.size (H13.size + 1) := Nx.new hlm1.size
    replace hf := hf.nw hs22
    replace hmo := hmo.nw hs22
    replace it := it.nw hs22
    replace hmn := hmn.nw hs22
    replace hm0 := hm0.tr hs22
    replace hlm1 := hlm1.trN hs22
    have hz4 := hs22.size
    have hlt_it2 := it2.lt
    refine LR.nil ?_
    refine hK11 _ _ ?_
    refine CW.block (fun K12 hK12 hX12 hE12 => ?_)
    refine CW.loop (fun (s_ : (List Pth) × (Nat)) => match s_ with | (dn, m) => [(3, .int .i64 (m : Int)), (12, .pointer (some ⟨H0.size, 0, none⟩)), (22, .pointer (some ⟨H13.size, 0, none⟩))])
      (fun (s_ : (List Pth) × (Nat)) (H : Heap) => match s_ with | (dn, m) => (Itr H H13.size nb Str es2 ck2 dn) ∧ (dn.Nodup ∧ ∀ k ∈ dn, k ∈ nm.map (·.1)) ∧ (m + rst (nm.map (·.1)) dn (fun q => (D.wasL q).length) + rst (g.dm.map (·.1)) (da ++ [d]) (dirS D) = D.used) ∧ Mo (Ms [(H13.size + 1)]) H22 H)
      (fun (s_ : (List Pth) × (Nat)) => match s_ with | (dn, m) => nm.length - dn.length) ([], n) ⟨rfl, rfl, rfl, trivial⟩ ?_ ?_
    ·
      exact ⟨it2, ⟨List.nodup_nil, by simp⟩, by rw [rst_nil, names_sum hA hmn.mo.nodup hd.en]; omega, Mo.refl _ _⟩
    rintro ⟨dn, m⟩ HL2 hI2 K13 hN13 hE13
    obtain ⟨it2, hdn, hsum2, hlm2⟩ := hI2
    replace hf := hf.upL hlm2 (DKL.cons dj4 DKL.nil)
    replace hmo := hmo.upL hlm2 (DL.cons dj5 DL.nil)
    replace it := it.upL hlm2 (DL.cons dj6 DL.nil)
    replace hmn := hmn.upL hlm2 (DL.cons dj7 DL.nil)
    replace hm0 := (Mo.trL (ks := []) (hm0.mdn []) hlm2 (MIL.cons (MI.app MI.z (nx8) (Nat.le_refl _)) MIL.nil)).nil
    replace hlm1 := hlm1.trL hlm2 (MIL.cons (MI.app MI.z (nx9) (Nat.le_refl _)) MIL.nil)
    have hz5 := hlm2.size
    have nx_hlm2_it2 := Nx.refl (H13.size + 1) H22.size
    have hdl := nodup_le hdn.1 hdn.2
    rw [List.length_map] at hdl
    refine CW.seq (fun K14 hK14 hE14 => ?_)
    refine CW.region ?_
    refine LR.z (Z.nextA it2 hmn keyStr.inj rfl rfl) (Wd.u rfl) rfl rfl (fun v23 H23 r23 => ?_)
    obtain ⟨qc, q, i, dn2, rfl, it2, hT23, hF23, hs23⟩ := r23
    replace hs23 := hs23.md1
    replace hf := hf.upL hs23 (DKL.cons dj4 DKL.nil)
    replace hmo := hmo.upL hs23 (DL.cons dj5 DL.nil)
    replace it := it.upL hs23 (DL.cons dj6 DL.nil)
    replace hmn := hmn.upL hs23 (DL.cons dj7 DL.nil)
    replace hm0 := (Mo.trL (ks := []) (hm0.mdn []) hs23 (MIL.cons (MI.app MI.z (nx8) (Nat.le_refl _)) MIL.nil)).nil
    replace hlm1 := hlm1.trL hs23 (MIL.cons (MI.app MI.z (nx9) (Nat.le_refl _)) MIL.nil)
    replace hlm2 := hlm2.trL hs23 (MIL.cons (MI.app (MI.root (by simp)) (nx_hlm2_it2) (Nat.le_refl _)) MIL.nil)
    have hz6 := hs23.size
    refine LR.v (Y.ext0 rfl rfl) (Wd.u rfl) rfl rfl ?_
    refine LR.nil ?_
    refine hK14 _ _ ?_
    refine CW.seq (fun K15 hK15 hE15 => ?_)
    refine CW.cond rfl (fun c24 => ?_) (fun c24 => ?_)
    ·
      obtain ⟨hxy, hnd, hdq⟩ := hT23 c24
      rw [hdq] at it2
      have hqi := mget_of_mem hmn.mo.nodup hxy
      rw [hd.en] at hqi
      have hqi : mget D.now q = some i := by
        split at hqi
        · exact hqi
        · cases hqi
      obtain ⟨nv, sv2, wv, kw, lw, hfi⟩ := hf.fil i (hf.ids.1 q i hqi)
      have hrs2 : rst (nm.map (·.1)) dn (fun q => (D.wasL q).length) = (D.wasL q).length + rst (nm.map (·.1)) (dn ++ [q]) (fun q => (D.wasL q).length) := rst_step (w := fun q => (D.wasL q).length) hnd hmn.mo.nodup (List.mem_map.2 ⟨_, hxy, rfl⟩)
      have hwl : D.wasL q = (fget D.fs i).now := by unfold Dk.wasL; rw [hqi]
      refine CW.skip ?_
      refine hK15 _ _ ?_
      refine CW.block (fun K16 hK16 hX16 hE16 => ?_)
      refine CW.seq (fun K17 hK17 hE17 => ?_)
      refine CW.region ?_
      refine LR.v (Y.entryA it2 hmn keyStr.inj hxy rfl rfl) (Wd.u rfl) rfl rfl ?_
      refine LR.v (Y.extract rfl rfl rfl) (Wd.u rfl) rfl rfl ?_
      refine LR.v (Y.assign rfl rfl) (Wd.u rfl) rfl rfl ?_
      refine LR.nil ?_
      refine hK17 _ _ ?_
      refine CW.region ?_
      refine LR.v (Y.move rfl rfl) (Wd.u rfl) rfl rfl ?_
      refine LR.v (Y.move rfl rfl) (Wd.u rfl) rfl rfl ?_
      refine LR.v (Y.nilCheck rfl rfl) (Wd.u rfl) rfl rfl ?_
      refine LR.v (Y.fieldAddr hfi.vf.pt rfl Tryd.runUnderlying76 rfl rfl Tryd.sizeOf73 (by decide) rfl) (Wd.u rfl) rfl rfl ?_
      refine LR.v (Y.fieldAddr (hfi.vf.pt.drop 0) rfl Tryd.runUnderlying73 rfl rfl Tryd.sizeOf25 (by decide) rfl) (Wd.u rfl) rfl rfl ?_
      refine LR.v (Y.load1 ((hfi.vf.pt.drop 0).drop 0) rfl Tryd.isAgg25 rfl) (Wd.u rfl) rfl rfl ?_
      refine LR.v (Y.len hfi.hn rfl Tryd.runUnderlying25 rfl) (Wd.u rfl) rfl rfl ?_
      refine LR.v (Y.cast (v2 := .int .i64 ((m + (D.wasL q).length : Nat) : Int)) (Y.addi rfl rfl rfl (by rw [hwl] at hrs2; omega)) (ivv (by rw [hwl]; omega))) (Wd.u rfl) rfl rfl ?_
      refine LR.v (Y.assign rfl rfl) (Wd.u rfl) rfl rfl ?_
      refine LR.nil ?_
      refine hK16 _ _ ?_
      have hdn2 : (dn ++ [q]).Nodup ∧ ∀ k ∈ dn ++ [q], k ∈ nm.map (·.1) := by
        refine ⟨?_, fun k hk => ?_⟩
        · rw [List.nodup_append]
          exact ⟨hdn.1, by simp, fun a ha b hb e => by simp only [List.mem_singleton] at hb; subst hb; subst e; exact hnd ha⟩
        · rcases List.mem_append.1 hk with h | h
          · exact hdn.2 k h
          · rw [List.mem_singleton.1 h]; exact List.mem_map.2 ⟨_, hxy, rfl⟩
      have hdl2 := nodup_le hdn2.1 hdn2.2
      rw [List.length_append, List.length_singleton, List.length_map] at hdl2
      refine QN.sub (hN13 (dn ++ [q], m + (D.wasL q).length) _ ?_ ?_) ⟨(iv (by omega)), rfl, rfl, trivial⟩
      · exact ⟨it2, hdn2, by rw [hrs2, ← Nat.add_assoc] at hsum2; exact hsum2, hlm2⟩
      · simp only [List.length_append, List.length_singleton]; omega
    ·
      obtain ⟨hall, _⟩ := hF23 c24
      have hre : rst (nm.map (·.1)) dn (fun q => (D.wasL q).length) = 0 := rst_end (fun k hk => by obtain ⟨p, hp, rfl⟩ := List.mem_map.1 hk; exact hall p hp)
      refine CW.exit (hE15 (.exit 2) nofun _ _ (hE13 (.exit 2) nofun _ _ (hX12 _ _ ?_)))
      refine hK9 _ _ ?_
      have hda2 : (da ++ [d]).Nodup ∧ ∀ k ∈ da ++ [d], k ∈ g.dm.map (·.1) := by
        refine ⟨?_, fun k hk => ?_⟩
        · rw [List.nodup_append]
          exact ⟨hda.1, by simp, fun a ha b hb e => by simp only [List.mem_singleton] at hb; subst hb; subst e; exact hndd ha⟩
        · rcases List.mem_append.1 hk with h | h
          · exact hda.2 k h
          · rw [List.mem_singleton.1 h]; exact List.mem_map.2 ⟨_, hxd, rfl⟩
      have hdl2 := nodup_le hda2.1 hda2.2
      rw [List.length_append, List.length_singleton, List.length_map] at hdl2
      refine QN.sub (hN6 (da ++ [d], m) _ ?_ ?_) ⟨(iv (by omega)), rfl, trivial⟩
      · exact ⟨it, hda2, by rw [hre, Nat.add_zero] at hsum2; exact hsum2, hlm1⟩
      · simp only [List.length_append, List.length_singleton]; omega
  ·
    obtain ⟨hall, _⟩ := hF13 c14
    have hre : rst (g.dm.map (·.1)) da (dirS D) = 0 := rst_end (fun k hk => by obtain ⟨p, hp, rfl⟩ := List.mem_map.1 hk; exact hall p hp)
    refine CW.exit (hE8 (.exit 0) nofun _ _ (hE6 (.exit 0) nofun _ _ (hX5 _ _ ?_)))
    refine hK3 _ _ ?_
    refine CW.seq (fun K18 hK18 hE18 => ?_)
    refine CW.region ?_
    refine LR.v (Y.move rfl rfl) (Wd.u rfl) rfl rfl ?_
    refine LR.v (Y.assign rfl rfl) (Wd.u rfl) rfl rfl ?_
    refine LR.nil ?_
    refine hK18 _ _ ?_
    refine CW.ret (hret .ret (.inr rfl) _ _ _ (res1 rfl rfl) ?_)
    exact ⟨by rw [show n = D.used by omega], hm0⟩

end Go.Proofs.YtfbfjhppppoilaaDoor.SimF
