/-
  The disk: a crash, as plain data.
-/
import Derived.Test.YtfbfjhppppoilaaDoorSimM
namespace Go.Proofs.YtfbfjhppppoilaaDoor.SimN
open Go.Proofs.YtfbfjhppppoilaaDoor.E Go.RowKit Go.Proofs.YtfbfjhppppoilaaDoor.SimA Go.Proofs.YtfbfjhppppoilaaDoor.SimB Go.Proofs.YtfbfjhppppoilaaDoor.SimC Go.Proofs.YtfbfjhppppoilaaDoor.SimD Go.Proofs.YtfbfjhppppoilaaDoor.SimE Go.Proofs.YtfbfjhppppoilaaDoor.SimF Go.Proofs.YtfbfjhppppoilaaDoor.SimG Go.Proofs.YtfbfjhppppoilaaDoor.SimH Go.Proofs.YtfbfjhppppoilaaDoor.SimI Go.Proofs.YtfbfjhppppoilaaDoor.SimJ Go.Proofs.YtfbfjhppppoilaaDoor.SimK Go.Proofs.YtfbfjhppppoilaaDoor.SimL Go.Proofs.YtfbfjhppppoilaaDoor.SimM
set_option maxRecDepth 20000
set_option linter.unusedVariables false
set_option linter.unusedSimpArgs false
set_option linter.unusedSectionVars false

theorem at_out {c : Chg} {n q : Pth} {o : Option Nat} (hcn : ∀ i, c.f = some i → dirP c.n = n) (hcg : c.g ≠ [] → dirP c.g = n) (hq : dirP q ≠ n) : c.at q o = o := by
  unfold Chg.at
  cases hcf : c.f with
  | none =>
    simp only
    rw [if_neg (fun e => hq (by rw [e.2]; exact hcg e.1))]
  | some i =>
    simp only
    rw [if_neg (fun e => hq (by rw [e]; exact hcn i hcf)), if_neg (fun e => hq (by rw [e.2]; exact hcg e.1))]
theorem dir_g {c : Chg} (h : c.g ≠ []) : dirP c.g = c.dir := by unfold Chg.dir; rw [if_neg h]
theorem apl_out {n q : Pth} (hq : dirP q ≠ n) : ∀ (cs : List Chg) (l : Nms), (∀ c ∈ cs, c.dir = n ∧ ∀ i, c.f = some i → dirP c.n = c.dir) → mget (apl cs l) q = mget l q
  | [], l, _ => rfl
  | c :: cs, l, h => by
    have h1 := h c List.mem_cons_self
    show mget (apl cs (c.ap l)) q = _
    rw [apl_out hq cs _ (fun d hd => h d (List.mem_cons_of_mem _ hd)), mget_ap]
    exact at_out (fun i hi => by rw [h1.2 i hi]; exact h1.1) (fun hg => by rw [dir_g hg]; exact h1.1) hq
theorem apl_ids {m : Nat} : ∀ (cs : List Chg) (l : Nms), (∀ p i, mget l p = some i → i < m) → (∀ c ∈ cs, ∀ i, c.f = some i → i < m) → ∀ p i, mget (apl cs l) p = some i → i < m
  | [], l, h, _ => h
  | c :: cs, l, h, hc => by
    show ∀ p i, mget (apl cs (c.ap l)) p = some i → i < m
    refine apl_ids cs _ (fun p i e => ?_) (fun d hd => hc d (List.mem_cons_of_mem _ hd))
    rw [mget_ap] at e
    unfold Chg.at at e
    cases hcf : c.f with
    | none =>
      rw [hcf] at e; simp only at e
      split at e
      · cases e
      · exact h p i e
    | some j =>
      rw [hcf] at e; simp only at e
      split at e
      · cases e; exact hc c List.mem_cons_self _ hcf
      · split at e
        · cases e
        · exact h p i e
theorem crashD_st {picks : List Int} {D : Dk} {s : Nms × Nat} {n : Pth} : (crashD picks D s n).1 = apl ((D.chgs n).take (pickN picks s.2 ((D.chgs n).length + 1))) s.1 := by
  unfold crashD
  split
  · rename_i h; rw [h, List.take_nil]; rfl
  · rfl
theorem chgs_mem {D : Dk} {n : Pth} {c : Chg} (h : c ∈ D.chgs n) : c ∈ D.log ∧ c.dir = n := by
  unfold Dk.chgs at h
  rw [List.mem_filter] at h
  exact ⟨h.1, by simpa using h.2⟩
/-- a disk of which some directories have crashed -/
structure Mid (picks : List Int) (D Di : Dk) (L : List Pth) : Prop where
  same : Di.cap = D.cap ∧ Di.most = D.most ∧ Di.fs = D.fs ∧ Di.ops = D.ops ∧ Di.left = D.left ∧ Di.dead = D.dead
  st : Di.stays = (L.foldl (crashD picks D) (D.stays, 0)).1
  an : Asc Di.now
  ast : Asc Di.stays
  nw1 : ∀ q, dirP q ∈ L → mget Di.now q = mget Di.stays q
  nw2 : ∀ q, dirP q ∉ L → mget Di.now q = mget D.now q
  ch : ∀ n, Di.chgs n = if n ∈ L then [] else D.chgs n
  lg : ∀ c ∈ Di.log, c ∈ D.log
theorem Mid.start {picks : List Int} {D : Dk} (h1 : Asc D.now) (h2 : Asc D.stays) : Mid picks D D [] :=
  ⟨⟨rfl, rfl, rfl, rfl, rfl, rfl⟩, rfl, h1, h2, fun q h => (by cases h), fun q _ => rfl, fun n => by simp, fun c h => h⟩
/-- one more -/
def stepM (picks : List Int) (Di : Dk) (at_ : Nat) (n : Pth) : Dk :=
  { Di with stays := (crashD picks Di (Di.stays, at_) n).1, now := merge (crashD picks Di (Di.stays, at_) n).1 Di.now n, log := Di.log.filter (fun c => !decide (c.dir = n)) }
theorem crashD_chg {picks : List Int} {D Di : Dk} {s : Nms × Nat} {n : Pth} (h : Di.chgs n = D.chgs n) : crashD picks Di s n = crashD picks D s n := by unfold crashD; rw [h]
theorem Mid.step {picks : List Int} {D Di : Dk} {L : List Pth} {n : Pth} (h : Mid picks D Di L) (hn : n ∉ L) (hld : ∀ c ∈ D.log, ∀ i, c.f = some i → dirP c.n = c.dir) :
    Mid picks D (stepM picks Di (L.foldl (crashD picks D) (D.stays, 0)).2 n) (L ++ [n]) ∧ (crashD picks Di (Di.stays, (L.foldl (crashD picks D) (D.stays, 0)).2) n).2 = ((L ++ [n]).foldl (crashD picks D) (D.stays, 0)).2 := by
  have hch : Di.chgs n = D.chgs n := by rw [h.ch, if_neg hn]
  have hs : (Di.stays, (L.foldl (crashD picks D) (D.stays, 0)).2) = L.foldl (crashD picks D) (D.stays, 0) := by rw [h.st]
  have hcr : crashD picks Di (Di.stays, (L.foldl (crashD picks D) (D.stays, 0)).2) n = (L ++ [n]).foldl (crashD picks D) (D.stays, 0) := by
    rw [crashD_chg hch, hs, List.foldl_append]; rfl
  have hall : ∀ c ∈ (Di.chgs n).take (pickN picks (L.foldl (crashD picks D) (D.stays, 0)).2 ((Di.chgs n).length + 1)), c.dir = n ∧ ∀ i, c.f = some i → dirP c.n = c.dir := fun c hc => by
    have := chgs_mem (List.mem_of_mem_take hc)
    exact ⟨this.2, hld c (h.lg c this.1)⟩
  have hAst : Asc (crashD picks Di (Di.stays, (L.foldl (crashD picks D) (D.stays, 0)).2) n).1 := by rw [crashD_st]; exact asc_apl h.ast _
  have hout : ∀ q, dirP q ≠ n → mget (crashD picks Di (Di.stays, (L.foldl (crashD picks D) (D.stays, 0)).2) n).1 q = mget Di.stays q := fun q hq => by
    rw [crashD_st]; exact apl_out hq _ _ hall
  refine ⟨⟨h.same, ?_, asc_merge h.an n, hAst, fun q hq => ?_, fun q hq => ?_, fun m => ?_, fun c hc => h.lg c (List.mem_filter.1 hc).1⟩, by rw [hcr]⟩
  · show (crashD picks Di _ n).1 = _; rw [hcr]
  · show mget (merge _ Di.now n) q = mget (crashD picks Di _ n).1 q
    rw [mget_merge hAst]
    by_cases e : dirP q = n
    · rw [if_pos e]
    · rw [if_neg e, hout q e]
      refine h.nw1 q ?_
      rcases List.mem_append.1 hq with h1 | h1
      · exact h1
      · exact absurd (List.mem_singleton.1 h1) e
  · show mget (merge _ Di.now n) q = _
    have e : dirP q ≠ n := fun e => hq (by rw [e]; simp)
    rw [mget_merge hAst, if_neg e]
    exact h.nw2 q (fun h1 => hq (List.mem_append_left _ h1))
  · show (Di.log.filter _).filter _ = _
    by_cases e : m = n
    · subst e
      rw [if_pos (by simp), List.filter_filter, List.filter_eq_nil_iff]
      intro c _; simp
    · have e2 : (Di.log.filter (fun c => !decide (c.dir = n))).filter (fun c => decide (c.dir = m)) = Di.chgs m := by
        unfold Dk.chgs
        rw [List.filter_filter]
        refine List.filter_congr (fun c _ => ?_)
        by_cases e3 : c.dir = m
        · simp [e3, e]
        · simp [e3]
      rw [e2, h.ch]
      simp [e]
/-- at its end -/
theorem Mid.fin {picks : List Int} {D Di : Dk} {L : List Pth} (h : Mid picks D Di L) (hL : Rise L) (hc : ∀ n, D.chgs n ≠ [] → n ∈ L) (hno : ∀ q, dirP q ∉ L → mget D.now q = none ∧ mget D.stays q = none) (hld : ∀ c ∈ D.log, ∀ i, c.f = some i → dirP c.n = c.dir) :
    Di.stays = (D.crashN picks).1 ∧ Di.now = (D.crashN picks).1 ∧ Di.log = [] ∧ (L.foldl (crashD picks D) (D.stays, 0)).2 = (D.crashN picks).2 := by
  have e := D.crashN_any picks hL hc
  have hs : Di.stays = (D.crashN picks).1 := by rw [h.st, e]
  have hkeep : ∀ q, dirP q ∉ L → mget Di.stays q = none := fun q hq => by
    rw [h.st]
    have : ∀ (M : List Pth) (s : Nms × Nat), (∀ n ∈ M, n ∈ L) → mget s.1 q = none → mget (M.foldl (crashD picks D) s).1 q = none := by
      intro M
      induction M with
      | nil => intro s _ h; exact h
      | cons m M ih =>
        intro s hM h
        refine ih _ (fun n hn => hM n (List.mem_cons_of_mem _ hn)) ?_
        rw [crashD_st, apl_out (n := m) (fun e => hq (by rw [e]; exact hM m List.mem_cons_self)) _ _ (fun c hc => ?_)]
        · exact h
        · have := chgs_mem (List.mem_of_mem_take hc)
          exact ⟨this.2, hld c this.1⟩
    exact this L _ (fun n hn => hn) (hno q hq).2
  refine ⟨hs, ?_, ?_, by rw [e]⟩
  · rw [← hs]
    refine asc_ext h.an h.ast (fun q => ?_)
    by_cases hq : dirP q ∈ L
    · exact h.nw1 q hq
    · rw [h.nw2 q hq, (hno q hq).1, hkeep q hq]
  · refine List.eq_nil_iff_forall_not_mem.2 (fun c hcm => ?_)
    have h1 := h.ch c.dir
    have hm : c ∈ Di.chgs c.dir := by unfold Dk.chgs; rw [List.mem_filter]; exact ⟨hcm, by simp⟩
    by_cases hq : c.dir ∈ L
    · rw [h1, if_pos hq] at hm; cases hm
    · rw [h1, if_neg hq] at hm
      exact absurd (hc c.dir (fun e => by rw [e] at hm; cases hm)) hq
section
variable {ρ ρ' : Nat → Role} {fb : List Nat} {H H' : Heap} {D D' : Dk} {p : Pth} {db nb sb k i b : Nat} {sv nv wv : SV} {nm sm : Nms} {S : Nat → Prop} {K K' : List Nat} {g : Gh}
/-- one directory has crashed -/
theorem dcrash {picks : List Int} {at_ b2 x_ : Nat} {m3 : Nms} (h : PDk K g H b D) (hx_ : DL x_ K) (hp : mget g.dm p = some db) (hd : DirO g.ρ g.fb H D p db nb sb k sv nm sm) (hA : Asc D.stays) (hld : ∀ c ∈ D.log, ∀ i, c.f = some i → dirP c.n = c.dir) (s : Mo (Ms [db + 1, sb + 1, k, x_]) H H')
    (hv : Var 84 H' db [.map (some b2), .map (some sb), .slice none 0 0]) (hs : Mp H' Str (fvl g.fb) sb m3) (hn : Mp H' Str (fvl g.fb) b2 m3) (hm3 : ∀ q, mget m3 q = if dirP q = p then mget (crashD picks D (D.stays, at_) p).1 q else none) (hk : DL (b2 + 1) K) :
    PDk ((b2 + 1) :: K) { g with ρ := uprk g.ρ (b2 + 1) (.now p) } H' b (stepM picks D at_ p) := by
  have hS : ∀ x, Ms [db + 1, sb + 1, k, x_] x → g.ρ x = .dir p ∨ g.ρ x = .sty p ∨ g.ρ x = .chg p ∨ g.ρ x = .out := fun x e => by
    have : x + 1 = db + 1 ∨ x + 1 = sb + 1 ∨ x + 1 = k ∨ x + 1 = x_ := by simpa [Ms] using e
    rcases this with e | e | e | e
    · exact .inl (by rw [show x = db by omega]; exact hd.rd)
    · exact .inr (.inl (by rw [show x = sb by omega]; exact hd.rs))
    · exact .inr (.inr (.inl (hd.rc x e)))
    · exact .inr (.inr (.inr (h.newk hx_ x e)))
  have hx : Ext g.ρ (uprk g.ρ (b2 + 1) (.now p)) := Ext.uprk (fun c e => .inl (h.newk hk c e))
  have hall : ∀ c ∈ (D.chgs p).take (pickN picks at_ ((D.chgs p).length + 1)), c.dir = p ∧ ∀ i, c.f = some i → dirP c.n = c.dir := fun c hc => by
    have := chgs_mem (List.mem_of_mem_take hc)
    exact ⟨this.2, hld c this.1⟩
  have hAst : Asc (crashD picks D (D.stays, at_) p).1 := by rw [crashD_st]; exact asc_apl hA _
  have hout : ∀ q, dirP q ≠ p → mget (crashD picks D (D.stays, at_) p).1 q = mget D.stays q := fun q hq => by rw [crashD_st]; exact apl_out hq _ _ hall
  have hids : ∀ q i, mget (crashD picks D (D.stays, at_) p).1 q = some i → i < D.fs.length := by
    rw [crashD_st]
    exact apl_ids _ _ h.ids.2.1 (fun c hc => h.ids.2.2 c (chgs_mem (List.mem_of_mem_take hc)).1)
  refine h.setDir s (fun x e => ?_) hx (hK_uprk h.hK (by simp)) (lt_uprk h.lt s.size hn.lt) hp ⟨b2, sb, 0, ⟨none, 0, 0⟩, m3, m3, ?_⟩ ⟨rfl, rfl, rfl, rfl, rfl, rfl⟩ (fun q hq => ?_) hout (fun n hn => ?_) ⟨fun q i e => ?_, hids, fun c hc i e => h.ids.2.2 c (List.mem_filter.1 hc).1 i e⟩
  · rcases hS x e with e | e | e | e
    · exact .inl e
    · exact .inr (.inr (.inl e))
    · exact .inr (.inr (.inr (.inl e)))
    · exact .inr (.inr (.inr (.inr e)))
  · exact { rd := hx.of hd.rd (by simp), vd := hv, rn := uprk_self rfl, hn := hn, rs := hx.of hd.rs (by simp), hs := hs
            en := fun q => by
              rw [hm3]
              show _ = if dirP q = p then mget (merge _ D.now p) q else none
              rw [mget_merge hAst]
              split <;> rfl
            es := hm3
            hc := by
              have : (stepM picks D at_ p).chgs p = [] := by unfold stepM Dk.chgs; rw [List.filter_filter, List.filter_eq_nil_iff]; intro c _; simp
              rw [this]; exact Ow.nil (fC_len _) (fC_one _)
            rc := fun c e => (by omega) }
  · show mget (merge _ D.now p) q = _
    rw [mget_merge hAst, if_neg hq]
  · unfold stepM Dk.chgs
    rw [List.filter_filter]
    refine List.filter_congr (fun c _ => ?_)
    by_cases e : c.dir = n
    · simp [e, hn]
    · simp [e]
  · have e : mget (merge (crashD picks D (D.stays, at_) p).1 D.now p) q = some i := e
    rw [mget_merge hAst] at e
    split at e
    · exact hids q i e
    · exact h.ids.1 q i e
end
section
variable {w0 : World} {n : Nat} {l : FL} {H : Heap} {o : Oper} {K : List Nat} {g : Gh} {b lv : Nat} {D : Dk} {x y : Operand} {t : TypeId}
theorem pd_alive (h : PDk K g H b D) (hl : g.lv = D.left) (ho : o.op = .store t x y) (hx : opv l x = some (.pointer (some ⟨b, 5, none⟩))) (hy : opv l y = some (.bool false)) (hs : ∀ w, (sizeOf t).run Tryd.prog w = .ok 1 w) :
    S Tryd.prog w0 n l H o (fun H' => PDk K g H' b { D with dead := false } ∧ Mo (Ms K) H H') :=
  (S.var1 h.vb 5 _ ho hx hy rfl hs (by simp) rfl).mono fun H' ⟨h1, h2⟩ => ⟨h.setFs h2.md1 ⟨rfl, rfl, rfl, rfl⟩ h1 (fun _ => hl) h.lvB ⟨rfl, rfl, rfl, rfl, rfl, rfl⟩ (Nat.le_refl _), h.ms h2 (fun c e => by rw [e, h.rb]; simp)⟩
end
/-- files in the middle of a crash -/
theorem crashF_file (picks : List Int) (fs : List Fdt) : ∀ (L : Nms) (s : List Fdt × Nat), (∀ i, fget s.1 i = fget fs i ∨ (fget s.1 i).w = []) → ∀ i, fget (L.foldl (crashF picks) s).1 i = fget fs i ∨ (fget (L.foldl (crashF picks) s).1 i).w = []
  | [], s, h => h
  | x :: L, s, h => by
    refine crashF_file picks fs L _ (fun i => ?_)
    unfold crashF
    simp only
    split
    · exact h i
    · by_cases e : x.2 = i
      · subst e
        by_cases hl : x.2 < s.1.length
        · exact .inr (by simp [fget, List.getD, hl])
        · have : s.1.set x.2 ⟨wayW (fget s.1 x.2).w (fget s.1 x.2).stays (pickN picks s.2 (waysF (fget s.1 x.2).w)), wayW (fget s.1 x.2).w (fget s.1 x.2).stays (pickN picks s.2 (waysF (fget s.1 x.2).w)), []⟩ = s.1 := List.set_eq_of_length_le (by omega)
          rw [this]; exact h _
      · have : fget (s.1.set x.2 ⟨wayW (fget s.1 x.2).w (fget s.1 x.2).stays (pickN picks s.2 (waysF (fget s.1 x.2).w)), wayW (fget s.1 x.2).w (fget s.1 x.2).stays (pickN picks s.2 (waysF (fget s.1 x.2).w)), []⟩) i = fget s.1 i := by simp [fget, List.getD, List.getElem?_set, e]
        rw [this]; exact h i
theorem crashF_len (picks : List Int) : ∀ (L : Nms) (s : List Fdt × Nat), (L.foldl (crashF picks) s).1.length = s.1.length
  | [], s => rfl
  | x :: L, s => by
    rw [List.foldl_cons, crashF_len picks L]
    unfold crashF
    simp only
    split
    · rfl
    · simp
theorem crashF_at (picks : List Int) : ∀ (L : Nms) (s : List Fdt × Nat), (L.foldl (crashF picks) s).2 ≤ s.2 + L.length
  | [], s => Nat.le_refl _
  | x :: L, s => by
    have h := crashF_at picks L (crashF picks s x)
    rw [List.foldl_cons, List.length_cons]
    have : (crashF picks s x).2 ≤ s.2 + 1 := by unfold crashF; simp only; split <;> simp
    omega
theorem crashD_at (picks : List Int) (D : Dk) : ∀ (L : List Pth) (s : Nms × Nat), (L.foldl (crashD picks D) s).2 ≤ s.2 + L.length
  | [], s => Nat.le_refl _
  | x :: L, s => by
    have h := crashD_at picks D L (crashD picks D s x)
    rw [List.foldl_cons, List.length_cons]
    have : (crashD picks D s x).2 ≤ s.2 + 1 := by unfold crashD; split <;> simp
    omega
theorem dj_r {ρ : Nat → Role} {a k : Nat} {r1 r2 : Role} (h1 : ∀ c, c + 1 = a → ρ c = r1) (h2 : ∀ c, c + 1 = k → ρ c = r2) (hne : r1 ≠ r2) : Dj a k := fun c e1 e2 => hne ((h1 c e1).symm.trans (h2 c e2))
theorem r1_ {ρ : Nat → Role} {b : Nat} {r : Role} (h : ρ b = r) : ∀ c, c + 1 = b + 1 → ρ c = r := fun c e => by rw [show c = b by omega]; exact h
theorem chg_sum (L : List Pth) (hn : L.Nodup) : ∀ l : List Chg, (L.map (fun n => (l.filter (fun c => decide (c.dir = n))).length)).sum ≤ l.length
  | [] => by
    have : ∀ L : List Pth, (L.map (fun n => (([] : List Chg).filter (fun c => decide (c.dir = n))).length)).sum = 0 := by
      intro L
      induction L with
      | nil => rfl
      | cons n L ih => rw [List.map_cons, List.sum_cons, ih]; rfl
    rw [this]; exact Nat.zero_le _
  | c :: l => by
    have ih := chg_sum L hn l
    have e : L.map (fun n => ((c :: l).filter (fun c => decide (c.dir = n))).length) = L.map (fun n => (if c.dir = n then 1 else 0) + (l.filter (fun c => decide (c.dir = n))).length) := by
      refine List.map_congr_left (fun n _ => ?_)
      by_cases h : c.dir = n
      · rw [List.filter_cons_of_pos (by simpa using h), if_pos h, List.length_cons]; omega
      · rw [List.filter_cons_of_neg (by simpa using h), if_neg h]; omega
    rw [e, sum_add, List.length_cons]
    have : (L.map (fun n => if c.dir = n then 1 else 0)).sum ≤ 1 := by
      by_cases h : c.dir ∈ L
      · rw [sum_if L hn _ _ h]; exact Nat.le_refl _
      · have : L.map (fun n => if c.dir = n then 1 else 0) = L.map (fun _ => 0) := List.map_congr_left (fun n hn => if_neg (fun e => h (by rw [e]; exact hn)))
        rw [this]
        have h0 : ∀ L : List Pth, (L.map (fun _ => 0)).sum = 0 := by
          intro L
          induction L with
          | nil => rfl
          | cons n L ih => rw [List.map_cons, List.sum_cons, ih]
        rw [h0]; exact Nat.zero_le _
    omega
theorem nput_len (l : Nms) (p : Pth) (i : Nat) : (nput l p i).length ≤ l.length + 1 := by
  induction l with
  | nil => simp [nput]
  | cons x l ih =>
    unfold nput
    split
    · simp only [List.length_cons]; omega
    · split <;> simp
theorem ap_len (c : Chg) (l : Nms) : (c.ap l).length ≤ l.length + 1 := by
  unfold Chg.ap
  have h1 : (if c.g = [] then l else mdel l c.g).length ≤ l.length := by
    split
    · exact Nat.le_refl _
    · exact List.length_filter_le _ _
  cases c.f with
  | none => simp only; omega
  | some i => simp only; have := nput_len (if c.g = [] then l else mdel l c.g) c.n i; omega
theorem apl_len : ∀ (cs : List Chg) (l : Nms), (apl cs l).length ≤ l.length + cs.length
  | [], l => Nat.le_refl _
  | c :: cs, l => by
    have h1 := apl_len cs (c.ap l)
    have h2 := ap_len c l
    show (apl cs (c.ap l)).length ≤ _
    rw [List.length_cons]; omega
theorem crashD_len (picks : List Int) (D : Dk) : ∀ (L : List Pth) (s : Nms × Nat), (L.foldl (crashD picks D) s).1.length ≤ s.1.length + (L.map (fun n => (D.chgs n).length)).sum
  | [], s => by simp
  | n :: L, s => by
    have h := crashD_len picks D L (crashD picks D s n)
    rw [List.foldl_cons, List.map_cons, List.sum_cons]
    have h2 : (crashD picks D s n).1.length ≤ s.1.length + (D.chgs n).length := by
      rw [crashD_st]
      have := apl_len ((D.chgs n).take (pickN picks s.2 ((D.chgs n).length + 1))) s.1
      have h3 : ((D.chgs n).take (pickN picks s.2 ((D.chgs n).length + 1))).length ≤ (D.chgs n).length := by rw [List.length_take]; omega
      omega
    omega
theorem crashN_len (D : Dk) (picks : List Int) : (D.crashN picks).1.length ≤ D.stays.length + D.log.length := by
  have h1 := crashD_len picks D D.dirty (D.stays, 0)
  have h2 := chg_sum D.dirty (rise_nodup D.dirty_rise) D.log
  unfold Dk.crashN
  simp only at h1
  unfold Dk.chgs at h1
  omega

end Go.Proofs.YtfbfjhppppoilaaDoor.SimN
