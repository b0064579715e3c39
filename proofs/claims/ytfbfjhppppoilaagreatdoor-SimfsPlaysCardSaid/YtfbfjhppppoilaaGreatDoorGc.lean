/-
  Contracts of functions of the program, and plain laws: put together of several texts.
-/
import Derived.Test.YtfbfjhppppoilaaGreatDoorGb
import Derived.Test.YtfbfjhppppoilaaGreatDoorGa
import Derived.Shelf.Vars
set_option linter.unusedVariables false
set_option linter.unusedSimpArgs false
set_option linter.unusedSectionVars false
set_option linter.defProp false

namespace Go.Proofs.YtfbfjhppppoilaaGreatDoor.SimN
open E Go.RowKit SimA SimB SimC SimD SimE SimF SimG SimH SimI SimJ SimK SimL SimM
set_option maxRecDepth 20000
theorem at_out {c : Chg} {n q : Pth} {o : Option Nat} (hcn : ∀ i, c.f = some i → dirP c.n = n) (hcg : c.g ≠ [] → dirP c.g = n) (hq : dirP q ≠ n) : c.at q o = o := by
 unfold Chg.at
 cases hcf : c.f with
 | none =>
   simp only
   rw [if_neg (fun e => hq (by rw [e.2]; exact hcg e.1))]
 | some i =>
   simp only; rw [if_neg (fun e => hq (by rw [e]; exact hcn i hcf)), if_neg (fun e => hq (by rw [e.2]; exact hcg e.1))]
theorem dir_g {c : Chg} (h : c.g ≠ []) : dirP c.g = c.dir := by unfold Chg.dir; rw [if_neg h]
theorem apl_out {n q : Pth} (hq : dirP q ≠ n) : ∀ (cs : List Chg) (l : Nms), (∀ c ∈ cs, c.dir = n ∧ ∀ i, c.f = some i → dirP c.n = c.dir) → mget (apl cs l) q = mget l q
 | [], l, _ => rfl
 | c :: cs, l, h => by
   have h1 := h c List.mem_cons_self; show mget (apl cs (c.ap l)) q = _; rw [apl_out hq cs _ (fun d hd => h d (List.mem_cons_of_mem _ hd)), mget_ap]; exact at_out (fun i hi => by rw [h1.2 i hi]; exact h1.1) (fun hg => by rw [dir_g hg]; exact h1.1) hq
theorem apl_ids {m : Nat} : ∀ (cs : List Chg) (l : Nms), (∀ p i, mget l p = some i → i < m) → (∀ c ∈ cs, ∀ i, c.f = some i → i < m) → ∀ p i, mget (apl cs l) p = some i → i < m
 | [], l, h, _ => h
 | c :: cs, l, h, hc => by
   show ∀ p i, mget (apl cs (c.ap l)) p = some i → i < m; refine apl_ids cs _ (fun p i e => ?_) (fun d hd => hc d (List.mem_cons_of_mem _ hd)); rw [mget_ap] at e; unfold Chg.at at e
   cases hcf : c.f with
   | none =>
     rw [hcf] at e; simp only at e; split at e
     · cases e
     · exact h p i e
   | some j =>
     rw [hcf] at e; simp only at e; split at e
     · cases e; exact hc c List.mem_cons_self _ hcf
     · split at e
       · cases e
       · exact h p i e
theorem crashD_st {picks : List Int} {D : Dk} {s : Nms × Nat} {n : Pth} : (crashD picks D s n).1 = apl ((D.chgs n).take (pickN picks s.2 ((D.chgs n).length + 1))) s.1 := by
 unfold crashD; split
 · rename_i h; rw [h, List.take_nil]; rfl
 · rfl
theorem chgs_mem {D : Dk} {n : Pth} {c : Chg} (h : c ∈ D.chgs n) : c ∈ D.log ∧ c.dir = n := by
 unfold Dk.chgs at h; rw [List.mem_filter] at h; exact ⟨h.1, by simpa using h.2⟩
structure Mid (picks : List Int) (D Di : Dk) (L : List Pth) : Prop where
 same : Di.cap = D.cap ∧ Di.most = D.most ∧ Di.fs = D.fs ∧ Di.ops = D.ops ∧ Di.left = D.left ∧ Di.dead = D.dead
 st : Di.stays = (L.foldl (crashD picks D) (D.stays, 0)).1
 an : Asc Di.now
 ast : Asc Di.stays
 nw1 : ∀ q, dirP q ∈ L → mget Di.now q = mget Di.stays q
 nw2 : ∀ q, dirP q ∉ L → mget Di.now q = mget D.now q
 ch : ∀ n, Di.chgs n = if n ∈ L then [] else D.chgs n
 lg : ∀ c ∈ Di.log, c ∈ D.log
theorem Mid.start {picks : List Int} {D : Dk} (h1 : Asc D.now) (h2 : Asc D.stays) : Mid picks D D [] :=
 ⟨⟨rfl, rfl, rfl, rfl, rfl, rfl⟩, rfl, h1, h2, fun q h => (by cases h), fun q _ => rfl, fun n => by simp, fun c h => h⟩
def stepM (picks : List Int) (Di : Dk) (at_ : Nat) (n : Pth) : Dk :=
 { Di with stays := (crashD picks Di (Di.stays, at_) n).1, now := merge (crashD picks Di (Di.stays, at_) n).1 Di.now n, log := Di.log.filter (fun c => !decide (c.dir = n)) }
theorem crashD_chg {picks : List Int} {D Di : Dk} {s : Nms × Nat} {n : Pth} (h : Di.chgs n = D.chgs n) : crashD picks Di s n = crashD picks D s n := by unfold crashD; rw [h]
theorem Mid.step {picks : List Int} {D Di : Dk} {L : List Pth} {n : Pth} (h : Mid picks D Di L) (hn : n ∉ L) (hld : ∀ c ∈ D.log, ∀ i, c.f = some i → dirP c.n = c.dir) :
 Mid picks D (stepM picks Di (L.foldl (crashD picks D) (D.stays, 0)).2 n) (L ++ [n]) ∧ (crashD picks Di (Di.stays, (L.foldl (crashD picks D) (D.stays, 0)).2) n).2 = ((L ++ [n]).foldl (crashD picks D) (D.stays, 0)).2 := by
 have hch : Di.chgs n = D.chgs n := by rw [h.ch, if_neg hn]
 have hs : (Di.stays, (L.foldl (crashD picks D) (D.stays, 0)).2) = L.foldl (crashD picks D) (D.stays, 0) := by rw [h.st]
 have hcr : crashD picks Di (Di.stays, (L.foldl (crashD picks D) (D.stays, 0)).2) n = (L ++ [n]).foldl (crashD picks D) (D.stays, 0) := by
  rw [crashD_chg hch, hs, List.foldl_append]; rfl
 have hall : ∀ c ∈ (Di.chgs n).take (pickN picks (L.foldl (crashD picks D) (D.stays, 0)).2 ((Di.chgs n).length + 1)), c.dir = n ∧ ∀ i, c.f = some i → dirP c.n = c.dir := fun c hc => by
  have := chgs_mem (List.mem_of_mem_take hc); exact ⟨this.2, hld c (h.lg c this.1)⟩
 have hAst : Asc (crashD picks Di (Di.stays, (L.foldl (crashD picks D) (D.stays, 0)).2) n).1 := by rw [crashD_st]; exact asc_apl h.ast _
 have hout : ∀ q, dirP q ≠ n → mget (crashD picks Di (Di.stays, (L.foldl (crashD picks D) (D.stays, 0)).2) n).1 q = mget Di.stays q := fun q hq => by
  rw [crashD_st]; exact apl_out hq _ _ hall
 refine ⟨⟨h.same, ?_, asc_merge h.an n, hAst, fun q hq => ?_, fun q hq => ?_, fun m => ?_, fun c hc => h.lg c (List.mem_filter.1 hc).1⟩, by rw [hcr]⟩
 · show (crashD picks Di _ n).1 = _; rw [hcr]
 · show mget (merge _ Di.now n) q = mget (crashD picks Di _ n).1 q
   rw [mget_merge hAst]; by_cases e : dirP q = n
   · rw [if_pos e]
   · rw [if_neg e, hout q e]
     refine h.nw1 q ?_; rcases List.mem_append.1 hq with h1 | h1
     · exact h1
     · exact absurd (List.mem_singleton.1 h1) e
 · show mget (merge _ Di.now n) q = _
   have e : dirP q ≠ n := fun e => hq (by rw [e]; simp); rw [mget_merge hAst, if_neg e]; exact h.nw2 q (fun h1 => hq (List.mem_append_left _ h1))
 · show (Di.log.filter _).filter _ = _
   by_cases e : m = n
   · subst e
     rw [if_pos (by simp), List.filter_filter, List.filter_eq_nil_iff]; intro c _; simp
   · have e2 : (Di.log.filter (fun c => !decide (c.dir = n))).filter (fun c => decide (c.dir = m)) = Di.chgs m := by
      unfold Dk.chgs; rw [List.filter_filter]; refine List.filter_congr (fun c _ => ?_); by_cases e3 : c.dir = m
      · simp [e3, e]
      · simp [e3]
     rw [e2, h.ch]; simp [e]
theorem Mid.fin {picks : List Int} {D Di : Dk} {L : List Pth} (h : Mid picks D Di L) (hL : Rise L) (hc : ∀ n, D.chgs n ≠ [] → n ∈ L) (hno : ∀ q, dirP q ∉ L → mget D.now q = none ∧ mget D.stays q = none) (hld : ∀ c ∈ D.log, ∀ i, c.f = some i → dirP c.n = c.dir) :
 Di.stays = (D.crashN picks).1 ∧ Di.now = (D.crashN picks).1 ∧ Di.log = [] ∧ (L.foldl (crashD picks D) (D.stays, 0)).2 = (D.crashN picks).2 := by
 have e := D.crashN_any picks hL hc; have hs : Di.stays = (D.crashN picks).1 := by rw [h.st, e]
 have hkeep : ∀ q, dirP q ∉ L → mget Di.stays q = none := fun q hq => by
  rw [h.st]
  have : ∀ (M : List Pth) (s : Nms × Nat), (∀ n ∈ M, n ∈ L) → mget s.1 q = none → mget (M.foldl (crashD picks D) s).1 q = none := by
   intro M
   induction M with
   | nil => intro s _ h; exact h
   | cons m M ih =>
     intro s hM h; refine ih _ (fun n hn => hM n (List.mem_cons_of_mem _ hn)) ?_; rw [crashD_st, apl_out (n := m) (fun e => hq (by rw [e]; exact hM m List.mem_cons_self)) _ _ (fun c hc => ?_)]
     · exact h
     · have := chgs_mem (List.mem_of_mem_take hc)
       exact ⟨this.2, hld c this.1⟩
  exact this L _ (fun n hn => hn) (hno q hq).2
 refine ⟨hs, ?_, ?_, by rw [e]⟩
 · rw [← hs]
   refine asc_ext h.an h.ast (fun q => ?_); by_cases hq : dirP q ∈ L
   · exact h.nw1 q hq
   · rw [h.nw2 q hq, (hno q hq).1, hkeep q hq]
 · refine List.eq_nil_iff_forall_not_mem.2 (fun c hcm => ?_)
   have h1 := h.ch c.dir; have hm : c ∈ Di.chgs c.dir := by unfold Dk.chgs; rw [List.mem_filter]; exact ⟨hcm, by simp⟩
   by_cases hq : c.dir ∈ L
   · rw [h1, if_pos hq] at hm; cases hm
   · rw [h1, if_neg hq] at hm
     exact absurd (hc c.dir (fun e => by rw [e] at hm; cases hm)) hq
section
variable {ρ ρ' : Nat → Role} {fb : List Nat} {H H' : Heap} {D D' : Dk} {p : Pth} {db nb sb k i b : Nat} {sv nv wv : SV} {nm sm : Nms} {S : Nat → Prop} {K K' : List Nat} {g : Gh}
theorem dcrash {picks : List Int} {at_ b2 x_ : Nat} {m3 : Nms} (h : PDk K g H b D) (hx_ : DL x_ K) (hp : mget g.dm p = some db) (hd : DirO g.ρ g.fb H D p db nb sb k sv nm sm) (hA : Asc D.stays) (hld : ∀ c ∈ D.log, ∀ i, c.f = some i → dirP c.n = c.dir) (s : Mo (Ms [db + 1, sb + 1, k, x_]) H H')
 (hv : Var 88 H' db [.map (some b2), .map (some sb), .slice none 0 0]) (hs : Mp H' Str (fvl g.fb) sb m3) (hn : Mp H' Str (fvl g.fb) b2 m3) (hm3 : ∀ q, mget m3 q = if dirP q = p then mget (crashD picks D (D.stays, at_) p).1 q else none) (hk : DL (b2 + 1) K) :
 PDk ((b2 + 1) :: K) { g with ρ := uprk g.ρ (b2 + 1) (.now p) } H' b (stepM picks D at_ p) := by
 have hS : ∀ x, Ms [db + 1, sb + 1, k, x_] x → g.ρ x = .dir p ∨ g.ρ x = .sty p ∨ g.ρ x = .chg p ∨ g.ρ x = .out := fun x e => by
  have : x + 1 = db + 1 ∨ x + 1 = sb + 1 ∨ x + 1 = k ∨ x + 1 = x_ := by simpa [Ms] using e
  rcases this with e | e | e | e
  · exact .inl (by rw [show x = db by omega]; exact hd.rd)
  · exact .inr (.inl (by rw [show x = sb by omega]; exact hd.rs))
  · exact .inr (.inr (.inl (hd.rc x e)))
  · exact .inr (.inr (.inr (h.newk hx_ x e)))
 have hx : Ext g.ρ (uprk g.ρ (b2 + 1) (.now p)) := Ext.uprk (fun c e => .inl (h.newk hk c e))
 have hall : ∀ c ∈ (D.chgs p).take (pickN picks at_ ((D.chgs p).length + 1)), c.dir = p ∧ ∀ i, c.f = some i → dirP c.n = c.dir := fun c hc => by
  have := chgs_mem (List.mem_of_mem_take hc); exact ⟨this.2, hld c this.1⟩
 have hAst : Asc (crashD picks D (D.stays, at_) p).1 := by rw [crashD_st]; exact asc_apl hA _
 have hout : ∀ q, dirP q ≠ p → mget (crashD picks D (D.stays, at_) p).1 q = mget D.stays q := fun q hq => by rw [crashD_st]; exact apl_out hq _ _ hall
 have hids : ∀ q i, mget (crashD picks D (D.stays, at_) p).1 q = some i → i < D.fs.length := by
  rw [crashD_st]; exact apl_ids _ _ h.ids.2.1 (fun c hc => h.ids.2.2 c (chgs_mem (List.mem_of_mem_take hc)).1)
 refine h.setDir s (fun x e => ?_) hx (hK_uprk h.hK (by simp)) (lt_uprk h.lt s.size hn.lt) hp ⟨b2, sb, 0, ⟨none, 0, 0⟩, m3, m3, ?_⟩ ⟨rfl, rfl, rfl, rfl, rfl, rfl⟩ (fun q hq => ?_) hout (fun n hn => ?_) ⟨fun q i e => ?_, hids, fun c hc i e => h.ids.2.2 c (List.mem_filter.1 hc).1 i e⟩
 · rcases hS x e with e | e | e | e
   · exact .inl e
   · exact .inr (.inr (.inl e))
   · exact .inr (.inr (.inr (.inl e)))
   · exact .inr (.inr (.inr (.inr e)))
 · exact { rd := hx.of hd.rd (by simp), vd := hv, rn := uprk_self rfl, hn := hn, rs := hx.of hd.rs (by simp), hs := hs
           en := fun q => by
            rw [hm3]; show _ = if dirP q = p then mget (merge _ D.now p) q else none; rw [mget_merge hAst]; split <;> rfl
           es := hm3
           hc := by
            have : (stepM picks D at_ p).chgs p = [] := by unfold stepM Dk.chgs; rw [List.filter_filter, List.filter_eq_nil_iff]; intro c _; simp
            rw [this]; exact Ow.nil (fC_len _) (fC_one _)
           rc := fun c e => (by omega) }
 · show mget (merge _ D.now p) q = _
   rw [mget_merge hAst, if_neg hq]
 · unfold stepM Dk.chgs
   rw [List.filter_filter]; refine List.filter_congr (fun c _ => ?_); by_cases e : c.dir = n
   · simp [e, hn]
   · simp [e]
 · have e : mget (merge (crashD picks D (D.stays, at_) p).1 D.now p) q = some i := e
   rw [mget_merge hAst] at e; split at e
   · exact hids q i e
   · exact h.ids.1 q i e
end
section
variable {w0 : World} {n : Nat} {l : FL} {H : Heap} {o : Oper} {K : List Nat} {g : Gh} {b lv : Nat} {D : Dk} {x y : Operand} {t : TypeId}
theorem pd_alive (h : PDk K g H b D) (hl : g.lv = D.left) (ho : o.op = .store t x y) (hx : opv l x = some (.pointer (some ⟨b, 5, none⟩))) (hy : opv l y = some (.bool false)) (hs : ∀ w, (sizeOf t).run Tryz.prog w = .ok 1 w) :
 S Tryz.prog w0 n l H o (fun H' => PDk K g H' b { D with dead := false } ∧ Mo (Ms K) H H') :=
 (S.var1 h.vb 5 _ ho hx hy rfl hs (by simp) rfl).mono fun H' ⟨h1, h2⟩ => ⟨h.setFs h2.md1 ⟨rfl, rfl, rfl, rfl⟩ h1 (fun _ => hl) h.lvB ⟨rfl, rfl, rfl, rfl, rfl, rfl⟩ (Nat.le_refl _), h.ms h2 (fun c e => by rw [e, h.rb]; simp)⟩
end
theorem crashF_file (picks : List Int) (fs : List Fdt) : ∀ (L : Nms) (s : List Fdt × Nat), (∀ i, fget s.1 i = fget fs i ∨ (fget s.1 i).w = []) → ∀ i, fget (L.foldl (crashF picks) s).1 i = fget fs i ∨ (fget (L.foldl (crashF picks) s).1 i).w = []
 | [], s, h => h
 | x :: L, s, h => by
   refine crashF_file picks fs L _ (fun i => ?_); unfold crashF; simp only; split
   · exact h i
   · by_cases e : x.2 = i
     · subst e
       by_cases hl : x.2 < s.1.length
       · exact .inr (by simp [fget, List.getD, hl])
       · have : s.1.set x.2 ⟨wayW (fget s.1 x.2).w (fget s.1 x.2).stays (pickN picks s.2 (waysF (fget s.1 x.2).w)), wayW (fget s.1 x.2).w (fget s.1 x.2).stays (pickN picks s.2 (waysF (fget s.1 x.2).w)), []⟩ = s.1 := List.set_eq_of_length_le (by omega)
         rw [this]; exact h _
     · have : fget (s.1.set x.2 ⟨wayW (fget s.1 x.2).w (fget s.1 x.2).stays (pickN picks s.2 (waysF (fget s.1 x.2).w)), wayW (fget s.1 x.2).w (fget s.1 x.2).stays (pickN picks s.2 (waysF (fget s.1 x.2).w)), []⟩) i = fget s.1 i := by simp [fget, List.getD, List.getElem?_set, e]
       rw [this]; exact h i
theorem crashF_len (picks : List Int) : ∀ (L : Nms) (s : List Fdt × Nat), (L.foldl (crashF picks) s).1.length = s.1.length
 | [], s => rfl
 | x :: L, s => by
   rw [List.foldl_cons, crashF_len picks L]; unfold crashF; simp only; split
   · rfl
   · simp
theorem crashF_at (picks : List Int) : ∀ (L : Nms) (s : List Fdt × Nat), (L.foldl (crashF picks) s).2 ≤ s.2 + L.length
 | [], s => Nat.le_refl _
 | x :: L, s => by
   have h := crashF_at picks L (crashF picks s x); rw [List.foldl_cons, List.length_cons]; have : (crashF picks s x).2 ≤ s.2 + 1 := by unfold crashF; simp only; split <;> simp
   omega
theorem crashD_at (picks : List Int) (D : Dk) : ∀ (L : List Pth) (s : Nms × Nat), (L.foldl (crashD picks D) s).2 ≤ s.2 + L.length
 | [], s => Nat.le_refl _
 | x :: L, s => by
   have h := crashD_at picks D L (crashD picks D s x); rw [List.foldl_cons, List.length_cons]; have : (crashD picks D s x).2 ≤ s.2 + 1 := by unfold crashD; split <;> simp
   omega
theorem dj_r {ρ : Nat → Role} {a k : Nat} {r1 r2 : Role} (h1 : ∀ c, c + 1 = a → ρ c = r1) (h2 : ∀ c, c + 1 = k → ρ c = r2) (hne : r1 ≠ r2) : Dj a k := fun c e1 e2 => hne ((h1 c e1).symm.trans (h2 c e2))
theorem r1_ {ρ : Nat → Role} {b : Nat} {r : Role} (h : ρ b = r) : ∀ c, c + 1 = b + 1 → ρ c = r := fun c e => by rw [show c = b by omega]; exact h
theorem chg_sum (L : List Pth) (hn : L.Nodup) : ∀ l : List Chg, (L.map (fun n => (l.filter (fun c => decide (c.dir = n))).length)).sum ≤ l.length
 | [] => by
   have : ∀ L : List Pth, (L.map (fun n => (([] : List Chg).filter (fun c => decide (c.dir = n))).length)).sum = 0 := by
    intro L
    induction L with
    | nil => rfl
    | cons n L ih => rw [List.map_cons, List.sum_cons, ih]; rfl
   rw [this]; exact Nat.zero_le _
 | c :: l => by
   have ih := chg_sum L hn l
   have e : L.map (fun n => ((c :: l).filter (fun c => decide (c.dir = n))).length) = L.map (fun n => (if c.dir = n then 1 else 0) + (l.filter (fun c => decide (c.dir = n))).length) := by
    refine List.map_congr_left (fun n _ => ?_); by_cases h : c.dir = n
    · rw [List.filter_cons_of_pos (by simpa using h), if_pos h, List.length_cons]; omega
    · rw [List.filter_cons_of_neg (by simpa using h), if_neg h]; omega
   rw [e, sum_add, List.length_cons]
   have : (L.map (fun n => if c.dir = n then 1 else 0)).sum ≤ 1 := by
    by_cases h : c.dir ∈ L
    · rw [sum_if L hn _ _ h]; exact Nat.le_refl _
    · have : L.map (fun n => if c.dir = n then 1 else 0) = L.map (fun _ => 0) := List.map_congr_left (fun n hn => if_neg (fun e => h (by rw [e]; exact hn)))
      rw [this]
      have h0 : ∀ L : List Pth, (L.map (fun _ => 0)).sum = 0 := by
       intro L
       induction L with
       | nil => rfl
       | cons n L ih => rw [List.map_cons, List.sum_cons, ih]
      rw [h0]; exact Nat.zero_le _
   omega
theorem nput_len (l : Nms) (p : Pth) (i : Nat) : (nput l p i).length ≤ l.length + 1 := by
 induction l with
 | nil => simp [nput]
 | cons x l ih =>
   unfold nput; split
   · simp only [List.length_cons]; omega
   · split <;> simp
theorem ap_len (c : Chg) (l : Nms) : (c.ap l).length ≤ l.length + 1 := by
 unfold Chg.ap
 have h1 : (if c.g = [] then l else mdel l c.g).length ≤ l.length := by
  split
  · exact Nat.le_refl _
  · exact List.length_filter_le _ _
 cases c.f with
 | none => simp only; omega
 | some i => simp only; have := nput_len (if c.g = [] then l else mdel l c.g) c.n i; omega
theorem apl_len : ∀ (cs : List Chg) (l : Nms), (apl cs l).length ≤ l.length + cs.length
 | [], l => Nat.le_refl _
 | c :: cs, l => by
   have h1 := apl_len cs (c.ap l); have h2 := ap_len c l; show (apl cs (c.ap l)).length ≤ _; rw [List.length_cons]; omega
theorem crashD_len (picks : List Int) (D : Dk) : ∀ (L : List Pth) (s : Nms × Nat), (L.foldl (crashD picks D) s).1.length ≤ s.1.length + (L.map (fun n => (D.chgs n).length)).sum
 | [], s => by simp
 | n :: L, s => by
   have h := crashD_len picks D L (crashD picks D s n); rw [List.foldl_cons, List.map_cons, List.sum_cons]
   have h2 : (crashD picks D s n).1.length ≤ s.1.length + (D.chgs n).length := by
    rw [crashD_st]; have := apl_len ((D.chgs n).take (pickN picks s.2 ((D.chgs n).length + 1))) s.1; have h3 : ((D.chgs n).take (pickN picks s.2 ((D.chgs n).length + 1))).length ≤ (D.chgs n).length := by rw [List.length_take]; omega
    omega
   omega
theorem crashN_len (D : Dk) (picks : List Int) : (D.crashN picks).1.length ≤ D.stays.length + D.log.length := by
 have h1 := crashD_len picks D D.dirty (D.stays, 0); have h2 := chg_sum D.dirty (rise_nodup D.dirty_rise) D.log; unfold Dk.crashN; simp only at h1; unfold Dk.chgs at h1; omega
end Go.Proofs.YtfbfjhppppoilaaGreatDoor.SimN

namespace Go.Proofs.YtfbfjhppppoilaaGreatDoor.SimP
open E Go.RowKit SimA SimB SimC SimD SimE SimF SimG SimH SimI SimJ SimK SimL SimM SimN
set_option maxRecDepth 20000
set_option maxHeartbeats 8000000 in
theorem crash_ct (K : List Nat) (g : Gh) (b : Nat) (D : Dk) (G : Nat → Prop) (pv : SV) (picks : List Int) (w0 : World) (H0 : Heap)
 (hf : PDk K g H0 b D) (hpk : Rd G H0 fI 1 pv.v picks) (bf_hpk : BF G H0.size) (dpkK : DFL G K) (hB : Bd 274877906944 D) (hwy : ∀ i, waysF (fget D.fs i).w ≤ 2305843009213693952) (hpw : ∀ x ∈ picks, -9223372036854775808 ≤ x ∧ x ≤ 9223372036854775807) :
 Ct Tryz.prog w0 11 #[ptr b, pv.v] H0 (fun r H2 => ∃ K2 : List Nat, ∃ g2 : Gh, r = .int .i64 ((D.crashA picks).2 : Int) ∧ (PDk K2 g2 H2 b (D.crash picks)) ∧ (NxK K H0.size K2) ∧ Mo (Ms K) H0 H2) := by
 refine Ct.enter (args := [ptr b, pv.v]) Tryz.func11 rfl rfl rfl ?_; intro Q0 hret; have hm0 : Mo (Ms K) H0 H0 := Mo.refl _ _; have nx_hm0_hf := NxK.refl K H0.size; have hbk_hf := hf.bk; have habs0 := hf.abs; have hdm0 := hf.dml; have hop0 := hB.op; have hmn0 := hf.hm.mo.nodup; have hlg0 := hB.lg; have hsl0 := hB.sl; have hcl0 := crashN_len D picks; refine CW.seq (fun K1 hK1 _ => CW.region ?_); refine LR.a1 (LR.nil (hK1 _ _ ?_)); refine CW.seq (fun K2 hK2 _ => CW.region ?_); refine LR.m1 ?_; refine LR.v1 (Y.build (v := .agg #[pv.v, .int .i64 ((0 : Nat) : Int)]) rfl rfl (by intro w; kernel_rfl)) ?_; refine LR.z1 (Z.boxv rfl rfl) ?_; rintro v20 H20 ⟨rfl, hp, hs20, ob20, hH20⟩; have hzs20 : H20.size = H0.size + 1 := by rw [hH20]; simp
 have dj1 : DL (H0.size + 1) K := DL.newK hf.bk; have df2 := (DF.new (bf_hpk.mono hm0.size) : DF _ (H0.size + 1)); have nx3 : Nx 0 H0.size (H0.size + 1) := Nx.new hm0.size; replace hf := hf.nw hs20; replace hpk := hpk.nw hs20; replace hm0 := hm0.trN hs20; have hz1 := hs20.size; replace hp : Var 91 H20 H0.size ([pv.v, .int .i64 ((0 : Nat) : Int)]) := hp; refine LR.a1 (LR.nil (hK2 _ _ ?_)); refine CW.s1 (fun hK3 => CW.region ?_); refine LR.m1 ?_; refine LR.v1 (Y.nilCheck rfl rfl) ?_; refine LR.v1 (Y.FA hf.vb.pt rfl u'50 rfl s'43) ?_; refine LR.v1 (Y.load1 (hf.vb.pt.drop 2) rfl a'43 rfl) ?_; have hmo := hf.hm; have hlt_hmo := hmo.lt; refine LR.call rfl c'39 rfl (Wd.u rfl) rfl rfl (keysD g.mb w0 _) ?_; rintro v25 H25 ⟨bx, rfl, hx, hkx, hs25⟩; replace hf := hf.nw hs25; replace hpk := hpk.nw hs25; replace hp := hp.nw hs25; replace hmo := hmo.nw hs25; replace hm0 := hm0.trN hs25; have hz2 := hs25.size; have hle_hx := hx.le; refine LR.call rfl c'38 rfl (Wd.u rfl) rfl rfl (sortedD bx g.mb ptr g.dm w0 _ hx hmo (by omega)) ?_; rintro v26 H26 ⟨s26, k26, L, rfl, ows, hk26, hL, hs26⟩; have dj9 : DL k26 K := DL.app2 (DL.zK) hf.bk hk26; have dj11 : Dj (H0.size + 1) k26 := Dj.app (Dj.z) hp.lt hk26; replace hf := hf.nw hs26; replace hpk := hpk.nw hs26; replace hp := hp.nw hs26; replace hm0 := hm0.trN hs26; have hz3 := hs26.size; have hle_ows := ows.le; have hLn := rise_nodup hL.1; have hLl := nodup_le hLn (fun k hk => (hL.2 k).1 hk); rw [List.length_map] at hLl
 have hno : ∀ q, q ∉ L → mget g.dm q = none := fun q hq => by
  cases hm : mget g.dm q with
  | none => rfl
  | some x => exact absurd ((hL.2 q).2 (isSome_iff_key.1 (by rw [hm]; rfl))) hq
 refine LR.a1 (LR.nil (hK3 _ _ ?_)); refine CW.seq (fun K4 hK4 _ => CW.s1 (fun hK5 => CW.region ?_)); refine LR.m1 ?_; refine LR.v1 (Y.len ows.rd rfl u'60 rfl) ?_; refine LR.m1 (LR.nil (hK5 _ _ ?_)); refine CW.block (fun _ _ hX6 _ => ?_)
 refine CW.loop (fun (s_ : (Nat) × (List Nat) × (Gh) × (Dk) × (Nat)) => match s_ with | (i, K1, g1, Di, a1) => [(0, ptr b), (5, .pointer (some ⟨H0.size, 0, none⟩)), (6, s26.v), (27, s26.v), (28, .int .i64 (L.length : Int)), (29, .int .i64 (i : Int))])
  (fun (s_ : (Nat) × (List Nat) × (Gh) × (Dk) × (Nat)) (H : Heap) => match s_ with | (i, K1, g1, Di, a1) => (PDk K1 g1 H b Di) ∧ (Var 91 H H0.size [pv.v, .int .i64 (a1 : Int)]) ∧ (i ≤ L.length) ∧ (Mid picks D Di (L.take i)) ∧ (a1 = ((L.take i).foldl (crashD picks D) (D.stays, 0)).2) ∧ (g1.fb = g.fb ∧ g1.dm = g.dm) ∧ (NxK K H26.size K1) ∧ (DL (H0.size + 1) K1) ∧ Mo (Ms (K ++ [(H0.size + 1)])) H26 H)
  (fun (s_ : (Nat) × (List Nat) × (Gh) × (Dk) × (Nat)) => match s_ with | (i, K1, g1, Di, a1) => L.length - i) (0, K, g, D, 0) ⟨rfl, rfl, rfl, rfl, rfl, rfl, trivial⟩ ?_ ?_
 ·
  exact ⟨hf, hp, (by omega), Mid.start hB.an hB.ast, rfl, ⟨rfl, rfl⟩, NxK.refl _ _, dj1, Mo.refl _ _⟩
 rintro ⟨i, K1, g1, Di, a1⟩ HL1 hI1 K7 hN7 hE7; obtain ⟨hf, hp, hi, hM, ha, hg1, nxl_hf, dj_hf_hp, hlm1⟩ := hI1; have df15 := DFL.appK (dpkK) (bf_hpk.mono hm0.size) nxl_hf; have nx18 : NxK K H0.size K1 := NxK.tr (nx_hm0_hf) nxl_hf hm0.size; replace hpk := hpk.upL hlm1 (DFL.app dpkK (DFL.o df2)); replace ows := ows.upL hlm1 (DL.app dj9 (DL.o dj11.symm)); replace hm0 := hm0.trL hlm1 (MIL.app (MIL.ofK (nx_hm0_hf) (by intro k hk; simp [hk])) (MIL.o (MI.q nx3))); have hz4 := hlm1.size; have hbk_hf := hf.bk; have dj19 := dj_hf_hp; have nx20 := nxl_hf; have nx_hlm1_hp := Nx.refl (H0.size + 1) H26.size; have hal := crashD_at picks D (L.take i) (D.stays, 0); rw [← ha, List.length_take] at hal; simp only at hal; refine CW.s1 (fun hK8 => CW.region ?_); refine LR.v1 (Y.lss rfl rfl rfl) (LR.nil (hK8 _ _ ?_)); refine CW.s2 (fun hK9 hE9 => ?_); refine CW.condp rfl (fun c30 => ?_) (fun c30 => ?_)
 ·
  have hil : i < L.length := by omega
  have hni : L[i] ∉ L.take i := fun hq => by
   have h9 := hLn; rw [← List.take_append_drop i L, List.nodup_append] at h9; exact h9.2.2 _ hq _ (by rw [List.drop_eq_getElem_cons hil]; exact List.mem_cons_self) rfl
  have hst := hM.step hni hB.ld; have hmem_db : L[i] ∈ g.dm.map (·.1) := (hL.2 _).1 (List.getElem_mem hil)
  obtain ⟨db, hdb⟩ : ∃ db, mget g.dm L[i] = some db := by
   rw [← isSome_iff_key] at hmem_db
   cases hq : mget g.dm L[i] with
   | none => rw [hq] at hmem_db; cases hmem_db
   | some db => exact ⟨db, rfl⟩
  have hdb1 : mget g1.dm L[i] = some db := by rw [hg1.2]; exact hdb
  have hchl : (Di.chgs L[i]).length ≤ D.log.length := by rw [hM.ch, if_neg hni]; exact List.length_filter_le _ _
  refine CW.skip (hK9 _ _ (CW.s1 (fun hK10 => CW.block (fun _ hK11 _ _ => CW.s1 (fun hK12 => CW.region ?_))))); refine LR.v1 (Y.owAddr ows (i) rfl u'60 s'9 rfl rfl (by first | rfl | omega) (by first | omega | (simp; omega) | (simp; done))) ?_; refine LR.v1 (Y.load1 (ows.pt (j := i) (by first | omega | (simp; omega) | (simp; done))) rfl a'9 rfl) ?_; refine LR.a1 (LR.nil (hK12 _ _ ?_)); refine CW.s1 (fun hK13 => ?_); obtain ⟨nbB, sbB, kcB, svB, nmB, smB, hdB⟩ := hf.dirs _ db hdb1; have hop : Mo (Ms [(db + 1), (sbB + 1), kcB, (H0.size + 1)]) HL1 HL1 := Mo.refl _ _; have km21 : KM K1 (db + 1) := (hf.km1 hdB.rd (by simp)); have vd := hdB.vd; have hlt_vd := vd.lt; have dj25 : Dj (H0.size + 1) (db + 1) := DL.at (dj19) km21; have nx27 : MI (K ++ [(H0.size + 1)]) H26.size (db + 1) := MIL.at (MIL.ofK (nx20) (by intro k hk; simp [hk])) km21; have nx28 := Nx.refl (db + 1) HL1.size; have km29 : KM K1 (sbB + 1) := (hf.km1 hdB.rs (by simp)); have hsm := hdB.hs; have hlt_hsm := hsm.lt; have dj33 : Dj (H0.size + 1) (sbB + 1) := DL.at (dj19) km29; have nx35 : MI (K ++ [(H0.size + 1)]) H26.size (sbB + 1) := MIL.at (MIL.ofK (nx20) (by intro k hk; simp [hk])) km29; have nx36 := Nx.refl (sbB + 1) HL1.size; have km37 : KM K1 kcB := (hf.km hdB.rc (by simp)); have hcr := hdB.hc; have hle_hcr := hcr.le; have dj41 : Dj (H0.size + 1) kcB := DL.at (dj19) km37; have nx45 := Nx.refl (H0.size + 1) HL1.size; have dj46 : Dj (db + 1) (sbB + 1) := dj_r (r1_ hdB.rd) (r1_ hdB.rs) (by simp); have dj48 : Dj (sbB + 1) kcB := dj_r (r1_ hdB.rs) hdB.rc (by simp); refine CW.region ?_; refine LR.m1 ?_; refine LR.v1 (Y.nilCheck rfl rfl) ?_; refine LR.v1 (Y.FA hf.vb.pt rfl u'50 rfl s'43) ?_; refine LR.v1 (Y.load1 (hf.vb.pt.drop 2) rfl a'43 rfl) ?_; refine LR.m1 ?_; refine LR.v1 (Y.cast (v2 := ptr db) (look_p adO hf.hm.mo (fun _ => rfl) keyStr rfl u'43 Tryz.underlying9 z'78 rfl rfl) (by rw [hdb1]; rfl)) ?_; refine LR.a1 (LR.nil (hK13 _ _ ?_))
  refine CW.cut (fun (s_ : (Nms) × (Nat)) => match s_ with | (m3, a2) => [(0, ptr b), (5, .pointer (some ⟨H0.size, 0, none⟩)), (6, s26.v), (9, ptr db), (27, s26.v), (28, .int .i64 (L.length : Int)), (29, .int .i64 (i : Int))])
   (fun (s_ : (Nms) × (Nat)) (H : Heap) => match s_ with | (m3, a2) => (Mp H Str (fvl g1.fb) sbB m3) ∧ (Var 91 H H0.size [pv.v, .int .i64 (a2 : Int)]) ∧ (∀ q, mget m3 q = if dirP q = L[i] then mget (crashD picks Di (Di.stays, a1) L[i]).1 q else none) ∧ (a2 = (crashD picks Di (Di.stays, a1) L[i]).2) ∧ Mo (Ms [(sbB + 1), (H0.size + 1)]) HL1 H) (fun _ hK14 _ => ?_) ?_
  ·
   have hcm14 : Mo (Ms [(sbB + 1), (H0.size + 1)]) HL1 HL1 := Mo.refl _ _; have nx_hcm14_hsm := Nx.refl (sbB + 1) HL1.size; have nx_hcm14_hp := Nx.refl (H0.size + 1) HL1.size; refine CW.s1 (fun hK15 => CW.region ?_); refine LR.m1 ?_; refine LR.v1 (Y.nilCheck rfl rfl) ?_; refine LR.v1 (Y.FA vd.pt rfl u'88 rfl s'86) ?_; refine LR.v1 (Y.load1 (vd.pt.drop 2) rfl a'86 rfl) ?_; refine LR.v1 (Y.len hcr.rd rfl u'86 rfl) ?_; refine LR.v1 (Y.gtr rfl rfl rfl) (LR.nil (hK15 _ _ ?_)); refine CW.condp rfl (fun c44 => ?_) (fun c44 => ?_)
   ·
    refine CW.s1 (fun hK16 => ?_); refine CW.region_any (fun Hq => Mo (Ms [(H0.size + 1)]) HL1 Hq) [] rfl ?_; have hq8 : Mo (Ms [(H0.size + 1)]) HL1 HL1 := Mo.refl _ _; have nx49 := Nx.refl (H0.size + 1) HL1.size; refine LH.m1 0 rfl hq8 ?_; refine LH.t1 1 rfl (fun Hq hq => Y.nilCheck rfl rfl) hq8 ?_; refine LH.t1 2 rfl (fun Hq hq => Y.fieldAddr (vd.upL hq (DL.o dj25.symm)).pt rfl u'88 rfl rfl s'86 (by decide) rfl) hq8 ?_; refine LH.t1 3 rfl (fun Hq hq => Y.load1 ((vd.upL hq (DL.o dj25.symm)).pt.drop 2) rfl a'86 rfl) hq8 ?_; refine LH.m1 4 rfl hq8 ?_; refine LH.m1 5 rfl hq8 ?_; refine LH.t1 6 rfl (fun Hq hq => Y.nilCheck rfl rfl) hq8 ?_; refine LH.t1 7 rfl (fun Hq hq => Y.fieldAddr (vd.upL hq (DL.o dj25.symm)).pt rfl u'88 rfl rfl s'86 (by decide) rfl) hq8 ?_; refine LH.t1 8 rfl (fun Hq hq => Y.load1 ((vd.upL hq (DL.o dj25.symm)).pt.drop 2) rfl a'86 rfl) hq8 ?_; refine LH.t1 9 rfl (fun Hq hq => Y.len (hcr.upL hq (DL.o dj41.symm)).rd rfl u'86 rfl) hq8 ?_; refine LH.t1 10 rfl (fun Hq hq => Y.cast (v2 := .int .i64 (((Di.chgs L[i]).length + 1 : Nat) : Int)) (Y.addi (a := ((Di.chgs L[i]).length : Int)) (b := 1) rfl rfl rfl (by omega)) (ivv (by omega))) hq8 ?_; refine LH.m1 14 rfl hq8 ?_; refine LH.o1 11 ?_; refine LO.call rfl rfl c'40 rfl (Wd.u rfl) rfl rfl (next_ct G H0.size a1 pv picks ((Di.chgs L[i]).length + 1) w0 _ hp hpk (bf_hpk.mono (by omega)) (df2) (by omega) (by omega) hpw) ?_; rintro v56 H56 ⟨rfl, hp, hs56⟩; replace vd := vd.upL hs56 (DL.o dj25.symm); replace hsm := hsm.upL hs56 (DL.o dj33.symm); replace hcr := hcr.upL hs56 (DL.o dj41.symm); replace hcm14 := hcm14.trL hs56 (MIL.o (MI.r nx_hcm14_hp)); replace hq8 := hq8.trL hs56 (MIL.o (MI.r nx49)); have hz5 := hs56.size; obtain ⟨kk, hkk⟩ : ∃ kk, kk = pickN picks a1 ((Di.chgs L[i]).length + 1) := ⟨_, rfl⟩; have hkl := pickN_lt picks a1 (m := (Di.chgs L[i]).length + 1) (by omega); rw [← hkk] at hkl; refine ⟨.inr hq8, LH.narrow (SH2 := fun Hq => Mo (Ms [(H0.size + 1)]) H56 Hq) (fun Hq hq => hq8.trL hq (MIL.o (MI.r nx49))) ?_⟩; have hq8 : Mo (Ms [(H0.size + 1)]) H56 H56 := Mo.refl _ _; refine LH.e (g := fun v => v) 12 (by kernel_rfl) rfl (by kernel_rfl) (by kernel_rfl) (by kernel_rfl) (Y.slice hcr.rd (0) (kk) rfl u'86 s'98 rfl (.inl ⟨rfl, rfl⟩) (.inr ⟨_, _, _, rfl, rfl, (by rw [hkk])⟩) (by omega) (by omega)) (Wd.u rfl) rfl rfl hq8 (fun v57 rd57 => ?_); refine LH.t1 13 rfl (fun Hq hq => Y.cast (v2 := .int .i64 (kk : Int)) (Y.len (rd57.upL hq (DFL.cons (DF.of dj41.symm) DFL.nil)) rfl u'86 rfl) (ivv (by simp; omega))) hq8 ?_; refine LH.done (by kernel_rfl) ?_; refine hK16 _ _ (CW.block (fun _ _ hX17 _ => ?_))
    refine CW.loop (fun (s_ : (Nat) × (Nms)) => match s_ with | (i2, m2) => [(0, ptr b), (5, .pointer (some ⟨H0.size, 0, none⟩)), (6, s26.v), (9, ptr db), (27, s26.v), (28, .int .i64 (L.length : Int)), (29, .int .i64 (i : Int)), (57, v57), (58, .int .i64 (kk : Int)), (59, .int .i64 (i2 : Int))])
     (fun (s_ : (Nat) × (Nms)) (H : Heap) => match s_ with | (i2, m2) => (Mp H Str (fvl g1.fb) sbB m2) ∧ (i2 ≤ kk) ∧ (∀ q, mget m2 q = if dirP q = L[i] then mget (apl (((Di.chgs L[i]).take kk).take i2) Di.stays) q else none) ∧ Mo (Ms [(sbB + 1)]) H56 H)
     (fun (s_ : (Nat) × (Nms)) => match s_ with | (i2, m2) => kk - i2) (0, smB) ⟨rfl, rfl, rfl, rfl, rfl, rfl, rfl, rfl, rfl, rfl, trivial⟩ ?_ ?_
    ·
     exact ⟨hsm, (by omega), fun q => hdB.es q, Mo.refl _ _⟩
    rintro ⟨i2, m2⟩ HL2 hI2 K18 hN18 hE18; obtain ⟨hsm, hi2, hm2, hlm2⟩ := hI2; replace hp := hp.upL hlm2 (DL.o dj33); replace vd := vd.upL hlm2 (DL.o dj46); replace rd57 := rd57.upL hlm2 (DFL.cons (DF.of dj48.symm) DFL.nil); replace hcm14 := hcm14.trL hlm2 (MIL.o (MI.r nx_hcm14_hsm)); have hz6 := hlm2.size; have nx_hlm2_hsm := Nx.refl (sbB + 1) H56.size; refine CW.s1 (fun hK19 => CW.region ?_); refine LR.v1 (Y.lss rfl rfl rfl) (LR.nil (hK19 _ _ ?_)); refine CW.s2 (fun hK20 hE20 => ?_); refine CW.condp rfl (fun c60 => ?_) (fun c60 => ?_)
    ·
     have hi2l : i2 < kk := by omega
     have hi2c : i2 < ((Di.chgs L[i]).take kk).length := by rw [List.length_take]; omega
     obtain ⟨c2, hc2⟩ : ∃ c2, c2 = ((Di.chgs L[i]).take kk)[i2] := ⟨_, rfl⟩; have hcm := chgs_mem (List.mem_of_mem_take (hc2 ▸ List.getElem_mem hi2c : c2 ∈ (Di.chgs L[i]).take kk)); have hcl : (c2.g ≠ [] → dirP c2.g = L[i]) ∧ ∀ j, c2.f = some j → dirP c2.n = L[i] := ⟨fun hg => by rw [dir_g hg]; exact hcm.2, fun j hj => by rw [hB.ld c2 (hM.lg c2 hcm.1) j hj]; exact hcm.2⟩; refine CW.skip (hK20 _ _ (CW.s1 (fun hK21 => CW.block (fun _ hK22 _ _ => CW.s1 (fun hK23 => CW.region ?_))))); refine LR.e1 (g := fun ad => .pointer (some ad)) (Y.indexAddrF rd57 (i2) rfl u'86 s'98 rfl rfl (by first | rfl | omega) (by simp; omega)) fun ad61 pt61 => ?_; refine LR.v1 (Y.cast (v2 := .agg (fC g1.fb c2).toArray) (Y.loadN pt61.pt rfl a'98 s'98 (fC_len _ _) rfl) (by rw [hc2]; simp)) ?_; refine LR.z1 (Z.allocv rfl z'98) ?_; rintro v11 H11 ⟨rfl, v11, hs11, ob11, hH11⟩; have hzs11 : H11.size = HL2.size + 1 := by rw [hH11]; simp
     have dj55 : Dj (db + 1) (HL2.size + 1) := Dj.new vd.lt; have dj56 : Dj (sbB + 1) (HL2.size + 1) := Dj.new hsm.lt; have nx64 : Nx 0 H56.size (HL2.size + 1) := Nx.new hlm2.size; replace vd := vd.nw hs11; replace hsm := hsm.nw hs11; replace hlm2 := hlm2.trN hs11; have hz7 := hs11.size; refine LR.s1 (S.var v11 (_) (fC g1.fb c2) rfl rfl rfl rfl (fC_one _ _) s'98 (fC_len _ _) (by decide) ((splice_all2 (fC_len _ _).symm))) ?_; rintro H10_3 ⟨v11, hs10_3⟩; replace hs10_3 := hs10_3.md1; replace vd := vd.upL hs10_3 (DL.o dj55); replace hsm := hsm.upL hs10_3 (DL.o dj56); replace hlm2 := hlm2.trL hs10_3 (MIL.o (MI.q nx64)); have hz8 := hs10_3.size; refine LR.nil (hK23 _ _ ?_); refine CW.region_tail 6 rfl (by kernel_rfl) (fun T11 hT11 => ?_); refine LR.m1 ?_; refine LR.v1 (Y.nilCheck rfl rfl) ?_; refine LR.v1 (Y.FA vd.pt rfl u'88 rfl s'85) ?_; refine LR.v1 (Y.FA vd.pt rfl u'85 rfl s'81) ?_; refine LR.v1 (Y.load1 (vd.pt.drop 1) rfl a'81 rfl) ?_; refine LR.v1 (Y.loadN v11.pt rfl a'98 s'98 (fC_len _ _) rfl) ?_; refine LR.nil (hT11 _ ?_); refine LR.call rfl c'41 rfl (Wd.u rfl) rfl rfl (put_ct g1.fb sbB m2 c2 w0 _ hsm) ?_; rintro v69 H69 ⟨hsm, hs69⟩; replace hlm2 := hlm2.trL hs69 (MIL.o (MI.r nx_hlm2_hsm)); have hz9 := hs69.size; refine LR.nil (hK22 _ _ (hK21 _ _ (CW.region ?_))); refine LR.v1 (Y.addi rfl rfl rfl (by omega)) ?_; refine LR.m1 (LR.nil ?_); refine QN.sub (hN18 (i2 + 1, Chg.apM c2 m2) _ ?_ ?_) ⟨rfl, rfl, rfl, rfl, rfl, (iv (by omega)), (iv (by omega)), rfl, (iv (by omega)), (iv (by omega)), trivial⟩
     · exact ⟨hsm, (by omega), fun q => by
        rw [mget_apM, hm2, List.take_succ_eq_append_getElem hi2c, apl_app, ← hc2]; by_cases hq : dirP q = L[i]
        · rw [if_pos hq, if_pos hq]; exact (mget_ap c2 _ q).symm
        · rw [if_neg hq, if_neg hq]; exact at_out (fun j hj => hcl.2 j hj) hcl.1 hq, hlm2⟩
     · first | omega | (simp only; omega) | (simp; omega)
    ·
     refine CW.exit (hE20 (.exit 2) nofun _ _ (hE18 (.exit 2) nofun _ _ (hX17 _ _ ?_))); have hne : Di.chgs L[i] ≠ [] := fun e => by rw [e] at c44; simp at c44
     have hi2e : i2 = kk := by omega
     refine QN.sub (hK14 (m2, a1 + 1) _ ?_) ⟨rfl, rfl, rfl, rfl, rfl, (iv (by omega)), (iv (by omega)), trivial⟩; exact ⟨hsm, hp, fun q => by rw [hm2, crashD_st, hi2e, ← hkk, List.take_take, Nat.min_self], by unfold crashD; rw [if_neg hne], hcm14⟩
   ·
    refine CW.skip ?_; have hne : Di.chgs L[i] = [] := List.eq_nil_of_length_eq_zero (by omega); refine QN.sub (hK14 (smB, a1) _ ?_) ⟨rfl, rfl, rfl, rfl, rfl, (iv (by omega)), (iv (by omega)), trivial⟩; exact ⟨hsm, hp, fun q => by rw [crashD_skip hne]; exact hdB.es q, by rw [crashD_skip hne], hcm14⟩
  ·
   rintro ⟨m3, a2⟩ Hcutc44 hIcutc44; obtain ⟨hsm, hp, hm3, ha2, hlmcutc44⟩ := hIcutc44; replace vd := vd.upL hlmcutc44 (DL.cons dj46 (DL.o dj25.symm)); replace hlm1 := hlm1.trL hlmcutc44 (MIL.cons (nx35) (MIL.o (MI.r nx_hlm1_hp))); replace hop := hop.trL hlmcutc44 (MIL.cons (MI.r nx36) (MIL.o (MI.r nx45))); have hz10 := hlmcutc44.size; refine CW.region ?_; refine LR.m1 ?_; refine LR.m1 ?_; refine LR.m1 ?_; refine LR.v1 (Y.nilCheck rfl rfl) ?_; refine LR.v1 (Y.FA vd.pt rfl u'88 rfl s'85) ?_; refine LR.v1 (Y.FA vd.pt rfl u'85 rfl s'81) ?_; refine LR.v1 (Y.load1 (vd.pt.drop 1) rfl a'81 rfl) ?_; refine LR.call rfl c'37 rfl (Wd.u rfl) rfl rfl (mclone_ct sbB m3 w0 _ hsm) ?_; rintro v78 H78 ⟨b78, rfl, hm78, hk78, hs78⟩; have dj68 : Dj (H0.size + 1) (b78 + 1) := Dj.app (Dj.z) hp.lt hk78; have dj69 : Dj (db + 1) (b78 + 1) := Dj.app (Dj.z) vd.lt hk78; have nx73 : Nx 0 H26.size (b78 + 1) := Nx.tr (Nx.refl 0 _) hk78 hlm1.size; have nx74 : Nx 0 HL1.size (b78 + 1) := Nx.tr (Nx.refl 0 _) hk78 hop.size; replace hp := hp.nw hs78; replace vd := vd.nw hs78; replace hsm := hsm.nw hs78; replace hlm1 := hlm1.trN hs78; replace hop := hop.trN hs78; have hz11 := hs78.size; have hle_hm78 := hm78.le; refine LR.v1 (Y.nilCheck rfl rfl) ?_; refine LR.v1 (Y.FA vd.pt rfl u'88 rfl s'85) ?_; refine LR.v1 (Y.FA vd.pt rfl u'85 rfl s'81) ?_; refine LR.s1 (S.var1 vd 0 ([.map (some b78), .map (some sbB), svB.v]) rfl rfl rfl (rfl) s'81 (by simp) (rfl)) ?_; rintro H13_11 ⟨vd, hs13_11⟩; replace hs13_11 := hs13_11.md1; replace hp := hp.upL hs13_11 (DL.o dj25); replace hsm := hsm.upL hs13_11 (DL.o dj46.symm); replace hm78 := hm78.upL hs13_11 (DL.o dj69.symm); replace hlm1 := hlm1.trL hs13_11 (MIL.cons (nx27) MIL.nil); replace hop := hop.trL hs13_11 (MIL.o (MI.r nx28)); have hz12 := hs13_11.size; refine LR.v1 (Y.nilCheck rfl rfl) ?_; refine LR.v1 (Y.FA vd.pt rfl u'88 rfl s'86) ?_; refine LR.s1 (S.var1 vd 2 ([.map (some b78), .map (some sbB), .slice none 0 0]) rfl rfl rfl (rfl) s'86 (by simp) (rfl)) ?_; rintro H13_14 ⟨vd, hs13_14⟩; replace hs13_14 := hs13_14.md1; replace hp := hp.upL hs13_14 (DL.o dj25); replace hsm := hsm.upL hs13_14 (DL.o dj46.symm); replace hm78 := hm78.upL hs13_14 (DL.o dj69.symm); replace hlm1 := hlm1.trL hs13_14 (MIL.cons (nx27) MIL.nil); replace hop := hop.trL hs13_14 (MIL.o (MI.r nx28)); have hz13 := hs13_14.size; refine LR.nil ?_; have dj77 : DL (H0.size + 1) ((b78 + 1) :: K1) := (DL.cons (dj68) (dj19)); have nx80 : NxK K H26.size ((b78 + 1) :: K1) := (NxK.cons (nx73) (nx20)); replace hf := dcrash hf (dj19) hdb1 hdB hM.ast (fun c hc => hB.ld c (hM.lg c hc)) hop vd hsm hm78 hm3 (DL.nxK hf.bk (nx74)); have hbk_hf := hf.bk; refine hK11 _ _ (hK10 _ _ (CW.region ?_)); refine LR.v1 (Y.addi rfl rfl rfl (by omega)) ?_; refine LR.m1 (LR.nil ?_); refine QN.sub (hN7 (i + 1, (b78 + 1) :: K1, { g1 with ρ := uprk g1.ρ (b78 + 1) (.now L[i]) }, stepM picks Di a1 L[i], a2) _ ?_ ?_) ⟨rfl, rfl, rfl, rfl, (iv (by omega)), (iv (by omega)), trivial⟩
   · exact ⟨hf, hp, (by omega), by rw [List.take_succ_eq_append_getElem hil, ha]; exact hst.1, by rw [List.take_succ_eq_append_getElem hil, ← hst.2, ← ha]; exact ha2, hg1, nx80, dj77, hlm1⟩
   · first | omega | (simp only; omega) | (simp; omega)
 ·
  have hie : i = L.length := by omega
  rw [hie, List.take_length] at hM ha; obtain ⟨e1, e2, e3, e4⟩ := hM.fin hL.1 (fun n hn => Classical.byContradiction (fun h => hn (habs0 n (hno n h)).2)) (fun q hq => (habs0 _ (hno _ hq)).1 q rfl) hB.ld; have hDl : Di.now.length ≤ 549755813888 := by rw [e2]; omega
  refine CW.exit (hE9 (.exit 0) nofun _ _ (hE7 (.exit 0) nofun _ _ (hX6 _ _ ?_))); refine hK4 _ _ (CW.s1 (fun hK24 => CW.region ?_)); refine LR.z1 (Z.makeMp Str (fvl g.fb) rfl) ?_; rintro v85 H85 ⟨rfl, hall, hs85, ob85, hH85⟩; have hzs85 : H85.size = HL1.size + 1 := by rw [hH85]; simp
  have dj81 : DL (HL1.size + 1) K1 := DL.newK hf.bk; have df82 := (DF.new (bf_hpk.mono hm0.size) : DF _ (HL1.size + 1)); have dj84 : Dj k26 (HL1.size + 1) := Dj.new ows.le; have dj85 : Dj (H0.size + 1) (HL1.size + 1) := Dj.new hp.lt; have nx86 : Nx 0 H0.size (HL1.size + 1) := Nx.new hm0.size; replace hf := hf.nw hs85; replace hpk := hpk.nw hs85; replace ows := ows.nw hs85; replace hp := hp.nw hs85; replace hm0 := hm0.trN hs85; have hz14 := hs85.size; have hlt_hall := hall.lt; refine LR.a1 (LR.nil (hK24 _ _ ?_)); refine CW.s1 (fun hK25 => CW.s1 (fun hK26 => CW.region ?_)); refine LR.m1 ?_; refine LR.v1 (Y.len ows.rd rfl u'60 rfl) ?_; refine LR.m1 (LR.nil (hK26 _ _ ?_)); refine CW.block (fun _ _ hX27 _ => ?_)
  refine CW.loop (fun (s_ : (Nat) × (Nms)) => match s_ with | (i3, ma) => [(0, ptr b), (5, .pointer (some ⟨H0.size, 0, none⟩)), (12, .map (some HL1.size)), (86, s26.v), (87, .int .i64 (L.length : Int)), (88, .int .i64 (i3 : Int))])
   (fun (s_ : (Nat) × (Nms)) (H : Heap) => match s_ with | (i3, ma) => (Mp H Str (fvl g.fb) HL1.size ma) ∧ (i3 ≤ L.length) ∧ (∀ q, mget ma q = if dirP q ∈ L.take i3 then mget Di.now q else none) ∧ Mo (Ms [(HL1.size + 1)]) H85 H)
   (fun (s_ : (Nat) × (Nms)) => match s_ with | (i3, ma) => L.length - i3) (0, []) ⟨rfl, rfl, rfl, rfl, rfl, rfl, trivial⟩ ?_ ?_
  ·
   exact ⟨hall, (by omega), fun q => by simp [mget], Mo.refl _ _⟩
  rintro ⟨i3, ma⟩ HL3 hI3 K28 hN28 hE28; obtain ⟨hall, hi3, hma, hlm3⟩ := hI3; replace hf := hf.upL hlm3 (DKL.cons dj81 DKL.nil); replace hpk := hpk.upL hlm3 (DFL.o df82); replace ows := ows.upL hlm3 (DL.o dj84); replace hp := hp.upL hlm3 (DL.o dj85); replace hm0 := hm0.trL hlm3 (MIL.o (MI.q nx86)); have hz15 := hlm3.size; have nx_hlm3_hall := Nx.refl (HL1.size + 1) H85.size; refine CW.s1 (fun hK29 => CW.region ?_); refine LR.v1 (Y.lss rfl rfl rfl) (LR.nil (hK29 _ _ ?_)); refine CW.s2 (fun hK30 hE30 => ?_); refine CW.condp rfl (fun c89 => ?_) (fun c89 => ?_)
  ·
   have hil3 : i3 < L.length := by omega
   have hni3 : L[i3] ∉ L.take i3 := fun hq => by
    have h9 := hLn; rw [← List.take_append_drop i3 L, List.nodup_append] at h9; exact h9.2.2 _ hq _ (by rw [List.drop_eq_getElem_cons hil3]; exact List.mem_cons_self) rfl
   have hmem_dc : L[i3] ∈ g.dm.map (·.1) := (hL.2 _).1 (List.getElem_mem hil3)
   obtain ⟨dc, hdc⟩ : ∃ dc, mget g.dm L[i3] = some dc := by
    rw [← isSome_iff_key] at hmem_dc
    cases hq : mget g.dm L[i3] with
    | none => rw [hq] at hmem_dc; cases hmem_dc
    | some dc => exact ⟨dc, rfl⟩
   have hdb2 : mget g1.dm L[i3] = some dc := by rw [hg1.2]; exact hdc
   obtain ⟨nbC, sbC, kcC, svC, nmC, smC, hdC⟩ := hf.dirs _ dc hdb2; refine CW.skip (hK30 _ _ (CW.s1 (fun hK31 => CW.block (fun _ hK32 _ _ => CW.s1 (fun hK33 => CW.region ?_))))); refine LR.v1 (Y.owAddr ows (i3) rfl u'60 s'9 rfl rfl (by first | rfl | omega) (by first | omega | (simp; omega) | (simp; done))) ?_; refine LR.v1 (Y.load1 (ows.pt (j := i3) (by first | omega | (simp; omega) | (simp; done))) rfl a'9 rfl) ?_; refine LR.a1 (LR.nil (hK33 _ _ ?_)); refine CW.region ?_; refine LR.m1 ?_; refine LR.m1 ?_; refine LR.v1 (Y.nilCheck rfl rfl) ?_; refine LR.v1 (Y.FA hf.vb.pt rfl u'50 rfl s'43) ?_; refine LR.v1 (Y.load1 (hf.vb.pt.drop 2) rfl a'43 rfl) ?_; refine LR.m1 ?_; refine LR.v1 (Y.cast (v2 := ptr dc) (look_p adO hf.hm.mo (fun _ => rfl) keyStr rfl u'43 Tryz.underlying9 z'78 rfl rfl) (by rw [hdb2]; rfl)) ?_; refine LR.v1 (Y.nilCheck rfl rfl) ?_; refine LR.v1 (Y.FA hdC.vd.pt rfl u'88 rfl s'85) ?_; refine LR.v1 (Y.FA (hdC.vd.pt.drop 0) rfl u'85 rfl s'81) ?_; refine LR.v1 (Y.load1 ((hdC.vd.pt.drop 0).drop 0) rfl a'81 rfl) ?_; have hmn := (show Mp _ Str (fvl g.fb) nbC nmC from hg1.1 ▸ hdC.hn); have hlt_hmn := hmn.lt; have dj87 : Dj (nbC + 1) (HL1.size + 1) := (DL.at (dj81) (hf.km1 hdC.rn (by simp))).symm; refine LR.call rfl c'42 rfl (Wd.u rfl) rfl rfl (copy_ct (fvl g.fb) HL1.size nbC ma nmC w0 _ hall hmn (dj87)) ?_; rintro v103 H103 ⟨m103, rfl, hall, hm103, hs103⟩; replace hlm3 := hlm3.trL hs103 (MIL.o (MI.r nx_hlm3_hall)); have hz16 := hs103.size; refine LR.nil (hK32 _ _ (hK31 _ _ (CW.region ?_))); refine LR.v1 (Y.addi rfl rfl rfl (by omega)) ?_; refine LR.m1 (LR.nil ?_); refine QN.sub (hN28 (i3 + 1, m103) _ ?_ ?_) ⟨rfl, rfl, rfl, rfl, (iv (by omega)), (iv (by omega)), trivial⟩
   · exact ⟨hall, (by omega), fun q => by
      have hmm : dirP q ∈ L.take (i3 + 1) ↔ dirP q ∈ L.take i3 ∨ dirP q = L[i3] := by rw [List.take_succ_eq_append_getElem hil3, List.mem_append, List.mem_singleton]
      rw [hm103, hdC.en, hma]; by_cases hq : dirP q = L[i3]
      · have h9 : dirP q ∉ L.take i3 := by rw [hq]; exact hni3
        rw [if_pos hq, if_neg h9, if_pos (hmm.2 (.inr hq))]; cases mget Di.now q <;> rfl
      · rw [if_neg hq]; by_cases h9 : dirP q ∈ L.take i3
        · rw [if_pos h9, if_pos (hmm.2 (.inl h9))]
        · rw [if_neg h9, if_neg (fun h => (hmm.1 h).elim h9 hq)], hlm3⟩
   · first | omega | (simp only; omega) | (simp; omega)
  ·
   have hi3e : i3 = L.length := by omega
   rw [hi3e, List.take_length] at hma
   replace hma : ∀ q, mget ma q = mget Di.now q := fun q => by
    rw [hma]; by_cases h : dirP q ∈ L
    · rw [if_pos h]
    · rw [if_neg h, hM.nw2 q h, ((habs0 _ (hno _ h)).1 q rfl).1]
   have hmal : ma.length ≤ Di.now.length := by
    have h9 := nodup_le (b := Di.now.map (·.1)) hall.mo.nodup (fun k hk => by rw [← isSome_iff_key] at hk ⊢; rw [← hma]; exact hk); rwa [List.length_map, List.length_map] at h9
   refine CW.exit (hE30 (.exit 4) nofun _ _ (hE28 (.exit 4) nofun _ _ (hX27 _ _ ?_))); refine hK25 _ _ (CW.s1 (fun hK34 => CW.s1 (fun hK35 => CW.region ?_))); refine LR.m1 ?_; refine LR.call rfl c'43 rfl (Wd.u rfl) rfl rfl (keysN HL1.size w0 _) ?_; rintro v106 H106 ⟨by_, rfl, hx2, hkx2, hs106⟩; replace hf := hf.nw hs106; replace hpk := hpk.nw hs106; replace hp := hp.nw hs106; replace hall := hall.nw hs106; replace hm0 := hm0.trN hs106; have hz17 := hs106.size; have hle_hx2 := hx2.le; refine LR.call rfl c'38 rfl (Wd.u rfl) rfl rfl (sortedN by_ HL1.size (fvl g.fb) ma w0 _ hx2 hall (by omega)) ?_; rintro v107 H107 ⟨s107, k107, P, rfl, owp, hk107, hP, hs107⟩; have dj95 : DL k107 K1 := DL.app2 (DL.zK) hf.bk hk107; have dj99 : Dj (H0.size + 1) k107 := Dj.app (Dj.z) hp.lt hk107; replace hf := hf.nw hs107; replace hpk := hpk.nw hs107; replace hp := hp.nw hs107; replace hall := hall.nw hs107; replace hm0 := hm0.trN hs107; have hz18 := hs107.size; have hle_owp := owp.le; have hPe : P = Di.now.map (·.1) := rise_ext hP.1 hM.an.rise (fun q => by rw [hP.2, ← isSome_iff_key, ← isSome_iff_key, hma]); have hPl : P.length = Di.now.length := by rw [hPe, List.length_map]
   refine LR.v1 (Y.len owp.rd rfl u'60 rfl) ?_; refine LR.m1 (LR.nil (hK35 _ _ ?_)); refine CW.block (fun _ _ hX36 _ => ?_)
   refine CW.loop (fun (s_ : (Nat) × (List Nat) × (Gh) × (List Fdt) × (Nat)) => match s_ with | (j, K4, g4, fs4, a4) => [(0, ptr b), (5, .pointer (some ⟨H0.size, 0, none⟩)), (12, .map (some HL1.size)), (107, s107.v), (108, .int .i64 (P.length : Int)), (109, .int .i64 (j : Int))])
    (fun (s_ : (Nat) × (List Nat) × (Gh) × (List Fdt) × (Nat)) (H : Heap) => match s_ with | (j, K4, g4, fs4, a4) => (PDk K4 g4 H b { Di with fs := fs4 }) ∧ (Var 91 H H0.size [pv.v, .int .i64 (a4 : Int)]) ∧ (j ≤ P.length) ∧ ((fs4, a4) = (Di.now.take j).foldl (crashF picks) (D.fs, a1)) ∧ (g4.fb = g.fb) ∧ (NxK K1 H107.size K4) ∧ (DL (H0.size + 1) K4) ∧ Mo (Ms (K1 ++ [(H0.size + 1)])) H107 H)
    (fun (s_ : (Nat) × (List Nat) × (Gh) × (List Fdt) × (Nat)) => match s_ with | (j, K4, g4, fs4, a4) => P.length - j) (0, K1, g1, D.fs, a1) ⟨rfl, rfl, rfl, rfl, rfl, rfl, trivial⟩ ?_ ?_
   ·
    exact ⟨(by have h9 := hM.same.2.2.1; rw [← h9]; exact hf), hp, (by omega), rfl, hg1.1, NxK.refl _ _, dj19, Mo.refl _ _⟩
   rintro ⟨j, K4, g4, fs4, a4⟩ HL4 hI4 K37 hN37 hE37; obtain ⟨hf, hp, hj, hF, hg4, nxl_hf, dj_hf_hp, hlm4⟩ := hI4; have df103 := DFL.appK (df15) (bf_hpk.mono hm0.size) nxl_hf; have nx109 : NxK K H0.size K4 := NxK.tr (nx18) nxl_hf hm0.size; replace hpk := hpk.upL hlm4 (DFL.app df15 (DFL.o df2)); replace hall := hall.upL hlm4 (DL.app dj81 (DL.o dj85.symm)); replace owp := owp.upL hlm4 (DL.app dj95 (DL.o dj99.symm)); replace hm0 := hm0.trL hlm4 (MIL.app (MIL.ofK (nx18) (by intro k hk; simp [hk])) (MIL.o (MI.q nx3))); have hz19 := hlm4.size; have hbk_hf := hf.bk; have dj110 := dj_hf_hp; have nx111 := nxl_hf; have nx_hlm4_hp := Nx.refl (H0.size + 1) H107.size; have hFl := crashF_len picks (Di.now.take j) (D.fs, a1); have hFa := crashF_at picks (Di.now.take j) (D.fs, a1); have hFf := crashF_file picks D.fs (Di.now.take j) (D.fs, a1) (fun i => .inl rfl); rw [← hF] at hFl hFa hFf; simp only [List.length_take] at hFl hFa hFf; refine CW.s1 (fun hK38 => CW.region ?_); refine LR.v1 (Y.lss rfl rfl rfl) (LR.nil (hK38 _ _ ?_)); refine CW.s2 (fun hK39 hE39 => ?_); refine CW.condp rfl (fun c110 => ?_) (fun c110 => ?_)
   ·
    have hjl : j < P.length := by omega
    have hjn : j < Di.now.length := by omega
    have hPj : P[j] = Di.now[j].1 := by simp only [hPe, List.getElem_map]
    have hgj := mget_of_mem hM.an.nodup (show (Di.now[j].1, Di.now[j].2) ∈ Di.now from List.getElem_mem hjn); have hid := hf.ids.1 _ _ hgj; have hbi : g4.fb.getD Di.now[j].2 0 = g.fb.getD Di.now[j].2 0 := by rw [hg4]
    obtain ⟨nvD, svD, wvD, kwD, lwD, hfiD⟩ := hf.fil _ hid; have hlwD : lwD.length = (fget fs4 Di.now[j].2).w.length := by have h9 := congrArg List.length hfiD.lw; rw [List.length_map] at h9; exact h9
    refine CW.skip (hK39 _ _ (CW.s1 (fun hK40 => CW.block (fun _ hK41 _ _ => CW.s1 (fun hK42 => CW.region ?_))))); refine LR.v1 (Y.owAddr owp (j) rfl u'60 s'9 rfl rfl (by first | rfl | omega) (by first | omega | (simp; omega) | (simp; done))) ?_; refine LR.v1 (Y.load1 (owp.pt (j := j) (by first | omega | (simp; omega) | (simp; done))) rfl a'9 rfl) ?_; refine LR.a1 (LR.nil (hK42 _ _ ?_)); refine CW.s1 (fun hK43 => CW.region ?_); refine LR.m1 ?_; refine LR.m1 ?_; refine LR.v1 (Y.cast (v2 := fvl g.fb Di.now[j].2) (look_p (fun i => ⟨g.fb.getD i 0, 0, none⟩) hall.mo (fun _ => rfl) keyStr rfl u'81 Tryz.underlying9 z'83 rfl rfl) (by rw [hPj, hma, hgj]; rfl)) ?_; refine LR.a1 (LR.nil (hK43 _ _ ?_)); refine CW.s1 (fun hK44 => CW.region ?_); refine LR.m1 ?_; refine LR.v1 (Y.nilCheck rfl rfl) ?_; refine LR.v1 (Y.fieldAddr (hfiD.atb hbi).pt rfl u'106 rfl rfl s'104 (by decide) rfl) ?_; refine LR.v1 (Y.load1 ((hfiD.atb hbi).pt.drop 2) rfl a'104 rfl) ?_; refine LR.v1 (Y.cast (v2 := .int .i64 ((fget fs4 Di.now[j].2).w.length : Int)) (Y.len hfiD.hw.rd rfl u'104 rfl) (by rw [hlwD])) ?_; refine LR.v1 (Y.gtr rfl rfl rfl) (LR.nil (hK44 _ _ ?_)); refine CW.condp rfl (fun c121 => ?_) (fun c121 => ?_)
    ·
     have hwne : (fget fs4 Di.now[j].2).w ≠ [] := fun e => by rw [e] at c121; simp at c121
     have hfe : fget fs4 Di.now[j].2 = fget D.fs Di.now[j].2 := (hFf _).resolve_right hwne; refine CW.region ?_; refine LR.v1 (Y.cast (v2 := fvl g4.fb Di.now[j].2) (Y.move rfl rfl) (by rw [hg4])) ?_; refine LR.m1 ?_; refine LR.call rfl c'44 rfl (Wd.u rfl) rfl rfl (lose_ct K4 g4 b { Di with fs := fs4 } G H0.size a4 pv picks Di.now[j].2 w0 _ hf hp hpk (bf_hpk.mono (by omega)) (df2) (dj110) (df103) hid (by show (fget fs4 _).w.length ≤ _; rw [hfe]; have := hB.w Di.now[j].2; omega) (by show ∀ y ∈ (fget fs4 _).w, _; rw [hfe]; intro y hy; have := hB.wd _ y hy; omega) (by show ∀ q, (onAll ((fget fs4 _).w.take q) (fget fs4 _).stays).length ≤ _; rw [hfe]; intro q; have := hB.pf Di.now[j].2 q; omega) (by show waysF (fget fs4 _).w ≤ _; rw [hfe]; exact hwy _) (by omega) hpw) (fun v124 H124 r124 => ?_); have ql118 := hp.lt; obtain ⟨K124, g124, rfl, hf, hkd124, hp, hg124, hs124⟩ := r124; have dj125 : DL (H0.size + 1) K124 := DL.appK (dj110) ql118 hkd124; have nx127 : NxK K1 H107.size K124 := NxK.tr (nx111) hkd124 hlm4.size; replace hlm4 := hlm4.trL hs124 (MIL.app (MIL.ofK (nx111) (by intro k hk; simp [hk])) (MIL.o (MI.r nx_hlm4_hp))); have hz20 := hs124.size; have hbk_hf := hf.bk; refine LR.nil (hK41 _ _ (hK40 _ _ (CW.region ?_))); refine LR.v1 (Y.addi rfl rfl rfl (by omega)) ?_; refine LR.m1 (LR.nil ?_); refine QN.sub (hN37 (j + 1, K124, g124, fs4.set Di.now[j].2 ⟨wayW (fget fs4 Di.now[j].2).w (fget fs4 Di.now[j].2).stays (pickN picks a4 (waysF (fget fs4 Di.now[j].2).w)), wayW (fget fs4 Di.now[j].2).w (fget fs4 Di.now[j].2).stays (pickN picks a4 (waysF (fget fs4 Di.now[j].2).w)), []⟩, a4 + 1) _ ?_ ?_) ⟨rfl, rfl, rfl, rfl, (iv (by omega)), (iv (by omega)), trivial⟩
     · exact ⟨hf, hp, (by omega), by rw [List.take_succ_eq_append_getElem hjn, List.foldl_append, ← hF]; show _ = crashF picks (fs4, a4) Di.now[j]; unfold crashF; simp only; rw [if_neg hwne], hg124.1.trans hg4, nx127, dj125, hlm4⟩
     · first | omega | (simp only; omega) | (simp; omega)
    ·
     refine CW.skip (hK41 _ _ (hK40 _ _ (CW.region ?_))); refine LR.v1 (Y.addi rfl rfl rfl (by omega)) ?_; refine LR.m1 (LR.nil ?_); refine QN.sub (hN37 (j + 1, K4, g4, fs4, a4) _ ?_ ?_) ⟨rfl, rfl, rfl, rfl, (iv (by omega)), (iv (by omega)), trivial⟩
     · exact ⟨hf, hp, (by omega), by rw [List.take_succ_eq_append_getElem hjn, List.foldl_append, ← hF]; show _ = crashF picks (fs4, a4) Di.now[j]; unfold crashF; simp only; rw [if_pos (List.eq_nil_of_length_eq_zero (by omega))], hg4, nx111, dj110, hlm4⟩
     · first | omega | (simp only; omega) | (simp; omega)
   ·
    have hje : j = Di.now.length := by omega
    rw [hje, List.take_length] at hF; have hAe : (fs4, a4) = D.crashA picks := by rw [hF]; unfold Dk.crashA; rw [e2, ha, e4]
    refine CW.exit (hE39 (.exit 6) nofun _ _ (hE37 (.exit 6) nofun _ _ (hX36 _ _ ?_))); refine hK34 _ _ (CW.s1 (fun hK45 => CW.region ?_)); refine LR.m1 ?_; refine LR.m1 ?_; refine LR.v1 (Y.nilCheck rfl rfl) ?_; refine LR.v1 (Y.FA hf.vb.pt rfl u'50 rfl s'3) ?_; refine LR.s1 (pd_left hf 0 rfl rfl rfl s'3 (by omega)) ?_; rintro H28_4 ⟨hf, hs28_4⟩; replace hp := hp.upL hs28_4 (dj110); replace hm0 := hm0.trL hs28_4 (MIL.ofK (nx109) (by intro k hk; simp [hk])); refine LR.v1 (Y.nilCheck rfl rfl) ?_; refine LR.v1 (Y.FA hf.vb.pt rfl u'50 rfl s'4) ?_; refine LR.s1 (pd_alive hf rfl rfl rfl rfl s'4) ?_; rintro H28_7 ⟨hf, hs28_7⟩; replace hp := hp.upL hs28_7 (dj110); replace hm0 := hm0.trL hs28_7 (MIL.ofK (nx109) (by intro k hk; simp [hk])); refine LR.nil (hK45 _ _ (CW.s1 (fun hK46 => CW.region ?_))); refine LR.m1 ?_; refine LR.v1 (Y.nilCheck rfl rfl) ?_; refine LR.v1 (Y.FA hp.pt rfl u'91 rfl s'3) ?_; refine LR.v1 (Y.load1 (hp.pt.drop 1) rfl a'3 rfl) ?_; refine LR.a1 (LR.nil (hK46 _ _ ?_)); refine CW.ret (hret .ret (.inr rfl) _ _ _ (res1 rfl rfl) ?_)
    exact ⟨_, _, by rw [← hAe], by
     have h9 : (D.crash picks) = { { { Di with fs := fs4 } with left := 0 } with dead := false } := by
      unfold Dk.crash; rw [← hAe, ← e1]; obtain ⟨q1, q2, q3, q4, q5, q6⟩ := hM.same; obtain ⟨c1, c2, c3, c4, c5, c6, c7, c8, c9⟩ := Di; simp only at q1 q2 q3 q4 q5 q6 e1 e2 e3; subst q1 q2 q4 e3; simp only [Dk.mk.injEq, true_and, and_true]; rw [e2, e1]
     rw [h9]; exact hf, nx109, hm0⟩
end Go.Proofs.YtfbfjhppppoilaaGreatDoor.SimP

namespace Go.Proofs.YtfbfjhppppoilaaGreatDoor.SimQ
open E Go.RowKit SimA SimB SimC SimD SimE SimF SimG SimH SimI SimJ SimK SimL SimM SimN SimP
set_option maxRecDepth 20000
def Fsb (n : Nat) (x : Fdt) : Prop := x.now.length ≤ n ∧ x.stays.length ≤ n ∧ x.w.length ≤ n ∧ (∀ y ∈ x.w, y.d.length ≤ n) ∧ ∀ j, (onAll (x.w.take j) x.stays).length ≤ n
theorem Fsb.mono {n m : Nat} {x : Fdt} (h : Fsb n x) (hm : n ≤ m) : Fsb m x := ⟨Nat.le_trans h.1 hm, Nat.le_trans h.2.1 hm, Nat.le_trans h.2.2.1 hm, fun y hy => Nat.le_trans (h.2.2.2.1 y hy) hm, fun j => Nat.le_trans (h.2.2.2.2 j) hm⟩
theorem Fsb.nil (n : Nat) : Fsb n ⟨[], [], []⟩ := ⟨Nat.zero_le _, Nat.zero_le _, Nat.zero_le _, nofun, fun j => by simp [onAll]⟩
theorem Fsb.flat {n : Nat} {l : List UInt8} (h : l.length ≤ n) : Fsb n ⟨l, l, []⟩ := ⟨h, h, Nat.zero_le _, nofun, fun j => by simpa [onAll] using h⟩
def Inn (U : List Pth) (l : Nms) : Prop := ∀ q, (mget l q).isSome = true → q ∈ U
structure Bs (n : Nat) (D : Dk) : Prop where
 an : Asc D.now
 ast : Asc D.stays
 lg : D.log.length ≤ n
 op : D.ops ≤ n
 fl : D.fs.length ≤ n
 f : ∀ i, Fsb n (fget D.fs i)
 un : ∃ U : List Pth, U.length ≤ n ∧ Inn U D.now ∧ Inn U D.stays ∧ ∀ c ∈ D.log, ∀ i, c.f = some i → c.n ∈ U
 ld : ∀ c ∈ D.log, ∀ i, c.f = some i → dirP c.n = c.dir
theorem Bs.mono {n m : Nat} {D : Dk} (h : Bs n D) (hm : n ≤ m) : Bs m D := ⟨h.an, h.ast, Nat.le_trans h.lg hm, Nat.le_trans h.op hm, Nat.le_trans h.fl hm, fun i => (h.f i).mono hm, by obtain ⟨U, h1, h2⟩ := h.un; exact ⟨U, Nat.le_trans h1 hm, h2⟩, h.ld⟩
theorem usedL_le {fs : List Fdt} {n : Nat} (h : ∀ i, (fget fs i).now.length ≤ n) : ∀ l : Nms, usedL fs l ≤ l.length * n
 | [] => by simp [usedL]
 | x :: l => by
   have h1 := usedL_le h l; have h2 := h x.2; unfold usedL at h1 ⊢; rw [List.map_cons, List.sum_cons, List.length_cons, Nat.add_mul]; omega
theorem inn_len {U : List Pth} {l : Nms} (hA : Asc l) (h : Inn U l) : l.length ≤ U.length := by
 have := nodup_le hA.nodup (fun k hk => h k (isSome_iff_key.2 hk)); rwa [List.length_map] at this
theorem Bs.bd {n : Nat} {D : Dk} (h : Bs n D) (hn : n ≤ 1073741824) : Bd 274877906944 D := by
 obtain ⟨U, h1, h2, h3, h4⟩ := h.un; have e1 := inn_len h.an h2; have e2 := inn_len h.ast h3; have e3 := usedL_le (fun i => (h.f i).1) D.now; have e4 : D.now.length * n ≤ 1073741824 * 1073741824 := Nat.mul_le_mul (by omega) hn; exact ⟨h.an, h.ast, by unfold Dk.used; omega, by have := h.lg; omega, by have := h.op; omega, fun i => by have := (h.f i).1; omega, fun i => by have := (h.f i).2.1; omega, fun i => by have := (h.f i).2.2.1; omega, fun i y hy => by have := (h.f i).2.2.2.1 y hy; omega, by omega, by omega, by have := h.fl; omega, fun i j => by have := (h.f i).2.2.2.2 j; omega, h.ld⟩
theorem ways_bd {n : Nat} : ∀ {ws : List Wr}, (∀ y ∈ ws, y.d.length ≤ n) → (ws.map Wr.ways).sum ≤ ws.length * (2 * n + 1)
 | [], _ => by simp
 | w :: ws, h => by
   have h1 := ways_bd (ws := ws) (fun y hy => h y (List.mem_cons_of_mem _ hy)); have h2 := h w List.mem_cons_self; have h3 : w.ways ≤ 2 * n + 1 := by unfold Wr.ways; omega
   rw [List.map_cons, List.sum_cons, List.length_cons, Nat.add_mul]; omega
theorem Bs.wy {n : Nat} {D : Dk} (h : Bs n D) (hn : n ≤ 536870912) (i : Nat) : waysF (fget D.fs i).w ≤ 2305843009213693952 := by
 unfold waysF; have h1 := ways_bd (h.f i).2.2.2.1; have h2 : (fget D.fs i).w.length * (2 * n + 1) ≤ 536870912 * 1073741825 := Nat.mul_le_mul (by have := (h.f i).2.2.1; omega) (by omega); omega
theorem Bs.empty (cap most : Nat) : Bs 0 (Dk.empty cap most) :=
 ⟨List.Pairwise.nil, List.Pairwise.nil, Nat.le_refl _, Nat.le_refl _, Nat.le_refl _, fun i => by show Fsb 0 (List.getD [] i _); simpa using Fsb.nil 0, ⟨[], Nat.le_refl _, nofun, nofun, nofun⟩, nofun⟩
theorem Bs.begin {n : Nat} {D : Dk} (h : Bs n D) : Bs (n + 1) D.begin.2 := by
 obtain ⟨e1, e2, e3, e4, e5, e6, e7⟩ := begin_same D; have h := h.mono (Nat.le_succ n); exact ⟨by rw [e4]; exact h.an, by rw [e5]; exact h.ast, by rw [e6]; exact h.lg, by have := Bs.op ‹Bs n D›; omega, by rw [e3]; exact h.fl, by rw [e3]; exact h.f, by rw [e4, e5, e6]; exact h.un, by rw [e6]; exact h.ld⟩
theorem inn_ap {U : List Pth} {l : Nms} {c : Chg} (h : Inn U l) (hc : ∀ i, c.f = some i → c.n ∈ U) : Inn U (c.ap l) := fun q hq => by
 rw [mget_ap] at hq; unfold Chg.at at hq
 cases hf : c.f with
 | none =>
   rw [hf] at hq; simp only at hq; split at hq
   · cases hq
   · exact h q hq
 | some i =>
   rw [hf] at hq; simp only at hq; split at hq
   · rename_i e; rw [e]; exact hc i hf
   · split at hq
     · cases hq
     · exact h q hq
theorem inn_apl {U : List Pth} : ∀ {cs : List Chg} {l : Nms}, Inn U l → (∀ c ∈ cs, ∀ i, c.f = some i → c.n ∈ U) → Inn U (apl cs l)
 | [], l, h, _ => h
 | c :: cs, l, h, hc => inn_apl (cs := cs) (inn_ap h (hc c List.mem_cons_self)) (fun d hd => hc d (List.mem_cons_of_mem _ hd))
theorem Bs.put {n : Nat} {D : Dk} (h : Bs n D) (i : Nat) {x : Fdt} (hx : Fsb n x) : Bs n (D.putF i x) :=
 ⟨h.an, h.ast, h.lg, h.op, by rw [fl_put]; exact h.fl, fun j => by
  by_cases hi : i < D.fs.length
  · by_cases e : j = i
    · subst e; rw [fget_put hi]; exact hx
    · show Fsb n ((D.fs.set i x).getD j _)
      rw [List.getD_eq_getElem?_getD, List.getElem?_set_ne (Ne.symm e), ← List.getD_eq_getElem?_getD]; exact h.f j
  · show Fsb n ((D.fs.set i x).getD j _)
    rw [List.set_eq_of_length_le (by omega)]; exact h.f j, h.un, h.ld⟩
theorem Bs.change {n : Nat} {D : Dk} (h : Bs n D) (c : Chg) (hd : ∀ i, c.f = some i → dirP c.n = c.dir) : Bs (n + 1) (D.change c) := by
 obtain ⟨U, h1, h2, h3, h4⟩ := h.un; refine ⟨asc_ap h.an c, h.ast, by show (D.log ++ [c]).length ≤ _; have := h.lg; simp; omega, Nat.le_succ_of_le h.op, Nat.le_succ_of_le h.fl, fun i => (h.f i).mono (Nat.le_succ _), ⟨c.n :: U, by simp; omega, inn_ap (fun q hq => List.mem_cons_of_mem _ (h2 q hq)) (fun _ _ => List.mem_cons_self), fun q hq => List.mem_cons_of_mem _ (h3 q hq), fun d hd2 i hi => ?_⟩, fun d hd2 i hi => ?_⟩
 · rcases List.mem_append.1 hd2 with hd2 | hd2
   · exact List.mem_cons_of_mem _ (h4 d hd2 i hi)
   · rw [List.mem_singleton.1 hd2]; exact List.mem_cons_self
 · rcases List.mem_append.1 hd2 with hd2 | hd2
   · exact h.ld d hd2 i hi
   · rw [List.mem_singleton.1 hd2] at hi ⊢; exact hd i hi
theorem Bs.addf {n : Nat} {D : Dk} (h : Bs n D) : Bs (n + 1) ({ D with fs := D.fs ++ [⟨[], [], []⟩] } : Dk) :=
 ⟨h.an, h.ast, Nat.le_succ_of_le h.lg, Nat.le_succ_of_le h.op, by have := h.fl; simp; omega, fun i => by
  show Fsb (n + 1) ((D.fs ++ [(⟨[], [], []⟩ : Fdt)]).getD i ⟨[], [], []⟩); rw [List.getD_eq_getElem?_getD, List.getElem?_append]; split
  · rw [← List.getD_eq_getElem?_getD]; exact (h.f i).mono (Nat.le_succ _)
  · by_cases e : i - D.fs.length = 0
    · rw [e]; exact Fsb.nil _
    · rw [List.getElem?_eq_none (by simp; omega)]; exact Fsb.nil _, (h.mono (Nat.le_succ _)).un, h.ld⟩
theorem Bs.make {n : Nat} {D : Dk} (h : Bs n D) (p : Pth) : Bs (n + 2) (D.make p).1 := by
 unfold Dk.make; split
 · exact h.mono (by omega)
 · refine h.addf.change _ (fun i _ => ?_)
   simp [Chg.dir]
theorem Fsb.laid {n : Nat} {x : Fdt} (h : Fsb n x) (w : Wr) : Fsb (n + w.d.length + 1) ⟨w.on x.now w.d.length, x.stays, x.w ++ [w]⟩ := by
 obtain ⟨h1, h2, h3, h4, h5⟩ := h; have h6 := on_le w x.now w.d.length; refine ⟨by show (w.on x.now w.d.length).length ≤ _; omega, by show x.stays.length ≤ _; omega, by show (x.w ++ [w]).length ≤ _; simp; omega, fun y hy => ?_, fun j => ?_⟩
 · rcases List.mem_append.1 hy with hy | hy
   · have := h4 y hy; omega
   · rw [List.mem_singleton.1 hy]; omega
 · show (onAll ((x.w ++ [w]).take j) x.stays).length ≤ _
   rw [List.take_append]; by_cases hj : j ≤ x.w.length
   · rw [show j - x.w.length = 0 by omega, List.take_zero, List.append_nil]; have := h5 j; omega
   · obtain ⟨k, hk⟩ : ∃ k, j - x.w.length = k + 1 := ⟨j - x.w.length - 1, by omega⟩
     rw [hk]
     have e : onAll (x.w.take j ++ [w].take (k + 1)) x.stays = w.on (onAll (x.w.take j) x.stays) w.d.length := by
      unfold onAll; rw [List.foldl_append, List.take_succ_cons, List.take_nil]; rfl
     rw [e]; have := on_le w (onAll (x.w.take j) x.stays) w.d.length; have := h5 j; omega
theorem Bs.write {n : Nat} {D : Dk} (h : Bs n D) (p : Pth) (w : Wr) : Bs (n + w.d.length + 3) (D.write p w) := by
 unfold Dk.write; have h1 := h.make p; exact (h1.mono (by omega)).put _ (((h1.f _).laid w).mono (by omega))
theorem Bs.lay {n : Nat} {D : Dk} (h : Bs n D) (p : Pth) (w : Wr) : Bs (n + w.d.length + 4) (D.lay p w).2 := by
 unfold Dk.lay; have h1 := h.begin; simp only; split
 · exact h1.mono (by omega)
 · simp only; split
   · exact (h1.write p w).mono (by omega)
   · exact h1.mono (by omega)
theorem Bs.sync {n : Nat} {D : Dk} (h : Bs n D) (p : Pth) : Bs (n + 1) (D.sync p).2 := by
 unfold Dk.sync; have h1 := h.begin; simp only; split
 · exact h1
 · simp only; split
   · exact h1.put _ (Fsb.flat (h1.f _).1)
   · exact h1
theorem Bs.rename {n : Nat} {D : Dk} (h : Bs n D) (a b : Pth) : Bs (n + 2) (D.rename a b).2 := by
 unfold Dk.rename; have h1 := h.begin; simp only; split
 · exact h1.mono (by omega)
 · simp only; split
   · rename_i h2
     refine h1.change _ (fun i _ => ?_)
     have h3 : nameB a = true ∧ dirP a = dirP b := by
      have := h2.1; unfold Dk.renE at this; split at this
      · cases this
      · rename_i h4; split at this
        · cases this
        · rename_i h5; exact ⟨by cases hn : nameB a with
           | true => rfl
           | false => exact absurd (.inl hn) h4, by simpa using h5⟩
     unfold Chg.dir; rw [if_neg (name_ne h3.1)]; exact h3.2.symm
   · exact h1.mono (by omega)
theorem Bs.remove {n : Nat} {D : Dk} (h : Bs n D) (p : Pth) : Bs (n + 2) (D.remove p).2 := by
 unfold Dk.remove; have h1 := h.begin; simp only; split
 · exact h1.mono (by omega)
 · simp only; split
   · exact h1.change _ nofun
   · exact h1.mono (by omega)
theorem Bs.syncDir {n : Nat} {D : Dk} (h : Bs n D) (p : Pth) : Bs (n + 1) (D.syncDir p).2 := by
 unfold Dk.syncDir; have h1 := h.begin; simp only; split
 · exact h1
 · simp only; split
   · obtain ⟨U, e1, e2, e3, e4⟩ := h1.un
     refine ⟨h1.an, asc_merge h1.ast _, Nat.le_trans (List.length_filter_le _ _) h1.lg, h1.op, h1.fl, h1.f, ⟨U, e1, e2, fun q hq => ?_, fun c hc => e4 c (List.mem_filter.1 hc).1⟩, fun c hc => h1.ld c (List.mem_filter.1 hc).1⟩; have hq : (mget (merge D.begin.2.now D.begin.2.stays p) q).isSome = true := hq; rw [mget_merge h1.an] at hq; split at hq
     · exact e2 q hq
     · exact e3 q hq
   · exact h1
theorem Bs.stop {n : Nat} {D : Dk} (h : Bs n D) (k : Nat) : Bs n (D.stop k) := ⟨h.an, h.ast, h.lg, h.op, h.fl, h.f, h.un, h.ld⟩
theorem part_len (w : Wr) (b : List UInt8) (k : Nat) (hk : k < w.ways) : (w.part b k).length ≤ (w.on b w.d.length).length := by
 unfold Wr.part; have h := on_len w b
 have h2 : ∀ m, m ≤ w.d.length → (w.on b m).length = (if w.b = true then b.length else 0) + m := fun m hm => by
  unfold Wr.on; rw [List.length_append, List.length_take, Nat.min_eq_left hm]; split <;> simp
 unfold Wr.ways at hk; split
 · rw [h2 _ (Nat.min_le_right _ _), h]; omega
 · rw [List.length_append, h2 _ (by omega), List.length_replicate, h]; omega
theorem wayW_len {n : Nat} : ∀ (ws : List Wr) (b : List UInt8) (k : Nat), (∀ j, (onAll (ws.take j) b).length ≤ n) → (wayW ws b k).length ≤ n
 | [], b, k, h => by simpa [onAll, wayW] using h 0
 | w :: ws, b, k, h => by
   have h1 : (w.on b w.d.length).length ≤ n := by simpa [onAll] using h 1
   unfold wayW; split
   · simpa [onAll] using h 0
   · split
     · exact Nat.le_trans (part_len w b (k - 1) (by unfold Wr.ways at *; omega)) h1
     · exact wayW_len ws _ _ (fun j => by simpa [onAll] using h (j + 1))
theorem crashD_in {U : List Pth} {picks : List Int} {D : Dk} (hU : ∀ c ∈ D.log, ∀ i, c.f = some i → c.n ∈ U) : ∀ (L : List Pth) (s : Nms × Nat), Inn U s.1 → Asc s.1 → Inn U (L.foldl (crashD picks D) s).1 ∧ Asc (L.foldl (crashD picks D) s).1
 | [], s, h, ha => ⟨h, ha⟩
 | x :: L, s, h, ha => by
   rw [List.foldl_cons]; refine crashD_in hU L _ ?_ ?_
   · rw [crashD_st]; exact inn_apl h (fun c hc => hU c (chgs_mem (List.mem_of_mem_take hc)).1)
   · rw [crashD_st]; exact asc_apl ha _
theorem crashF_in {n : Nat} (picks : List Int) : ∀ (L : Nms) (s : List Fdt × Nat), (∀ i, Fsb n (fget s.1 i)) → ∀ i, Fsb n (fget (L.foldl (crashF picks) s).1 i)
 | [], s, h => h
 | x :: L, s, h => by
   rw [List.foldl_cons]; refine crashF_in picks L _ (fun i => ?_); unfold crashF; simp only; split
   · exact h i
   · have h9 := wayW_len (n := n) (fget s.1 x.2).w (fget s.1 x.2).stays (pickN picks s.2 (waysF (fget s.1 x.2).w)) (h x.2).2.2.2.2
     show Fsb n ((s.1.set x.2 _).getD i _); by_cases hi : x.2 < s.1.length
     · by_cases e : i = x.2
       · rw [e, List.getD_eq_getElem?_getD, List.getElem?_set_self hi]; exact Fsb.flat h9
       · rw [List.getD_eq_getElem?_getD, List.getElem?_set_ne (Ne.symm e), ← List.getD_eq_getElem?_getD]; exact h i
     · rw [List.set_eq_of_length_le (by omega)]; exact h i
theorem Bs.crash {n : Nat} {D : Dk} (h : Bs n D) (picks : List Int) : Bs n (D.crash picks) := by
 obtain ⟨U, h1, h2, h3, h4⟩ := h.un; obtain ⟨c1, c2⟩ := crashD_in (picks := picks) h4 D.dirty (D.stays, 0) h3 h.ast; exact ⟨c2, c2, Nat.zero_le _, h.op, by show (D.crashA picks).1.length ≤ n; unfold Dk.crashA; rw [crashF_len]; exact h.fl, crashF_in picks _ _ h.f, ⟨U, h1, c1, c1, nofun⟩, nofun⟩
end Go.Proofs.YtfbfjhppppoilaaGreatDoor.SimQ

namespace Go.Proofs.YtfbfjhppppoilaaGreatDoor.SimR
open E Go.RowKit SimA SimB SimC SimD SimE SimF SimG SimH SimI SimJ SimK SimL SimM SimN SimP SimQ
set_option maxRecDepth 20000
set_option maxRecDepth 100000 in
theorem inf31 : Inf Tryz.prog 31 5 1 1 := ⟨Tryz.underlying31, _, _, rfl, rfl, rfl, rfl, rfl⟩
set_option maxRecDepth 100000 in
theorem inf32 : Inf Tryz.prog 32 3 1 8 := ⟨Tryz.underlying32, _, _, rfl, rfl, rfl, rfl, rfl⟩
theorem mx_of {W : World} (h : W.ShapedOpen Tryz.prog) : ∃ m, MX m W.heap ∧ BF (fun b => b = 0) W.heap.size := by
 obtain ⟨m, hm⟩ := cell_of_shapedOpen_int (g := 0) (t := 3) (zero := #[.int .i64 0]) h (by decide) (by kernel_rfl) rfl (by kernel_rfl) (by kernel_rfl) Tryz.underlying3; have hc : E.cell W.heap ⟨0, 0, none⟩ = some (.int .i64 m) := by rw [← (At.cell (w0 := W) ⟨rfl, rfl, rfl, rfl, Nat.le_refl _⟩ _)]; exact hm
 refine ⟨m, ⟨⟨rfl, fun j c hj => ?_⟩, rfl⟩, fun b hb => ?_⟩
 · cases j with
   | zero => cases hj; exact hc
   | succ j => cases hj
 · have := World.block_lt_of_cell? W _ hm; simp only at hb; omega
section
variable {P : Program} {w0 : World} {n : Nat} {l : FL} {H : Heap} {o : Oper}
theorem _root_.Go.Proofs.YtfbfjhppppoilaaGreatDoor.E.Y.bneq {x y : Operand} {t u : TypeId} {a b : Bool} (ho : o.op = .binOp .neq t x y u) (ht : P.underlying t = some .bool) (hx : opv l x = some (.bool a)) (hy : opv l y = some (.bool b)) : Y P w0 n l H o (.bool (decide (a ≠ b))) := by
 intro ac w hf ha; have h := run_equalIn_bool' w 9999 t a b ht; have h2 : (a == b) = decide (a = b) := by cases a <;> cases b <;> rfl
 rw [h2] at h; simp [execOp, ho, hf.eval hx, hf.eval hy, binOp, eqGuard, Op.equal, Op.maxDepth, h]
end
theorem DFL.of {k : Nat} {K : List Nat} (d : DL k K) : DFL (fun b => b + 1 = k) K := fun j hj => DF.of (d j hj)
def wiN (a : Int) (n : Nat) : Nat := (a % (n : Int)).toNat
theorem wiN_lt {a : Int} {n : Nat} (h : 0 < n) : wiN a n < n := by
 unfold wiN; have := Int.emod_lt_of_pos a (show (0 : Int) < n by omega); have := Int.emod_nonneg a (show (n : Int) ≠ 0 by omega); omega
theorem wiN_neg {a : Int} {n : Nat} (h : 0 < n) (h2 : a.tmod n < 0) : ((wiN a n : Nat) : Int) = a.tmod n + n := by
 unfold wiN; have h3 := Int.emod_nonneg a (show (n : Int) ≠ 0 by omega); rw [Int.toNat_of_nonneg h3]; rw [Int.tmod_eq_emod] at h2 ⊢; split at h2
 · omega
 · rename_i h4; rw [if_neg h4]; simp
theorem wiN_pos {a : Int} {n : Nat} (h : 0 < n) (h2 : ¬ a.tmod n < 0) : ((wiN a n : Nat) : Int) = a.tmod n := by
 unfold wiN; have h3 := Int.emod_nonneg a (show (n : Int) ≠ 0 by omega); have h5 := Int.emod_lt_of_pos a (show (0 : Int) < n by omega); rw [Int.toNat_of_nonneg h3]; rw [Int.tmod_eq_emod] at h2 ⊢; split at h2
 · rename_i h4; rw [if_pos h4]; simp
 · rename_i h4
   simp only [Int.natAbs_natCast] at h2; omega
set_option maxHeartbeats 4000000 in
theorem known_ct (mx_ : Int) (w0 : World) (H0 : Heap)
 (mx : MX mx_ H0) (bf_mx : BF (fun b => b = 0) H0.size) :
 Ct Tryz.prog w0 4 #[] H0 (fun r H2 => r = .bool true ∧ Nw H0 H2) := by
 refine Ct.enter (args := []) Tryz.func4 rfl rfl rfl ?_; intro Q0 hret; have hm0 : Nw H0 H0 := Mo.refl _ _; refine CW.s1 (fun hK1 => CW.region ?_); refine LR.a1 (LR.nil (hK1 _ _ ?_)); refine CW.s1 (fun hK2 => CW.region ?_); refine LR.call rfl c'5 rfl (Wd.u rfl) rfl rfl (new_ct 100 50 w0 _ (by decide) (by decide)) ?_; rintro v7 H7 ⟨K7, g7, b7, rfl, hf, hkn7, hs7⟩; have df1 := DFL.appK (DFL.nil) (bf_mx.mono hm0.size) hkn7; have nx2 : NxK [] H0.size K7 := NxK.tr (NxK.refl [] _) hkn7 hm0.size; replace mx := mx.nw hs7; replace hm0 := hm0.tr hs7; have hz1 := hs7.size; have hbk_hf := hf.bk; have hS7 := Bs.empty 100 50; refine LR.m1 ?_; refine LR.v1 (Y.extract rfl rfl rfl) ?_; refine LR.v1 (Y.extract rfl rfl rfl) ?_; refine LR.a1 ?_; refine LR.a1 (LR.nil (hK2 _ _ ?_)); refine CW.s1 (fun hK3 => CW.s1 (fun hK4 => CW.region ?_)); refine LR.m1 ?_; refine LR.v1 ((Y.neq rfl rfl rfl).isF ((fun h => h rfl))) ?_; refine LR.m1 ?_; refine LR.w1 (Y.move rfl rfl) ?_; refine LR.w1 (Y.peq rfl (by kernel_rfl) (by kernel_rfl) rfl rfl) ?_; refine LR.v1 (Y.pick_f rfl rfl rfl) (LR.nil (hK4 _ _ ?_)); refine CW.cond_f rfl ?_; refine CW.skip (hK3 _ _ (CW.s1 (fun hK5 => CW.region ?_))); refine LR.m1 ?_; refine LR.z1 (Z.litw _ (([97, 98] : List UInt8)) rfl inf31 rfl rfl rfl (by decide) (by decide) fB_len fB_one (rfl)) ?_; rintro v17 H17 ⟨ow17, hs17, ob17, hH17⟩; have hzs17 : H17.size = H7.size + 1 := by rw [hH17]; simp
 have df3 := (DF.new (bf_mx.mono hm0.size) : DF _ (H7.size + 1)); have dj4 : DL (H7.size + 1) K7 := DL.newK hf.bk; have nx5 : Nx 0 H0.size (H7.size + 1) := Nx.new hm0.size; replace mx := mx.nw hs17; replace hf := hf.nw hs17; replace hm0 := hm0.tr hs17; have hz2 := hs17.size; obtain ⟨s17, rfl⟩ : ∃ s : SV, v17 = s.v := ⟨toSV v17, ow17.sv.symm⟩; refine LR.z1 (Z.bconst ow17 (by simp) rfl Tryz.underlying31 Tryz.underlying5 rfl) ?_; rintro v18 H18 ⟨rfl, ow17, hs18⟩; replace hs18 := hs18.md; replace mx := mx.upL hs18 (DFL.o df3); replace hf := hf.upL hs18 (DKL.cons dj4 DKL.nil); replace hm0 := hm0.tq hs18 (MIL.o (MI.q nx5)); have hz3 := hs18.size; refine LR.call rfl c'9 rfl (Wd.u rfl) rfl rfl (write_ct mx_ K7 g7 b7 (Dk.empty 100 50) [97, 47, 120] s17 [97, 98] _ w0 _ hf mx (bf_mx.mono (by omega)) (df1) ow17.rd (BF.of ow17.le) (DFL.of (dj4)) (by decide) (hS7.bd (by omega)) (by decide)) ?_; rintro v19 H19 ⟨K19, g19, rfl, hf, hkd19, hs19⟩; have df8 := DFL.appK (df1) (bf_mx.mono hm0.size) hkd19; have nx10 : NxK [] H0.size K19 := NxK.tr (nx2) hkd19 hm0.size; replace mx := mx.upL hs19 (df1); replace hm0 := hm0.tq hs19 (MIL.ofK0 (nx2)); have hz4 := hs19.size; have hbk_hf := hf.bk; have hS19 := hS7.lay [97, 47, 120] ⟨false, [97, 98]⟩; simp only [List.length_cons, List.length_nil, Nat.zero_add, Nat.reduceAdd] at hS19; refine LR.nil (hK5 _ _ (CW.s1 (fun hK6 => CW.region ?_))); refine LR.m1 ?_; refine LR.call rfl c'10 rfl (Wd.u rfl) rfl rfl (syncDir_ct mx_ K19 g19 b7 ((Dk.empty 100 50).lay [97, 47, 120] ⟨false, [97, 98]⟩).2 [97] w0 _ hf mx (bf_mx.mono (by omega)) (df8) (by decide) (hS19.bd (by omega))) ?_; rintro v21 H21 ⟨K21, g21, rfl, hf, hkd21, hs21⟩; have df12 := DFL.appK (df8) (bf_mx.mono hm0.size) hkd21; have nx13 : NxK [] H0.size K21 := NxK.tr (nx10) hkd21 hm0.size; replace mx := mx.upL hs21 (df8); replace hm0 := hm0.tq hs21 (MIL.ofK0 (nx10)); have hz5 := hs21.size; have hbk_hf := hf.bk; have hS21 := hS19.syncDir [97]; refine LR.nil (hK6 _ _ (CW.seq (fun K7 hK7 _ => CW.region ?_))); refine LR.m1 ?_; refine LR.z1 (Z.litw _ (([3] : List Int)) rfl inf32 rfl rfl rfl (by decide) (by decide) fI_len fI_one (rfl)) ?_; rintro v23 H23 ⟨ow23, hs23, ob23, hH23⟩; have hzs23 : H23.size = H21.size + 1 := by rw [hH23]; simp
 have dj15 : DL (H21.size + 1) K21 := DL.newK hf.bk; replace mx := mx.nw hs23; replace hf := hf.nw hs23; replace hm0 := hm0.tr hs23; have hz6 := hs23.size; obtain ⟨s23, rfl⟩ : ∃ s : SV, v23 = s.v := ⟨toSV v23, ow23.sv.symm⟩; refine LR.call rfl c'11 rfl (Wd.u rfl) rfl rfl (crash_ct K21 g21 b7 (((Dk.empty 100 50).lay [97, 47, 120] ⟨false, [97, 98]⟩).2.syncDir [97]).2 _ s23 [3] w0 _ hf ow23.rd (BF.of ow23.le) (DFL.of (dj15)) (hS21.bd (by omega)) (hS21.wy (by omega)) (by decide)) ?_; rintro v24 H24 ⟨K24, g24, rfl, hf, hkd24, hs24⟩; replace mx := mx.upL hs24 (df12); replace hm0 := hm0.tq hs24 (MIL.ofK0 (nx13)); have hz7 := hs24.size; have hbk_hf := hf.bk; have hS24 := hS21.crash [3]; refine LR.a1 (LR.nil (hK7 _ _ ?_)); refine CW.s1 (fun hK8 => CW.region ?_); refine LR.m1 ?_; refine LR.call rfl c'12 rfl (Wd.u rfl) rfl rfl (read_ct mx_ K24 g24 b7 ((((Dk.empty 100 50).lay [97, 47, 120] ⟨false, [97, 98]⟩).2.syncDir [97]).2.crash [3]) [97, 47, 120] w0 _ mx (bf_mx.mono (by omega)) hf (by decide) (fun i => by have := ((hS24).f i).1; omega)) ?_; rintro v27 H27 ⟨s27, k27, rfl, ow27, hk27, hs27⟩; replace hm0 := hm0.tr hs27; refine LR.m1 ?_; refine LR.v1 (Y.extract rfl rfl rfl) ?_; refine LR.v1 (Y.extract rfl rfl rfl) ?_; refine LR.a1 ?_; refine LR.a1 (LR.nil (hK8 _ _ ?_)); refine CW.s1 (fun hK9 => CW.region ?_); refine LR.m1 ?_; refine LR.v1 ((Y.eql rfl rfl rfl).isT ((show ((((((Dk.empty 100 50).lay [97, 47, 120] ⟨false, [97, 98]⟩).2.syncDir [97]).2).crashA [3]).2 : Int) = 1 by decide +kernel))) ?_; refine LR.m1 ?_; refine LR.w1 (Y.move rfl rfl) ?_; refine LR.w1 ((Y.eql rfl rfl rfl).isT ((show ((((((Dk.empty 100 50).lay [97, 47, 120] ⟨false, [97, 98]⟩).2.syncDir [97]).2.crash [3]).readE [97, 47, 120] : Nat) : Int) = 0 by decide +kernel))) ?_; refine LR.v1 (Y.pick_t rfl rfl rfl) ?_; refine LR.m1 ?_; refine LR.w1 (Y.move rfl rfl) ?_; refine LR.w1 (Y.bstr ow27.rd rfl Tryz.underlying31 Tryz.underlying9 Tryz.underlying5 rfl) ?_; refine LR.w1 ((Y.seql rfl rfl rfl).isT ((show ((((Dk.empty 100 50).lay [97, 47, 120] ⟨false, [97, 98]⟩).2.syncDir [97]).2.crash [3]).readL [97, 47, 120] = [0, 0] by decide +kernel))) ?_; refine LR.v1 (Y.pick_t rfl rfl rfl) ?_; refine LR.a1 (LR.nil (hK9 _ _ ?_)); refine CW.ret (hret .ret (.inr rfl) _ _ _ (res1 rfl rfl) ?_); exact ⟨rfl, hm0⟩
end Go.Proofs.YtfbfjhppppoilaaGreatDoor.SimR

namespace Go.Proofs.YtfbfjhppppoilaaGreatDoor.SimX
open E Go.RowKit SimA SimB SimC SimD SimE SimF SimG SimH SimI SimJ SimK SimL SimM SimN SimP SimQ SimR
set_option maxRecDepth 20000
theorem okc_iff2 (c : UInt8) : okc c = true ↔ (97 ≤ c.toNat ∧ c.toNat ≤ 122) ∨ (48 ≤ c.toNat ∧ c.toNat ≤ 57) ∨ c.toNat = 46 ∨ c.toNat = 95 ∨ c.toNat = 45 ∨ c.toNat = 47 := by
 have h : ∀ n : Fin 256, (okc (UInt8.ofNat n.val) = decide ((97 ≤ n.val ∧ n.val ≤ 122) ∨ (48 ≤ n.val ∧ n.val ≤ 57) ∨ n.val = 46 ∨ n.val = 95 ∨ n.val = 45 ∨ n.val = 47)) := by decide +kernel
 have := h ⟨c.toNat, c.toNat_lt⟩; simp only [UInt8.ofNat_toNat] at this; rw [this, decide_eq_true_iff]
def okAt (l : List UInt8) (q : Nat) : Prop := okc (l.getD q 0) = true ∧ ¬ ((l.getD q 0).toNat = 47 ∧ (q = 0 ∨ q = l.length - 1 ∨ (l.getD (q - 1) 0).toNat = 47))
theorem getD_at {l : List UInt8} {q : Nat} (h : q < l.length) : l.getD q 0 = l[q] := by rw [List.getD_eq_getElem?_getD, List.getElem?_eq_getElem h]; rfl
theorem nat47 {c : UInt8} : c.toNat = 47 ↔ c = 47 := ⟨fun h => UInt8.toNat.inj h, fun h => by rw [h]; rfl⟩
theorem name_iff2 (l : List UInt8) : nameB l = true ↔ 1 ≤ l.length ∧ l.length ≤ 100 ∧ ∀ q, q < l.length → okAt l q := by
 unfold nameB slk okAt; simp only [Bool.and_eq_true, decide_eq_true_eq, List.all_eq_true, List.mem_range, Bool.not_eq_true', nat47]; constructor
 · rintro ⟨⟨⟨h1, h2⟩, h3⟩, h4⟩
   refine ⟨h1, h2, fun q hq => ⟨by rw [getD_at hq]; exact h3 _ (List.getElem_mem hq), ?_⟩⟩; rintro ⟨e1, e2⟩; have h5 := h4 q hq; have e3 : (q == 0 || q == l.length - 1 || l.getD (q - 1) 0 == 47) = true := by simpa [or_assoc] using e2
   rw [e1, e3] at h5; simp at h5
 · rintro ⟨h1, h2, h3⟩
   refine ⟨⟨⟨h1, h2⟩, fun x hx => ?_⟩, fun q hq => ?_⟩
   · obtain ⟨q, hq, rfl⟩ := List.getElem_of_mem hx
     have := (h3 q hq).1; rwa [getD_at hq] at this
   · have h5 := (h3 q hq).2
     cases hb : (l.getD q 0 == 47 && (q == 0 || q == l.length - 1 || l.getD (q - 1) 0 == 47)) with
     | false => rfl
     | true =>
       exfalso; simp only [Bool.and_eq_true, Bool.or_eq_true, beq_iff_eq, or_assoc] at hb; exact h5 hb
theorem head_at {l : List UInt8} {k : Nat} (hk : k < l.length) (h47 : l[k] = 47) (hno : ∀ q, q < l.length → k < q → (l.getD q 0).toNat ≠ 47) : headP l = l.take k := by
 have e : l = l.take k ++ l[k] :: l.drop (k + 1) := by rw [← List.drop_eq_getElem_cons hk, List.take_append_drop]
 have e3 := congrArg List.reverse e; rw [List.reverse_append, List.reverse_cons, List.append_assoc] at e3; unfold headP
 have e2 : (l.reverse.takeWhile (fun c => decide (c ≠ 47))).length = l.length - (k + 1) := by
  rw [e3, List.takeWhile_append_of_pos, List.singleton_append, List.takeWhile_cons_of_neg (by simp [h47])]
  · simp
  · intro a ha
    rw [List.mem_reverse] at ha; obtain ⟨q, hq, rfl⟩ := List.getElem_of_mem ha; rw [List.length_drop] at hq; have h9 := hno (k + 1 + q) (by omega) (by omega); rw [getD_at (by omega)] at h9; rw [List.getElem_drop]; exact decide_eq_true (fun h => h9 (nat47.2 h))
 rw [e2]; congr 1; omega
theorem head_no {l : List UInt8} (hno : ∀ q, q < l.length → (l.getD q 0).toNat ≠ 47) : headP l = [] := by
 have e2 : l.reverse.takeWhile (fun c => decide (c ≠ 47)) = l.reverse := by
  have := List.takeWhile_append_of_pos (p := fun c : UInt8 => decide (c ≠ 47)) (l₁ := l.reverse) (l₂ := []) (fun a ha => by
   rw [List.mem_reverse] at ha; obtain ⟨q, hq, rfl⟩ := List.getElem_of_mem ha; have h9 := hno q hq; rw [getD_at hq] at h9; exact decide_eq_true (fun h => h9 (nat47.2 h)))
  simpa using this
 unfold headP; rw [e2, List.length_reverse, show l.length - 1 - l.length = 0 by omega, List.take_zero]
theorem name_no {l : List UInt8} (h : ¬ (1 ≤ l.length ∧ l.length ≤ 100 ∧ ∀ q, q < l.length → okAt l q)) : nameB l = false := by
 cases hb : nameB l with
 | false => rfl
 | true => exact absurd ((name_iff2 l).1 hb) h
set_option maxHeartbeats 4000000 in
theorem rname_ct (l : List UInt8) (w0 : World) (H0 : Heap)
 (hl : l.length ≤ 4294967280) :
 Ct Tryz.prog w0 49 #[Str l] H0 (fun r H2 => r = .bool (nameB l) ∧ Nw H0 H2) := by
 refine Ct.enter (args := [Str l]) Tryz.func49 rfl rfl rfl ?_; intro Q0 hret; have hm0 : Nw H0 H0 := Mo.refl _ _; refine CW.s1 (fun hK1 => CW.region ?_); refine LR.a1 (LR.nil (hK1 _ _ ?_)); refine CW.s2 (fun hK2 hE2 => CW.s1 (fun hK3 => CW.region ?_)); refine LR.m1 ?_; refine LR.v1 (Y.slen rfl u'9 rfl) ?_; refine LR.v1 (Y.lss rfl rfl rfl) ?_; refine LR.m1 ?_; refine LR.splitp (d := 8) rfl (fun g8 => ?_) (fun g8 => ?_)
 ·
  refine LR.g1 ?_; refine LR.g1 ?_; refine LR.g1 ?_; refine LR.v1 (Y.pick_t rfl rfl rfl) (LR.nil (hK3 _ _ ?_)); refine CW.cond_t rfl ?_; refine CW.s1 (fun hK4 => CW.region ?_); refine LR.a1 (LR.nil (hK4 _ _ ?_)); refine CW.ret (hE2 .ret nofun _ _ (hret .ret (.inr rfl) _ _ _ (res1 rfl rfl) ?_)); exact ⟨congrArg Value.bool (name_no (fun h => by obtain ⟨h1, h2, h3⟩ := h; omega)).symm, hm0⟩
 ·
  refine LR.w1 (Y.move rfl rfl) ?_; refine LR.w1 (Y.slen rfl u'9 rfl) ?_; refine LR.w1 (Y.gtr rfl rfl rfl) ?_; refine LR.v1 (Y.pick_f rfl rfl rfl) (LR.nil (hK3 _ _ ?_)); refine CW.condp rfl (fun c12 => ?_) (fun c12 => ?_)
  ·
   refine CW.s1 (fun hK5 => CW.region ?_); refine LR.a1 (LR.nil (hK5 _ _ ?_)); refine CW.ret (hE2 .ret nofun _ _ (hret .ret (.inr rfl) _ _ _ (res1 rfl rfl) ?_)); exact ⟨congrArg Value.bool (name_no (fun h => by obtain ⟨h1, h2, h3⟩ := h; omega)).symm, hm0⟩
  ·
   refine CW.skip (hK2 _ _ (CW.s2 (fun hK6 hE6 => CW.s1 (fun hK7 => CW.region ?_)))); refine LR.a1 (LR.nil (hK7 _ _ ?_)); refine CW.block (fun _ _ hX8 hE8 => ?_)
   refine CW.loop (fun (i : (Nat)) => [(0, Str l), (3, .int .i64 (i : Int))])
    (fun (i : (Nat)) (H : Heap) => (i ≤ l.length) ∧ (∀ q, q < l.length → q < i → okAt l q) ∧ Nw H0 H)
    (fun (i : (Nat)) => l.length - i) 0 ⟨rfl, rfl, trivial⟩ ?_ ?_
   ·
    exact ⟨(by omega), (fun q h h2 => absurd h2 (by omega)), Mo.refl _ _⟩
   intro i HL1 hI1 K9 hN9 hE9; obtain ⟨hi, hok, hlm1⟩ := hI1; replace hm0 := hm0.tr hlm1; have hz1 := hlm1.size; refine CW.s2 (fun hK10 hE10 => CW.s1 (fun hK11 => CW.region ?_)); refine LR.m1 ?_; refine LR.m1 ?_; refine LR.v1 (Y.slen rfl u'9 rfl) ?_; refine LR.v1 (Y.lss rfl rfl rfl) (LR.nil (hK11 _ _ ?_)); refine CW.condp rfl (fun c16 => ?_) (fun c16 => ?_)
   ·
    have hil : i < l.length := by omega
    refine CW.skip (hK10 _ _ (CW.s2 (fun hK12 hE12 => CW.block (fun _ hK13 _ hE13 => CW.s1 (fun hK14 => CW.region ?_))))); refine LR.m1 ?_; refine LR.m1 ?_; refine LR.v1 (Y.sindex (i) rfl u'9 rfl rfl (by first | rfl | omega) (by omega)) ?_; refine LR.a1 (LR.nil (hK14 _ _ ?_)); refine CW.s2 (fun hK15 hE15 => CW.s1 (fun hK16 => CW.region ?_)); refine LR.m1 ?_; refine LR.v1 (Y.eql rfl rfl rfl) ?_; refine LR.m1 ?_; refine LR.splitp (d := 24) rfl (fun g24 => ?_) (fun g24 => ?_)
    ·
     refine LR.w1 (Y.move rfl rfl) ?_; refine LR.w1 (Y.eql rfl rfl rfl) ?_; refine LR.w1 (Y.move rfl rfl) ?_; refine LR.splitp (d := 27) rfl (fun g27 => ?_) (fun g27 => ?_)
     ·
      refine LR.g1 ?_; refine LR.g1 ?_; refine LR.g1 ?_; refine LR.g1 ?_; refine LR.g1 ?_; refine LR.w1 (Y.pick_t rfl rfl rfl) ?_; refine LR.w1 (Y.move rfl rfl) ?_; refine LR.g1 ?_; refine LR.g1 ?_; refine LR.g1 ?_; refine LR.g1 ?_; refine LR.g1 ?_; refine LR.w1 (Y.pick_t rfl rfl rfl) ?_; refine LR.v1 (Y.pick_t rfl rfl rfl) (LR.nil (hK16 _ _ ?_)); refine CW.cond_t rfl ?_; refine CW.s1 (fun hK17 => CW.region ?_); refine LR.a1 (LR.nil (hK17 _ _ ?_)); refine CW.ret (hE15 .ret nofun _ _ (hE13 .ret nofun (by simp) _ _ (hE12 .ret nofun _ _ (hE9 .ret nofun _ _ (hE8 .ret nofun (by simp) _ _ (hE6 .ret nofun _ _ (hret .ret (.inr rfl) _ _ _ (res1 rfl rfl) ?_))))))); exact ⟨congrArg Value.bool (name_no (fun h => (h.2.2 i hil).2 ⟨by rw [getD_at hil]; omega, by first | (left; omega) | (right; left; omega) | (right; right; rw [getD_at (by omega)]; omega)⟩)).symm, hm0⟩
     ·
      refine LR.w1 (Y.move rfl rfl) ?_; refine LR.w1 (Y.move rfl rfl) ?_; refine LR.w1 (Y.slen rfl u'9 rfl) ?_; refine LR.w1 (Y.subi rfl rfl rfl (by omega)) ?_; refine LR.w1 (Y.eql rfl rfl rfl) ?_; refine LR.w1 (Y.pick_f rfl rfl rfl) ?_; refine LR.w1 (Y.move rfl rfl) ?_; refine LR.splitp (d := 34) rfl (fun g34 => ?_) (fun g34 => ?_)
      ·
       refine LR.g1 ?_; refine LR.g1 ?_; refine LR.g1 ?_; refine LR.g1 ?_; refine LR.g1 ?_; refine LR.w1 (Y.pick_t rfl rfl rfl) ?_; refine LR.v1 (Y.pick_t rfl rfl rfl) (LR.nil (hK16 _ _ ?_)); refine CW.cond_t rfl ?_; refine CW.s1 (fun hK18 => CW.region ?_); refine LR.a1 (LR.nil (hK18 _ _ ?_)); refine CW.ret (hE15 .ret nofun _ _ (hE13 .ret nofun (by simp) _ _ (hE12 .ret nofun _ _ (hE9 .ret nofun _ _ (hE8 .ret nofun (by simp) _ _ (hE6 .ret nofun _ _ (hret .ret (.inr rfl) _ _ _ (res1 rfl rfl) ?_))))))); exact ⟨congrArg Value.bool (name_no (fun h => (h.2.2 i hil).2 ⟨by rw [getD_at hil]; omega, by first | (left; omega) | (right; left; omega) | (right; right; rw [getD_at (by omega)]; omega)⟩)).symm, hm0⟩
      ·
       refine LR.w1 (Y.move rfl rfl) ?_; refine LR.w1 (Y.move rfl rfl) ?_; refine LR.w1 (Y.subi rfl rfl rfl (by omega)) ?_; refine LR.w1 (Y.sindex (i - 1) rfl u'9 rfl rfl (by first | rfl | omega) (by omega)) ?_; refine LR.w1 (Y.eql rfl rfl rfl) ?_; refine LR.w1 (Y.pick_f rfl rfl rfl) ?_; refine LR.v1 (Y.pick_t rfl rfl rfl) (LR.nil (hK16 _ _ ?_)); refine CW.condp rfl (fun c41 => ?_) (fun c41 => ?_)
       ·
        refine CW.s1 (fun hK19 => CW.region ?_); refine LR.a1 (LR.nil (hK19 _ _ ?_)); refine CW.ret (hE15 .ret nofun _ _ (hE13 .ret nofun (by simp) _ _ (hE12 .ret nofun _ _ (hE9 .ret nofun _ _ (hE8 .ret nofun (by simp) _ _ (hE6 .ret nofun _ _ (hret .ret (.inr rfl) _ _ _ (res1 rfl rfl) ?_))))))); exact ⟨congrArg Value.bool (name_no (fun h => (h.2.2 i hil).2 ⟨by rw [getD_at hil]; omega, by first | (left; omega) | (right; left; omega) | (right; right; rw [getD_at (by omega)]; omega)⟩)).symm, hm0⟩
       ·
        refine CW.skip (hK15 _ _ (CW.s1 (fun hK20 => CW.region ?_))); refine LR.m1 ?_; refine LR.v1 (Y.lss rfl rfl rfl) ?_; refine LR.m1 ?_; refine LR.splitp (d := 44) rfl (fun g44 => ?_) (fun g44 => ?_)
        ·
         refine LR.g1 ?_; refine LR.g1 ?_; refine LR.v1 (Y.pick_t rfl rfl rfl) ?_; refine LR.m1 ?_; refine LR.w1 (Y.move rfl rfl) ?_; refine LR.w1 (Y.lss rfl rfl rfl) ?_; refine LR.w1 (Y.move rfl rfl) ?_; refine LR.splitp (d := 51) rfl (fun g51 => ?_) (fun g51 => ?_)
         ·
          refine LR.g1 ?_; refine LR.g1 ?_; refine LR.w1 (Y.pick_t rfl rfl rfl) ?_; refine LR.v1 (Y.pick_t rfl rfl rfl) ?_; refine LR.m1 ?_; refine LR.w1 (Y.move rfl rfl) ?_; refine LR.w1 (Y.neq rfl rfl rfl) ?_; refine LR.v1 (Y.pick_t rfl rfl rfl) ?_; refine LR.m1 ?_; refine LR.splitp (d := 60) rfl (fun g60 => ?_) (fun g60 => ?_)
          ·
           refine LR.w1 (Y.move rfl rfl) ?_; refine LR.w1 (Y.neq rfl rfl rfl) ?_; refine LR.v1 (Y.pick_t rfl rfl rfl) ?_; refine LR.m1 ?_; refine LR.splitp (d := 64) rfl (fun g64 => ?_) (fun g64 => ?_)
           ·
            refine LR.w1 (Y.move rfl rfl) ?_; refine LR.w1 (Y.neq rfl rfl rfl) ?_; refine LR.v1 (Y.pick_t rfl rfl rfl) ?_; refine LR.m1 ?_; refine LR.splitp (d := 68) rfl (fun g68 => ?_) (fun g68 => ?_)
            ·
             refine LR.w1 (Y.move rfl rfl) ?_; refine LR.w1 (Y.neq rfl rfl rfl) ?_; refine LR.v1 (Y.pick_t rfl rfl rfl) (LR.nil (hK20 _ _ ?_)); refine CW.condp rfl (fun c71 => ?_) (fun c71 => ?_)
             ·
              refine CW.s1 (fun hK21 => CW.region ?_); refine LR.a1 (LR.nil (hK21 _ _ ?_)); refine CW.ret (hE13 .ret nofun (by simp) _ _ (hE12 .ret nofun _ _ (hE9 .ret nofun _ _ (hE8 .ret nofun (by simp) _ _ (hE6 .ret nofun _ _ (hret .ret (.inr rfl) _ _ _ (res1 rfl rfl) ?_)))))); exact ⟨congrArg Value.bool (name_no (fun h => by have h9 := (okc_iff2 _).1 (h.2.2 i hil).1; rw [getD_at hil] at h9; simp at *; omega)).symm, hm0⟩
             ·
              refine CW.skip (hK13 _ _ (hK12 _ _ (CW.region ?_))); refine LR.m1 ?_; refine LR.v1 (Y.addi rfl rfl rfl (by omega)) ?_; refine LR.a1 (LR.nil ?_); have hci : okAt l i := ⟨by rw [getD_at hil]; exact (okc_iff2 _).2 (by simp at *; omega), fun h => by obtain ⟨e1, e2⟩ := h; rw [getD_at hil] at e1; rcases e2 with e2 | e2 | e2 <;> first | omega | (rw [getD_at (by omega)] at e2; omega)⟩; refine QN.sub (hN9 (i + 1) _ ?_ ?_) ⟨rfl, (iv (by omega)), trivial⟩
              · exact ⟨(by omega), (fun q h h2 => by rcases Nat.lt_or_ge q i with h5 | h5; exact hok q h h5; (obtain rfl : q = i := by omega); exact hci), hlm1⟩
              · first | omega | (simp only; omega) | (simp; omega)
            ·
             refine LR.g1 ?_; refine LR.g1 ?_; refine LR.v1 (Y.pick_f rfl rfl rfl) (LR.nil (hK20 _ _ ?_)); refine CW.cond_f rfl ?_; refine CW.skip (hK13 _ _ (hK12 _ _ (CW.region ?_))); refine LR.m1 ?_; refine LR.v1 (Y.addi rfl rfl rfl (by omega)) ?_; refine LR.a1 (LR.nil ?_); have hci : okAt l i := ⟨by rw [getD_at hil]; exact (okc_iff2 _).2 (by simp at *; omega), fun h => by obtain ⟨e1, e2⟩ := h; rw [getD_at hil] at e1; rcases e2 with e2 | e2 | e2 <;> first | omega | (rw [getD_at (by omega)] at e2; omega)⟩; refine QN.sub (hN9 (i + 1) _ ?_ ?_) ⟨rfl, (iv (by omega)), trivial⟩
             · exact ⟨(by omega), (fun q h h2 => by rcases Nat.lt_or_ge q i with h5 | h5; exact hok q h h5; (obtain rfl : q = i := by omega); exact hci), hlm1⟩
             · first | omega | (simp only; omega) | (simp; omega)
           ·
            refine LR.g1 ?_; refine LR.g1 ?_; refine LR.v1 (Y.pick_f rfl rfl rfl) ?_; refine LR.m1 ?_; refine LR.g1 ?_; refine LR.g1 ?_; refine LR.v1 (Y.pick_f rfl rfl rfl) (LR.nil (hK20 _ _ ?_)); refine CW.cond_f rfl ?_; refine CW.skip (hK13 _ _ (hK12 _ _ (CW.region ?_))); refine LR.m1 ?_; refine LR.v1 (Y.addi rfl rfl rfl (by omega)) ?_; refine LR.a1 (LR.nil ?_); have hci : okAt l i := ⟨by rw [getD_at hil]; exact (okc_iff2 _).2 (by simp at *; omega), fun h => by obtain ⟨e1, e2⟩ := h; rw [getD_at hil] at e1; rcases e2 with e2 | e2 | e2 <;> first | omega | (rw [getD_at (by omega)] at e2; omega)⟩; refine QN.sub (hN9 (i + 1) _ ?_ ?_) ⟨rfl, (iv (by omega)), trivial⟩
            · exact ⟨(by omega), (fun q h h2 => by rcases Nat.lt_or_ge q i with h5 | h5; exact hok q h h5; (obtain rfl : q = i := by omega); exact hci), hlm1⟩
            · first | omega | (simp only; omega) | (simp; omega)
          ·
           refine LR.g1 ?_; refine LR.g1 ?_; refine LR.v1 (Y.pick_f rfl rfl rfl) ?_; refine LR.m1 ?_; refine LR.g1 ?_; refine LR.g1 ?_; refine LR.v1 (Y.pick_f rfl rfl rfl) ?_; refine LR.m1 ?_; refine LR.g1 ?_; refine LR.g1 ?_; refine LR.v1 (Y.pick_f rfl rfl rfl) (LR.nil (hK20 _ _ ?_)); refine CW.cond_f rfl ?_; refine CW.skip (hK13 _ _ (hK12 _ _ (CW.region ?_))); refine LR.m1 ?_; refine LR.v1 (Y.addi rfl rfl rfl (by omega)) ?_; refine LR.a1 (LR.nil ?_); have hci : okAt l i := ⟨by rw [getD_at hil]; exact (okc_iff2 _).2 (by simp at *; omega), fun h => by obtain ⟨e1, e2⟩ := h; rw [getD_at hil] at e1; rcases e2 with e2 | e2 | e2 <;> first | omega | (rw [getD_at (by omega)] at e2; omega)⟩; refine QN.sub (hN9 (i + 1) _ ?_ ?_) ⟨rfl, (iv (by omega)), trivial⟩
           · exact ⟨(by omega), (fun q h h2 => by rcases Nat.lt_or_ge q i with h5 | h5; exact hok q h h5; (obtain rfl : q = i := by omega); exact hci), hlm1⟩
           · first | omega | (simp only; omega) | (simp; omega)
         ·
          refine LR.w1 (Y.move rfl rfl) ?_; refine LR.w1 (Y.gtr rfl rfl rfl) ?_; refine LR.w1 (Y.pick_f rfl rfl rfl) ?_; refine LR.v1 (Y.pick_t rfl rfl rfl) ?_; refine LR.m1 ?_; refine LR.splitp (d := 56) rfl (fun g56 => ?_) (fun g56 => ?_)
          ·
           refine LR.w1 (Y.move rfl rfl) ?_; refine LR.w1 (Y.neq rfl rfl rfl) ?_; refine LR.v1 (Y.pick_t rfl rfl rfl) ?_; refine LR.m1 ?_; refine LR.splitp (d := 60) rfl (fun g60 => ?_) (fun g60 => ?_)
           ·
            refine LR.w1 (Y.move rfl rfl) ?_; refine LR.w1 (Y.neq rfl rfl rfl) ?_; refine LR.v1 (Y.pick_t rfl rfl rfl) ?_; refine LR.m1 ?_; refine LR.splitp (d := 64) rfl (fun g64 => ?_) (fun g64 => ?_)
            ·
             refine LR.w1 (Y.move rfl rfl) ?_; refine LR.w1 (Y.neq rfl rfl rfl) ?_; refine LR.v1 (Y.pick_t rfl rfl rfl) ?_; refine LR.m1 ?_; refine LR.splitp (d := 68) rfl (fun g68 => ?_) (fun g68 => ?_)
             ·
              refine LR.w1 (Y.move rfl rfl) ?_; refine LR.w1 (Y.neq rfl rfl rfl) ?_; refine LR.v1 (Y.pick_t rfl rfl rfl) (LR.nil (hK20 _ _ ?_)); refine CW.condp rfl (fun c71 => ?_) (fun c71 => ?_)
              ·
               refine CW.s1 (fun hK22 => CW.region ?_); refine LR.a1 (LR.nil (hK22 _ _ ?_)); refine CW.ret (hE13 .ret nofun (by simp) _ _ (hE12 .ret nofun _ _ (hE9 .ret nofun _ _ (hE8 .ret nofun (by simp) _ _ (hE6 .ret nofun _ _ (hret .ret (.inr rfl) _ _ _ (res1 rfl rfl) ?_)))))); exact ⟨congrArg Value.bool (name_no (fun h => by have h9 := (okc_iff2 _).1 (h.2.2 i hil).1; rw [getD_at hil] at h9; simp at *; omega)).symm, hm0⟩
              ·
               refine CW.skip (hK13 _ _ (hK12 _ _ (CW.region ?_))); refine LR.m1 ?_; refine LR.v1 (Y.addi rfl rfl rfl (by omega)) ?_; refine LR.a1 (LR.nil ?_); have hci : okAt l i := ⟨by rw [getD_at hil]; exact (okc_iff2 _).2 (by simp at *; omega), fun h => by obtain ⟨e1, e2⟩ := h; rw [getD_at hil] at e1; rcases e2 with e2 | e2 | e2 <;> first | omega | (rw [getD_at (by omega)] at e2; omega)⟩; refine QN.sub (hN9 (i + 1) _ ?_ ?_) ⟨rfl, (iv (by omega)), trivial⟩
               · exact ⟨(by omega), (fun q h h2 => by rcases Nat.lt_or_ge q i with h5 | h5; exact hok q h h5; (obtain rfl : q = i := by omega); exact hci), hlm1⟩
               · first | omega | (simp only; omega) | (simp; omega)
             ·
              refine LR.g1 ?_; refine LR.g1 ?_; refine LR.v1 (Y.pick_f rfl rfl rfl) (LR.nil (hK20 _ _ ?_)); refine CW.cond_f rfl ?_; refine CW.skip (hK13 _ _ (hK12 _ _ (CW.region ?_))); refine LR.m1 ?_; refine LR.v1 (Y.addi rfl rfl rfl (by omega)) ?_; refine LR.a1 (LR.nil ?_); have hci : okAt l i := ⟨by rw [getD_at hil]; exact (okc_iff2 _).2 (by simp at *; omega), fun h => by obtain ⟨e1, e2⟩ := h; rw [getD_at hil] at e1; rcases e2 with e2 | e2 | e2 <;> first | omega | (rw [getD_at (by omega)] at e2; omega)⟩; refine QN.sub (hN9 (i + 1) _ ?_ ?_) ⟨rfl, (iv (by omega)), trivial⟩
              · exact ⟨(by omega), (fun q h h2 => by rcases Nat.lt_or_ge q i with h5 | h5; exact hok q h h5; (obtain rfl : q = i := by omega); exact hci), hlm1⟩
              · first | omega | (simp only; omega) | (simp; omega)
            ·
             refine LR.g1 ?_; refine LR.g1 ?_; refine LR.v1 (Y.pick_f rfl rfl rfl) ?_; refine LR.m1 ?_; refine LR.g1 ?_; refine LR.g1 ?_; refine LR.v1 (Y.pick_f rfl rfl rfl) (LR.nil (hK20 _ _ ?_)); refine CW.cond_f rfl ?_; refine CW.skip (hK13 _ _ (hK12 _ _ (CW.region ?_))); refine LR.m1 ?_; refine LR.v1 (Y.addi rfl rfl rfl (by omega)) ?_; refine LR.a1 (LR.nil ?_); have hci : okAt l i := ⟨by rw [getD_at hil]; exact (okc_iff2 _).2 (by simp at *; omega), fun h => by obtain ⟨e1, e2⟩ := h; rw [getD_at hil] at e1; rcases e2 with e2 | e2 | e2 <;> first | omega | (rw [getD_at (by omega)] at e2; omega)⟩; refine QN.sub (hN9 (i + 1) _ ?_ ?_) ⟨rfl, (iv (by omega)), trivial⟩
             · exact ⟨(by omega), (fun q h h2 => by rcases Nat.lt_or_ge q i with h5 | h5; exact hok q h h5; (obtain rfl : q = i := by omega); exact hci), hlm1⟩
             · first | omega | (simp only; omega) | (simp; omega)
           ·
            refine LR.g1 ?_; refine LR.g1 ?_; refine LR.v1 (Y.pick_f rfl rfl rfl) ?_; refine LR.m1 ?_; refine LR.g1 ?_; refine LR.g1 ?_; refine LR.v1 (Y.pick_f rfl rfl rfl) ?_; refine LR.m1 ?_; refine LR.g1 ?_; refine LR.g1 ?_; refine LR.v1 (Y.pick_f rfl rfl rfl) (LR.nil (hK20 _ _ ?_)); refine CW.cond_f rfl ?_; refine CW.skip (hK13 _ _ (hK12 _ _ (CW.region ?_))); refine LR.m1 ?_; refine LR.v1 (Y.addi rfl rfl rfl (by omega)) ?_; refine LR.a1 (LR.nil ?_); have hci : okAt l i := ⟨by rw [getD_at hil]; exact (okc_iff2 _).2 (by simp at *; omega), fun h => by obtain ⟨e1, e2⟩ := h; rw [getD_at hil] at e1; rcases e2 with e2 | e2 | e2 <;> first | omega | (rw [getD_at (by omega)] at e2; omega)⟩; refine QN.sub (hN9 (i + 1) _ ?_ ?_) ⟨rfl, (iv (by omega)), trivial⟩
            · exact ⟨(by omega), (fun q h h2 => by rcases Nat.lt_or_ge q i with h5 | h5; exact hok q h h5; (obtain rfl : q = i := by omega); exact hci), hlm1⟩
            · first | omega | (simp only; omega) | (simp; omega)
          ·
           refine LR.g1 ?_; refine LR.g1 ?_; refine LR.v1 (Y.pick_f rfl rfl rfl) ?_; refine LR.m1 ?_; refine LR.g1 ?_; refine LR.g1 ?_; refine LR.v1 (Y.pick_f rfl rfl rfl) ?_; refine LR.m1 ?_; refine LR.g1 ?_; refine LR.g1 ?_; refine LR.v1 (Y.pick_f rfl rfl rfl) ?_; refine LR.m1 ?_; refine LR.g1 ?_; refine LR.g1 ?_; refine LR.v1 (Y.pick_f rfl rfl rfl) (LR.nil (hK20 _ _ ?_)); refine CW.cond_f rfl ?_; refine CW.skip (hK13 _ _ (hK12 _ _ (CW.region ?_))); refine LR.m1 ?_; refine LR.v1 (Y.addi rfl rfl rfl (by omega)) ?_; refine LR.a1 (LR.nil ?_); have hci : okAt l i := ⟨by rw [getD_at hil]; exact (okc_iff2 _).2 (by simp at *; omega), fun h => by obtain ⟨e1, e2⟩ := h; rw [getD_at hil] at e1; rcases e2 with e2 | e2 | e2 <;> first | omega | (rw [getD_at (by omega)] at e2; omega)⟩; refine QN.sub (hN9 (i + 1) _ ?_ ?_) ⟨rfl, (iv (by omega)), trivial⟩
           · exact ⟨(by omega), (fun q h h2 => by rcases Nat.lt_or_ge q i with h5 | h5; exact hok q h h5; (obtain rfl : q = i := by omega); exact hci), hlm1⟩
           · first | omega | (simp only; omega) | (simp; omega)
        ·
         refine LR.w1 (Y.move rfl rfl) ?_; refine LR.w1 (Y.gtr rfl rfl rfl) ?_; refine LR.v1 (Y.pick_f rfl rfl rfl) ?_; refine LR.m1 ?_; refine LR.splitp (d := 48) rfl (fun g48 => ?_) (fun g48 => ?_)
         ·
          refine LR.w1 (Y.move rfl rfl) ?_; refine LR.w1 (Y.lss rfl rfl rfl) ?_; refine LR.w1 (Y.move rfl rfl) ?_; refine LR.splitp (d := 51) rfl (fun g51 => ?_) (fun g51 => ?_)
          ·
           refine LR.g1 ?_; refine LR.g1 ?_; refine LR.w1 (Y.pick_t rfl rfl rfl) ?_; refine LR.v1 (Y.pick_t rfl rfl rfl) ?_; refine LR.m1 ?_; refine LR.w1 (Y.move rfl rfl) ?_; refine LR.w1 (Y.neq rfl rfl rfl) ?_; refine LR.v1 (Y.pick_t rfl rfl rfl) ?_; refine LR.m1 ?_; refine LR.splitp (d := 60) rfl (fun g60 => ?_) (fun g60 => ?_)
           ·
            refine LR.w1 (Y.move rfl rfl) ?_; refine LR.w1 (Y.neq rfl rfl rfl) ?_; refine LR.v1 (Y.pick_t rfl rfl rfl) ?_; refine LR.m1 ?_; refine LR.splitp (d := 64) rfl (fun g64 => ?_) (fun g64 => ?_)
            ·
             refine LR.w1 (Y.move rfl rfl) ?_; refine LR.w1 (Y.neq rfl rfl rfl) ?_; refine LR.v1 (Y.pick_t rfl rfl rfl) ?_; refine LR.m1 ?_; refine LR.splitp (d := 68) rfl (fun g68 => ?_) (fun g68 => ?_)
             ·
              refine LR.w1 (Y.move rfl rfl) ?_; refine LR.w1 (Y.neq rfl rfl rfl) ?_; refine LR.v1 (Y.pick_t rfl rfl rfl) (LR.nil (hK20 _ _ ?_)); refine CW.condp rfl (fun c71 => ?_) (fun c71 => ?_)
              ·
               refine CW.s1 (fun hK23 => CW.region ?_); refine LR.a1 (LR.nil (hK23 _ _ ?_)); refine CW.ret (hE13 .ret nofun (by simp) _ _ (hE12 .ret nofun _ _ (hE9 .ret nofun _ _ (hE8 .ret nofun (by simp) _ _ (hE6 .ret nofun _ _ (hret .ret (.inr rfl) _ _ _ (res1 rfl rfl) ?_)))))); exact ⟨congrArg Value.bool (name_no (fun h => by have h9 := (okc_iff2 _).1 (h.2.2 i hil).1; rw [getD_at hil] at h9; simp at *; omega)).symm, hm0⟩
              ·
               refine CW.skip (hK13 _ _ (hK12 _ _ (CW.region ?_))); refine LR.m1 ?_; refine LR.v1 (Y.addi rfl rfl rfl (by omega)) ?_; refine LR.a1 (LR.nil ?_); have hci : okAt l i := ⟨by rw [getD_at hil]; exact (okc_iff2 _).2 (by simp at *; omega), fun h => by obtain ⟨e1, e2⟩ := h; rw [getD_at hil] at e1; rcases e2 with e2 | e2 | e2 <;> first | omega | (rw [getD_at (by omega)] at e2; omega)⟩; refine QN.sub (hN9 (i + 1) _ ?_ ?_) ⟨rfl, (iv (by omega)), trivial⟩
               · exact ⟨(by omega), (fun q h h2 => by rcases Nat.lt_or_ge q i with h5 | h5; exact hok q h h5; (obtain rfl : q = i := by omega); exact hci), hlm1⟩
               · first | omega | (simp only; omega) | (simp; omega)
             ·
              refine LR.g1 ?_; refine LR.g1 ?_; refine LR.v1 (Y.pick_f rfl rfl rfl) (LR.nil (hK20 _ _ ?_)); refine CW.cond_f rfl ?_; refine CW.skip (hK13 _ _ (hK12 _ _ (CW.region ?_))); refine LR.m1 ?_; refine LR.v1 (Y.addi rfl rfl rfl (by omega)) ?_; refine LR.a1 (LR.nil ?_); have hci : okAt l i := ⟨by rw [getD_at hil]; exact (okc_iff2 _).2 (by simp at *; omega), fun h => by obtain ⟨e1, e2⟩ := h; rw [getD_at hil] at e1; rcases e2 with e2 | e2 | e2 <;> first | omega | (rw [getD_at (by omega)] at e2; omega)⟩; refine QN.sub (hN9 (i + 1) _ ?_ ?_) ⟨rfl, (iv (by omega)), trivial⟩
              · exact ⟨(by omega), (fun q h h2 => by rcases Nat.lt_or_ge q i with h5 | h5; exact hok q h h5; (obtain rfl : q = i := by omega); exact hci), hlm1⟩
              · first | omega | (simp only; omega) | (simp; omega)
            ·
             refine LR.g1 ?_; refine LR.g1 ?_; refine LR.v1 (Y.pick_f rfl rfl rfl) ?_; refine LR.m1 ?_; refine LR.g1 ?_; refine LR.g1 ?_; refine LR.v1 (Y.pick_f rfl rfl rfl) (LR.nil (hK20 _ _ ?_)); refine CW.cond_f rfl ?_; refine CW.skip (hK13 _ _ (hK12 _ _ (CW.region ?_))); refine LR.m1 ?_; refine LR.v1 (Y.addi rfl rfl rfl (by omega)) ?_; refine LR.a1 (LR.nil ?_); have hci : okAt l i := ⟨by rw [getD_at hil]; exact (okc_iff2 _).2 (by simp at *; omega), fun h => by obtain ⟨e1, e2⟩ := h; rw [getD_at hil] at e1; rcases e2 with e2 | e2 | e2 <;> first | omega | (rw [getD_at (by omega)] at e2; omega)⟩; refine QN.sub (hN9 (i + 1) _ ?_ ?_) ⟨rfl, (iv (by omega)), trivial⟩
             · exact ⟨(by omega), (fun q h h2 => by rcases Nat.lt_or_ge q i with h5 | h5; exact hok q h h5; (obtain rfl : q = i := by omega); exact hci), hlm1⟩
             · first | omega | (simp only; omega) | (simp; omega)
           ·
            refine LR.g1 ?_; refine LR.g1 ?_; refine LR.v1 (Y.pick_f rfl rfl rfl) ?_; refine LR.m1 ?_; refine LR.g1 ?_; refine LR.g1 ?_; refine LR.v1 (Y.pick_f rfl rfl rfl) ?_; refine LR.m1 ?_; refine LR.g1 ?_; refine LR.g1 ?_; refine LR.v1 (Y.pick_f rfl rfl rfl) (LR.nil (hK20 _ _ ?_)); refine CW.cond_f rfl ?_; refine CW.skip (hK13 _ _ (hK12 _ _ (CW.region ?_))); refine LR.m1 ?_; refine LR.v1 (Y.addi rfl rfl rfl (by omega)) ?_; refine LR.a1 (LR.nil ?_); have hci : okAt l i := ⟨by rw [getD_at hil]; exact (okc_iff2 _).2 (by simp at *; omega), fun h => by obtain ⟨e1, e2⟩ := h; rw [getD_at hil] at e1; rcases e2 with e2 | e2 | e2 <;> first | omega | (rw [getD_at (by omega)] at e2; omega)⟩; refine QN.sub (hN9 (i + 1) _ ?_ ?_) ⟨rfl, (iv (by omega)), trivial⟩
            · exact ⟨(by omega), (fun q h h2 => by rcases Nat.lt_or_ge q i with h5 | h5; exact hok q h h5; (obtain rfl : q = i := by omega); exact hci), hlm1⟩
            · first | omega | (simp only; omega) | (simp; omega)
          ·
           refine LR.w1 (Y.move rfl rfl) ?_; refine LR.w1 (Y.gtr rfl rfl rfl) ?_; refine LR.w1 (Y.pick_f rfl rfl rfl) ?_; refine LR.v1 (Y.pick_t rfl rfl rfl) ?_; refine LR.m1 ?_; refine LR.splitp (d := 56) rfl (fun g56 => ?_) (fun g56 => ?_)
           ·
            refine LR.w1 (Y.move rfl rfl) ?_; refine LR.w1 (Y.neq rfl rfl rfl) ?_; refine LR.v1 (Y.pick_t rfl rfl rfl) ?_; refine LR.m1 ?_; refine LR.splitp (d := 60) rfl (fun g60 => ?_) (fun g60 => ?_)
            ·
             refine LR.w1 (Y.move rfl rfl) ?_; refine LR.w1 (Y.neq rfl rfl rfl) ?_; refine LR.v1 (Y.pick_t rfl rfl rfl) ?_; refine LR.m1 ?_; refine LR.splitp (d := 64) rfl (fun g64 => ?_) (fun g64 => ?_)
             ·
              refine LR.w1 (Y.move rfl rfl) ?_; refine LR.w1 (Y.neq rfl rfl rfl) ?_; refine LR.v1 (Y.pick_t rfl rfl rfl) ?_; refine LR.m1 ?_; refine LR.splitp (d := 68) rfl (fun g68 => ?_) (fun g68 => ?_)
              ·
               refine LR.w1 (Y.move rfl rfl) ?_; refine LR.w1 (Y.neq rfl rfl rfl) ?_; refine LR.v1 (Y.pick_t rfl rfl rfl) (LR.nil (hK20 _ _ ?_)); refine CW.condp rfl (fun c71 => ?_) (fun c71 => ?_)
               ·
                refine CW.s1 (fun hK24 => CW.region ?_); refine LR.a1 (LR.nil (hK24 _ _ ?_)); refine CW.ret (hE13 .ret nofun (by simp) _ _ (hE12 .ret nofun _ _ (hE9 .ret nofun _ _ (hE8 .ret nofun (by simp) _ _ (hE6 .ret nofun _ _ (hret .ret (.inr rfl) _ _ _ (res1 rfl rfl) ?_)))))); exact ⟨congrArg Value.bool (name_no (fun h => by have h9 := (okc_iff2 _).1 (h.2.2 i hil).1; rw [getD_at hil] at h9; simp at *; omega)).symm, hm0⟩
               ·
                refine CW.skip (hK13 _ _ (hK12 _ _ (CW.region ?_))); refine LR.m1 ?_; refine LR.v1 (Y.addi rfl rfl rfl (by omega)) ?_; refine LR.a1 (LR.nil ?_); have hci : okAt l i := ⟨by rw [getD_at hil]; exact (okc_iff2 _).2 (by simp at *; omega), fun h => by obtain ⟨e1, e2⟩ := h; rw [getD_at hil] at e1; rcases e2 with e2 | e2 | e2 <;> first | omega | (rw [getD_at (by omega)] at e2; omega)⟩; refine QN.sub (hN9 (i + 1) _ ?_ ?_) ⟨rfl, (iv (by omega)), trivial⟩
                · exact ⟨(by omega), (fun q h h2 => by rcases Nat.lt_or_ge q i with h5 | h5; exact hok q h h5; (obtain rfl : q = i := by omega); exact hci), hlm1⟩
                · first | omega | (simp only; omega) | (simp; omega)
              ·
               refine LR.g1 ?_; refine LR.g1 ?_; refine LR.v1 (Y.pick_f rfl rfl rfl) (LR.nil (hK20 _ _ ?_)); refine CW.cond_f rfl ?_; refine CW.skip (hK13 _ _ (hK12 _ _ (CW.region ?_))); refine LR.m1 ?_; refine LR.v1 (Y.addi rfl rfl rfl (by omega)) ?_; refine LR.a1 (LR.nil ?_); have hci : okAt l i := ⟨by rw [getD_at hil]; exact (okc_iff2 _).2 (by simp at *; omega), fun h => by obtain ⟨e1, e2⟩ := h; rw [getD_at hil] at e1; rcases e2 with e2 | e2 | e2 <;> first | omega | (rw [getD_at (by omega)] at e2; omega)⟩; refine QN.sub (hN9 (i + 1) _ ?_ ?_) ⟨rfl, (iv (by omega)), trivial⟩
               · exact ⟨(by omega), (fun q h h2 => by rcases Nat.lt_or_ge q i with h5 | h5; exact hok q h h5; (obtain rfl : q = i := by omega); exact hci), hlm1⟩
               · first | omega | (simp only; omega) | (simp; omega)
             ·
              refine LR.g1 ?_; refine LR.g1 ?_; refine LR.v1 (Y.pick_f rfl rfl rfl) ?_; refine LR.m1 ?_; refine LR.g1 ?_; refine LR.g1 ?_; refine LR.v1 (Y.pick_f rfl rfl rfl) (LR.nil (hK20 _ _ ?_)); refine CW.cond_f rfl ?_; refine CW.skip (hK13 _ _ (hK12 _ _ (CW.region ?_))); refine LR.m1 ?_; refine LR.v1 (Y.addi rfl rfl rfl (by omega)) ?_; refine LR.a1 (LR.nil ?_); have hci : okAt l i := ⟨by rw [getD_at hil]; exact (okc_iff2 _).2 (by simp at *; omega), fun h => by obtain ⟨e1, e2⟩ := h; rw [getD_at hil] at e1; rcases e2 with e2 | e2 | e2 <;> first | omega | (rw [getD_at (by omega)] at e2; omega)⟩; refine QN.sub (hN9 (i + 1) _ ?_ ?_) ⟨rfl, (iv (by omega)), trivial⟩
              · exact ⟨(by omega), (fun q h h2 => by rcases Nat.lt_or_ge q i with h5 | h5; exact hok q h h5; (obtain rfl : q = i := by omega); exact hci), hlm1⟩
              · first | omega | (simp only; omega) | (simp; omega)
            ·
             refine LR.g1 ?_; refine LR.g1 ?_; refine LR.v1 (Y.pick_f rfl rfl rfl) ?_; refine LR.m1 ?_; refine LR.g1 ?_; refine LR.g1 ?_; refine LR.v1 (Y.pick_f rfl rfl rfl) ?_; refine LR.m1 ?_; refine LR.g1 ?_; refine LR.g1 ?_; refine LR.v1 (Y.pick_f rfl rfl rfl) (LR.nil (hK20 _ _ ?_)); refine CW.cond_f rfl ?_; refine CW.skip (hK13 _ _ (hK12 _ _ (CW.region ?_))); refine LR.m1 ?_; refine LR.v1 (Y.addi rfl rfl rfl (by omega)) ?_; refine LR.a1 (LR.nil ?_); have hci : okAt l i := ⟨by rw [getD_at hil]; exact (okc_iff2 _).2 (by simp at *; omega), fun h => by obtain ⟨e1, e2⟩ := h; rw [getD_at hil] at e1; rcases e2 with e2 | e2 | e2 <;> first | omega | (rw [getD_at (by omega)] at e2; omega)⟩; refine QN.sub (hN9 (i + 1) _ ?_ ?_) ⟨rfl, (iv (by omega)), trivial⟩
             · exact ⟨(by omega), (fun q h h2 => by rcases Nat.lt_or_ge q i with h5 | h5; exact hok q h h5; (obtain rfl : q = i := by omega); exact hci), hlm1⟩
             · first | omega | (simp only; omega) | (simp; omega)
           ·
            refine LR.g1 ?_; refine LR.g1 ?_; refine LR.v1 (Y.pick_f rfl rfl rfl) ?_; refine LR.m1 ?_; refine LR.g1 ?_; refine LR.g1 ?_; refine LR.v1 (Y.pick_f rfl rfl rfl) ?_; refine LR.m1 ?_; refine LR.g1 ?_; refine LR.g1 ?_; refine LR.v1 (Y.pick_f rfl rfl rfl) ?_; refine LR.m1 ?_; refine LR.g1 ?_; refine LR.g1 ?_; refine LR.v1 (Y.pick_f rfl rfl rfl) (LR.nil (hK20 _ _ ?_)); refine CW.cond_f rfl ?_; refine CW.skip (hK13 _ _ (hK12 _ _ (CW.region ?_))); refine LR.m1 ?_; refine LR.v1 (Y.addi rfl rfl rfl (by omega)) ?_; refine LR.a1 (LR.nil ?_); have hci : okAt l i := ⟨by rw [getD_at hil]; exact (okc_iff2 _).2 (by simp at *; omega), fun h => by obtain ⟨e1, e2⟩ := h; rw [getD_at hil] at e1; rcases e2 with e2 | e2 | e2 <;> first | omega | (rw [getD_at (by omega)] at e2; omega)⟩; refine QN.sub (hN9 (i + 1) _ ?_ ?_) ⟨rfl, (iv (by omega)), trivial⟩
            · exact ⟨(by omega), (fun q h h2 => by rcases Nat.lt_or_ge q i with h5 | h5; exact hok q h h5; (obtain rfl : q = i := by omega); exact hci), hlm1⟩
            · first | omega | (simp only; omega) | (simp; omega)
         ·
          refine LR.g1 ?_; refine LR.g1 ?_; refine LR.g1 ?_; refine LR.gsu rfl rfl rfl rfl rfl ?_; refine LR.gsu rfl rfl rfl rfl rfl ?_; refine LR.g1 ?_; refine LR.v1 (Y.pick_f rfl rfl rfl) ?_; refine LR.m1 ?_; refine LR.g1 ?_; refine LR.g1 ?_; refine LR.v1 (Y.pick_f rfl rfl rfl) ?_; refine LR.m1 ?_; refine LR.g1 ?_; refine LR.g1 ?_; refine LR.v1 (Y.pick_f rfl rfl rfl) ?_; refine LR.m1 ?_; refine LR.g1 ?_; refine LR.g1 ?_; refine LR.v1 (Y.pick_f rfl rfl rfl) ?_; refine LR.m1 ?_; refine LR.g1 ?_; refine LR.g1 ?_; refine LR.v1 (Y.pick_f rfl rfl rfl) (LR.nil (hK20 _ _ ?_)); refine CW.cond_f rfl ?_; refine CW.skip (hK13 _ _ (hK12 _ _ (CW.region ?_))); refine LR.m1 ?_; refine LR.v1 (Y.addi rfl rfl rfl (by omega)) ?_; refine LR.a1 (LR.nil ?_); have hci : okAt l i := ⟨by rw [getD_at hil]; exact (okc_iff2 _).2 (by simp at *; omega), fun h => by obtain ⟨e1, e2⟩ := h; rw [getD_at hil] at e1; rcases e2 with e2 | e2 | e2 <;> first | omega | (rw [getD_at (by omega)] at e2; omega)⟩; refine QN.sub (hN9 (i + 1) _ ?_ ?_) ⟨rfl, (iv (by omega)), trivial⟩
          · exact ⟨(by omega), (fun q h h2 => by rcases Nat.lt_or_ge q i with h5 | h5; exact hok q h h5; (obtain rfl : q = i := by omega); exact hci), hlm1⟩
          · first | omega | (simp only; omega) | (simp; omega)
    ·
     refine LR.g1 ?_; refine LR.g1 ?_; refine LR.g1 ?_; refine LR.gsu rfl rfl rfl rfl rfl ?_; refine LR.gsu rfl rfl rfl rfl rfl ?_; refine LR.gsu rfl rfl rfl rfl rfl ?_; refine LR.gsu rfl rfl rfl rfl rfl ?_; refine LR.gsu rfl rfl rfl rfl rfl ?_; refine LR.g1 ?_; refine LR.g1 ?_; refine LR.gsu rfl rfl rfl rfl rfl ?_; refine LR.gsu rfl rfl rfl rfl rfl ?_; refine LR.gsu rfl rfl rfl rfl rfl ?_; refine LR.gsu rfl rfl rfl rfl rfl ?_; refine LR.gsu rfl rfl rfl rfl rfl ?_; refine LR.g1 ?_; refine LR.v1 (Y.pick_f rfl rfl rfl) (LR.nil (hK16 _ _ ?_)); refine CW.cond_f rfl ?_; refine CW.skip (hK15 _ _ (CW.s1 (fun hK25 => CW.region ?_))); refine LR.m1 ?_; refine LR.v1 (Y.lss rfl rfl rfl) ?_; refine LR.m1 ?_; refine LR.splitp (d := 44) rfl (fun g44 => ?_) (fun g44 => ?_)
     ·
      refine LR.g1 ?_; refine LR.g1 ?_; refine LR.v1 (Y.pick_t rfl rfl rfl) ?_; refine LR.m1 ?_; refine LR.w1 (Y.move rfl rfl) ?_; refine LR.w1 (Y.lss rfl rfl rfl) ?_; refine LR.w1 (Y.move rfl rfl) ?_; refine LR.splitp (d := 51) rfl (fun g51 => ?_) (fun g51 => ?_)
      ·
       refine LR.g1 ?_; refine LR.g1 ?_; refine LR.w1 (Y.pick_t rfl rfl rfl) ?_; refine LR.v1 (Y.pick_t rfl rfl rfl) ?_; refine LR.m1 ?_; refine LR.w1 (Y.move rfl rfl) ?_; refine LR.w1 (Y.neq rfl rfl rfl) ?_; refine LR.v1 (Y.pick_t rfl rfl rfl) ?_; refine LR.m1 ?_; refine LR.splitp (d := 60) rfl (fun g60 => ?_) (fun g60 => ?_)
       ·
        refine LR.w1 (Y.move rfl rfl) ?_; refine LR.w1 (Y.neq rfl rfl rfl) ?_; refine LR.v1 (Y.pick_t rfl rfl rfl) ?_; refine LR.m1 ?_; refine LR.splitp (d := 64) rfl (fun g64 => ?_) (fun g64 => ?_)
        ·
         refine LR.w1 (Y.move rfl rfl) ?_; refine LR.w1 (Y.neq rfl rfl rfl) ?_; refine LR.v1 (Y.pick_t rfl rfl rfl) ?_; refine LR.m1 ?_; refine LR.splitp (d := 68) rfl (fun g68 => ?_) (fun g68 => ?_)
         ·
          refine LR.w1 (Y.move rfl rfl) ?_; refine LR.w1 (Y.neq rfl rfl rfl) ?_; refine LR.v1 (Y.pick_t rfl rfl rfl) (LR.nil (hK25 _ _ ?_)); refine CW.condp rfl (fun c71 => ?_) (fun c71 => ?_)
          ·
           refine CW.s1 (fun hK26 => CW.region ?_); refine LR.a1 (LR.nil (hK26 _ _ ?_)); refine CW.ret (hE13 .ret nofun (by simp) _ _ (hE12 .ret nofun _ _ (hE9 .ret nofun _ _ (hE8 .ret nofun (by simp) _ _ (hE6 .ret nofun _ _ (hret .ret (.inr rfl) _ _ _ (res1 rfl rfl) ?_)))))); exact ⟨congrArg Value.bool (name_no (fun h => by have h9 := (okc_iff2 _).1 (h.2.2 i hil).1; rw [getD_at hil] at h9; simp at *; omega)).symm, hm0⟩
          ·
           refine CW.skip (hK13 _ _ (hK12 _ _ (CW.region ?_))); refine LR.m1 ?_; refine LR.v1 (Y.addi rfl rfl rfl (by omega)) ?_; refine LR.a1 (LR.nil ?_); have hci : okAt l i := ⟨by rw [getD_at hil]; exact (okc_iff2 _).2 (by simp at *; omega), fun h => by obtain ⟨e1, e2⟩ := h; rw [getD_at hil] at e1; rcases e2 with e2 | e2 | e2 <;> first | omega | (rw [getD_at (by omega)] at e2; omega)⟩; refine QN.sub (hN9 (i + 1) _ ?_ ?_) ⟨rfl, (iv (by omega)), trivial⟩
           · exact ⟨(by omega), (fun q h h2 => by rcases Nat.lt_or_ge q i with h5 | h5; exact hok q h h5; (obtain rfl : q = i := by omega); exact hci), hlm1⟩
           · first | omega | (simp only; omega) | (simp; omega)
         ·
          refine LR.g1 ?_; refine LR.g1 ?_; refine LR.v1 (Y.pick_f rfl rfl rfl) (LR.nil (hK25 _ _ ?_)); refine CW.cond_f rfl ?_; refine CW.skip (hK13 _ _ (hK12 _ _ (CW.region ?_))); refine LR.m1 ?_; refine LR.v1 (Y.addi rfl rfl rfl (by omega)) ?_; refine LR.a1 (LR.nil ?_); have hci : okAt l i := ⟨by rw [getD_at hil]; exact (okc_iff2 _).2 (by simp at *; omega), fun h => by obtain ⟨e1, e2⟩ := h; rw [getD_at hil] at e1; rcases e2 with e2 | e2 | e2 <;> first | omega | (rw [getD_at (by omega)] at e2; omega)⟩; refine QN.sub (hN9 (i + 1) _ ?_ ?_) ⟨rfl, (iv (by omega)), trivial⟩
          · exact ⟨(by omega), (fun q h h2 => by rcases Nat.lt_or_ge q i with h5 | h5; exact hok q h h5; (obtain rfl : q = i := by omega); exact hci), hlm1⟩
          · first | omega | (simp only; omega) | (simp; omega)
        ·
         refine LR.g1 ?_; refine LR.g1 ?_; refine LR.v1 (Y.pick_f rfl rfl rfl) ?_; refine LR.m1 ?_; refine LR.g1 ?_; refine LR.g1 ?_; refine LR.v1 (Y.pick_f rfl rfl rfl) (LR.nil (hK25 _ _ ?_)); refine CW.cond_f rfl ?_; refine CW.skip (hK13 _ _ (hK12 _ _ (CW.region ?_))); refine LR.m1 ?_; refine LR.v1 (Y.addi rfl rfl rfl (by omega)) ?_; refine LR.a1 (LR.nil ?_); have hci : okAt l i := ⟨by rw [getD_at hil]; exact (okc_iff2 _).2 (by simp at *; omega), fun h => by obtain ⟨e1, e2⟩ := h; rw [getD_at hil] at e1; rcases e2 with e2 | e2 | e2 <;> first | omega | (rw [getD_at (by omega)] at e2; omega)⟩; refine QN.sub (hN9 (i + 1) _ ?_ ?_) ⟨rfl, (iv (by omega)), trivial⟩
         · exact ⟨(by omega), (fun q h h2 => by rcases Nat.lt_or_ge q i with h5 | h5; exact hok q h h5; (obtain rfl : q = i := by omega); exact hci), hlm1⟩
         · first | omega | (simp only; omega) | (simp; omega)
       ·
        refine LR.g1 ?_; refine LR.g1 ?_; refine LR.v1 (Y.pick_f rfl rfl rfl) ?_; refine LR.m1 ?_; refine LR.g1 ?_; refine LR.g1 ?_; refine LR.v1 (Y.pick_f rfl rfl rfl) ?_; refine LR.m1 ?_; refine LR.g1 ?_; refine LR.g1 ?_; refine LR.v1 (Y.pick_f rfl rfl rfl) (LR.nil (hK25 _ _ ?_)); refine CW.cond_f rfl ?_; refine CW.skip (hK13 _ _ (hK12 _ _ (CW.region ?_))); refine LR.m1 ?_; refine LR.v1 (Y.addi rfl rfl rfl (by omega)) ?_; refine LR.a1 (LR.nil ?_); have hci : okAt l i := ⟨by rw [getD_at hil]; exact (okc_iff2 _).2 (by simp at *; omega), fun h => by obtain ⟨e1, e2⟩ := h; rw [getD_at hil] at e1; rcases e2 with e2 | e2 | e2 <;> first | omega | (rw [getD_at (by omega)] at e2; omega)⟩; refine QN.sub (hN9 (i + 1) _ ?_ ?_) ⟨rfl, (iv (by omega)), trivial⟩
        · exact ⟨(by omega), (fun q h h2 => by rcases Nat.lt_or_ge q i with h5 | h5; exact hok q h h5; (obtain rfl : q = i := by omega); exact hci), hlm1⟩
        · first | omega | (simp only; omega) | (simp; omega)
      ·
       refine LR.w1 (Y.move rfl rfl) ?_; refine LR.w1 (Y.gtr rfl rfl rfl) ?_; refine LR.w1 (Y.pick_f rfl rfl rfl) ?_; refine LR.v1 (Y.pick_t rfl rfl rfl) ?_; refine LR.m1 ?_; refine LR.splitp (d := 56) rfl (fun g56 => ?_) (fun g56 => ?_)
       ·
        refine LR.w1 (Y.move rfl rfl) ?_; refine LR.w1 (Y.neq rfl rfl rfl) ?_; refine LR.v1 (Y.pick_t rfl rfl rfl) ?_; refine LR.m1 ?_; refine LR.splitp (d := 60) rfl (fun g60 => ?_) (fun g60 => ?_)
        ·
         refine LR.w1 (Y.move rfl rfl) ?_; refine LR.w1 (Y.neq rfl rfl rfl) ?_; refine LR.v1 (Y.pick_t rfl rfl rfl) ?_; refine LR.m1 ?_; refine LR.splitp (d := 64) rfl (fun g64 => ?_) (fun g64 => ?_)
         ·
          refine LR.w1 (Y.move rfl rfl) ?_; refine LR.w1 (Y.neq rfl rfl rfl) ?_; refine LR.v1 (Y.pick_t rfl rfl rfl) ?_; refine LR.m1 ?_; refine LR.splitp (d := 68) rfl (fun g68 => ?_) (fun g68 => ?_)
          ·
           refine LR.w1 (Y.move rfl rfl) ?_; refine LR.w1 (Y.neq rfl rfl rfl) ?_; refine LR.v1 (Y.pick_t rfl rfl rfl) (LR.nil (hK25 _ _ ?_)); refine CW.condp rfl (fun c71 => ?_) (fun c71 => ?_)
           ·
            refine CW.s1 (fun hK27 => CW.region ?_); refine LR.a1 (LR.nil (hK27 _ _ ?_)); refine CW.ret (hE13 .ret nofun (by simp) _ _ (hE12 .ret nofun _ _ (hE9 .ret nofun _ _ (hE8 .ret nofun (by simp) _ _ (hE6 .ret nofun _ _ (hret .ret (.inr rfl) _ _ _ (res1 rfl rfl) ?_)))))); exact ⟨congrArg Value.bool (name_no (fun h => by have h9 := (okc_iff2 _).1 (h.2.2 i hil).1; rw [getD_at hil] at h9; simp at *; omega)).symm, hm0⟩
           ·
            refine CW.skip (hK13 _ _ (hK12 _ _ (CW.region ?_))); refine LR.m1 ?_; refine LR.v1 (Y.addi rfl rfl rfl (by omega)) ?_; refine LR.a1 (LR.nil ?_); have hci : okAt l i := ⟨by rw [getD_at hil]; exact (okc_iff2 _).2 (by simp at *; omega), fun h => by obtain ⟨e1, e2⟩ := h; rw [getD_at hil] at e1; rcases e2 with e2 | e2 | e2 <;> first | omega | (rw [getD_at (by omega)] at e2; omega)⟩; refine QN.sub (hN9 (i + 1) _ ?_ ?_) ⟨rfl, (iv (by omega)), trivial⟩
            · exact ⟨(by omega), (fun q h h2 => by rcases Nat.lt_or_ge q i with h5 | h5; exact hok q h h5; (obtain rfl : q = i := by omega); exact hci), hlm1⟩
            · first | omega | (simp only; omega) | (simp; omega)
          ·
           refine LR.g1 ?_; refine LR.g1 ?_; refine LR.v1 (Y.pick_f rfl rfl rfl) (LR.nil (hK25 _ _ ?_)); refine CW.cond_f rfl ?_; refine CW.skip (hK13 _ _ (hK12 _ _ (CW.region ?_))); refine LR.m1 ?_; refine LR.v1 (Y.addi rfl rfl rfl (by omega)) ?_; refine LR.a1 (LR.nil ?_); have hci : okAt l i := ⟨by rw [getD_at hil]; exact (okc_iff2 _).2 (by simp at *; omega), fun h => by obtain ⟨e1, e2⟩ := h; rw [getD_at hil] at e1; rcases e2 with e2 | e2 | e2 <;> first | omega | (rw [getD_at (by omega)] at e2; omega)⟩; refine QN.sub (hN9 (i + 1) _ ?_ ?_) ⟨rfl, (iv (by omega)), trivial⟩
           · exact ⟨(by omega), (fun q h h2 => by rcases Nat.lt_or_ge q i with h5 | h5; exact hok q h h5; (obtain rfl : q = i := by omega); exact hci), hlm1⟩
           · first | omega | (simp only; omega) | (simp; omega)
         ·
          refine LR.g1 ?_; refine LR.g1 ?_; refine LR.v1 (Y.pick_f rfl rfl rfl) ?_; refine LR.m1 ?_; refine LR.g1 ?_; refine LR.g1 ?_; refine LR.v1 (Y.pick_f rfl rfl rfl) (LR.nil (hK25 _ _ ?_)); refine CW.cond_f rfl ?_; refine CW.skip (hK13 _ _ (hK12 _ _ (CW.region ?_))); refine LR.m1 ?_; refine LR.v1 (Y.addi rfl rfl rfl (by omega)) ?_; refine LR.a1 (LR.nil ?_); have hci : okAt l i := ⟨by rw [getD_at hil]; exact (okc_iff2 _).2 (by simp at *; omega), fun h => by obtain ⟨e1, e2⟩ := h; rw [getD_at hil] at e1; rcases e2 with e2 | e2 | e2 <;> first | omega | (rw [getD_at (by omega)] at e2; omega)⟩; refine QN.sub (hN9 (i + 1) _ ?_ ?_) ⟨rfl, (iv (by omega)), trivial⟩
          · exact ⟨(by omega), (fun q h h2 => by rcases Nat.lt_or_ge q i with h5 | h5; exact hok q h h5; (obtain rfl : q = i := by omega); exact hci), hlm1⟩
          · first | omega | (simp only; omega) | (simp; omega)
        ·
         refine LR.g1 ?_; refine LR.g1 ?_; refine LR.v1 (Y.pick_f rfl rfl rfl) ?_; refine LR.m1 ?_; refine LR.g1 ?_; refine LR.g1 ?_; refine LR.v1 (Y.pick_f rfl rfl rfl) ?_; refine LR.m1 ?_; refine LR.g1 ?_; refine LR.g1 ?_; refine LR.v1 (Y.pick_f rfl rfl rfl) (LR.nil (hK25 _ _ ?_)); refine CW.cond_f rfl ?_; refine CW.skip (hK13 _ _ (hK12 _ _ (CW.region ?_))); refine LR.m1 ?_; refine LR.v1 (Y.addi rfl rfl rfl (by omega)) ?_; refine LR.a1 (LR.nil ?_); have hci : okAt l i := ⟨by rw [getD_at hil]; exact (okc_iff2 _).2 (by simp at *; omega), fun h => by obtain ⟨e1, e2⟩ := h; rw [getD_at hil] at e1; rcases e2 with e2 | e2 | e2 <;> first | omega | (rw [getD_at (by omega)] at e2; omega)⟩; refine QN.sub (hN9 (i + 1) _ ?_ ?_) ⟨rfl, (iv (by omega)), trivial⟩
         · exact ⟨(by omega), (fun q h h2 => by rcases Nat.lt_or_ge q i with h5 | h5; exact hok q h h5; (obtain rfl : q = i := by omega); exact hci), hlm1⟩
         · first | omega | (simp only; omega) | (simp; omega)
       ·
        refine LR.g1 ?_; refine LR.g1 ?_; refine LR.v1 (Y.pick_f rfl rfl rfl) ?_; refine LR.m1 ?_; refine LR.g1 ?_; refine LR.g1 ?_; refine LR.v1 (Y.pick_f rfl rfl rfl) ?_; refine LR.m1 ?_; refine LR.g1 ?_; refine LR.g1 ?_; refine LR.v1 (Y.pick_f rfl rfl rfl) ?_; refine LR.m1 ?_; refine LR.g1 ?_; refine LR.g1 ?_; refine LR.v1 (Y.pick_f rfl rfl rfl) (LR.nil (hK25 _ _ ?_)); refine CW.cond_f rfl ?_; refine CW.skip (hK13 _ _ (hK12 _ _ (CW.region ?_))); refine LR.m1 ?_; refine LR.v1 (Y.addi rfl rfl rfl (by omega)) ?_; refine LR.a1 (LR.nil ?_); have hci : okAt l i := ⟨by rw [getD_at hil]; exact (okc_iff2 _).2 (by simp at *; omega), fun h => by obtain ⟨e1, e2⟩ := h; rw [getD_at hil] at e1; rcases e2 with e2 | e2 | e2 <;> first | omega | (rw [getD_at (by omega)] at e2; omega)⟩; refine QN.sub (hN9 (i + 1) _ ?_ ?_) ⟨rfl, (iv (by omega)), trivial⟩
        · exact ⟨(by omega), (fun q h h2 => by rcases Nat.lt_or_ge q i with h5 | h5; exact hok q h h5; (obtain rfl : q = i := by omega); exact hci), hlm1⟩
        · first | omega | (simp only; omega) | (simp; omega)
     ·
      refine LR.w1 (Y.move rfl rfl) ?_; refine LR.w1 (Y.gtr rfl rfl rfl) ?_; refine LR.v1 (Y.pick_f rfl rfl rfl) ?_; refine LR.m1 ?_; refine LR.splitp (d := 48) rfl (fun g48 => ?_) (fun g48 => ?_)
      ·
       refine LR.w1 (Y.move rfl rfl) ?_; refine LR.w1 (Y.lss rfl rfl rfl) ?_; refine LR.w1 (Y.move rfl rfl) ?_; refine LR.splitp (d := 51) rfl (fun g51 => ?_) (fun g51 => ?_)
       ·
        refine LR.g1 ?_; refine LR.g1 ?_; refine LR.w1 (Y.pick_t rfl rfl rfl) ?_; refine LR.v1 (Y.pick_t rfl rfl rfl) ?_; refine LR.m1 ?_; refine LR.w1 (Y.move rfl rfl) ?_; refine LR.w1 (Y.neq rfl rfl rfl) ?_; refine LR.v1 (Y.pick_t rfl rfl rfl) ?_; refine LR.m1 ?_; refine LR.splitp (d := 60) rfl (fun g60 => ?_) (fun g60 => ?_)
        ·
         refine LR.w1 (Y.move rfl rfl) ?_; refine LR.w1 (Y.neq rfl rfl rfl) ?_; refine LR.v1 (Y.pick_t rfl rfl rfl) ?_; refine LR.m1 ?_; refine LR.splitp (d := 64) rfl (fun g64 => ?_) (fun g64 => ?_)
         ·
          refine LR.w1 (Y.move rfl rfl) ?_; refine LR.w1 (Y.neq rfl rfl rfl) ?_; refine LR.v1 (Y.pick_t rfl rfl rfl) ?_; refine LR.m1 ?_; refine LR.splitp (d := 68) rfl (fun g68 => ?_) (fun g68 => ?_)
          ·
           refine LR.w1 (Y.move rfl rfl) ?_; refine LR.w1 (Y.neq rfl rfl rfl) ?_; refine LR.v1 (Y.pick_t rfl rfl rfl) (LR.nil (hK25 _ _ ?_)); refine CW.condp rfl (fun c71 => ?_) (fun c71 => ?_)
           ·
            refine CW.s1 (fun hK28 => CW.region ?_); refine LR.a1 (LR.nil (hK28 _ _ ?_)); refine CW.ret (hE13 .ret nofun (by simp) _ _ (hE12 .ret nofun _ _ (hE9 .ret nofun _ _ (hE8 .ret nofun (by simp) _ _ (hE6 .ret nofun _ _ (hret .ret (.inr rfl) _ _ _ (res1 rfl rfl) ?_)))))); exact ⟨congrArg Value.bool (name_no (fun h => by have h9 := (okc_iff2 _).1 (h.2.2 i hil).1; rw [getD_at hil] at h9; simp at *; omega)).symm, hm0⟩
           ·
            refine CW.skip (hK13 _ _ (hK12 _ _ (CW.region ?_))); refine LR.m1 ?_; refine LR.v1 (Y.addi rfl rfl rfl (by omega)) ?_; refine LR.a1 (LR.nil ?_); have hci : okAt l i := ⟨by rw [getD_at hil]; exact (okc_iff2 _).2 (by simp at *; omega), fun h => by obtain ⟨e1, e2⟩ := h; rw [getD_at hil] at e1; rcases e2 with e2 | e2 | e2 <;> first | omega | (rw [getD_at (by omega)] at e2; omega)⟩; refine QN.sub (hN9 (i + 1) _ ?_ ?_) ⟨rfl, (iv (by omega)), trivial⟩
            · exact ⟨(by omega), (fun q h h2 => by rcases Nat.lt_or_ge q i with h5 | h5; exact hok q h h5; (obtain rfl : q = i := by omega); exact hci), hlm1⟩
            · first | omega | (simp only; omega) | (simp; omega)
          ·
           refine LR.g1 ?_; refine LR.g1 ?_; refine LR.v1 (Y.pick_f rfl rfl rfl) (LR.nil (hK25 _ _ ?_)); refine CW.cond_f rfl ?_; refine CW.skip (hK13 _ _ (hK12 _ _ (CW.region ?_))); refine LR.m1 ?_; refine LR.v1 (Y.addi rfl rfl rfl (by omega)) ?_; refine LR.a1 (LR.nil ?_); have hci : okAt l i := ⟨by rw [getD_at hil]; exact (okc_iff2 _).2 (by simp at *; omega), fun h => by obtain ⟨e1, e2⟩ := h; rw [getD_at hil] at e1; rcases e2 with e2 | e2 | e2 <;> first | omega | (rw [getD_at (by omega)] at e2; omega)⟩; refine QN.sub (hN9 (i + 1) _ ?_ ?_) ⟨rfl, (iv (by omega)), trivial⟩
           · exact ⟨(by omega), (fun q h h2 => by rcases Nat.lt_or_ge q i with h5 | h5; exact hok q h h5; (obtain rfl : q = i := by omega); exact hci), hlm1⟩
           · first | omega | (simp only; omega) | (simp; omega)
         ·
          refine LR.g1 ?_; refine LR.g1 ?_; refine LR.v1 (Y.pick_f rfl rfl rfl) ?_; refine LR.m1 ?_; refine LR.g1 ?_; refine LR.g1 ?_; refine LR.v1 (Y.pick_f rfl rfl rfl) (LR.nil (hK25 _ _ ?_)); refine CW.cond_f rfl ?_; refine CW.skip (hK13 _ _ (hK12 _ _ (CW.region ?_))); refine LR.m1 ?_; refine LR.v1 (Y.addi rfl rfl rfl (by omega)) ?_; refine LR.a1 (LR.nil ?_); have hci : okAt l i := ⟨by rw [getD_at hil]; exact (okc_iff2 _).2 (by simp at *; omega), fun h => by obtain ⟨e1, e2⟩ := h; rw [getD_at hil] at e1; rcases e2 with e2 | e2 | e2 <;> first | omega | (rw [getD_at (by omega)] at e2; omega)⟩; refine QN.sub (hN9 (i + 1) _ ?_ ?_) ⟨rfl, (iv (by omega)), trivial⟩
          · exact ⟨(by omega), (fun q h h2 => by rcases Nat.lt_or_ge q i with h5 | h5; exact hok q h h5; (obtain rfl : q = i := by omega); exact hci), hlm1⟩
          · first | omega | (simp only; omega) | (simp; omega)
        ·
         refine LR.g1 ?_; refine LR.g1 ?_; refine LR.v1 (Y.pick_f rfl rfl rfl) ?_; refine LR.m1 ?_; refine LR.g1 ?_; refine LR.g1 ?_; refine LR.v1 (Y.pick_f rfl rfl rfl) ?_; refine LR.m1 ?_; refine LR.g1 ?_; refine LR.g1 ?_; refine LR.v1 (Y.pick_f rfl rfl rfl) (LR.nil (hK25 _ _ ?_)); refine CW.cond_f rfl ?_; refine CW.skip (hK13 _ _ (hK12 _ _ (CW.region ?_))); refine LR.m1 ?_; refine LR.v1 (Y.addi rfl rfl rfl (by omega)) ?_; refine LR.a1 (LR.nil ?_); have hci : okAt l i := ⟨by rw [getD_at hil]; exact (okc_iff2 _).2 (by simp at *; omega), fun h => by obtain ⟨e1, e2⟩ := h; rw [getD_at hil] at e1; rcases e2 with e2 | e2 | e2 <;> first | omega | (rw [getD_at (by omega)] at e2; omega)⟩; refine QN.sub (hN9 (i + 1) _ ?_ ?_) ⟨rfl, (iv (by omega)), trivial⟩
         · exact ⟨(by omega), (fun q h h2 => by rcases Nat.lt_or_ge q i with h5 | h5; exact hok q h h5; (obtain rfl : q = i := by omega); exact hci), hlm1⟩
         · first | omega | (simp only; omega) | (simp; omega)
       ·
        refine LR.w1 (Y.move rfl rfl) ?_; refine LR.w1 (Y.gtr rfl rfl rfl) ?_; refine LR.w1 (Y.pick_f rfl rfl rfl) ?_; refine LR.v1 (Y.pick_t rfl rfl rfl) ?_; refine LR.m1 ?_; refine LR.splitp (d := 56) rfl (fun g56 => ?_) (fun g56 => ?_)
        ·
         refine LR.w1 (Y.move rfl rfl) ?_; refine LR.w1 (Y.neq rfl rfl rfl) ?_; refine LR.v1 (Y.pick_t rfl rfl rfl) ?_; refine LR.m1 ?_; refine LR.splitp (d := 60) rfl (fun g60 => ?_) (fun g60 => ?_)
         ·
          refine LR.w1 (Y.move rfl rfl) ?_; refine LR.w1 (Y.neq rfl rfl rfl) ?_; refine LR.v1 (Y.pick_t rfl rfl rfl) ?_; refine LR.m1 ?_; refine LR.splitp (d := 64) rfl (fun g64 => ?_) (fun g64 => ?_)
          ·
           refine LR.w1 (Y.move rfl rfl) ?_; refine LR.w1 (Y.neq rfl rfl rfl) ?_; refine LR.v1 (Y.pick_t rfl rfl rfl) ?_; refine LR.m1 ?_; refine LR.splitp (d := 68) rfl (fun g68 => ?_) (fun g68 => ?_)
           ·
            refine LR.w1 (Y.move rfl rfl) ?_; refine LR.w1 (Y.neq rfl rfl rfl) ?_; refine LR.v1 (Y.pick_t rfl rfl rfl) (LR.nil (hK25 _ _ ?_)); refine CW.condp rfl (fun c71 => ?_) (fun c71 => ?_)
            ·
             refine CW.s1 (fun hK29 => CW.region ?_); refine LR.a1 (LR.nil (hK29 _ _ ?_)); refine CW.ret (hE13 .ret nofun (by simp) _ _ (hE12 .ret nofun _ _ (hE9 .ret nofun _ _ (hE8 .ret nofun (by simp) _ _ (hE6 .ret nofun _ _ (hret .ret (.inr rfl) _ _ _ (res1 rfl rfl) ?_)))))); exact ⟨congrArg Value.bool (name_no (fun h => by have h9 := (okc_iff2 _).1 (h.2.2 i hil).1; rw [getD_at hil] at h9; simp at *; omega)).symm, hm0⟩
            ·
             refine CW.skip (hK13 _ _ (hK12 _ _ (CW.region ?_))); refine LR.m1 ?_; refine LR.v1 (Y.addi rfl rfl rfl (by omega)) ?_; refine LR.a1 (LR.nil ?_); have hci : okAt l i := ⟨by rw [getD_at hil]; exact (okc_iff2 _).2 (by simp at *; omega), fun h => by obtain ⟨e1, e2⟩ := h; rw [getD_at hil] at e1; rcases e2 with e2 | e2 | e2 <;> first | omega | (rw [getD_at (by omega)] at e2; omega)⟩; refine QN.sub (hN9 (i + 1) _ ?_ ?_) ⟨rfl, (iv (by omega)), trivial⟩
             · exact ⟨(by omega), (fun q h h2 => by rcases Nat.lt_or_ge q i with h5 | h5; exact hok q h h5; (obtain rfl : q = i := by omega); exact hci), hlm1⟩
             · first | omega | (simp only; omega) | (simp; omega)
           ·
            refine LR.g1 ?_; refine LR.g1 ?_; refine LR.v1 (Y.pick_f rfl rfl rfl) (LR.nil (hK25 _ _ ?_)); refine CW.cond_f rfl ?_; refine CW.skip (hK13 _ _ (hK12 _ _ (CW.region ?_))); refine LR.m1 ?_; refine LR.v1 (Y.addi rfl rfl rfl (by omega)) ?_; refine LR.a1 (LR.nil ?_); have hci : okAt l i := ⟨by rw [getD_at hil]; exact (okc_iff2 _).2 (by simp at *; omega), fun h => by obtain ⟨e1, e2⟩ := h; rw [getD_at hil] at e1; rcases e2 with e2 | e2 | e2 <;> first | omega | (rw [getD_at (by omega)] at e2; omega)⟩; refine QN.sub (hN9 (i + 1) _ ?_ ?_) ⟨rfl, (iv (by omega)), trivial⟩
            · exact ⟨(by omega), (fun q h h2 => by rcases Nat.lt_or_ge q i with h5 | h5; exact hok q h h5; (obtain rfl : q = i := by omega); exact hci), hlm1⟩
            · first | omega | (simp only; omega) | (simp; omega)
          ·
           refine LR.g1 ?_; refine LR.g1 ?_; refine LR.v1 (Y.pick_f rfl rfl rfl) ?_; refine LR.m1 ?_; refine LR.g1 ?_; refine LR.g1 ?_; refine LR.v1 (Y.pick_f rfl rfl rfl) (LR.nil (hK25 _ _ ?_)); refine CW.cond_f rfl ?_; refine CW.skip (hK13 _ _ (hK12 _ _ (CW.region ?_))); refine LR.m1 ?_; refine LR.v1 (Y.addi rfl rfl rfl (by omega)) ?_; refine LR.a1 (LR.nil ?_); have hci : okAt l i := ⟨by rw [getD_at hil]; exact (okc_iff2 _).2 (by simp at *; omega), fun h => by obtain ⟨e1, e2⟩ := h; rw [getD_at hil] at e1; rcases e2 with e2 | e2 | e2 <;> first | omega | (rw [getD_at (by omega)] at e2; omega)⟩; refine QN.sub (hN9 (i + 1) _ ?_ ?_) ⟨rfl, (iv (by omega)), trivial⟩
           · exact ⟨(by omega), (fun q h h2 => by rcases Nat.lt_or_ge q i with h5 | h5; exact hok q h h5; (obtain rfl : q = i := by omega); exact hci), hlm1⟩
           · first | omega | (simp only; omega) | (simp; omega)
         ·
          refine LR.g1 ?_; refine LR.g1 ?_; refine LR.v1 (Y.pick_f rfl rfl rfl) ?_; refine LR.m1 ?_; refine LR.g1 ?_; refine LR.g1 ?_; refine LR.v1 (Y.pick_f rfl rfl rfl) ?_; refine LR.m1 ?_; refine LR.g1 ?_; refine LR.g1 ?_; refine LR.v1 (Y.pick_f rfl rfl rfl) (LR.nil (hK25 _ _ ?_)); refine CW.cond_f rfl ?_; refine CW.skip (hK13 _ _ (hK12 _ _ (CW.region ?_))); refine LR.m1 ?_; refine LR.v1 (Y.addi rfl rfl rfl (by omega)) ?_; refine LR.a1 (LR.nil ?_); have hci : okAt l i := ⟨by rw [getD_at hil]; exact (okc_iff2 _).2 (by simp at *; omega), fun h => by obtain ⟨e1, e2⟩ := h; rw [getD_at hil] at e1; rcases e2 with e2 | e2 | e2 <;> first | omega | (rw [getD_at (by omega)] at e2; omega)⟩; refine QN.sub (hN9 (i + 1) _ ?_ ?_) ⟨rfl, (iv (by omega)), trivial⟩
          · exact ⟨(by omega), (fun q h h2 => by rcases Nat.lt_or_ge q i with h5 | h5; exact hok q h h5; (obtain rfl : q = i := by omega); exact hci), hlm1⟩
          · first | omega | (simp only; omega) | (simp; omega)
        ·
         refine LR.g1 ?_; refine LR.g1 ?_; refine LR.v1 (Y.pick_f rfl rfl rfl) ?_; refine LR.m1 ?_; refine LR.g1 ?_; refine LR.g1 ?_; refine LR.v1 (Y.pick_f rfl rfl rfl) ?_; refine LR.m1 ?_; refine LR.g1 ?_; refine LR.g1 ?_; refine LR.v1 (Y.pick_f rfl rfl rfl) ?_; refine LR.m1 ?_; refine LR.g1 ?_; refine LR.g1 ?_; refine LR.v1 (Y.pick_f rfl rfl rfl) (LR.nil (hK25 _ _ ?_)); refine CW.cond_f rfl ?_; refine CW.skip (hK13 _ _ (hK12 _ _ (CW.region ?_))); refine LR.m1 ?_; refine LR.v1 (Y.addi rfl rfl rfl (by omega)) ?_; refine LR.a1 (LR.nil ?_); have hci : okAt l i := ⟨by rw [getD_at hil]; exact (okc_iff2 _).2 (by simp at *; omega), fun h => by obtain ⟨e1, e2⟩ := h; rw [getD_at hil] at e1; rcases e2 with e2 | e2 | e2 <;> first | omega | (rw [getD_at (by omega)] at e2; omega)⟩; refine QN.sub (hN9 (i + 1) _ ?_ ?_) ⟨rfl, (iv (by omega)), trivial⟩
         · exact ⟨(by omega), (fun q h h2 => by rcases Nat.lt_or_ge q i with h5 | h5; exact hok q h h5; (obtain rfl : q = i := by omega); exact hci), hlm1⟩
         · first | omega | (simp only; omega) | (simp; omega)
      ·
       refine LR.g1 ?_; refine LR.g1 ?_; refine LR.g1 ?_; refine LR.gsu rfl rfl rfl rfl rfl ?_; refine LR.gsu rfl rfl rfl rfl rfl ?_; refine LR.g1 ?_; refine LR.v1 (Y.pick_f rfl rfl rfl) ?_; refine LR.m1 ?_; refine LR.g1 ?_; refine LR.g1 ?_; refine LR.v1 (Y.pick_f rfl rfl rfl) ?_; refine LR.m1 ?_; refine LR.g1 ?_; refine LR.g1 ?_; refine LR.v1 (Y.pick_f rfl rfl rfl) ?_; refine LR.m1 ?_; refine LR.g1 ?_; refine LR.g1 ?_; refine LR.v1 (Y.pick_f rfl rfl rfl) ?_; refine LR.m1 ?_; refine LR.g1 ?_; refine LR.g1 ?_; refine LR.v1 (Y.pick_f rfl rfl rfl) (LR.nil (hK25 _ _ ?_)); refine CW.cond_f rfl ?_; refine CW.skip (hK13 _ _ (hK12 _ _ (CW.region ?_))); refine LR.m1 ?_; refine LR.v1 (Y.addi rfl rfl rfl (by omega)) ?_; refine LR.a1 (LR.nil ?_); have hci : okAt l i := ⟨by rw [getD_at hil]; exact (okc_iff2 _).2 (by simp at *; omega), fun h => by obtain ⟨e1, e2⟩ := h; rw [getD_at hil] at e1; rcases e2 with e2 | e2 | e2 <;> first | omega | (rw [getD_at (by omega)] at e2; omega)⟩; refine QN.sub (hN9 (i + 1) _ ?_ ?_) ⟨rfl, (iv (by omega)), trivial⟩
       · exact ⟨(by omega), (fun q h h2 => by rcases Nat.lt_or_ge q i with h5 | h5; exact hok q h h5; (obtain rfl : q = i := by omega); exact hci), hlm1⟩
       · first | omega | (simp only; omega) | (simp; omega)
   ·
    refine CW.exit (hE10 (.exit 0) nofun _ _ (hE9 (.exit 0) nofun _ _ (hX8 _ _ ?_))); refine hK6 _ _ (CW.s1 (fun hK30 => CW.region ?_)); refine LR.a1 (LR.nil (hK30 _ _ ?_)); refine CW.ret (hret .ret (.inr rfl) _ _ _ (res1 rfl rfl) ?_); obtain rfl : i = l.length := by omega
    exact ⟨congrArg Value.bool ((name_iff2 l).2 ⟨by omega, by omega, fun q h => hok q h h⟩).symm, hm0⟩
theorem rdir_ct (l : List UInt8) (w0 : World) (H0 : Heap)
 (hl : l.length ≤ 4294967280) :
 Ct Tryz.prog w0 53 #[Str l] H0 (fun r H2 => r = Str (dirP l) ∧ Nw H0 H2) := by
 refine Ct.enter (args := [Str l]) Tryz.func53 rfl rfl rfl ?_; intro Q0 hret; have hm0 : Nw H0 H0 := Mo.refl _ _; refine CW.s1 (fun hK1 => CW.region ?_); refine LR.a1 (LR.nil (hK1 _ _ ?_)); refine CW.s2 (fun hK2 hE2 => CW.s1 (fun hK3 => CW.region ?_)); refine LR.m1 ?_; refine LR.call rfl c'49 rfl (Wd.u rfl) rfl rfl (rname_ct l w0 _ hl) ?_; rintro v5 H5 ⟨rfl, hs5⟩; replace hm0 := hm0.tr hs5; have hz1 := hs5.size; refine LR.v1 (Y.not rfl rfl) (LR.nil (hK3 _ _ ?_)); refine CW.cond rfl (fun c6 => ?_) (fun c6 => ?_)
 ·
  refine CW.s1 (fun hK4 => CW.region ?_); refine LR.a1 (LR.nil (hK4 _ _ ?_)); refine CW.ret (hE2 .ret nofun _ _ (hret .ret (.inr rfl) _ _ _ (res1 rfl rfl) ?_)); exact ⟨by rw [dirP, if_neg (by simpa using c6)]; rfl, hm0⟩
 ·
  refine CW.skip (hK2 _ _ (CW.s2 (fun hK5 hE5 => CW.s1 (fun hK6 => CW.region ?_)))); refine LR.m1 ?_; refine LR.v1 (Y.slen rfl u'9 rfl) ?_; refine LR.v1 (Y.cast (v2 := .int .i64 ((l.length : Nat) - 1 : Int)) (Y.subi rfl rfl rfl (by omega)) (rfl)) ?_; refine LR.a1 (LR.nil (hK6 _ _ ?_)); refine CW.block (fun _ _ hX7 hE7 => ?_)
  refine CW.loop (fun (k : (Nat)) => [(0, Str l), (3, .int .i64 ((k : Int) - 1))])
   (fun (k : (Nat)) (H : Heap) => (k ≤ l.length) ∧ (∀ q, q < l.length → k ≤ q → (l.getD q 0).toNat ≠ 47) ∧ Nw H5 H)
   (fun (k : (Nat)) => k) l.length ⟨rfl, rfl, trivial⟩ ?_ ?_
  ·
   exact ⟨(by omega), fun q h h2 => absurd h2 (by omega), Mo.refl _ _⟩
  intro k HL1 hI1 K8 hN8 hE8; obtain ⟨hk, hno, hlm1⟩ := hI1; replace hm0 := hm0.tr hlm1; have hz2 := hlm1.size; refine CW.s2 (fun hK9 hE9 => CW.s1 (fun hK10 => CW.region ?_)); refine LR.m1 ?_; refine LR.v1 (Y.geq rfl rfl rfl) (LR.nil (hK10 _ _ ?_)); refine CW.condp rfl (fun c11 => ?_) (fun c11 => ?_)
  ·
   have hkl : k - 1 < l.length := by omega
   refine CW.skip (hK9 _ _ (CW.s2 (fun hK11 hE11 => CW.block (fun _ hK12 _ hE12 => CW.s1 (fun hK13 => CW.region ?_))))); refine LR.m1 ?_; refine LR.m1 ?_; refine LR.v1 (Y.sindex (k - 1) rfl u'9 rfl rfl (by first | rfl | omega) (by omega)) ?_; refine LR.v1 (Y.eql rfl rfl rfl) (LR.nil (hK13 _ _ ?_)); refine CW.condp rfl (fun c17 => ?_) (fun c17 => ?_)
   ·
    refine CW.s1 (fun hK14 => CW.region ?_); refine LR.m1 ?_; refine LR.m1 ?_; refine LR.v1 (Y.sslice (0) (k - 1) rfl u'9 rfl (.inl ⟨rfl, rfl⟩) (.inr ⟨_, _, _, rfl, rfl, (by omega)⟩) (by omega) (by omega)) ?_; refine LR.a1 (LR.nil (hK14 _ _ ?_)); refine CW.ret (hE12 .ret nofun (by simp) _ _ (hE11 .ret nofun _ _ (hE8 .ret nofun _ _ (hE7 .ret nofun (by simp) _ _ (hE5 .ret nofun _ _ (hret .ret (.inr rfl) _ _ _ (res1 rfl rfl) ?_)))))); exact ⟨by rw [dirP, if_pos (by simpa using c6), head_at hkl (nat47.1 (by omega)) (fun q h h2 => hno q h (by omega))]; simp, hm0⟩
   ·
    refine CW.skip (hK12 _ _ (hK11 _ _ (CW.region ?_))); refine LR.m1 ?_; refine LR.v1 (Y.subi rfl rfl rfl (by omega)) ?_; refine LR.a1 (LR.nil ?_); refine QN.sub (hN8 (k - 1) _ ?_ ?_) ⟨rfl, (iv (by omega)), trivial⟩
    · exact ⟨(by omega), fun q h h2 => by
       by_cases h3 : k ≤ q
       · exact hno q h h3
       · obtain rfl : q = k - 1 := by omega
         rw [getD_at hkl]; omega, hlm1⟩
    · first | omega | (simp only; omega) | (simp; omega)
  ·
   refine CW.exit (hE9 (.exit 0) nofun _ _ (hE8 (.exit 0) nofun _ _ (hX7 _ _ ?_))); refine hK5 _ _ (CW.s1 (fun hK15 => CW.region ?_)); refine LR.a1 (LR.nil (hK15 _ _ ?_)); refine CW.ret (hret .ret (.inr rfl) _ _ _ (res1 rfl rfl) ?_); exact ⟨by rw [dirP, if_pos (by simpa using c6), head_no (fun q h => hno q h (by omega))]; rfl, hm0⟩
end Go.Proofs.YtfbfjhppppoilaaGreatDoor.SimX

namespace Go.Proofs.YtfbfjhppppoilaaGreatDoor.DskA
open E Go.RowKit SimA SimB SimC SimD SimE SimF SimG SimH SimI SimJ SimK SimL SimM SimN SimP SimQ SimR
set_option maxRecDepth 20000
abbrev fL (fb : List Nat) (x : Pth × Nat) : List Value := [Str x.1, fvl fb x.2]
theorem fL_len (fb : List Nat) (x : Pth × Nat) : (fL fb x).length = 2 := rfl
theorem fL_one (fb : List Nat) (x : Pth × Nat) : ∀ u ∈ fL fb x, u.oneCell' = true := by
 intro u hu; simp only [List.mem_cons, List.not_mem_nil, or_false] at hu; rcases hu with rfl | rfl <;> rfl
abbrev fSv (s : SV) : List Value := [s.v]
theorem fSv_len (s : SV) : (fSv s).length = 1 := rfl
theorem fSv_one (s : SV) : ∀ u ∈ fSv s, u.oneCell' = true := by intro u hu; simp only [List.mem_singleton] at hu; subst hu; rfl
abbrev fDp (x : Pth × Nat) : List Value := [ptr x.2]
theorem fDp_len (x : Pth × Nat) : (fDp x).length = 1 := rfl
theorem fDp_one (x : Pth × Nat) : ∀ u ∈ fDp x, u.oneCell' = true := by intro u hu; simp only [List.mem_singleton] at hu; subst hu; rfl
abbrev fPu (y : Wx) : List Value := [.bool (!y.1.b), y.2.v]
theorem fPu_len (y : Wx) : (fPu y).length = 2 := rfl
theorem fPu_one (y : Wx) : ∀ u ∈ fPu y, u.oneCell' = true := by
 intro u hu; simp only [List.mem_cons, List.not_mem_nil, or_false] at hu; rcases hu with rfl | rfl <;> rfl
theorem rd_congr {α : Type} {F : Nat → Prop} {H : Heap} {f g : α → List Value} {sz : Nat} {v : Value} {l : List α} (h : Rd F H f sz v l) (hfg : ∀ x ∈ l, f x = g x) : Rd F H g sz v l := by
 obtain ⟨a, cap, h1, h2, h3, h4⟩ := h.ex; refine ⟨⟨a, cap, h1, h2, h3, fun hl => ?_⟩⟩; obtain ⟨ad, e1, e2, e3, e4, e5⟩ := h4 hl; exact ⟨ad, e1, e2, e3, e4, fun i x hx => by rw [← hfg x (List.mem_of_getElem? hx)]; exact e5 i x hx⟩
abbrev dnl (l : Nms) (p : Pth) : Nms := l.filter (fun x => decide (dirP x.1 = p))
theorem mget_dnl (l : Nms) (p q : Pth) : mget (dnl l p) q = if dirP q = p then mget l q else none := by
 rw [mget_filter (f := fun p' => decide (dirP p' = p))]; by_cases h : dirP q = p <;> simp [h]
theorem dnl_asc {l : Nms} (h : Asc l) (p : Pth) : Asc (dnl l p) := h.filter _
theorem dnl_ext {a b : Nms} {p : Pth} (ha : Asc a) (hb : Asc b) (h : ∀ q, dirP q = p → mget a q = mget b q) : dnl a p = dnl b p := by
 refine asc_ext (dnl_asc ha p) (dnl_asc hb p) (fun q => ?_); rw [mget_dnl, mget_dnl]; by_cases e : dirP q = p
 · rw [if_pos e, if_pos e, h q e]
 · rw [if_neg e, if_neg e]
theorem dnl_nil {l : Nms} (h : Asc l) {p : Pth} (hn : ∀ q, dirP q = p → mget l q = none) : dnl l p = [] := by
 refine asc_ext (dnl_asc h p) List.Pairwise.nil (fun q => ?_); rw [mget_dnl]; by_cases e : dirP q = p
 · rw [if_pos e, hn q e]; rfl
 · rw [if_neg e]; rfl
def Cin (c : Chg) (p : Pth) : Prop := (∀ i, c.f = some i → dirP c.n = p) ∧ (c.g ≠ [] → dirP c.g = p)
theorem dnl_ap {l : Nms} (h : Asc l) {c : Chg} {p : Pth} (hc : Cin c p) : dnl (c.ap l) p = c.ap (dnl l p) := by
 refine asc_ext (dnl_asc (asc_ap h c) p) (asc_ap (dnl_asc h p) c) (fun q => ?_); rw [mget_dnl, mget_ap, mget_ap, mget_dnl]; by_cases e : dirP q = p
 · rw [if_pos e, if_pos e]
 · rw [if_neg e, if_neg e, at_out hc.1 hc.2 e]
theorem dnl_apl {p : Pth} : ∀ (cs : List Chg) {l : Nms}, Asc l → (∀ c ∈ cs, Cin c p) → dnl (apl cs l) p = apl cs (dnl l p)
 | [], _, _, _ => rfl
 | c :: cs, l, h, hc => by
   show dnl (apl cs (c.ap l)) p = apl cs (c.ap (dnl l p)); rw [dnl_apl cs (asc_ap h c) (fun d hd => hc d (List.mem_cons_of_mem _ hd)), dnl_ap h (hc c List.mem_cons_self)]
theorem dnl_merge {now stays : Nms} (h : Asc now) (hs : Asc stays) (n : Pth) : dnl (merge now stays n) n = dnl now n :=
 dnl_ext (asc_merge hs n) h (fun q hq => by rw [mget_merge h, if_pos hq])
theorem cin_of {D : Dk} (hld : ∀ c ∈ D.log, ∀ i, c.f = some i → dirP c.n = c.dir) {p : Pth} {c : Chg} (h : c ∈ D.chgs p) : Cin c p := by
 have := chgs_mem h; exact ⟨fun i hi => by rw [hld c this.1 i hi]; exact this.2, fun hg => by rw [dir_g hg]; exact this.2⟩
theorem mem_nms {l : Nms} (h : Asc l) {x : Pth × Nat} (hx : x ∈ l) : mget l x.1 = some x.2 := mget_of_mem h.nodup (show (x.1, x.2) ∈ l from hx)
section
variable {ρ ρ' : Nat → Role} {fb : List Nat} {H H' : Heap} {D D' : Dk} {p : Pth} {db k i b : Nat} {sv nv bv wv : SV} {bl : List SV} {x : Fdt} {l : List Wx} {S : Nat → Prop}
structure RDir (ρ : Nat → Role) (fb : List Nat) (H : Heap) (D : Dk) (p : Pth) (db : Nat) (nv sv bv : SV) (k : Nat) (bl : List SV) : Prop where
 rd : ρ db = .dir p
 vd : Var 72 H db [Str p, nv.v, sv.v, bv.v]
 hn : Rd (fun c => ρ c = .frz) H (fL fb) 2 nv.v (dnl D.now p)
 hs : Rd (fun c => ρ c = .frz) H (fL fb) 2 sv.v (dnl D.stays p)
 hc : Ow k 69 H fSv 1 bv.v bl
 bn : bl.length = (D.chgs p).length
 hb : ∀ j (h : j < bl.length), Rd (fun c => ρ c = .frz) H (fL fb) 2 bl[j].v (apl ((D.chgs p).take (j + 1)) (dnl D.stays p))
 na : dnl D.now p = apl (D.chgs p) (dnl D.stays p)
 rc : ∀ c, c + 1 = k → ρ c = .chg p
structure RFil (ρ : Nat → Role) (H : Heap) (i b : Nat) (x : Fdt) (nv sv wv : SV) (k : Nat) (l : List Wx) : Prop where
 rf : ρ b = .fil i
 vf : Var 116 H b [nv.v, sv.v, wv.v]
 hn : Rd (fun c => ρ c = .frz) H fB 1 nv.v x.now
 hs : Rd (fun c => ρ c = .frz) H fB 1 sv.v x.stays
 hw : Ow k 137 H fPu 2 wv.v l
 lw : l.map (·.1) = x.w
 hd : ∀ y ∈ l, Rd (fun c => ρ c = .frz) H fB 1 y.2.v y.1.d
 rk : ∀ c, c + 1 = k → ρ c = .wrs i
theorem RDir.tr (h : RDir ρ fb H D p db nv sv bv k bl) (hx : Ext ρ ρ') (s : Mo S H H') (hS : ∀ c, S c → ρ c ≠ .dir p ∧ ρ c ≠ .chg p ∧ ρ c ≠ .frz)
 (hn : dnl D'.now p = dnl D.now p) (hs : dnl D'.stays p = dnl D.stays p) (hc : D'.chgs p = D.chgs p) : RDir ρ' fb H' D' p db nv sv bv k bl where
 rd := hx.of h.rd (by simp)
 vd := h.vd.up s (fun e => (hS _ e).1 h.rd)
 hn := by rw [hn]; exact rd_frz h.hn hx s (fun c e => (hS c e).2.2)
 hs := by rw [hs]; exact rd_frz h.hs hx s (fun c e => (hS c e).2.2)
 hc := h.hc.up s (fun b _ e hb => (hS b hb).2.1 (h.rc b e))
 bn := by rw [hc]; exact h.bn
 hb := fun j hj => by rw [hc, hs]; exact rd_frz (h.hb j hj) hx s (fun c e => (hS c e).2.2)
 na := by rw [hn, hs, hc]; exact h.na
 rc := fun c e => hx.of (h.rc c e) (by simp)
theorem RFil.tr (h : RFil ρ H i b x nv sv wv k l) (hx : Ext ρ ρ') (s : Mo S H H') (hS : ∀ c, S c → ρ c ≠ .fil i ∧ ρ c ≠ .wrs i ∧ ρ c ≠ .frz) : RFil ρ' H' i b x nv sv wv k l where
 rf := hx.of h.rf (by simp)
 vf := h.vf.up s (fun e => (hS _ e).1 h.rf)
 hn := rd_frz h.hn hx s (fun c e => (hS c e).2.2)
 hs := rd_frz h.hs hx s (fun c e => (hS c e).2.2)
 hw := h.hw.up s (fun b _ e hb => (hS b hb).2.1 (h.rk b e))
 lw := h.lw
 hd := fun y hy => rd_frz (h.hd y hy) hx s (fun c e => (hS c e).2.2)
 rk := fun c e => hx.of (h.rk c e) (by simp)
structure Rg where
 ρ : Nat → Role
 fb : List Nat
 dm : Nms
 dv : SV
structure RDk (K : List Nat) (g : Rg) (H : Heap) (b : Nat) (D : Dk) : Prop where
 hK : ∀ c, c + 1 ∈ K ↔ g.ρ c ≠ .out
 lt : ∀ c, g.ρ c ≠ .out → c < H.size
 rb : g.ρ b = .fs
 vb : Var 53 H b [.int .i64 D.cap, .int .i64 D.most, g.dv.v, .int .i64 D.ops, .int .i64 D.left, .bool D.dead]
 lvB : D.left ≤ 9223372036854775807
 capB : D.cap ≤ 9223372036854775807
 mostB : D.most ≤ 9223372036854775807
 hd : Rd (fun c => g.ρ c = .frz) H fDp 1 g.dv.v g.dm
 asc : Asc g.dm
 nms : ∀ x ∈ g.dm, x.1.length ≤ 4294967280
 dirs : ∀ p db, mget g.dm p = some db → ∃ nv sv bv k bl, RDir g.ρ g.fb H D p db nv sv bv k bl
 abs : ∀ p, mget g.dm p = none → (∀ q, dirP q = p → mget D.now q = none ∧ mget D.stays q = none) ∧ D.chgs p = []
 len : g.fb.length = D.fs.length
 fil : ∀ i, i < D.fs.length → ∃ nv sv wv k l, RFil g.ρ H i (g.fb.getD i 0) (fget D.fs i) nv sv wv k l
 ids : (∀ p i, mget D.now p = some i → i < D.fs.length) ∧ (∀ p i, mget D.stays p = some i → i < D.fs.length) ∧ (∀ c ∈ D.log, ∀ i, c.f = some i → i < D.fs.length)
variable {K K' : List Nat} {g : Rg} {ks : List Nat}
theorem RDk.bk (h : RDk K g H b D) : BK K H.size := fun k hk => by
 rcases Nat.eq_zero_or_pos k with e | this
 · omega
 · have h2 := h.lt (k - 1) ((h.hK (k - 1)).1 (by rw [Nat.sub_add_cancel this]; exact hk))
   omega
theorem RDk.up (h : RDk K g H b D) (s : Mo S H H') (hS : ∀ c, S c → g.ρ c = .out) : RDk K g H' b D :=
 { h with
   lt := fun c e => Nat.lt_of_lt_of_le (h.lt c e) s.size
   vb := h.vb.up s (fun e => by have := hS _ e; rw [h.rb] at this; cases this)
   hd := rd_frz h.hd (Ext.refl _) s (fun c e => by rw [hS c e]; simp)
   dirs := fun p db e => by
    obtain ⟨nv, sv, bv, k, bl, hd⟩ := h.dirs p db e; exact ⟨nv, sv, bv, k, bl, hd.tr (Ext.refl _) s (fun c hc => by rw [hS c hc]; simp) rfl rfl rfl⟩
   fil := fun i hi => by
    obtain ⟨nv, sv, wv, k, l, hf⟩ := h.fil i hi; exact ⟨nv, sv, wv, k, l, hf.tr (Ext.refl _) s (fun c hc => by rw [hS c hc]; simp)⟩ }
theorem RDk.nw (h : RDk K g H b D) (s : Nw H H') : RDk K g H' b D := h.up s (fun c e => e.elim)
theorem RDk.role (h : RDk K g H b D) {c : Nat} (hc : c + 1 ∉ K) : g.ρ c = .out := Classical.byContradiction (fun e => hc ((h.hK c).2 e))
theorem RDk.upL (h : RDk K g H b D) (s : Mo (Ms ks) H H') (d : DKL K ks) : RDk K g H' b D := h.up s (fun c e => h.role (fun hk => d (c + 1) hk (c + 1) e c rfl rfl))
theorem RDk.mem (h : RDk K g H b D) {c : Nat} {r : Role} (e : g.ρ c = r) (hr : r ≠ .out) : c + 1 ∈ K := (h.hK c).2 (by rw [e]; exact hr)
theorem RDk.km {r : Role} (h : RDk K g H b D) (hk : ∀ c, c + 1 = k → g.ρ c = r) (hr : r ≠ .out) : KM K k := fun c e => h.mem (hk c e) hr
theorem RDk.km1 {c : Nat} {r : Role} (h : RDk K g H b D) (e : g.ρ c = r) (hr : r ≠ .out) : KM K (c + 1) := KM.of (h.mem e hr)
theorem RDk.ms (h : RDk K g H b D) (s : Mo S H H') (hS : ∀ c, S c → g.ρ c ≠ .out) : Mo (Ms K) H H' := s.weaken (fun c _ e => (h.hK c).2 (hS c e))
theorem RDk.newk (h : RDk K g H b D) (hk : DL k K) : ∀ c, c + 1 = k → g.ρ c = .out := fun c e => h.role (fun hm => hk (c + 1) hm c e rfl)
theorem RDk.nxk {k2 : Nat} (h : RDk K g H b D) (hk : Nx k H.size k2) {r : Role} (hr : ∀ c, c + 1 = k → g.ρ c = r) : ∀ c, c + 1 = k2 → g.ρ c = .out ∨ g.ρ c = r := fun c e => by
 rcases hk with e2 | e2 | e2
 · omega
 · exact .inr (hr c (by omega))
 · exact .inl (Classical.byContradiction (fun hq => by have := h.lt c hq; omega))
theorem RDk.bfz (h : RDk K g H b D) : BF (fun c => g.ρ c = .frz) H.size := fun c e => h.lt c (by rw [e]; simp)
theorem RDk.fz {α : Type} {e : TypeId} {f : α → List Value} {sz : Nat} {v : Value} {m : List α} (h : RDk K g H b D) (hl : Ow k e H f sz v m) (hk : DL k K) : RDk (k :: K) { g with ρ := uprk g.ρ k .frz } H b D := by
 have hx : Ext g.ρ (uprk g.ρ k .frz) := Ext.uprk (fun c e => .inl (h.newk hk c e)); have s : Mo (fun _ => False) H H := Mo.refl _ _
 exact { h with
  hK := hK_uprk h.hK (by simp), lt := lt_uprk h.lt (Nat.le_refl _) hl.le, rb := hx.of h.rb (by simp)
  hd := rd_frz h.hd hx s (fun c e => e.elim)
  dirs := fun p db e => by
   obtain ⟨nv, sv, bv, k, bl, hd⟩ := h.dirs p db e; exact ⟨nv, sv, bv, k, bl, hd.tr hx s (fun c hc => hc.elim) rfl rfl rfl⟩
  fil := fun i hi => by
   obtain ⟨nv, sv, wv, k, l, hf⟩ := h.fil i hi; exact ⟨nv, sv, wv, k, l, hf.tr hx s (fun c hc => hc.elim)⟩ }
theorem ow_frz {α : Type} {e : TypeId} {f : α → List Value} {sz : Nat} {v : Value} {m : List α} (hl : Ow k e H f sz v m) : Rd (fun c => uprk ρ k .frz c = .frz) H f sz v m := hl.rd.imp (fun c _ e => uprk_self e)
theorem RDk.setFs (h : RDk K g H b D) (s : Mo (Ms [b + 1]) H H')
 (hv : Var 53 H' b [.int .i64 D.cap, .int .i64 D.most, g.dv.v, .int .i64 D'.ops, .int .i64 D'.left, .bool D'.dead]) (hlb : D'.left ≤ 9223372036854775807)
 (hD : D'.cap = D.cap ∧ D'.most = D.most ∧ D'.fs = D.fs ∧ D'.now = D.now ∧ D'.stays = D.stays ∧ D'.log = D.log) : RDk K g H' b D' := by
 obtain ⟨cap, most, fs, now, stays, log, ops, left, dead⟩ := D'; obtain ⟨rfl, rfl, rfl, rfl, rfl, rfl⟩ := hD
 have hS : ∀ c, Ms [b + 1] c → g.ρ c = .fs := fun c e => by
  have : c = b := by simpa [Ms] using e
  rw [this]; exact h.rb
 exact { h with
  lt := fun c e => Nat.lt_of_lt_of_le (h.lt c e) s.size, vb := hv, lvB := hlb
  hd := rd_frz h.hd (Ext.refl _) s (fun c e => by rw [hS c e]; simp)
  dirs := fun p db e => by
   obtain ⟨nv, sv, bv, k, bl, hd⟩ := h.dirs p db e; exact ⟨nv, sv, bv, k, bl, hd.tr (Ext.refl _) s (fun c hc => by rw [hS c hc]; simp) rfl rfl rfl⟩
  fil := fun i hi => by
   obtain ⟨nv, sv, wv, k, l, hf⟩ := h.fil i hi; exact ⟨nv, sv, wv, k, l, hf.tr (Ext.refl _) s (fun c hc => by rw [hS c hc]; simp)⟩ }
theorem RDk.setDir (h : RDk K g H b D) (s : Mo S H H') (hS : ∀ c, S c → g.ρ c = .dir p ∨ g.ρ c = .chg p ∨ g.ρ c = .out) (hx : Ext g.ρ ρ') (hK : ∀ c, c + 1 ∈ K' ↔ ρ' c ≠ .out) (lt : ∀ c, ρ' c ≠ .out → c < H'.size)
 (hp : mget g.dm p = some db) (hd : ∃ nv sv bv k bl, RDir ρ' g.fb H' D' p db nv sv bv k bl)
 (hD : D'.cap = D.cap ∧ D'.most = D.most ∧ D'.fs = D.fs ∧ D'.ops = D.ops ∧ D'.left = D.left ∧ D'.dead = D.dead)
 (hA : Asc D.now ∧ Asc D.stays ∧ Asc D'.now ∧ Asc D'.stays)
 (hn : ∀ q, dirP q ≠ p → mget D'.now q = mget D.now q) (hs : ∀ q, dirP q ≠ p → mget D'.stays q = mget D.stays q) (hc : ∀ n, n ≠ p → D'.chgs n = D.chgs n)
 (ids : (∀ p i, mget D'.now p = some i → i < D'.fs.length) ∧ (∀ p i, mget D'.stays p = some i → i < D'.fs.length) ∧ (∀ c ∈ D'.log, ∀ i, c.f = some i → i < D'.fs.length)) : RDk K' { g with ρ := ρ' } H' b D' := by
 obtain ⟨cap, most, fs, now, stays, log, ops, left, dead⟩ := D'; obtain ⟨rfl, rfl, rfl, rfl, rfl, rfl⟩ := hD
 exact {
  hK := hK, lt := lt, rb := hx.of h.rb (by simp)
  vb := h.vb.up s (fun e => by have := hS _ e; rw [h.rb] at this; simp at this)
  lvB := h.lvB, capB := h.capB, mostB := h.mostB
  hd := rd_frz h.hd hx s (fun c e => by rcases hS c e with e | e | e <;> (rw [e]; simp))
  asc := h.asc
  nms := h.nms
  dirs := fun q db2 e => by
   by_cases hq : q = p
   · subst hq
     have : db2 = db := Option.some.inj (e.symm.trans hp); subst this; exact hd
   · obtain ⟨nv, sv, bv, k, bl, hd⟩ := h.dirs q db2 e
     refine ⟨nv, sv, bv, k, bl, hd.tr hx s (fun c hc => ?_) (dnl_ext hA.2.2.1 hA.1 (fun r hr => hn r (by rw [hr]; exact hq))) (dnl_ext hA.2.2.2 hA.2.1 (fun r hr => hs r (by rw [hr]; exact hq))) (hc q hq)⟩; rcases hS c hc with e | e | e <;> (rw [e]; simp [Ne.symm hq])
  abs := fun q e => by
   have hq : q ≠ p := fun e2 => by subst e2; rw [hp] at e; cases e
   obtain ⟨h1, h2⟩ := h.abs q e; exact ⟨fun r hr => by rw [hn r (by rw [hr]; exact hq), hs r (by rw [hr]; exact hq)]; exact h1 r hr, by rw [hc q hq]; exact h2⟩
  len := h.len
  fil := fun i hi => by
   obtain ⟨nv, sv, wv, k, l, hf⟩ := h.fil i hi; refine ⟨nv, sv, wv, k, l, hf.tr hx s (fun c hc => ?_)⟩; rcases hS c hc with e | e | e <;> (rw [e]; simp)
  ids := ids }
theorem RDk.setFil {y : Fdt} (h : RDk K g H b D) (hi : i < D.fs.length) (s : Mo S H H') (hS : ∀ c, S c → g.ρ c = .fil i ∨ g.ρ c = .wrs i ∨ g.ρ c = .out) (hx : Ext g.ρ ρ') (hK : ∀ c, c + 1 ∈ K' ↔ ρ' c ≠ .out) (lt : ∀ c, ρ' c ≠ .out → c < H'.size)
 (hf : ∃ nv sv wv k l, RFil ρ' H' i (g.fb.getD i 0) y nv sv wv k l) : RDk K' { g with ρ := ρ' } H' b (D.putF i y) := by
 have hfl : (D.putF i y).fs.length = D.fs.length := by simp [Dk.putF]
 exact {
  hK := hK, lt := lt, rb := hx.of h.rb (by simp)
  vb := h.vb.up s (fun e => by have := hS _ e; rw [h.rb] at this; simp at this)
  lvB := h.lvB, capB := h.capB, mostB := h.mostB
  hd := rd_frz h.hd hx s (fun c e => by rcases hS c e with e | e | e <;> (rw [e]; simp))
  asc := h.asc
  nms := h.nms
  dirs := fun q db2 e => by
   obtain ⟨nv, sv, bv, k, bl, hd⟩ := h.dirs q db2 e; refine ⟨nv, sv, bv, k, bl, hd.tr hx s (fun c hc => ?_) rfl rfl rfl⟩; rcases hS c hc with e | e | e <;> (rw [e]; simp)
  abs := h.abs, len := by rw [hfl]; exact h.len
  fil := fun j hj => by
   rw [hfl] at hj; by_cases hji : j = i
   · subst hji
     have e : fget (D.putF j y).fs j = y := by simp [fget, Dk.putF, List.getD, hj]
     rw [e]; exact hf
   · have e : fget (D.putF i y).fs j = fget D.fs j := by simp [fget, Dk.putF, List.getD, List.getElem?_set, Ne.symm hji]
     rw [e]; obtain ⟨nv, sv, wv, k, l, hf⟩ := h.fil j hj; refine ⟨nv, sv, wv, k, l, hf.tr hx s (fun c hc => ?_)⟩; rcases hS c hc with e | e | e <;> (rw [e]; simp [Ne.symm hji])
  ids := by rw [hfl]; exact h.ids }
theorem apl_lt {m : Nat} {cs : List Chg} {l : Nms} (hA : Asc l) (h1 : ∀ p i, mget l p = some i → i < m) (h2 : ∀ c ∈ cs, ∀ i, c.f = some i → i < m) : ∀ x ∈ apl cs l, x.2 < m := fun x hx =>
 apl_ids cs l h1 h2 x.1 x.2 (mem_nms (asc_apl hA cs) hx)
theorem RDk.newFil {x : Nat} (h : RDk K g H b D) (hA : Asc D.now) (hB : Asc D.stays) (hv : Var 116 H x [.slice none 0 0, .slice none 0 0, .slice none 0 0]) (hx : DL (x + 1) K) :
 RDk ((x + 1) :: K) { g with ρ := upr g.ρ x (.fil D.fs.length), fb := g.fb ++ [x] } H b { D with fs := D.fs ++ [⟨[], [], []⟩] } := by
 have ho : g.ρ x = .out := h.role (fun hk => hx (x + 1) hk x rfl rfl); have he : Ext g.ρ (upr g.ρ x (.fil D.fs.length)) := Ext.upr ho; have hg : ∀ i, i < D.fs.length → (g.fb ++ [x]).getD i 0 = g.fb.getD i 0 := fun i hi => by simp [List.getD, List.getElem?_append_left (show i < g.fb.length by rw [h.len]; exact hi)]
 have s : Mo (fun _ => False) H H := Mo.refl _ _; have hfl : ∀ y : Pth × Nat, y.2 < D.fs.length → fL g.fb y = fL (g.fb ++ [x]) y := fun y hy => by show [_, fvl _ _] = [_, fvl _ _]; rw [fvl, fvl, hg _ hy]
 exact {
  hK := hK_upr h.hK (by simp), lt := lt_upr h.lt (Nat.le_refl _) hv.lt, rb := he.of h.rb (by simp), vb := h.vb
  lvB := h.lvB, capB := h.capB, mostB := h.mostB, hd := rd_frz h.hd he s (fun c e => e.elim), asc := h.asc, nms := h.nms
  dirs := fun q db2 e => by
   obtain ⟨nv, sv, bv, k, bl, hd⟩ := h.dirs q db2 e; have hd2 := hd.tr (D' := D) he s (fun c hc => hc.elim) rfl rfl rfl; refine ⟨nv, sv, bv, k, bl, { hd2 with hn := rd_congr hd2.hn (fun y hy => hfl y ?_), hs := rd_congr hd2.hs (fun y hy => hfl y ?_), hb := fun j hj => rd_congr (hd2.hb j hj) (fun y hy => hfl y ?_) }⟩
   · exact h.ids.1 y.1 y.2 (mem_nms hA (List.mem_filter.1 hy).1)
   · exact h.ids.2.1 y.1 y.2 (mem_nms hB (List.mem_filter.1 hy).1)
   · refine apl_lt (dnl_asc hB q) (fun p i e => h.ids.2.1 p i ?_) (fun c hc => h.ids.2.2 c (chgs_mem (List.mem_of_mem_take hc)).1) y hy
     rw [mget_dnl] at e; split at e
     · exact e
     · cases e
  abs := h.abs
  len := by simp [h.len]
  fil := fun j hj => by
   by_cases hj2 : j < D.fs.length
   · obtain ⟨nv, sv, wv, k, l, hf⟩ := h.fil j hj2
     have e : fget (D.fs ++ [⟨[], [], []⟩]) j = fget D.fs j := by simp [fget, List.getD, List.getElem?_append_left hj2]
     rw [hg j hj2]; refine ⟨nv, sv, wv, k, l, ?_⟩; show RFil _ H j _ (fget (D.fs ++ [⟨[], [], []⟩]) j) _ _ _ _ _; rw [e]; exact hf.tr he s (fun c hc => hc.elim)
   · have hj3 : j = D.fs.length := by simp at hj; omega
     subst hj3; have e : fget (D.fs ++ [⟨[], [], []⟩]) D.fs.length = ⟨[], [], []⟩ := by simp [fget, List.getD]
     have e2 : (g.fb ++ [x]).getD D.fs.length 0 = x := by rw [← h.len]; simp [List.getD]
     refine ⟨⟨none, 0, 0⟩, ⟨none, 0, 0⟩, ⟨none, 0, 0⟩, 0, [], ?_⟩; show RFil _ H _ ((g.fb ++ [x]).getD D.fs.length 0) (fget (D.fs ++ [⟨[], [], []⟩]) D.fs.length) _ _ _ _ _; rw [e, e2]; exact { rf := upr_self, vf := hv, hn := Rd.nil _ _ _ _, hs := Rd.nil _ _ _ _, hw := Ow.nil fPu_len fPu_one, lw := rfl, hd := fun y hy => (by cases hy), rk := fun c e => (by omega) }
  ids := by
   have hl : ({ D with fs := D.fs ++ [⟨[], [], []⟩] } : Dk).fs.length = D.fs.length + 1 := by simp
   rw [hl]; exact ⟨fun p i e => Nat.lt_succ_of_lt (h.ids.1 p i e), fun p i e => Nat.lt_succ_of_lt (h.ids.2.1 p i e), fun c hc i e => Nat.lt_succ_of_lt (h.ids.2.2 c hc i e)⟩ }
theorem RDk.newDir {kd : Nat} {dv2 : SV} (h : RDk K g H b D) (hA : Asc D.now) (hB : Asc D.stays) (hp : mget g.dm p = none) (hpl : p.length ≤ 4294967280) (hvd : Var 72 H db [Str p, .slice none 0 0, .slice none 0 0, .slice none 0 0]) (hl : Ow kd 73 H fDp 1 dv2.v (nput g.dm p db))
 (hxd : DL (db + 1) K) (hkd : DL kd K) (hne : Dj (db + 1) kd) (s : Mo (Ms [b + 1]) H H') (hv : Var 53 H' b [.int .i64 D.cap, .int .i64 D.most, dv2.v, .int .i64 D.ops, .int .i64 D.left, .bool D.dead]) :
 RDk (kd :: (db + 1) :: K) { g with ρ := uprk (upr g.ρ db (.dir p)) kd .frz, dm := nput g.dm p db, dv := dv2 } H' b D := by
 have od : g.ρ db = .out := h.role (fun hk => hxd (db + 1) hk db rfl rfl); have ok : ∀ c, c + 1 = kd → g.ρ c = .out ∧ c ≠ db := fun c e => ⟨h.newk hkd c e, fun e2 => hne c (by omega) e⟩; have he1 : Ext g.ρ (upr g.ρ db (.dir p)) := Ext.upr od; have he2 : Ext (upr g.ρ db (.dir p)) (uprk (upr g.ρ db (.dir p)) kd .frz) := Ext.uprk (fun c e => .inl (by rw [upr_ne (ok c e).2]; exact (ok c e).1)); have he := he1.trans he2
 have hS : ∀ c, Ms [b + 1] c → g.ρ c = .fs := fun c e => by
  have : c = b := by simpa [Ms] using e
  rw [this]; exact h.rb
 obtain ⟨ab1, ab2⟩ := h.abs p hp; have hlt : ∀ c, g.ρ c = .out → ¬ Ms [b + 1] c := fun c e e2 => by have := hS c e2; rw [e] at this; cases this
 have hz : ∀ c, Ms [b + 1] c → g.ρ c ≠ .frz := fun c e => by rw [hS c e]; simp
 exact {
  hK := hK_uprk (hK_upr h.hK (by simp)) (by simp), lt := lt_uprk (lt_upr h.lt s.size (Nat.lt_of_lt_of_le hvd.lt s.size)) (Nat.le_refl _) (Nat.le_trans hl.le s.size), rb := he.of h.rb (by simp)
  vb := hv, lvB := h.lvB, capB := h.capB, mostB := h.mostB
  hd := (hl.up s (fun c _ e => hlt c (ok c e).1)).rd.imp (fun c _ e => uprk_self e)
  asc := asc_nput h.asc _ _
  nms := fun x hx => (mem_nput hx).elim (fun e => by rw [e]; exact hpl) (h.nms x)
  dirs := fun q db2 e => by
   have e : mget (nput g.dm p db) q = some db2 := e; rw [mget_nput] at e; by_cases hq : q = p
   · rw [if_pos hq] at e
     have e := Option.some.inj e; subst e; subst hq; have n1 := dnl_nil hA (fun r hr => (ab1 r hr).1); have n2 := dnl_nil hB (fun r hr => (ab1 r hr).2); refine ⟨⟨none, 0, 0⟩, ⟨none, 0, 0⟩, ⟨none, 0, 0⟩, 0, [], ?_⟩
     exact { rd := he2.of upr_self (by simp), vd := hvd.up s (hlt _ od), hn := by rw [n1]; exact Rd.nil _ _ _ _, hs := by rw [n2]; exact Rd.nil _ _ _ _
             hc := Ow.nil fSv_len fSv_one, bn := by rw [ab2]; rfl, hb := fun j hj => absurd hj (Nat.not_lt_zero _), na := by rw [n1, n2, ab2]; rfl, rc := fun c e => (by omega) }
   · rw [if_neg hq] at e
     obtain ⟨nv, sv, bv, k, bl, hd⟩ := h.dirs q db2 e; exact ⟨nv, sv, bv, k, bl, hd.tr he s (fun c hc => by rw [hS c hc]; simp) rfl rfl rfl⟩
  abs := fun q e => by
   have e : mget (nput g.dm p db) q = none := e; rw [mget_nput] at e; by_cases hq : q = p
   · rw [if_pos hq] at e; cases e
   · rw [if_neg hq] at e; exact h.abs q e
  len := h.len
  fil := fun i hi => by
   obtain ⟨nv, sv, wv, k, l, hf⟩ := h.fil i hi; exact ⟨nv, sv, wv, k, l, hf.tr he s (fun c hc => by rw [hS c hc]; simp)⟩
  ids := h.ids }
theorem RDk.chg {c : Chg} {k2 : Nat} {lv bv2 : SV} (h : RDk K g H b D) (hA : Asc D.now) (hB : Asc D.stays) (hp : mget g.dm p = some db) (hd : RDir g.ρ g.fb H D p db nv sv bv k bl) (s : Mo (Ms [db + 1, k]) H H') (hv : Var 72 H' db [Str p, lv.v, sv.v, bv2.v]) (hc : Ow k2 69 H' fSv 1 bv2.v (bl ++ [lv])) (hk : Nx k H.size k2)
 (hl : Rd (fun c => g.ρ c = .frz) H (fL g.fb) 2 lv.v (c.ap (dnl D.now p))) (hcd : c.dir = p) (hci : Cin c p) (hcf : ∀ i, c.f = some i → i < D.fs.length) : RDk (k2 :: K) { g with ρ := uprk g.ρ k2 (.chg p) } H' b (D.change c) := by
 have hS : ∀ x, Ms [db + 1, k] x → g.ρ x = .dir p ∨ g.ρ x = .chg p := fun x e => by
  have : x + 1 = db + 1 ∨ x + 1 = k := by simpa [Ms] using e
  rcases this with e | e
  · exact .inl (by rw [show x = db by omega]; exact hd.rd)
  · exact .inr (hd.rc x e)
 have hx : Ext g.ρ (uprk g.ρ k2 (.chg p)) := Ext.uprk (h.nxk hk hd.rc); have hz : ∀ x, Ms [db + 1, k] x → g.ρ x ≠ .frz := fun x e => by rcases hS x e with e | e <;> (rw [e]; simp)
 have hch : (D.change c).chgs p = D.chgs p ++ [c] := by simp [Dk.chgs, Dk.change, hcd]
 have hnn : dnl (D.change c).now p = c.ap (dnl D.now p) := dnl_ap hA hci; have hlast : apl (D.chgs p ++ [c]) (dnl D.stays p) = c.ap (dnl D.now p) := by rw [apl_app, hd.na]; rfl
 refine h.setDir s (fun x e => (hS x e).elim .inl (fun e => .inr (.inl e))) hx (hK_uprk h.hK (by simp)) (lt_uprk h.lt s.size hc.le) hp ⟨lv, sv, bv2, k2, bl ++ [lv], ?_⟩ ⟨rfl, rfl, rfl, rfl, rfl, rfl⟩ ⟨hA, hB, asc_ap hA c, hB⟩ (fun q hq => ?_) (fun q hq => rfl) (fun n hn => ?_) ⟨fun q i e => ?_, h.ids.2.1, fun x hxm i e => ?_⟩
 · exact { rd := hx.of hd.rd (by simp), vd := hv, hn := by rw [hnn]; exact rd_frz hl hx s hz, hs := rd_frz hd.hs hx s hz
           hc := hc, bn := by rw [hch]; simp [hd.bn]
           hb := fun j hj => by
            rw [hch]; show Rd _ H' _ 2 _ (apl _ (dnl D.stays p)); by_cases hj2 : j < bl.length
            · have e1 : (bl ++ [lv])[j] = bl[j] := by simp [List.getElem_append_left hj2]
              rw [e1, List.take_append_of_le_length (by rw [← hd.bn]; omega)]; exact rd_frz (hd.hb j hj2) hx s hz
            · have hj3 : j = bl.length := by simp at hj; omega
              subst hj3; rw [List.take_of_length_le (by simp [hd.bn]), hlast]
              simpa using rd_frz hl hx s hz
           na := by rw [hnn, hch]; exact hlast.symm
           rc := fun x e => uprk_self e }
 · show mget (c.ap D.now) q = mget D.now q
   rw [mget_ap]; exact at_out hci.1 hci.2 hq
 · simp [Dk.chgs, Dk.change, hcd, Ne.symm hn]
 · have e : mget (c.ap D.now) q = some i := e
   exact apl_ids [c] D.now h.ids.1 (fun d hd i hi => by rw [List.mem_singleton.1 hd] at hi; exact hcf i hi) q i e
 · rcases List.mem_append.1 hxm with hm | hm
   · exact h.ids.2.2 x hm i e
   · rw [List.mem_singleton.1 hm] at e; exact hcf i e
theorem RDk.dsync (h : RDk K g H b D) (hA : Asc D.now) (hB : Asc D.stays) (hp : mget g.dm p = some db) (hd : RDir g.ρ g.fb H D p db nv sv bv k bl) (s : Mo (Ms [db + 1]) H H') (hv : Var 72 H' db [Str p, nv.v, nv.v, .slice none 0 0]) : RDk K g H' b (D.stayD p) := by
 have hS : ∀ x, Ms [db + 1] x → g.ρ x = .dir p := fun x e => by
  have : x = db := by simpa [Ms] using e
  rw [this]; exact hd.rd
 have hz : ∀ x, Ms [db + 1] x → g.ρ x ≠ .frz := fun x e => by rw [hS x e]; simp
 have hst : ∀ q, mget (D.stayD p).stays q = if dirP q = p then mget D.now q else mget D.stays q := fun q => mget_merge hA p q; have hds : dnl (D.stayD p).stays p = dnl D.now p := dnl_merge hA hB p; have hch : (D.stayD p).chgs p = [] := by unfold Dk.stayD Dk.chgs; rw [List.filter_filter, List.filter_eq_nil_iff]; intro c _; simp
 refine h.setDir (ρ' := g.ρ) s (fun x e => .inl (hS x e)) (Ext.refl _) h.hK (fun c e => Nat.lt_of_lt_of_le (h.lt c e) s.size) hp ⟨nv, nv, ⟨none, 0, 0⟩, 0, [], ?_⟩ ⟨rfl, rfl, rfl, rfl, rfl, rfl⟩ ⟨hA, hB, hA, asc_merge hB p⟩ (fun q hq => rfl) (fun q hq => by rw [hst, if_neg hq]) (fun n hn => ?_) ⟨h.ids.1, fun q i e => ?_, fun c hc i e => h.ids.2.2 c (List.mem_filter.1 hc).1 i e⟩
 · exact { rd := hd.rd, vd := hv, hn := rd_frz hd.hn (Ext.refl _) s hz, hs := by rw [hds]; exact rd_frz hd.hn (Ext.refl _) s hz, hc := Ow.nil fSv_len fSv_one, bn := by rw [hch]; rfl, hb := fun j hj => absurd hj (Nat.not_lt_zero _), na := by rw [hds, hch]; rfl, rc := fun c e => (by omega) }
 · unfold Dk.stayD Dk.chgs
   rw [List.filter_filter]; refine List.filter_congr (fun c _ => ?_); by_cases e : c.dir = n
   · simp [e, hn]
   · simp [e]
 · rw [hst] at e
   split at e
   · exact h.ids.1 q i e
   · exact h.ids.2.1 q i e
theorem RDk.fput {w : Wr} {nw : List UInt8} {nv2 sd wv2 : SV} {kn kd k2 bi : Nat} (h : RDk K g H b D) (hi : i < D.fs.length) (hf : RFil g.ρ H i (g.fb.getD i 0) (fget D.fs i) nv sv wv k l) (e : g.fb.getD i 0 = bi) (s : Mo (Ms [bi + 1, k]) H H') (hv : Var 116 H' bi [nv2.v, sv.v, wv2.v]) (hw : Ow k2 137 H' fPu 2 wv2.v (l ++ [(w, sd)])) (hk2 : Nx k H.size k2)
 (hd : Ow kd 5 H' fB 1 sd.v w.d) (hk : DL kd (k2 :: K)) (hn : Ow kn 5 H' fB 1 nv2.v nw) (hkn : DL kn (kd :: k2 :: K)) :
 RDk (kn :: kd :: k2 :: K) { g with ρ := uprk (uprk (uprk g.ρ k2 (.wrs i)) kd .frz) kn .frz } H' b (D.putF i ⟨nw, (fget D.fs i).stays, (fget D.fs i).w ++ [w]⟩) := by
 subst e
 have hS : ∀ x, Ms [g.fb.getD i 0 + 1, k] x → g.ρ x = .fil i ∨ g.ρ x = .wrs i := fun x e => by
  have : x + 1 = g.fb.getD i 0 + 1 ∨ x + 1 = k := by simpa [Ms] using e
  rcases this with e | e
  · exact .inl (by rw [show x = g.fb.getD i 0 by omega]; exact hf.rf)
  · exact .inr (hf.rk x e)
 have hx1 : Ext g.ρ (uprk g.ρ k2 (.wrs i)) := Ext.uprk (h.nxk hk2 hf.rk)
 have hkd : ∀ c, c + 1 = kd → c + 1 ≠ k2 ∧ g.ρ c = .out := fun c e => by
  have h1 : c + 1 ≠ k2 := fun e2 => hk k2 List.mem_cons_self c e e2; exact ⟨h1, h.newk (fun k hk2 => hk k (List.mem_cons_of_mem _ hk2)) c e⟩
 have hkn2 : ∀ c, c + 1 = kn → c + 1 ≠ kd ∧ c + 1 ≠ k2 ∧ g.ρ c = .out := fun c e => by
  have h1 : c + 1 ≠ kd := fun e2 => hkn kd List.mem_cons_self c e e2; have h2 : c + 1 ≠ k2 := fun e2 => hkn k2 (List.mem_cons_of_mem _ List.mem_cons_self) c e e2; exact ⟨h1, h2, h.newk (fun k hk2 => hkn k (List.mem_cons_of_mem _ (List.mem_cons_of_mem _ hk2))) c e⟩
 have hx2 : Ext (uprk g.ρ k2 (.wrs i)) (uprk (uprk g.ρ k2 (.wrs i)) kd .frz) := Ext.uprk (fun c e => .inl (by rw [uprk_ne (hkd c e).1]; exact (hkd c e).2)); have hx3 : Ext (uprk (uprk g.ρ k2 (.wrs i)) kd .frz) (uprk (uprk (uprk g.ρ k2 (.wrs i)) kd .frz) kn .frz) := Ext.uprk (fun c e => .inl (by rw [uprk_ne (hkn2 c e).1, uprk_ne (hkn2 c e).2.1]; exact (hkn2 c e).2.2)); have hx := (hx1.trans hx2).trans hx3; have hfz : ∀ c, Ms [g.fb.getD i 0 + 1, k] c → g.ρ c ≠ .frz := fun c e => by rcases hS c e with e | e <;> (rw [e]; simp)
 refine h.setFil hi s (fun x e => (hS x e).elim .inl (fun e => .inr (.inl e))) hx (hK_uprk (hK_uprk (hK_uprk h.hK (by simp)) (by simp)) (by simp)) (lt_uprk (lt_uprk (lt_uprk h.lt s.size hw.le) (Nat.le_refl _) hd.le) (Nat.le_refl _) hn.le) ⟨nv2, sv, wv2, k2, l ++ [(w, sd)], ?_⟩
 exact { rf := hx.of hf.rf (by simp), vf := hv, hn := hn.rd.imp (fun c _ e => uprk_self e), hs := rd_frz hf.hs hx s hfz, hw := hw, lw := by rw [List.map_append, hf.lw]; rfl
         hd := fun y hy => by
          rcases List.mem_append.1 hy with hy | hy
          · exact rd_frz (hf.hd y hy) hx s hfz
          · rw [List.mem_singleton.1 hy]; exact hd.rd.imp (fun c _ e => hx3.of (uprk_self e) (by simp))
         rk := fun c e => hx3.of (by rw [uprk_ne (fun e2 => (hkd c e2).1 e)]; exact uprk_self e) (by simp) }
theorem RDk.fsync {bi : Nat} (h : RDk K g H b D) (hi : i < D.fs.length) (hf : RFil g.ρ H i (g.fb.getD i 0) (fget D.fs i) nv sv wv k l) (e : g.fb.getD i 0 = bi) (s : Mo (Ms [bi + 1]) H H') (hv : Var 116 H' bi [nv.v, nv.v, .slice none 0 0]) : RDk K g H' b (D.syncF i) := by
 subst e
 have hS : ∀ x, Ms [g.fb.getD i 0 + 1] x → g.ρ x = .fil i := fun x e => by
  have : x = g.fb.getD i 0 := by simpa [Ms] using e
  rw [this]; exact hf.rf
 have hfz : ∀ c, Ms [g.fb.getD i 0 + 1] c → g.ρ c ≠ .frz := fun c e => by rw [hS c e]; simp
 refine h.setFil (ρ' := g.ρ) hi s (fun x e => .inl (hS x e)) (Ext.refl _) h.hK (fun c e => Nat.lt_of_lt_of_le (h.lt c e) s.size) ⟨nv, nv, ⟨none, 0, 0⟩, 0, [], ?_⟩; exact { rf := hf.rf, vf := hv, hn := rd_frz hf.hn (Ext.refl _) s hfz, hs := rd_frz hf.hn (Ext.refl _) s hfz, hw := Ow.nil fPu_len fPu_one, lw := rfl, hd := fun y hy => (by cases hy), rk := fun c e => (by omega) }
theorem RFil.atb {b0 bi : Nat} (h : RFil ρ H i b0 x nv sv wv k l) (e : b0 = bi) : Var 116 H bi [nv.v, sv.v, wv.v] := e ▸ h.vf
theorem RDk.kmf {b0 bi : Nat} (h : RDk K g H b D) (hf : RFil g.ρ H i b0 x nv sv wv k l) (e : b0 = bi) : KM K (bi + 1) := e ▸ h.km1 hf.rf (by simp)
theorem RFil.ne {b0 bi : Nat} (h : RFil ρ H i b0 x nv sv wv k l) (e : b0 = bi) : Dj (bi + 1) k := fun c h1 h2 => by
 have h3 := h.rk c h2; rw [show c = b0 by omega, h.rf] at h3; cases h3
theorem RDir.ne (h : RDir ρ fb H D p db nv sv bv k bl) : Dj (db + 1) k := fun c h1 h2 => by
 have h3 := h.rc c h2; rw [show c = db by omega, h.rd] at h3; cases h3
theorem RDk.dcrash {picks : List Int} {at_ : Nat} {tv : SV} (h : RDk K g H b D) (hA : Asc D.now) (hB : Asc D.stays) (hp : mget g.dm p = some db) (hd : RDir g.ρ g.fb H D p db nv sv bv k bl) (hld : ∀ c ∈ D.log, ∀ i, c.f = some i → dirP c.n = c.dir) (s : Mo (Ms [db + 1, k]) H H')
 (hv : Var 72 H' db [Str p, tv.v, tv.v, .slice none 0 0]) (ht : Rd (fun c => g.ρ c = .frz) H (fL g.fb) 2 tv.v (dnl (crashD picks D (D.stays, at_) p).1 p)) : RDk K g H' b (stepM picks D at_ p) := by
 have hS : ∀ x, Ms [db + 1, k] x → g.ρ x = .dir p ∨ g.ρ x = .chg p := fun x e => by
  have : x + 1 = db + 1 ∨ x + 1 = k := by simpa [Ms] using e
  rcases this with e | e
  · exact .inl (by rw [show x = db by omega]; exact hd.rd)
  · exact .inr (hd.rc x e)
 have hz : ∀ x, Ms [db + 1, k] x → g.ρ x ≠ .frz := fun x e => by rcases hS x e with e | e <;> (rw [e]; simp)
 have hall : ∀ c ∈ (D.chgs p).take (pickN picks at_ ((D.chgs p).length + 1)), c.dir = p ∧ ∀ i, c.f = some i → dirP c.n = c.dir := fun c hc => by
  have := chgs_mem (List.mem_of_mem_take hc); exact ⟨this.2, hld c this.1⟩
 have hcA : Asc (crashD picks D (D.stays, at_) p).1 := by rw [crashD_st]; exact asc_apl hB _
 have hout : ∀ q, dirP q ≠ p → mget (crashD picks D (D.stays, at_) p).1 q = mget D.stays q := fun q hq => by rw [crashD_st]; exact apl_out hq _ _ hall
 have hnw : dnl (stepM picks D at_ p).now p = dnl (crashD picks D (D.stays, at_) p).1 p := dnl_merge hcA hA p; have hch : (stepM picks D at_ p).chgs p = [] := by unfold stepM Dk.chgs; rw [List.filter_filter, List.filter_eq_nil_iff]; intro c _; simp
 have hid : ∀ q i, mget (crashD picks D (D.stays, at_) p).1 q = some i → i < D.fs.length := by
  rw [crashD_st]; exact apl_ids _ _ h.ids.2.1 (fun c hc i hi => h.ids.2.2 c (chgs_mem (List.mem_of_mem_take hc)).1 i hi)
 refine h.setDir (ρ' := g.ρ) s (fun x e => (hS x e).elim .inl (fun e => .inr (.inl e))) (Ext.refl _) h.hK (fun c e => Nat.lt_of_lt_of_le (h.lt c e) s.size) hp ⟨tv, tv, ⟨none, 0, 0⟩, 0, [], ?_⟩ ⟨rfl, rfl, rfl, rfl, rfl, rfl⟩ ⟨hA, hB, asc_merge hA p, hcA⟩ (fun q hq => ?_) hout (fun n hn => ?_) ⟨fun q i e => ?_, hid, fun c hc i e => h.ids.2.2 c (List.mem_filter.1 hc).1 i e⟩
 · exact { rd := hd.rd, vd := hv, hn := by rw [hnw]; exact rd_frz ht (Ext.refl _) s hz, hs := rd_frz ht (Ext.refl _) s hz, hc := Ow.nil fSv_len fSv_one, bn := by rw [hch]; rfl, hb := fun j hj => absurd hj (Nat.not_lt_zero _), na := by rw [hnw, hch]; rfl, rc := fun c e => (by omega) }
 · show mget (merge _ D.now p) q = _
   rw [mget_merge hcA, if_neg hq]
 · unfold stepM Dk.chgs
   rw [List.filter_filter]; refine List.filter_congr (fun c _ => ?_); by_cases e : c.dir = n
   · simp [e, hn]
   · simp [e]
 · have e : mget (merge (crashD picks D (D.stays, at_) p).1 D.now p) q = some i := e
   rw [mget_merge hcA] at e; split at e
   · exact hid q i e
   · exact h.ids.1 q i e
theorem RDk.new (cap most : Nat) (hv : Var 53 H b [.int .i64 cap, .int .i64 most, .slice none 0 0, .int .i64 0, .int .i64 0, .bool false]) (hc : cap ≤ 9223372036854775807) (hk : most ≤ 9223372036854775807) :
 RDk [b + 1] ⟨upr (fun _ => .out) b .fs, [], [], ⟨none, 0, 0⟩⟩ H b (Dk.empty cap most) where
 hK := hK_upr (K := []) (ρ := fun _ => .out) (fun c => by simp) (by simp)
 lt := lt_upr (H := H) (fun c h => absurd rfl h) (Nat.le_refl _) hv.lt
 rb := by show upr (fun _ => Role.out) b .fs b = _; exact upr_self
 vb := hv
 lvB := by simp [Dk.empty]
 capB := hc
 mostB := hk
 hd := Rd.nil _ _ _ _
 asc := List.Pairwise.nil
 nms := nofun
 dirs := fun p db e => (by cases e)
 abs := fun p _ => ⟨fun q _ => ⟨rfl, rfl⟩, rfl⟩
 len := rfl
 fil := fun i hi => (by simp [Dk.empty] at hi)
 ids := ⟨fun p i e => (by cases e), fun p i e => (by cases e), fun c hc => (by cases hc)⟩
end
end Go.Proofs.YtfbfjhppppoilaaGreatDoor.DskA

namespace Go.Proofs.YtfbfjhppppoilaaGreatDoor.E
def Sb (l l3 : FL) : Prop := ∀ t v, lk l t = some v → lk l3 t = some v
theorem Sb.c {l l3 : FL} {s : Nat} {u : Value} (hn : lk l s = none) (h : Sb l l3) : Sb l ((s, u) :: l3) := fun t v e => by
 simp only [lk]
 cases hb : Nat.beq s t with
 | true => have := Nat.eq_of_beq_eq_true hb; subst this; rw [hn] at e; cases e
 | false => exact h t v e
theorem Sb.b {l : FL} {s : Nat} {u v : Value} (hc : lk l s = some v) (hv : u = v) : Sb l ((s, u) :: l) := fun t w e => by
 simp only [lk]
 cases hb : Nat.beq s t with
 | true => have := Nat.eq_of_beq_eq_true hb; subst this; rw [hc] at e; subst hv; exact e
 | false => exact e
section
variable {P : Program} {w0 : World} {Q : Exit → Act → World → Prop} {n k : Nat} {dn : List Nat} {l : FL} {H : Heap} {ops : Array Oper} {SH : Heap → Prop} {X : List Nat}
end
section
variable {P : Program} {w0 : World} {Q : Exit → Act → World → Prop} {n : Nat} {l : FL} {H : Heap} {ops : Array Oper} {rest : List Oper} {m : Bool}
theorem LR.join {d : Nat} {v : Value} (k : Nat) (b : (∀ l3, lk l3 d = some v → Sb l l3 → LR m P w0 ops Q n l3 (rest.drop k) H) → LR m P w0 ops Q n l rest H) (h : LR m P w0 ops Q n ((d, v) :: l) (rest.drop k) H) : LR m P w0 ops Q n l rest H :=
 b (fun l3 hd hs a w hf ha => h a w ⟨hf.defers, hf.size, fun t u e => by
  simp only [lk] at e
  cases hb : Nat.beq d t with
  | true => have := Nat.eq_of_beq_eq_true hb; subst this; simp only [hb] at e; exact hf.get _ _ (by rw [hd]; exact e)
  | false => simp only [hb] at e; exact hf.get _ _ (hs _ _ e)⟩ ha)
end
end Go.Proofs.YtfbfjhppppoilaaGreatDoor.E

namespace Go.Proofs.YtfbfjhppppoilaaGreatDoor.DskB
open E Go.RowKit SimA SimB SimC SimD SimE SimF SimG SimH SimI SimJ SimK SimL SimM SimN SimP SimQ SimR DskA
set_option maxRecDepth 20000
set_option maxRecDepth 100000 in
theorem inf69 : Inf Tryz.prog 69 124 2 24 := ⟨Tryz.underlying69, _, _, rfl, rfl, rfl, rfl, rfl⟩
theorem mdel_snoc {l : Nms} {p : Pth} {i : Nat} (h : i < l.length) : mdel (l.take (i + 1)) p = if l[i].1 = p then mdel (l.take i) p else mdel (l.take i) p ++ [l[i]] := by
 unfold mdel; rw [List.take_succ_eq_append_getElem h, List.filter_append]; by_cases e : l[i].1 = p
 · rw [if_pos e]; simp [e]
 · rw [if_neg e]; simp [e]
theorem mget_hit : ∀ {l : Nms} {p : Pth} {i : Nat} (h : i < l.length), (∀ q (h : q < l.length), q < i → ¬ l[q].1 = p) → l[i].1 = p → mget l p = some l[i].2
 | x :: l, p, 0, _, _, e => by
   have e : x.1 = p := e; show (if p = x.1 then some x.2 else _) = _
   rw [if_pos e.symm]; rfl
 | x :: l, p, i + 1, h, hn, e => by
   have h0 : ¬ x.1 = p := hn 0 (Nat.zero_lt_succ _) (Nat.zero_lt_succ _); show (if p = x.1 then some x.2 else mget l p) = _; rw [if_neg (fun q => h0 q.symm)]; exact mget_hit (Nat.lt_of_succ_lt_succ h) (fun q hq h2 => hn (q + 1) (Nat.succ_lt_succ hq) (Nat.succ_lt_succ h2)) e
theorem mget_no : ∀ {l : Nms} {p : Pth}, (∀ q (h : q < l.length), ¬ l[q].1 = p) → mget l p = none
 | [], _, _ => rfl
 | x :: l, p, h => by
   have h0 : ¬ x.1 = p := h 0 (Nat.zero_lt_succ _); show (if p = x.1 then some x.2 else mget l p) = _; rw [if_neg (fun q => h0 q.symm)]; exact mget_no (fun q hq => h (q + 1) (Nat.succ_lt_succ hq))
theorem nput_at : ∀ {m : Nms} {p : Pth} {i k : Nat}, (∀ x ∈ m, ¬ x.1 = p) → k ≤ m.length → (∀ q (h : q < m.length), q < k → blt m[q].1 p) → (∀ h : k < m.length, ¬ blt m[k].1 p) → m.take k ++ [(p, i)] ++ m.drop k = nput m p i
 | [], p, i, k, _, hk, _, _ => by simp [nput]
 | x :: m, p, i, 0, hn, _, _, h2 => by
   have h3 : ¬ blt x.1 p := h2 (Nat.zero_lt_succ _); have h4 : ¬ x.1 = p := hn x List.mem_cons_self; unfold nput
   rw [if_neg h3, if_neg h4]; rfl
 | x :: m, p, i, k + 1, hn, hk, h1, h2 => by
   have h3 : blt x.1 p := h1 0 (Nat.zero_lt_succ _) (Nat.zero_lt_succ _); have := nput_at (m := m) (p := p) (i := i) (k := k) (fun y hy => hn y (List.mem_cons_of_mem _ hy)) (Nat.le_of_succ_le_succ hk) (fun q hq h => h1 (q + 1) (Nat.succ_lt_succ hq) (Nat.succ_lt_succ h)) (fun h => h2 (Nat.succ_lt_succ h)); unfold nput; rw [if_pos h3, ← this]; rfl
theorem nput_del {l : Nms} (h : Asc l) (p : Pth) (i : Nat) : nput (mdel l p) p i = nput l p i := by
 refine asc_ext (asc_nput (asc_del h p) p i) (asc_nput h p i) (fun q => ?_); rw [mget_nput, mget_nput]; by_cases e : q = p
 · rw [if_pos e, if_pos e]
 · rw [if_neg e, if_neg e, mget_del, if_neg e]
theorem mdel_no {l : Nms} {p : Pth} : ∀ x ∈ mdel l p, ¬ x.1 = p := fun x hx => by
 have := (List.mem_filter.1 hx).2
 simpa using this
theorem mdel_len (l : Nms) (p : Pth) : (mdel l p).length ≤ l.length := List.length_filter_le _ _
theorem nput_new : ∀ {m : Nms} {p : Pth}, (∀ x ∈ m, ¬ x.1 = p) → ∀ i : Nat, (nput m p i).length = m.length + 1
 | [], _, _, _ => rfl
 | x :: m, p, h, i => by
   have h4 : ¬ x.1 = p := h x List.mem_cons_self; unfold nput; rw [if_neg h4]; split
   · rw [List.length_cons, nput_new (fun y hy => h y (List.mem_cons_of_mem _ hy)) i]; rfl
   · rfl
theorem rfind_ct (fb : List Nat) (v : Value) (l : Nms) (p : Pth) (w0 : World) (H0 : Heap)
 (hl : RdT H0 (fL fb) 2 v l) :
 Ct Tryz.prog w0 58 #[v, Str p] H0 (fun r H2 => r = .pointer (fpt fb (mget l p)) ∧ Nw H0 H2) := by
 refine Ct.enter (args := [v, Str p]) Tryz.func58 rfl rfl rfl ?_; intro Q0 hret; have hm0 : Nw H0 H0 := Mo.refl _ _; replace hl := hl.bnd; have hll := hl.len; refine CW.s1 (fun hK1 => CW.region ?_); refine LR.a1 (LR.nil (hK1 _ _ ?_)); refine CW.s2 (fun hK2 hE2 => CW.s1 (fun hK3 => CW.region ?_)); refine LR.a1 (LR.nil (hK3 _ _ ?_)); refine CW.block (fun _ _ hX4 hE4 => ?_)
 refine CW.loop (fun (i : (Nat)) => [(0, v), (1, Str p), (5, .int .i64 (i : Int))])
  (fun (i : (Nat)) (H : Heap) => (i ≤ l.length) ∧ (∀ q (h : q < l.length), q < i → ¬ l[q].1 = p) ∧ Nw H0 H)
  (fun (i : (Nat)) => l.length - i) 0 ⟨rfl, rfl, rfl, trivial⟩ ?_ ?_
 ·
  exact ⟨(by omega), (fun q h h2 => absurd h2 (Nat.not_lt_zero _)), Mo.refl _ _⟩
 intro i HL1 hI1 K5 hN5 hE5; obtain ⟨hi, hq_, hlm1⟩ := hI1; replace hl := hl.nw hlm1; replace hm0 := hm0.tr hlm1; have hz1 := hlm1.size; refine CW.s2 (fun hK6 hE6 => CW.s1 (fun hK7 => CW.region ?_)); refine LR.m1 ?_; refine LR.m1 ?_; refine LR.v1 (Y.len hl rfl u'69 rfl) ?_; refine LR.v1 (Y.lss rfl rfl rfl) (LR.nil (hK7 _ _ ?_)); refine CW.condp rfl (fun c9 => ?_) (fun c9 => ?_)
 ·
  have hil : i < l.length := by omega
  obtain ⟨y, hey⟩ : ∃ q, q = l[i] := ⟨_, rfl⟩; refine CW.skip (hK6 _ _ (CW.s2 (fun hK8 hE8 => CW.block (fun _ hK9 _ hE9 => CW.s1 (fun hK10 => CW.region ?_))))); refine LR.m1 ?_; refine LR.m1 ?_; refine LR.e1 (g := fun ad => .pointer (some ad)) (Y.iF hl (i) rfl u'69 s'124 rfl rfl) fun ad14 pt14 => ?_; refine LR.v1 (Y.FA pt14.pt rfl u'124 rfl s'9) ?_; refine LR.v1 (Y.cast (v2 := Str y.1) (Y.load1 (pt14.pt.drop 0) rfl a'9 rfl) (by rw [hey])) ?_; refine LR.m1 ?_; refine LR.v1 (Y.seql rfl rfl rfl) (LR.nil (hK10 _ _ ?_)); refine CW.condp rfl (fun c18 => ?_) (fun c18 => ?_)
  ·
   refine CW.s1 (fun hK11 => CW.region ?_); refine LR.m1 ?_; refine LR.m1 ?_; refine LR.e1 (g := fun ad => .pointer (some ad)) (Y.iF hl (i) rfl u'69 s'124 rfl rfl) fun ad21 pt21 => ?_; refine LR.v1 (Y.FA pt21.pt rfl u'124 rfl s'112) ?_; refine LR.v1 (Y.cast (v2 := .pointer (fpt fb (mget l p))) (Y.load1 (pt21.pt.drop 1) rfl a'112 rfl) (by rw [mget_hit hil hq_ (by rw [← hey]; exact c18)]; rfl)) ?_; refine LR.a1 (LR.nil (hK11 _ _ ?_)); refine CW.ret (hE9 .ret nofun (by simp) _ _ (hE8 .ret nofun _ _ (hE5 .ret nofun _ _ (hE4 .ret nofun (by simp) _ _ (hE2 .ret nofun _ _ (hret .ret (.inr rfl) _ _ _ (res1 rfl rfl) ?_)))))); exact ⟨rfl, hm0⟩
  ·
   refine CW.skip (hK9 _ _ (hK8 _ _ (CW.region ?_))); refine LR.m1 ?_; refine LR.v1 (Y.addi rfl rfl rfl (by omega)) ?_; refine LR.a1 (LR.nil ?_); refine QN.sub (hN5 (i + 1) _ ?_ ?_) ⟨rfl, rfl, (iv (by omega)), trivial⟩
   · exact ⟨(by omega), (fun q h h2 => by rcases Nat.lt_succ_iff_lt_or_eq.1 h2 with h5 | rfl; exact hq_ q h h5; rw [← hey]; exact c18), hlm1⟩
   · first | omega | (simp only; omega) | (simp; omega)
 ·
  refine CW.exit (hE6 (.exit 0) nofun _ _ (hE5 (.exit 0) nofun _ _ (hX4 _ _ ?_))); refine hK2 _ _ (CW.s1 (fun hK12 => CW.region ?_)); refine LR.a1 (LR.nil (hK12 _ _ ?_)); refine CW.ret (hret .ret (.inr rfl) _ _ _ (res1 rfl rfl) ?_); exact ⟨by rw [mget_no (fun q hq => hq_ q hq (by omega))]; rfl, hm0⟩
theorem without_ct (fb : List Nat) (v : Value) (l : Nms) (p : Pth) (w0 : World) (H0 : Heap)
 (hl : RdT H0 (fL fb) 2 v l) (hll : l.length ≤ 1099511627776) :
 Ct Tryz.prog w0 57 #[v, Str p] H0 (fun r H2 => ∃ s2 : SV, ∃ k2 : Nat, r = s2.v ∧ (Ow k2 124 H2 (fL fb) 2 s2.v (mdel l p)) ∧ (Nx 0 H0.size k2) ∧ Nw H0 H2) := by
 refine Ct.enter (args := [v, Str p]) Tryz.func57 rfl rfl rfl ?_; intro Q0 hret; have hm0 : Nw H0 H0 := Mo.refl _ _; replace hl := hl.bnd; refine CW.s1 (fun hK1 => CW.region ?_); refine LR.a1 (LR.nil (hK1 _ _ ?_)); refine CW.s1 (fun hK2 => CW.region ?_); refine LR.a1 (LR.nil (hK2 _ _ ?_)); refine CW.s1 (fun hK3 => CW.s1 (fun hK4 => CW.region ?_)); refine LR.a1 (LR.nil (hK4 _ _ ?_)); refine CW.block (fun _ _ hX5 _ => ?_)
 refine CW.loop (fun (s_ : (Nat) × (SV) × (Nat)) => match s_ with | (i, s1, k1) => [(0, v), (1, Str p), (5, s1.v), (6, .int .i64 (i : Int))])
  (fun (s_ : (Nat) × (SV) × (Nat)) (H : Heap) => match s_ with | (i, s1, k1) => (i ≤ l.length) ∧ (Ow k1 124 H (fL fb) 2 s1.v (mdel (l.take i) p)) ∧ (Nx 0 H0.size k1) ∧ Nw H0 H)
  (fun (s_ : (Nat) × (SV) × (Nat)) => match s_ with | (i, s1, k1) => l.length - i) (0, ⟨none, 0, 0⟩, 0) ⟨rfl, rfl, rfl, rfl, trivial⟩ ?_ ?_
 ·
  exact ⟨(by omega), Ow.nil (fL_len fb) (fL_one fb), Nx.refl _ _, Mo.refl _ _⟩
 rintro ⟨i, s1, k1⟩ HL1 hI1 K6 hN6 hE6; obtain ⟨hi, ow, nxl_ow, hlm1⟩ := hI1; have nx2 : Nx 0 H0.size k1 := Nx.tr (Nx.refl 0 _) nxl_ow hm0.size; replace hl := hl.nw hlm1; replace hm0 := hm0.tr hlm1; have hz1 := hlm1.size; have hle_ow := ow.le; have nx3 := nxl_ow; have hml := mdel_len (l.take i) p; rw [List.length_take] at hml; refine CW.s2 (fun hK7 hE7 => CW.s1 (fun hK8 => CW.region ?_)); refine LR.m1 ?_; refine LR.m1 ?_; refine LR.v1 (Y.len hl rfl u'69 rfl) ?_; refine LR.v1 (Y.lss rfl rfl rfl) (LR.nil (hK8 _ _ ?_)); refine CW.condp rfl (fun c10 => ?_) (fun c10 => ?_)
 ·
  have hil : i < l.length := by omega
  obtain ⟨y, hey⟩ : ∃ q, q = l[i] := ⟨_, rfl⟩; refine CW.skip (hK7 _ _ (CW.s1 (fun hK9 => CW.block (fun _ hK10 _ _ => CW.s1 (fun hK11 => CW.region ?_))))); refine LR.m1 ?_; refine LR.m1 ?_; refine LR.e1 (g := fun ad => .pointer (some ad)) (Y.iF hl (i) rfl u'69 s'124 rfl rfl) fun ad15 pt15 => ?_; refine LR.v1 (Y.FA pt15.pt rfl u'124 rfl s'9) ?_; refine LR.v1 (Y.cast (v2 := Str y.1) (Y.load1 (pt15.pt.drop 0) rfl a'9 rfl) (by rw [hey])) ?_; refine LR.m1 ?_; refine LR.v1 (Y.sneq rfl rfl rfl) (LR.nil (hK11 _ _ ?_)); refine CW.condp rfl (fun c19 => ?_) (fun c19 => ?_)
  ·
   refine CW.region ?_; refine LR.m1 ?_; refine LR.m1 ?_; refine LR.m1 ?_; refine LR.e1 (g := fun ad => .pointer (some ad)) (Y.iF hl (i) rfl u'69 s'124 rfl rfl) fun ad23 pt23 => ?_; refine LR.v1 (Y.cast (v2 := .agg (fL fb y).toArray) (Y.loadN pt23.pt rfl a'124 s'124 ((fL_len _ _)) rfl) (by rw [hey])) ?_; refine LR.z1 (Z.litw _ ([y]) rfl inf69 rfl rfl rfl (by decide) (by decide) (fL_len _) (fL_one _) (rfl)) ?_; rintro v25 H25 ⟨nw25, hs25, ob25, hH25⟩; have hzs25 : H25.size = HL1.size + 1 := by rw [hH25]; simp
   replace ow := ow.nw hs25; replace hlm1 := hlm1.tr hs25; have hz2 := hs25.size; refine LR.z1 (Z.apnd ow nw25.rd rfl inf69 rfl rfl (by simp; omega) (by simp; omega)) ?_; rintro v26 H26 ⟨k26, ow, hk26, hs26⟩; replace hk26 : Nx k1 H25.size k26 := hk26; replace hs26 := hs26.md; have nx13 : Nx 0 H0.size k26 := Nx.tr (nx3) hk26 hlm1.size; replace hlm1 := hlm1.tq hs26 (MIL.o (MI.q nx3)); have hz3 := hs26.size; have hle_ow := ow.le; obtain ⟨s26, rfl⟩ : ∃ s : SV, v26 = s.v := ⟨toSV v26, ow.sv.symm⟩; refine LR.a1 (LR.nil (hK10 _ _ ?_)); refine hK9 _ _ (CW.region ?_); refine LR.m1 ?_; refine LR.v1 (Y.addi rfl rfl rfl (by omega)) ?_; refine LR.a1 (LR.nil ?_); refine QN.sub (hN6 (i + 1, s26, k26) _ ?_ ?_) ⟨rfl, rfl, rfl, (iv (by omega)), trivial⟩
   · exact ⟨(by omega), by rw [mdel_snoc hil, ← hey, if_neg c19]; exact ow, nx13, hlm1⟩
   · first | omega | (simp only; omega) | (simp; omega)
  ·
   refine CW.skip (hK10 _ _ (hK9 _ _ (CW.region ?_))); refine LR.m1 ?_; refine LR.v1 (Y.addi rfl rfl rfl (by omega)) ?_; refine LR.a1 (LR.nil ?_); refine QN.sub (hN6 (i + 1, s1, k1) _ ?_ ?_) ⟨rfl, rfl, rfl, (iv (by omega)), trivial⟩
   · exact ⟨(by omega), by rw [mdel_snoc hil, ← hey, if_pos (by simpa using c19)]; exact ow, nx3, hlm1⟩
   · first | omega | (simp only; omega) | (simp; omega)
 ·
  obtain rfl : i = l.length := by omega
  rw [List.take_length] at ow; refine CW.exit (hE7 (.exit 0) nofun _ _ (hE6 (.exit 0) nofun _ _ (hX5 _ _ ?_))); refine hK3 _ _ (CW.s1 (fun hK12 => CW.region ?_)); refine LR.m1 ?_; refine LR.a1 (LR.nil (hK12 _ _ ?_)); refine CW.ret (hret .ret (.inr rfl) _ _ _ (res1 rfl rfl) ?_); exact ⟨s1, k1, rfl, ow, (nx2), hm0⟩
theorem with_ct (fb : List Nat) (v : Value) (l : Nms) (p : Pth) (i : Nat) (w0 : World) (H0 : Heap)
 (hl : RdT H0 (fL fb) 2 v l) (hll : l.length ≤ 549755813888) (hA : Asc l) :
 Ct Tryz.prog w0 56 #[v, .agg (fL fb ((p, i) : Pth × Nat)).toArray] H0 (fun r H2 => ∃ s2 : SV, ∃ k2 : Nat, r = s2.v ∧ (Ow k2 124 H2 (fL fb) 2 s2.v (nput l p i)) ∧ (Nx 0 H0.size k2) ∧ Nw H0 H2) := by
 refine Ct.enter (args := [v, .agg (fL fb ((p, i) : Pth × Nat)).toArray]) Tryz.func56 rfl rfl rfl ?_; intro Q0 hret; have hm0 : Nw H0 H0 := Mo.refl _ _; replace hl := hl.bnd; have hml := mdel_len l p; refine CW.s1 (fun hK1 => CW.region ?_); refine LR.z1 (Z.boxv rfl rfl) ?_; rintro v3 H3 ⟨rfl, vx, hs3, ob3, hH3⟩; have hzs3 : H3.size = H0.size + 1 := by rw [hH3]; simp
 replace hl := hl.nw hs3; replace hm0 := hm0.tr hs3; have hz1 := hs3.size; replace vx : Var 124 H3 H0.size (fL fb ((p, i) : Pth × Nat)) := vx; refine LR.a1 (LR.nil (hK1 _ _ ?_)); refine CW.s1 (fun hK2 => CW.region ?_); refine LR.m1 ?_; refine LR.v1 (Y.FA vx.pt rfl u'124 rfl s'9) ?_; refine LR.v1 (Y.load1 vx.pt rfl a'9 rfl) ?_; refine LR.call rfl c'57 rfl (Wd.u rfl) rfl rfl (without_ct fb v l p w0 _ hl.any (by omega)) ?_; rintro v10 H10 ⟨s10, k10, rfl, ow, hk10, hs10⟩; replace vx := vx.nw hs10; replace hm0 := hm0.tr hs10; have hz2 := hs10.size; have hle_ow := ow.le; refine LR.a1 (LR.nil (hK2 _ _ ?_)); refine CW.s1 (fun hK3 => CW.region ?_); refine LR.a1 (LR.nil (hK3 _ _ ?_))
 refine CW.cut (fun (k : (Nat)) => [(0, s10.v), (3, .pointer (some ⟨H0.size, 0, none⟩)), (5, .int .i64 (k : Int))])
  (fun (k : (Nat)) (H : Heap) => (k ≤ (mdel l p).length) ∧ (∀ q (h : q < (mdel l p).length), q < k → blt (mdel l p)[q].1 p) ∧ (∀ h : k < (mdel l p).length, ¬ blt (mdel l p)[k].1 p) ∧ Nw H10 H) (fun _ hK4 _ => ?_) ?_
 ·
  have hcm4 : Nw H10 H10 := Mo.refl _ _; refine CW.block (fun _ _ hX5 _ => ?_)
  refine CW.loop (fun (k : (Nat)) => [(0, s10.v), (3, .pointer (some ⟨H0.size, 0, none⟩)), (5, .int .i64 (k : Int))])
   (fun (k : (Nat)) (H : Heap) => (k ≤ (mdel l p).length) ∧ (∀ q (h : q < (mdel l p).length), q < k → blt (mdel l p)[q].1 p) ∧ Nw H10 H)
   (fun (k : (Nat)) => (mdel l p).length - k) 0 ⟨rfl, rfl, rfl, trivial⟩ ?_ ?_
  ·
   exact ⟨(by omega), (fun q h h2 => absurd h2 (Nat.not_lt_zero _)), Mo.refl _ _⟩
  intro k HL1 hI1 K6 hN6 hE6; obtain ⟨hk_, hkq, hlm1⟩ := hI1; replace vx := vx.nw hlm1; replace ow := ow.nw hlm1; replace hcm4 := hcm4.tr hlm1; have hz3 := hlm1.size; refine CW.s2 (fun hK7 hE7 => CW.s1 (fun hK8 => ?_)); refine CW.region_draw rfl (by kernel_rfl) ?_; refine LR.m1 ?_; refine LR.m1 ?_; refine LR.v1 (Y.len ow.rd rfl u'69 rfl) ?_; refine LR.v1 (Y.lss rfl rfl rfl) ?_; refine LR.m1 ?_; refine LR.splitp (d := 15) rfl (fun g15 => ?_) (fun g15 => ?_)
  ·
   refine LR.w1 (Y.move rfl rfl) ?_; refine LR.w1 (Y.move rfl rfl) ?_; have hkl : k < (mdel l p).length := by omega
   refine LR.w1 (Y.owAddr ow (k) rfl u'69 s'124 rfl rfl (by first | rfl | omega) (by first | omega | (simp; omega) | (simp; done))) ?_; refine LR.w1 (Y.fieldAddr (ow.pt (j := k) (by first | omega | (simp; omega) | (simp; done))) rfl u'124 rfl rfl s'9 (by decide) rfl) ?_; refine LR.w1 (Y.cast (v2 := Str (mdel l p)[k].1) (Y.load1 ((ow.pt (j := k) (by first | omega | (simp; omega) | (simp; done))).drop 0) rfl a'9 rfl) (rfl)) ?_; refine LR.w1 (Y.FA vx.pt rfl u'124 rfl s'9) ?_; refine LR.w1 (Y.load1 vx.pt rfl a'9 rfl) ?_; refine LR.w1 (Y.slss rfl rfl rfl) ?_; refine LR.v1 (Y.pick_t rfl rfl rfl) (LR.nil (hK8 _ _ ?_)); refine CW.cond rfl (fun c24 => ?_) (fun c24 => ?_)
   ·
    refine CW.skip (hK7 _ _ (CW.block (fun _ hK9 _ _ => CW.region ?_))); refine LR.m1 ?_; refine LR.v1 (Y.addi rfl rfl rfl (by omega)) ?_; refine LR.a1 (LR.nil (hK9 _ _ ?_)); refine QN.sub (hN6 (k + 1) _ ?_ ?_) ⟨rfl, rfl, (iv (by omega)), trivial⟩
    · exact ⟨(by omega), (fun q h h2 => by rcases Nat.lt_succ_iff_lt_or_eq.1 h2 with h5 | rfl; exact hkq q h h5; exact c24), hlm1⟩
    · first | omega | (simp only; omega) | (simp; omega)
   ·
    refine CW.exit (hE7 (.exit 0) nofun _ _ (hE6 (.exit 0) nofun _ _ (hX5 _ _ ?_))); refine QN.sub (hK4 k _ ?_) ⟨rfl, rfl, (iv (by omega)), trivial⟩; exact ⟨(by omega), hkq, (fun _ => by unfold blt; simpa using c24), hcm4⟩
  ·
   refine LR.g1 ?_; refine LR.g1 ?_; refine LR.g1 ?_; refine LR.g1 ?_; refine LR.g1 ?_; refine LR.g1 ?_; refine LR.g1 ?_; refine LR.g1 ?_; refine LR.v1 (Y.pick_f rfl rfl rfl) (LR.nil (hK8 _ _ ?_)); refine CW.cond_f rfl ?_; refine CW.exit (hE7 (.exit 0) nofun _ _ (hE6 (.exit 0) nofun _ _ (hX5 _ _ ?_))); refine QN.sub (hK4 k _ ?_) ⟨rfl, rfl, (iv (by omega)), trivial⟩; exact ⟨(by omega), hkq, (fun h => absurd h (by omega)), hcm4⟩
 ·
  intro k Hcut0 hIcut0; obtain ⟨hk_, hkq, hst, hlmcut0⟩ := hIcut0; replace vx := vx.nw hlmcut0; replace ow := ow.nw hlmcut0; replace hm0 := hm0.tr hlmcut0; have hz4 := hlmcut0.size; refine CW.s1 (fun hK10 => CW.region ?_); refine LR.a1 (LR.nil (hK10 _ _ ?_)); refine CW.s1 (fun hK11 => CW.region ?_); refine LR.m1 ?_; refine LR.m1 ?_; refine LR.m1 ?_; refine LR.e1 (g := fun v => v) (Y.slice ow.rd (0) (k) rfl u'69 s'124 rfl (.inl ⟨rfl, rfl⟩) (.inr ⟨_, _, _, rfl, rfl, by first | rfl | omega⟩) (by omega) (by omega)) fun v30 rd30 => ?_; have nl31 : Ow 0 124 Hcut0 (fL fb) 2 (.slice none 0 0) [] := Ow.nil (fL_len fb) (fL_one fb); refine LR.z1 (Z.apnd nl31 rd30 rfl inf69 rfl rfl (by simp; omega) (by simp; omega)) ?_; rintro v31 H31 ⟨k31, on, hk31, hs31⟩; replace hk31 : Nx 0 Hcut0.size k31 := hk31; replace hs31 := hs31.md; have dj8 : Dj k10 k31 := Dj.app (Dj.z) ow.le hk31; have nx10 : Nx 0 H0.size k31 := Nx.tr (Nx.refl 0 _) hk31 hm0.size; replace vx := vx.upL hs31 (DL.o Dj.z); replace ow := ow.upL hs31 (DL.o Dj.z); replace hm0 := hm0.tq hs31 (MIL.cons MI.z MIL.nil); have hz5 := hs31.size; have hle_on := on.le; refine LR.a1 (LR.nil (hK11 _ _ ?_)); refine CW.s1 (fun hK12 => CW.region ?_); refine LR.m1 ?_; refine LR.v1 (Y.loadN vx.pt rfl a'124 s'124 ((fL_len _ _)) rfl) ?_; refine LR.z1 (Z.litw _ ([((p, i) : Pth × Nat)]) rfl inf69 rfl rfl rfl (by decide) (by decide) (fL_len _) (fL_one _) (rfl)) ?_; rintro v34 H34 ⟨nw34, hs34, ob34, hH34⟩; have hzs34 : H34.size = H31.size + 1 := by rw [hH34]; simp
  replace ow := ow.nw hs34; replace on := on.nw hs34; replace hm0 := hm0.tr hs34; have hz6 := hs34.size; refine LR.z1 (Z.apnd on nw34.rd rfl inf69 rfl rfl (by simp; omega) (by simp; omega)) ?_; rintro v35 H35 ⟨k35, on, hk35, hs35⟩; replace hk35 : Nx k31 H34.size k35 := hk35; replace hs35 := hs35.md; have nx20 : Nx 0 H0.size k35 := Nx.tr (nx10) hk35 hm0.size; replace ow := ow.upL hs35 (DL.o dj8); replace hm0 := hm0.tq hs35 (MIL.o (MI.q nx10)); have hz7 := hs35.size; have hle_on := on.le; refine LR.a1 (LR.nil (hK12 _ _ ?_)); refine CW.s1 (fun hK13 => CW.region ?_); refine LR.m1 ?_; refine LR.m1 ?_; refine LR.m1 ?_; refine LR.e1 (g := fun v => v) (Y.slice ow.rd (k) ((mdel l p).length) rfl u'69 s'124 rfl (.inr ⟨_, _, _, rfl, rfl, by first | rfl | omega⟩) (.inl ⟨rfl, rfl⟩) (by omega) (by omega)) fun v39 rd39 => ?_; refine LR.z1 (Z.apnd on rd39 rfl inf69 rfl rfl (by simp; omega) (by simp; omega)) ?_; rintro v40 H40 ⟨k40, on, hk40, hs40⟩; replace hk40 : Nx k35 H35.size k40 := hk40; replace hs40 := hs40.md; have nx24 : Nx 0 H0.size k40 := Nx.tr (nx20) hk40 hm0.size; replace hm0 := hm0.tq hs40 (MIL.o (MI.q nx20)); rw [List.nil_append, List.drop_zero, List.take_length] at on; obtain ⟨s40, rfl⟩ : ∃ s : SV, v40 = s.v := ⟨toSV v40, on.sv.symm⟩; refine LR.a1 (LR.nil (hK13 _ _ ?_)); refine CW.ret (hret .ret (.inr rfl) _ _ _ (res1 rfl rfl) ?_); exact ⟨s40, k40, rfl, by rw [← nput_del hA, ← nput_at mdel_no hk_ hkq hst]; exact on, (nx24), hm0⟩
end Go.Proofs.YtfbfjhppppoilaaGreatDoor.DskB

namespace Go.Proofs.YtfbfjhppppoilaaGreatDoor.DskC
open E Go.RowKit SimA SimB SimC SimD SimE SimF SimG SimH SimI SimJ SimK SimL SimM SimN SimP SimQ SimR SimX DskA DskB
set_option maxRecDepth 20000
set_option maxRecDepth 100000 in
theorem inf51 : Inf Tryz.prog 51 73 1 8 := ⟨Tryz.underlying51, _, _, rfl, rfl, rfl, rfl, rfl⟩
set_option maxRecDepth 100000 in
theorem inf70 : Inf Tryz.prog 70 69 1 24 := ⟨Tryz.underlying70, _, _, rfl, rfl, rfl, rfl, rfl⟩
def Gr (g g2 : Rg) (p : Pth) : Prop := (mget g.dm p ≠ none → g2.dm = g.dm) ∧ g2.dm.length ≤ g.dm.length + 1
theorem dirP_le (p : Pth) : (dirP p).length ≤ p.length := by
 unfold dirP; split
 · unfold headP; rw [List.length_take]; omega
 · simp
theorem Gr.refl (g : Rg) (p : Pth) : Gr g g p := ⟨fun _ => rfl, Nat.le_succ _⟩
theorem dm_at {m : Nms} {p : Pth} {k : Nat} (hA : Asc m) (hk : k < m.length) (hkq : ∀ q (h : q < m.length), q < k → blt m[q].1 p) (hst : ¬ blt m[k].1 p) : m[k].1 = p ↔ mget m p ≠ none := by
 constructor
 · intro e h
   rw [← e, mem_nms hA (List.getElem_mem hk)] at h; cases h
 · intro h
   cases hq : mget m p with
   | none => exact absurd hq h
   | some z =>
     obtain ⟨j, hj, e⟩ := List.getElem_of_mem (mget_mem hq); have e1 : m[j].1 = p := by rw [e]
     rcases Nat.lt_trichotomy j k with h1 | h1 | h1
     · have := hkq j hj h1
       rw [e1] at this; exact absurd this (blt_irr p)
     · subst h1; exact e1
     · have h2 : blt m[k].1 m[j].1 := (List.pairwise_iff_getElem.1 hA) k j hk hj h1
       rw [e1] at h2; exact absurd h2 hst
theorem dm_over {m : Nms} {p : Pth} {k : Nat} (hk : ¬ k < m.length) (hkq : ∀ q (h : q < m.length), q < k → blt m[q].1 p) : mget m p = none := by
 cases hq : mget m p with
 | none => rfl
 | some z =>
   obtain ⟨j, hj, e⟩ := List.getElem_of_mem (mget_mem hq); have := hkq j hj (by omega); have e1 : m[j].1 = p := by rw [e]
   rw [e1] at this; exact absurd this (blt_irr p)
theorem dm_no {m : Nms} {p : Pth} (h : mget m p = none) : ∀ x ∈ m, ¬ x.1 = p := fun x hx e => by
 have : (mget m p).isSome = true := isSome_iff_key.2 (List.mem_map.2 ⟨x, hx, e⟩); rw [h] at this; cases this
section
variable {w0 : World} {n : Nat} {l : FL} {H : Heap} {o : Oper} {K : List Nat} {g : Rg} {b : Nat} {D : Dk} {x y : Operand} {t : TypeId}
theorem rd_left (h : RDk K g H b D) (lv : Nat) (ho : o.op = .store t x y) (hx : opv l x = some (.pointer (some ⟨b, 4, none⟩))) (hy : opv l y = some (.int .i64 (lv : Int))) (hs : ∀ w, (sizeOf t).run Tryz.prog w = .ok 1 w) (hl : lv ≤ 9223372036854775807) :
 S Tryz.prog w0 n l H o (fun H' => RDk K g H' b { D with left := lv } ∧ Mo (Ms K) H H') :=
 (S.var1 h.vb 4 _ ho hx hy rfl hs (by simp) rfl).mono fun H' ⟨h1, h2⟩ => ⟨h.setFs h2.md1 h1 hl ⟨rfl, rfl, rfl, rfl, rfl, rfl⟩, h.ms h2 (fun c e => by rw [e, h.rb]; simp)⟩
theorem rd_dead (h : RDk K g H b D) (dd : Bool) (ho : o.op = .store t x y) (hx : opv l x = some (.pointer (some ⟨b, 5, none⟩))) (hy : opv l y = some (.bool dd)) (hs : ∀ w, (sizeOf t).run Tryz.prog w = .ok 1 w) :
 S Tryz.prog w0 n l H o (fun H' => RDk K g H' b { D with dead := dd } ∧ Mo (Ms K) H H') :=
 (S.var1 h.vb 5 _ ho hx hy rfl hs (by simp) rfl).mono fun H' ⟨h1, h2⟩ => ⟨h.setFs h2.md1 h1 h.lvB ⟨rfl, rfl, rfl, rfl, rfl, rfl⟩, h.ms h2 (fun c e => by rw [e, h.rb]; simp)⟩
theorem rd_ops (h : RDk K g H b D) (ho : o.op = .store t x y) (hx : opv l x = some (.pointer (some ⟨b, 3, none⟩))) (hy : opv l y = some (.int .i64 ((D.ops + 1 : Nat) : Int))) (hs : ∀ w, (sizeOf t).run Tryz.prog w = .ok 1 w) :
 S Tryz.prog w0 n l H o (fun H' => RDk K g H' b { D with ops := D.ops + 1 } ∧ Mo (Ms K) H H') :=
 (S.var1 h.vb 3 _ ho hx hy rfl hs (by simp) rfl).mono fun H' ⟨h1, h2⟩ => ⟨h.setFs h2.md1 h1 h.lvB ⟨rfl, rfl, rfl, rfl, rfl, rfl⟩, h.ms h2 (fun c e => by rw [e, h.rb]; simp)⟩
theorem rbegin_dead (h : D.dead = true) : D.begin = (false, D) := by unfold Dk.begin; rw [if_pos h]
theorem rbegin_stop (h : D.dead = false) (h1 : D.left = 1) : D.begin = (false, { D with left := 0, dead := true }) := by unfold Dk.begin; rw [if_neg (by simp [h]), if_pos h1]
theorem rbegin_go (h : D.dead = false) (h1 : D.left ≠ 1) : D.begin = (true, { D with left := D.left - 1, ops := D.ops + 1 }) := by unfold Dk.begin; rw [if_neg (by simp [h]), if_neg h1]
end
theorem rmk_ct (K : List Nat) (g : Rg) (b : Nat) (D : Dk) (p : Pth) (w0 : World) (H0 : Heap)
 (hf : RDk K g H0 b D) (hA : Asc D.now) (hB_ : Asc D.stays) (hdl : g.dm.length ≤ 1099511627776) (hpl : p.length ≤ 4294967280) :
 Ct Tryz.prog w0 54 #[ptr b, Str p] H0 (fun r H2 => ∃ K2 : List Nat, ∃ g2 : Rg, ∃ db : Nat, r = ptr db ∧ (RDk K2 g2 H2 b D) ∧ (NxK K H0.size K2) ∧ (mget g2.dm p = some db) ∧ (g2.fb = g.fb) ∧ (Gr g g2 p) ∧ Mo (Ms K) H0 H2) := by
 refine Ct.enter (args := [ptr b, Str p]) Tryz.func54 rfl rfl rfl ?_; intro Q0 hret; have hm0 : Mo (Ms K) H0 H0 := Mo.refl _ _; have nx_hm0_hf := NxK.refl K H0.size; have hbk_hf := hf.bk; refine CW.s1 (fun hK1 => CW.region ?_); refine LR.a1 (LR.nil (hK1 _ _ ?_)); refine CW.seq (fun K2 hK2 _ => CW.region ?_); refine LR.a1 (LR.nil (hK2 _ _ ?_))
 refine CW.cut (fun (k : (Nat)) => [(0, ptr b), (1, Str p), (5, .int .i64 (k : Int))])
  (fun (k : (Nat)) (H : Heap) => (k ≤ g.dm.length) ∧ (∀ q (h : q < g.dm.length), q < k → blt g.dm[q].1 p) ∧ (∀ h : k < g.dm.length, ¬ blt g.dm[k].1 p) ∧ Nw H0 H) (fun _ hK3 _ => ?_) ?_
 ·
  have hcm3 : Nw H0 H0 := Mo.refl _ _; refine CW.block (fun _ _ hX4 _ => ?_)
  refine CW.loop (fun (k : (Nat)) => [(0, ptr b), (1, Str p), (5, .int .i64 (k : Int))])
   (fun (k : (Nat)) (H : Heap) => (k ≤ g.dm.length) ∧ (∀ q (h : q < g.dm.length), q < k → blt g.dm[q].1 p) ∧ Nw H0 H)
   (fun (k : (Nat)) => g.dm.length - k) 0 ⟨rfl, rfl, rfl, trivial⟩ ?_ ?_
  ·
   exact ⟨(by omega), (fun q h h2 => absurd h2 (Nat.not_lt_zero _)), Mo.refl _ _⟩
  intro k HL1 hI1 K5 hN5 hE5; obtain ⟨hk_, hkq, hlm1⟩ := hI1; replace hf := hf.nw hlm1; replace hcm3 := hcm3.tr hlm1; have hz1 := hlm1.size; refine CW.s2 (fun hK6 hE6 => CW.s1 (fun hK7 => CW.region ?_)); refine LR.m1 ?_; refine LR.m1 ?_; refine LR.v1 (Y.nilCheck rfl rfl) ?_; refine LR.v1 (Y.FA hf.vb.pt rfl u'53 rfl s'51) ?_; refine LR.v1 (Y.load1 (hf.vb.pt.drop 2) rfl a'51 rfl) ?_; refine LR.v1 (Y.len hf.hd rfl u'51 rfl) ?_; refine LR.v1 (Y.lss rfl rfl rfl) ?_; refine LR.m1 ?_; refine LR.splitp (d := 15) rfl (fun g15 => ?_) (fun g15 => ?_)
  ·
   refine LR.w1 (Y.move rfl rfl) ?_; refine LR.w1 (Y.nilCheck rfl rfl) ?_; refine LR.w1 (Y.FA hf.vb.pt rfl u'53 rfl s'51) ?_; refine LR.w1 (Y.load1 (hf.vb.pt.drop 2) rfl a'51 rfl) ?_; refine LR.w1 (Y.move rfl rfl) ?_; have hkl : k < g.dm.length := by omega
   obtain ⟨y, hey⟩ : ∃ q, q = g.dm[k] := ⟨_, rfl⟩; have hyd : mget g.dm y.1 = some y.2 := by rw [hey]; exact mem_nms hf.asc (List.getElem_mem hkl)
   obtain ⟨nvy, svy, bvy, ky, bly, hdy⟩ := hf.dirs _ _ hyd; refine LR.e (g := fun ad => .pointer (some ad)) (Y.indexAddr hf.hd (k) rfl u'51 s'73 rfl rfl (by first | rfl | omega) (by first | omega | (simp; omega) | (simp; done))) (Wd.g rfl rfl rfl) rfl rfl (fun ad21 pt21 => ?_); refine LR.w1 (Y.cast (v2 := ptr y.2) (Y.load1 pt21 rfl a'73 rfl) (by rw [hey])) ?_; refine LR.w1 (Y.nilCheck rfl rfl) ?_; refine LR.w1 (Y.FA hdy.vd.pt rfl u'72 rfl s'9) ?_; refine LR.w1 (Y.load1 (hdy.vd.pt.drop 0) rfl a'9 rfl) ?_; refine LR.w1 (Y.move rfl rfl) ?_; refine LR.w1 (Y.slss rfl rfl rfl) ?_; refine LR.v1 (Y.pick_t rfl rfl rfl) (LR.nil (hK7 _ _ ?_)); refine CW.cond rfl (fun c28 => ?_) (fun c28 => ?_)
   ·
    refine CW.skip (hK6 _ _ (CW.block (fun _ hK8 _ _ => CW.region ?_))); refine LR.m1 ?_; refine LR.v1 (Y.addi rfl rfl rfl (by omega)) ?_; refine LR.a1 (LR.nil (hK8 _ _ ?_)); refine QN.sub (hN5 (k + 1) _ ?_ ?_) ⟨rfl, rfl, (iv (by omega)), trivial⟩
    · exact ⟨(by omega), (fun q h h2 => by rcases Nat.lt_succ_iff_lt_or_eq.1 h2 with h5 | rfl; exact hkq q h h5; rw [← hey]; exact c28), hlm1⟩
    · first | omega | (simp only; omega) | (simp; omega)
   ·
    refine CW.exit (hE6 (.exit 0) nofun _ _ (hE5 (.exit 0) nofun _ _ (hX4 _ _ ?_))); refine QN.sub (hK3 k _ ?_) ⟨rfl, rfl, (iv (by omega)), trivial⟩; exact ⟨(by omega), hkq, (fun _ => by rw [← hey]; unfold blt; simpa using c28), hcm3⟩
  ·
   refine LR.g1 ?_; refine LR.g1 ?_; refine LR.g1 ?_; refine LR.g1 ?_; refine LR.g1 ?_; refine LR.g1 ?_; refine LR.g1 ?_; refine LR.g1 ?_; refine LR.g1 ?_; refine LR.g1 ?_; refine LR.g1 ?_; refine LR.g1 ?_; refine LR.v1 (Y.pick_f rfl rfl rfl) (LR.nil (hK7 _ _ ?_)); refine CW.cond_f rfl ?_; refine CW.exit (hE6 (.exit 0) nofun _ _ (hE5 (.exit 0) nofun _ _ (hX4 _ _ ?_))); refine QN.sub (hK3 k _ ?_) ⟨rfl, rfl, (iv (by omega)), trivial⟩; exact ⟨(by omega), hkq, (fun h => absurd h (by omega)), hcm3⟩
 ·
  intro k Hcut0 hIcut0; obtain ⟨hk_, hkq, hst, hlmcut0⟩ := hIcut0; replace hf := hf.nw hlmcut0; replace hm0 := hm0.trN hlmcut0; have hz2 := hlmcut0.size; refine CW.s2 (fun hK9 hE9 => CW.s1 (fun hK10 => CW.region ?_)); refine LR.m1 ?_; refine LR.m1 ?_; refine LR.v1 (Y.nilCheck rfl rfl) ?_; refine LR.v1 (Y.FA hf.vb.pt rfl u'53 rfl s'51) ?_; refine LR.v1 (Y.load1 (hf.vb.pt.drop 2) rfl a'51 rfl) ?_; refine LR.v1 (Y.len hf.hd rfl u'51 rfl) ?_; refine LR.v1 (Y.lss rfl rfl rfl) ?_; refine LR.m1 ?_; refine LR.join (d := 51) (v := .bool (decide (mget g.dm p ≠ none))) 13 (fun J38 => ?_) ?_
  ·
   refine LR.splitp (d := 38) rfl (fun g38 => ?_) (fun g38 => ?_)
   ·
    refine LR.w1 (Y.move rfl rfl) ?_; refine LR.w1 (Y.nilCheck rfl rfl) ?_; refine LR.w1 (Y.FA hf.vb.pt rfl u'53 rfl s'51) ?_; refine LR.w1 (Y.load1 (hf.vb.pt.drop 2) rfl a'51 rfl) ?_; refine LR.w1 (Y.move rfl rfl) ?_; have hkl : k < g.dm.length := by omega
    obtain ⟨y, hey⟩ : ∃ q, q = g.dm[k] := ⟨_, rfl⟩; have hyd : mget g.dm y.1 = some y.2 := by rw [hey]; exact mem_nms hf.asc (List.getElem_mem hkl)
    obtain ⟨nvy, svy, bvy, ky, bly, hdy⟩ := hf.dirs _ _ hyd; refine LR.e (g := fun ad => .pointer (some ad)) (Y.indexAddr hf.hd (k) rfl u'51 s'73 rfl rfl (by first | rfl | omega) (by first | omega | (simp; omega) | (simp; done))) (Wd.g rfl rfl rfl) rfl rfl (fun ad44 pt44 => ?_); refine LR.w1 (Y.cast (v2 := ptr y.2) (Y.load1 pt44 rfl a'73 rfl) (by rw [hey])) ?_; refine LR.w1 (Y.nilCheck rfl rfl) ?_; refine LR.w1 (Y.FA hdy.vd.pt rfl u'72 rfl s'9) ?_; refine LR.w1 (Y.load1 (hdy.vd.pt.drop 0) rfl a'9 rfl) ?_; refine LR.w1 (Y.move rfl rfl) ?_; refine LR.w1 (Y.seql rfl rfl rfl) ?_; refine LR.v1 (Y.pick_t rfl rfl rfl) ?_; exact J38 _ (congrArg (fun b => some (Value.bool b)) (decide_eq_decide.2 (by rw [hey]; exact dm_at hf.asc hkl hkq (hst hkl)))) (Sb.c rfl (Sb.c rfl (Sb.c rfl (Sb.c rfl (Sb.c rfl (Sb.c rfl (Sb.c rfl (Sb.c rfl (Sb.c rfl (Sb.c rfl (Sb.c rfl (Sb.c rfl (Sb.c rfl (Sb.b rfl (congrArg Value.bool (decide_eq_true g38).symm)))))))))))))))
   ·
    refine LR.g1 ?_; refine LR.g1 ?_; refine LR.g1 ?_; refine LR.g1 ?_; refine LR.g1 ?_; refine LR.g1 ?_; refine LR.g1 ?_; refine LR.g1 ?_; refine LR.g1 ?_; refine LR.g1 ?_; refine LR.g1 ?_; refine LR.g1 ?_; refine LR.v1 (Y.pick_f rfl rfl rfl) ?_; exact J38 _ (congrArg (fun b => some (Value.bool b)) (decide_eq_false (fun h => h (dm_over (by omega) hkq))).symm) (Sb.c rfl (Sb.c rfl (Sb.c rfl (Sb.c rfl (Sb.c rfl (Sb.c rfl (Sb.c rfl (Sb.c rfl (Sb.c rfl (Sb.c rfl (Sb.c rfl (Sb.c rfl (Sb.c rfl (Sb.b rfl (congrArg Value.bool (decide_eq_false g38).symm)))))))))))))))
  refine LR.nil (hK10 _ _ ?_); refine CW.condp rfl (fun c51 => ?_) (fun c51 => ?_)
  ·
   have hkl2 : k < g.dm.length := Classical.byContradiction (fun h => c51 (dm_over h hkq)); have hkp := (dm_at hf.asc hkl2 hkq (hst hkl2)).2 c51; have hkd2 : mget g.dm p = some g.dm[k].2 := by rw [← hkp]; exact mem_nms hf.asc (List.getElem_mem hkl2)
   refine CW.s1 (fun hK11 => CW.region ?_); refine LR.m1 ?_; refine LR.v1 (Y.nilCheck rfl rfl) ?_; refine LR.v1 (Y.FA hf.vb.pt rfl u'53 rfl s'51) ?_; refine LR.v1 (Y.load1 (hf.vb.pt.drop 2) rfl a'51 rfl) ?_; refine LR.m1 ?_; refine LR.e1 (g := fun ad => .pointer (some ad)) (Y.indexAddr hf.hd (k) rfl u'51 s'73 rfl rfl (by first | rfl | omega) (by first | omega | (simp; omega) | (simp; done))) fun ad57 pt57 => ?_; refine LR.v1 (Y.load1 pt57 rfl a'73 rfl) ?_; refine LR.a1 (LR.nil (hK11 _ _ ?_)); refine CW.ret (hE9 .ret nofun _ _ (hret .ret (.inr rfl) _ _ _ (res1 rfl rfl) ?_)); exact ⟨K, g, g.dm[k].2, rfl, hf, nx_hm0_hf, hkd2, rfl, Gr.refl g p, hm0⟩
  ·
   have hnd : mget g.dm p = none := Classical.byContradiction c51; refine CW.skip (hK9 _ _ (CW.s1 (fun hK12 => CW.region ?_))); refine LR.m1 ?_; refine LR.v1 (Y.build (v := .agg #[Str p, .slice none 0 0, .slice none 0 0, .slice none 0 0]) rfl rfl (by intro w; kernel_rfl)) ?_; refine LR.z1 (Z.boxv rfl rfl) ?_; rintro v61 H61 ⟨rfl, hvd, hs61, ob61, hH61⟩; have hzs61 : H61.size = Hcut0.size + 1 := by rw [hH61]; simp
   have dj1 : DL (Hcut0.size + 1) K := DL.newK hf.bk; have nx2 : Nx 0 H0.size (Hcut0.size + 1) := Nx.new hm0.size; replace hf := hf.nw hs61; replace hm0 := hm0.trN hs61; have hz3 := hs61.size; replace hvd : Var 72 H61 Hcut0.size ([Str p, .slice none 0 0, .slice none 0 0, .slice none 0 0]) := hvd; refine LR.a1 (LR.nil (hK12 _ _ ?_)); refine CW.s1 (fun hK13 => CW.region ?_); refine LR.a1 (LR.nil (hK13 _ _ ?_)); refine CW.s1 (fun hK14 => CW.region ?_); refine LR.m1 ?_; refine LR.m1 ?_; refine LR.v1 (Y.nilCheck rfl rfl) ?_; refine LR.v1 (Y.FA hf.vb.pt rfl u'53 rfl s'51) ?_; refine LR.v1 (Y.load1 (hf.vb.pt.drop 2) rfl a'51 rfl) ?_; refine LR.m1 ?_; refine LR.e1 (g := fun v => v) (Y.slice hf.hd (0) (k) rfl u'51 s'73 rfl (.inl ⟨rfl, rfl⟩) (.inr ⟨_, _, _, rfl, rfl, by first | rfl | omega⟩) (by omega) (by omega)) fun v68 rd68 => ?_; have nl69 : Ow 0 73 H61 fDp 1 (.slice none 0 0) [] := Ow.nil fDp_len fDp_one; refine LR.z1 (Z.apnd nl69 rd68 rfl inf51 rfl rfl (by simp; omega) (by simp; omega)) ?_; rintro v69 H69 ⟨k69, on, hk69, hs69⟩; replace hk69 : Nx 0 H61.size k69 := hk69; replace hs69 := hs69.md; have dj3 : DL k69 K := DL.app2 (DL.zK) hf.bk hk69; have dj4 : Dj (Hcut0.size + 1) k69 := Dj.app (Dj.z) hvd.lt hk69; have nx5 : Nx 0 H0.size k69 := Nx.tr (Nx.refl 0 _) hk69 hm0.size; replace hf := hf.upL hs69 (DKL.cons DL.zK DKL.nil); replace hvd := hvd.upL hs69 (DL.o Dj.z); replace hm0 := hm0.trL hs69 (MIL.cons MI.z MIL.nil); have hz4 := hs69.size; have hle_on := on.le; refine LR.a1 (LR.nil (hK14 _ _ ?_)); refine CW.s1 (fun hK15 => CW.region ?_); refine LR.m1 ?_; refine LR.m1 ?_; refine LR.z1 (Z.litw _ ([((p, Hcut0.size) : Pth × Nat)]) rfl inf51 rfl rfl rfl (by decide) (by decide) fDp_len fDp_one (rfl)) ?_; rintro v72 H72 ⟨nw72, hs72, ob72, hH72⟩; have hzs72 : H72.size = H69.size + 1 := by rw [hH72]; simp
   replace hf := hf.nw hs72; replace hvd := hvd.nw hs72; replace on := on.nw hs72; replace hm0 := hm0.trN hs72; have hz5 := hs72.size; refine LR.z1 (Z.apnd on nw72.rd rfl inf51 rfl rfl (by simp; omega) (by simp; omega)) ?_; rintro v73 H73 ⟨k73, on, hk73, hs73⟩; replace hk73 : Nx k69 H72.size k73 := hk73; replace hs73 := hs73.md; have dj10 : DL k73 K := DL.app2 (dj3) hf.bk hk73; have dj11 : Dj (Hcut0.size + 1) k73 := Dj.app (dj4) hvd.lt hk73; have nx13 : Nx 0 H0.size k73 := Nx.tr (nx5) hk73 hm0.size; replace hf := hf.upL hs73 (DKL.cons dj3 DKL.nil); replace hvd := hvd.upL hs73 (DL.o dj4); replace hm0 := hm0.trL hs73 (MIL.o (MI.q nx5)); have hz6 := hs73.size; have hle_on := on.le; refine LR.a1 (LR.nil (hK15 _ _ ?_)); refine CW.s1 (fun hK16 => CW.region ?_); refine LR.m1 ?_; refine LR.m1 ?_; refine LR.m1 ?_; refine LR.v1 (Y.nilCheck rfl rfl) ?_; refine LR.v1 (Y.FA hf.vb.pt rfl u'53 rfl s'51) ?_; refine LR.v1 (Y.load1 (hf.vb.pt.drop 2) rfl a'51 rfl) ?_; refine LR.m1 ?_; refine LR.e1 (g := fun v => v) (Y.slice hf.hd (k) (g.dm.length) rfl u'51 s'73 rfl (.inr ⟨_, _, _, rfl, rfl, by first | rfl | omega⟩) (.inl ⟨rfl, rfl⟩) (by omega) (by omega)) fun v81 rd81 => ?_; refine LR.z1 (Z.apnd on rd81 rfl inf51 rfl rfl (by simp; omega) (by simp; omega)) ?_; rintro v82 H82 ⟨k82, on, hk82, hs82⟩; replace hk82 : Nx k73 H73.size k82 := hk82; replace hs82 := hs82.md; have dj14 : DL k82 K := DL.app2 (dj10) hf.bk hk82; have dj15 : Dj (Hcut0.size + 1) k82 := Dj.app (dj11) hvd.lt hk82; have nx16 : Nx 0 H0.size k82 := Nx.tr (nx13) hk82 hm0.size; replace hf := hf.upL hs82 (DKL.cons dj10 DKL.nil); replace hvd := hvd.upL hs82 (DL.o dj11); replace hm0 := hm0.trL hs82 (MIL.o (MI.q nx13)); rw [List.nil_append, List.drop_zero, List.take_length, nput_at (dm_no hnd) hk_ hkq hst] at on; obtain ⟨s82, rfl⟩ : ∃ s : SV, v82 = s.v := ⟨toSV v82, on.sv.symm⟩; refine LR.v1 (Y.nilCheck rfl rfl) ?_; refine LR.v1 (Y.FA hf.vb.pt rfl u'53 rfl s'51) ?_; refine LR.s1 (S.var1 hf.vb 2 _ rfl rfl rfl rfl s'51 (by simp) rfl) ?_; rintro H10_11 ⟨hvb10_11, hw10_11⟩; have hs10_11 := hf.ms hw10_11 (fun c e => by rw [e, hf.rb]; simp); replace hm0 := hm0.trL hs10_11 (MIL.ofK (nx_hm0_hf) (by intro k hk; simp [hk])); have nx18 := NxK.cons (nx2) (nx_hm0_hf); have nx19 := NxK.cons (nx16) (nx18); replace hf := hf.newDir hA hB_ hnd hpl hvd on (dj1) (dj14) (dj15) hw10_11.md1 hvb10_11; refine LR.nil (hK16 _ _ (CW.s1 (fun hK17 => CW.region ?_))); refine LR.m1 ?_; refine LR.a1 (LR.nil (hK17 _ _ ?_)); refine CW.ret (hret .ret (.inr rfl) _ _ _ (res1 rfl rfl) ?_); exact ⟨_, _, Hcut0.size, rfl, hf, nx19, by show mget (nput g.dm p _) p = _; rw [mget_nput, if_pos rfl], rfl, ⟨fun h => absurd hnd h, Nat.le_of_eq (nput_new (dm_no hnd) _)⟩, hm0⟩
theorem rchg_ct (K : List Nat) (g : Rg) (b : Nat) (D : Dk) (p : Pth) (db : Nat) (lv : SV) (c : Chg) (w0 : World) (H0 : Heap)
 (hf : RDk K g H0 b D) (hA : Asc D.now) (hB_ : Asc D.stays) (hdb : mget g.dm p = some db) (hl : Rd (fun c => g.ρ c = .frz) H0 (fL g.fb) 2 lv.v (c.ap (dnl D.now p))) (hcd : c.dir = p) (hci : Cin c p) (hcf : ∀ i, c.f = some i → i < D.fs.length) (hll : D.log.length ≤ 1099511627776) :
 Ct Tryz.prog w0 55 #[ptr db, lv.v] H0 (fun r H2 => ∃ K2 : List Nat, ∃ g2 : Rg, r = .tuple #[] ∧ (RDk K2 g2 H2 b (D.change c)) ∧ (NxK K H0.size K2) ∧ (g2.fb = g.fb ∧ g2.dm = g.dm) ∧ Mo (Ms K) H0 H2) := by
 refine Ct.enter (args := [ptr db, lv.v]) Tryz.func55 rfl rfl rfl ?_; intro Q0 hret; have hm0 : Mo (Ms K) H0 H0 := Mo.refl _ _; have nx_hm0_hf := NxK.refl K H0.size; have hbk_hf := hf.bk; refine CW.s1 (fun hK1 => ?_); obtain ⟨nvA, svA, bvA, kcA, blA, hdA⟩ := hf.dirs _ db hdb; have hbn := hdA.bn; have hll2 : (D.chgs p).length ≤ D.log.length := List.length_filter_le _ _; have hop : Mo (Ms [(db + 1), kcA]) H0 H0 := Mo.refl _ _; have km1 : KM K (db + 1) := (hf.km1 hdA.rd (by simp)); have vd := hdA.vd; have hlt_vd := vd.lt; have nx2 : MI K H0.size (db + 1) := MIL.at (MIL.ofK (nx_hm0_hf) (by intro k hk; simp [hk])) km1; have nx3 := Nx.refl (db + 1) H0.size; have km4 : KM K kcA := (hf.km hdA.rc (by simp)); have hc := hdA.hc; have hle_hc := hc.le; have nx5 : MI K H0.size kcA := MIL.at (MIL.ofK (nx_hm0_hf) (by intro k hk; simp [hk])) km4; have nx6 := Nx.refl kcA H0.size; have dj7 : Dj (db + 1) kcA := hdA.ne; refine CW.region ?_; refine LR.m1 ?_; refine LR.m1 ?_; refine LR.v1 (Y.nilCheck rfl rfl) ?_; refine LR.v1 (Y.FA vd.pt rfl u'72 rfl s'69) ?_; refine LR.s1 (S.var1 vd 1 ([Str p, lv.v, svA.v, bvA.v]) rfl rfl rfl (rfl) s'69 (by simp) (rfl)) ?_; rintro H0_4 ⟨vd, hs0_4⟩; replace hs0_4 := hs0_4.md1; replace hc := hc.upL hs0_4 (DL.o dj7.symm); replace hm0 := hm0.trL hs0_4 (MIL.cons (nx2) MIL.nil); replace hop := hop.trL hs0_4 (MIL.o (MI.r nx3)); have hz1 := hs0_4.size; refine LR.nil (hK1 _ _ (CW.region ?_)); refine LR.m1 ?_; refine LR.m1 ?_; refine LR.v1 (Y.nilCheck rfl rfl) ?_; refine LR.v1 (Y.FA vd.pt rfl u'72 rfl s'70) ?_; refine LR.v1 (Y.load1 (vd.pt.drop 3) rfl a'70 rfl) ?_; refine LR.m1 ?_; refine LR.z1 (Z.litw _ ([lv]) rfl inf70 rfl rfl rfl (by decide) (by decide) fSv_len fSv_one (rfl)) ?_; rintro v14 H14 ⟨nw14, hs14, ob14, hH14⟩; have hzs14 : H14.size = H0_4.size + 1 := by rw [hH14]; simp
 replace vd := vd.nw hs14; replace hc := hc.nw hs14; replace hm0 := hm0.trN hs14; replace hop := hop.trN hs14; have hz2 := hs14.size; refine LR.z1 (Z.apnd hc nw14.rd rfl inf70 rfl rfl (by simp; omega) (by simp; omega)) ?_; rintro v15 H15 ⟨k15, hc, hk15, hs15⟩; replace hk15 : Nx kcA H14.size k15 := hk15; replace hs15 := hs15.md; have dj12 : Dj (db + 1) k15 := Dj.app (dj7) vd.lt hk15; have nx15 : Nx kcA H0.size k15 := Nx.tr (nx6) hk15 hop.size; replace vd := vd.upL hs15 (DL.o dj7); replace hm0 := hm0.trL hs15 (MIL.cons (nx5) MIL.nil); replace hop := hop.trL hs15 (MIL.o (MI.r nx6)); have hz3 := hs15.size; have hle_hc := hc.le; obtain ⟨s15, rfl⟩ : ∃ s : SV, v15 = s.v := ⟨toSV v15, hc.sv.symm⟩; refine LR.v1 (Y.nilCheck rfl rfl) ?_; refine LR.v1 (Y.FA vd.pt rfl u'72 rfl s'70) ?_; refine LR.s1 (S.var1 vd 3 ([Str p, lv.v, svA.v, s15.v]) rfl rfl rfl (rfl) s'70 (by simp) (rfl)) ?_; rintro H1_10 ⟨vd, hs1_10⟩; replace hs1_10 := hs1_10.md1; replace hc := hc.upL hs1_10 (DL.o dj12.symm); replace hm0 := hm0.trL hs1_10 (MIL.cons (nx2) MIL.nil); replace hop := hop.trL hs1_10 (MIL.o (MI.r nx3)); have hz4 := hs1_10.size; refine LR.nil ?_; have nx16 : NxK K H0.size (k15 :: K) := (NxK.app (nx_hm0_hf) (km4) (nx15) (by omega)); replace hf := hf.chg hA hB_ hdb hdA hop vd hc (nx15) hl hcd hci hcf; refine hret .normal (.inl rfl) _ _ _ (res0 rfl) ?_; exact ⟨_, _, rfl, hf, nx16, ⟨rfl, rfl⟩, hm0⟩
theorem rfile_ct (K : List Nat) (g : Rg) (b : Nat) (D : Dk) (p : Pth) (w0 : World) (H0 : Heap)
 (hf : RDk K g H0 b D) (hA : Asc D.now) (hB_ : Asc D.stays) (hdl : g.dm.length ≤ 1099511627776) (hl : p.length ≤ 4294967280) :
 Ct Tryz.prog w0 50 #[ptr b, Str p] H0 (fun r H2 => ∃ K2 : List Nat, ∃ g2 : Rg, r = .pointer (fpt g2.fb (mget D.now p)) ∧ (RDk K2 g2 H2 b (D)) ∧ (NxK K H0.size K2) ∧ (g2.fb = g.fb) ∧ (Gr g g2 (dirP p)) ∧ Mo (Ms K) H0 H2) := by
 refine Ct.enter (args := [ptr b, Str p]) Tryz.func50 rfl rfl rfl ?_; intro Q0 hret; have hm0 : Mo (Ms K) H0 H0 := Mo.refl _ _; have nx_hm0_hf := NxK.refl K H0.size; have hbk_hf := hf.bk; refine CW.s1 (fun hK1 => CW.region ?_); refine LR.a1 (LR.nil (hK1 _ _ ?_)); refine CW.seq (fun K2 hK2 _ => CW.region ?_); refine LR.m1 ?_; refine LR.m1 ?_; refine LR.call rfl c'53 rfl (Wd.u rfl) rfl rfl (rdir_ct p w0 _ hl) ?_; rintro v7 H7 ⟨rfl, hs7⟩; replace hf := hf.nw hs7; replace hm0 := hm0.trN hs7; have hz1 := hs7.size; refine LR.call rfl c'54 rfl (Wd.u rfl) rfl rfl (rmk_ct K g b D (dirP p) w0 _ hf hA hB_ hdl (by first | omega | (have := dirP_le p; omega))) ?_; rintro v8 H8 ⟨Q8, g8, db, rfl, hf, hkd8, hdb, hg8, hgd8, hs8⟩; have nx2 : NxK K H0.size Q8 := NxK.tr (nx_hm0_hf) hkd8 hm0.size; replace hm0 := hm0.trL hs8 (MIL.ofK (nx_hm0_hf) (by intro k hk; simp [hk])); obtain ⟨nvA, svA, bvA, kcA, blA, hdA⟩ := hf.dirs _ db hdb; refine LR.v1 (Y.nilCheck rfl rfl) ?_; refine LR.v1 (Y.FA hdA.vd.pt rfl u'72 rfl s'69) ?_; refine LR.v1 (Y.load1 (hdA.vd.pt.drop 1) rfl a'69 rfl) ?_; refine LR.m1 ?_; refine LR.call rfl c'58 rfl (Wd.u rfl) rfl rfl (rfind_ct g8.fb nvA.v (dnl D.now (dirP p)) p w0 _ hdA.hn.any) ?_; rintro v13 H13 ⟨rfl, hs13⟩; replace hf := hf.nw hs13; replace hm0 := hm0.trN hs13; refine LR.a1 (LR.nil (hK2 _ _ ?_)); refine CW.ret (hret .ret (.inr rfl) _ _ _ (res1 rfl rfl) ?_); exact ⟨_, g8, by rw [mget_dnl, if_pos rfl], hf, nx2, hg8, hgd8, hm0⟩
theorem rbeg_ct (K : List Nat) (g : Rg) (b : Nat) (D : Dk) (w0 : World) (H0 : Heap)
 (hf : RDk K g H0 b D) (ho : D.ops ≤ 1099511627776) :
 Ct Tryz.prog w0 48 #[ptr b] H0 (fun r H2 => r = .bool D.begin.1 ∧ (RDk K g H2 b D.begin.2) ∧ Mo (Ms K) H0 H2) := by
 refine Ct.enter (args := [ptr b]) Tryz.func48 rfl rfl rfl ?_; intro Q0 hret; have hm0 : Mo (Ms K) H0 H0 := Mo.refl _ _; have nx_hm0_hf := NxK.refl K H0.size; have hbk_hf := hf.bk; have hlb := hf.lvB; refine CW.s1 (fun hK1 => CW.region ?_); refine LR.a1 (LR.nil (hK1 _ _ ?_)); refine CW.s2 (fun hK2 hE2 => CW.s1 (fun hK3 => CW.region ?_)); refine LR.m1 ?_; refine LR.v1 (Y.nilCheck rfl rfl) ?_; refine LR.v1 (Y.FA hf.vb.pt rfl u'53 rfl s'4) ?_; refine LR.v1 (Y.load1 (hf.vb.pt.drop 5) rfl a'4 rfl) (LR.nil (hK3 _ _ ?_)); refine CW.cond rfl (fun c6 => ?_) (fun c6 => ?_)
 ·
  refine CW.s1 (fun hK4 => CW.region ?_); refine LR.a1 (LR.nil (hK4 _ _ ?_)); refine CW.ret (hE2 .ret nofun _ _ (hret .ret (.inr rfl) _ _ _ (res1 rfl rfl) ?_)); have hbe := rbegin_dead (D := D) c6; exact ⟨by rw [hbe], by rw [hbe]; exact hf, hm0⟩
 ·
  refine CW.skip (hK2 _ _ (CW.s2 (fun hK5 hE5 => CW.s1 (fun hK6 => CW.region ?_)))); refine LR.m1 ?_; refine LR.v1 (Y.nilCheck rfl rfl) ?_; refine LR.v1 (Y.FA hf.vb.pt rfl u'53 rfl s'3) ?_; refine LR.v1 (Y.load1 (hf.vb.pt.drop 4) rfl a'3 rfl) ?_; refine LR.v1 (Y.gtr rfl rfl rfl) (LR.nil (hK6 _ _ ?_)); refine CW.condp rfl (fun c11 => ?_) (fun c11 => ?_)
  ·
   refine CW.s1 (fun hK7 => CW.region ?_); refine LR.m1 ?_; refine LR.v1 (Y.nilCheck rfl rfl) ?_; refine LR.v1 (Y.FA hf.vb.pt rfl u'53 rfl s'3) ?_; refine LR.v1 (Y.load1 (hf.vb.pt.drop 4) rfl a'3 rfl) ?_; refine LR.v1 (Y.cast (v2 := .int .i64 ((D.left - 1 : Nat) : Int)) (Y.subi rfl rfl rfl (by omega)) (ivv (by omega))) ?_; refine LR.v1 (Y.nilCheck rfl rfl) ?_; refine LR.v1 (Y.FA hf.vb.pt rfl u'53 rfl s'3) ?_; refine LR.s1 (rd_left hf (D.left - 1) rfl rfl rfl s'3 (by omega)) ?_; rintro H4_7 ⟨hf, hs4_7⟩; replace hm0 := hm0.trL hs4_7 (MIL.ofK (nx_hm0_hf) (by intro k hk; simp [hk])); have hz1 := hs4_7.size; have hbk_hf := hf.bk; refine LR.nil (hK7 _ _ (CW.s1 (fun hK8 => CW.region ?_))); refine LR.m1 ?_; refine LR.v1 (Y.nilCheck rfl rfl) ?_; refine LR.v1 (Y.FA hf.vb.pt rfl u'53 rfl s'3) ?_; refine LR.v1 (Y.cast (v2 := .int .i64 ((D.left - 1 : Nat) : Int)) (Y.load1 (hf.vb.pt.drop 4) rfl a'3 rfl) (rfl)) ?_; refine LR.v1 (Y.eql rfl rfl rfl) (LR.nil (hK8 _ _ ?_)); refine CW.condp rfl (fun c23 => ?_) (fun c23 => ?_)
   ·
    refine CW.s1 (fun hK9 => CW.region ?_); refine LR.m1 ?_; refine LR.v1 (Y.nilCheck rfl rfl) ?_; refine LR.v1 (Y.FA hf.vb.pt rfl u'53 rfl s'4) ?_; refine LR.s1 (rd_dead hf true rfl rfl rfl s'4) ?_; rintro H6_3 ⟨hf, hs6_3⟩; replace hm0 := hm0.trL hs6_3 (MIL.ofK (nx_hm0_hf) (by intro k hk; simp [hk])); have hz2 := hs6_3.size; have hbk_hf := hf.bk; refine LR.nil (hK9 _ _ (CW.s1 (fun hK10 => CW.region ?_))); refine LR.a1 (LR.nil (hK10 _ _ ?_)); refine CW.ret (hE5 .ret nofun _ _ (hret .ret (.inr rfl) _ _ _ (res1 rfl rfl) ?_)); have hbe := rbegin_stop (D := D) (by simpa using c6) (by omega); have e9 : D.left - 1 = 0 := by omega
    rw [e9] at hf; exact ⟨by rw [hbe], by rw [hbe]; exact hf, hm0⟩
   ·
    refine CW.skip (hK5 _ _ (CW.s1 (fun hK11 => CW.region ?_))); refine LR.m1 ?_; refine LR.v1 (Y.nilCheck rfl rfl) ?_; refine LR.v1 (Y.FA hf.vb.pt rfl u'53 rfl s'3) ?_; refine LR.v1 (Y.cast (v2 := .int .i64 (D.ops : Int)) (Y.load1 (hf.vb.pt.drop 3) rfl a'3 rfl) (rfl)) ?_; refine LR.v1 (Y.cast (v2 := .int .i64 ((D.ops + 1 : Nat) : Int)) (Y.addi rfl rfl rfl (by omega)) (ivv (by omega))) ?_; refine LR.v1 (Y.nilCheck rfl rfl) ?_; refine LR.v1 (Y.FA hf.vb.pt rfl u'53 rfl s'3) ?_; refine LR.s1 (rd_ops hf rfl rfl rfl s'3) ?_; rintro H8_7 ⟨hf, hs8_7⟩; replace hm0 := hm0.trL hs8_7 (MIL.ofK (nx_hm0_hf) (by intro k hk; simp [hk])); have hz3 := hs8_7.size; have hbk_hf := hf.bk; refine LR.nil (hK11 _ _ (CW.s1 (fun hK12 => CW.region ?_))); refine LR.a1 (LR.nil (hK12 _ _ ?_)); refine CW.ret (hret .ret (.inr rfl) _ _ _ (res1 rfl rfl) ?_); have hbe := rbegin_go (D := D) (by simpa using c6) (by omega); exact ⟨by rw [hbe], by rw [hbe]; first | exact hf | (rw [show D.left - 1 = D.left from by omega]; exact hf), hm0⟩
  ·
   refine CW.skip (hK5 _ _ (CW.s1 (fun hK13 => CW.region ?_))); refine LR.m1 ?_; refine LR.v1 (Y.nilCheck rfl rfl) ?_; refine LR.v1 (Y.FA hf.vb.pt rfl u'53 rfl s'3) ?_; refine LR.v1 (Y.cast (v2 := .int .i64 (D.ops : Int)) (Y.load1 (hf.vb.pt.drop 3) rfl a'3 rfl) (rfl)) ?_; refine LR.v1 (Y.cast (v2 := .int .i64 ((D.ops + 1 : Nat) : Int)) (Y.addi rfl rfl rfl (by omega)) (ivv (by omega))) ?_; refine LR.v1 (Y.nilCheck rfl rfl) ?_; refine LR.v1 (Y.FA hf.vb.pt rfl u'53 rfl s'3) ?_; refine LR.s1 (rd_ops hf rfl rfl rfl s'3) ?_; rintro H8_7 ⟨hf, hs8_7⟩; replace hm0 := hm0.trL hs8_7 (MIL.ofK (nx_hm0_hf) (by intro k hk; simp [hk])); have hz4 := hs8_7.size; have hbk_hf := hf.bk; refine LR.nil (hK13 _ _ (CW.s1 (fun hK14 => CW.region ?_))); refine LR.a1 (LR.nil (hK14 _ _ ?_)); refine CW.ret (hret .ret (.inr rfl) _ _ _ (res1 rfl rfl) ?_); have hbe := rbegin_go (D := D) (by simpa using c6) (by omega); exact ⟨by rw [hbe], by rw [hbe]; first | exact hf | (rw [show D.left - 1 = D.left from by omega]; exact hf), hm0⟩
theorem rstop_ct (K : List Nat) (g : Rg) (b : Nat) (D : Dk) (n : Int) (w0 : World) (H0 : Heap)
 (hf : RDk K g H0 b D) (hn : n ≤ 9223372036854775807) :
 Ct Tryz.prog w0 28 #[ptr b, .int .i64 n] H0 (fun r H2 => r = .tuple #[] ∧ (RDk K g H2 b (D.stop n.toNat)) ∧ Mo (Ms K) H0 H2) := by
 refine Ct.enter (args := [ptr b, .int .i64 n]) Tryz.func28 rfl rfl rfl ?_; intro Q0 hret; have hm0 : Mo (Ms K) H0 H0 := Mo.refl _ _; have nx_hm0_hf := NxK.refl K H0.size; have hbk_hf := hf.bk; refine CW.region ?_; refine LR.m1 ?_; refine LR.m1 ?_; refine LR.v1 (Y.cast (v2 := .int .i64 (n.toNat : Int)) (Y.maxi rfl rfl rfl) (ivv (by omega))) ?_; refine LR.v1 (Y.nilCheck rfl rfl) ?_; refine LR.v1 (Y.FA hf.vb.pt rfl u'53 rfl s'3) ?_; refine LR.s1 (rd_left hf n.toNat rfl rfl rfl s'3 (by omega)) ?_; rintro H0_5 ⟨hf, hs0_5⟩; replace hm0 := hm0.trL hs0_5 (MIL.ofK (nx_hm0_hf) (by intro k hk; simp [hk])); refine LR.nil ?_; refine hret .normal (.inl rfl) _ _ _ (res0 rfl) ?_; exact ⟨rfl, hf, hm0⟩
theorem rnew_ct (cap most : Nat) (w0 : World) (H0 : Heap)
 (hc : cap ≤ 9223372036854775807) (hk : most ≤ 9223372036854775807) :
 Ct Tryz.prog w0 6 #[.int .i64 (cap : Int), .int .i64 (most : Int)] H0 (fun r H2 => ∃ K : List Nat, ∃ g : Rg, ∃ b : Nat, r = .tuple #[ptr b, .int .i64 0] ∧ (RDk K g H2 b (Dk.empty cap most)) ∧ (NxK [] H0.size K) ∧ (g.dm = []) ∧ Nw H0 H2) := by
 refine Ct.enter (args := [.int .i64 (cap : Int), .int .i64 (most : Int)]) Tryz.func6 rfl rfl rfl ?_; intro Q0 hret; have hm0 : Nw H0 H0 := Mo.refl _ _; refine CW.s1 (fun hK1 => CW.region ?_); refine LR.a1 ?_; refine LR.a1 (LR.nil (hK1 _ _ ?_)); refine CW.s1 (fun hK2 => CW.s1 (fun hK3 => CW.region ?_)); refine LR.m1 ?_; refine LR.v1 ((Y.lss rfl rfl rfl).isF (by omega)) ?_; refine LR.m1 ?_; refine LR.w1 (Y.move rfl rfl) ?_; refine LR.w1 ((Y.lss rfl rfl rfl).isF (by omega)) ?_; refine LR.v1 (Y.pick_f rfl rfl rfl) (LR.nil (hK3 _ _ ?_)); refine CW.cond_f rfl ?_; refine CW.skip (hK2 _ _ (CW.s1 (fun hK4 => CW.region ?_))); refine LR.m1 ?_; refine LR.m1 ?_; refine LR.v1 (Y.build (v := .agg #[.int .i64 cap, .int .i64 most, .slice none 0 0, .int .i64 0, .int .i64 0, .bool false]) rfl rfl (by intro w; kernel_rfl)) ?_; refine LR.z1 (Z.boxv rfl rfl) ?_; rintro v15 H15 ⟨rfl, hvb, hs15, ob15, hH15⟩; have nx1 : Nx 0 H0.size (H0.size + 1) := Nx.new hm0.size; replace hm0 := hm0.tr hs15; replace hvb : Var 53 H15 H0.size ([.int .i64 cap, .int .i64 most, .slice none 0 0, .int .i64 0, .int .i64 0, .bool false]) := hvb; have nx2 := NxK.cons (nx1) (NxK.refl [] _); have hf := RDk.new cap most hvb hc hk; refine LR.a1 ?_; refine LR.a1 (LR.nil (hK4 _ _ ?_)); refine CW.ret (hret .ret (.inr rfl) _ _ _ (res2 rfl rfl rfl) ?_); exact ⟨_, _, _, rfl, hf, nx2, rfl, hm0⟩
theorem rnewN_ct (a m : Int) (w0 : World) (H0 : Heap)
 (hn : a < 0 ∨ m < 0) :
 Ct Tryz.prog w0 6 #[.int .i64 a, .int .i64 m] H0 (fun r H2 => r = .tuple #[.pointer none, .int .i64 1] ∧ Nw H0 H2) := by
 refine Ct.enter (args := [.int .i64 a, .int .i64 m]) Tryz.func6 rfl rfl rfl ?_; intro Q0 hret; have hm0 : Nw H0 H0 := Mo.refl _ _; refine CW.s1 (fun hK1 => CW.region ?_); refine LR.a1 ?_; refine LR.a1 (LR.nil (hK1 _ _ ?_)); refine CW.s2 (fun _ hE2 => CW.s1 (fun hK3 => CW.region ?_)); refine LR.m1 ?_; refine LR.v1 (Y.lss rfl rfl rfl) ?_; refine LR.m1 ?_; refine LR.splitp (d := 8) rfl (fun g8 => ?_) (fun g8 => ?_)
 ·
  refine LR.g1 ?_; refine LR.g1 ?_; refine LR.v1 (Y.cast (v2 := .bool true) (Y.pick_t rfl rfl rfl) (by first | rfl | (congr 1; simp; omega))) (LR.nil (hK3 _ _ ?_)); refine CW.cond_t rfl ?_; refine CW.s1 (fun hK4 => CW.region ?_); refine LR.a1 ?_; refine LR.a1 (LR.nil (hK4 _ _ ?_)); refine CW.ret (hE2 .ret nofun _ _ (hret .ret (.inr rfl) _ _ _ (res2 rfl rfl rfl) ?_)); exact ⟨rfl, hm0⟩
 ·
  refine LR.w1 (Y.move rfl rfl) ?_; refine LR.w1 (Y.lss rfl rfl rfl) ?_; refine LR.v1 (Y.cast (v2 := .bool true) (Y.pick_f rfl rfl rfl) (by first | rfl | (congr 1; simp; omega))) (LR.nil (hK3 _ _ ?_)); refine CW.cond_t rfl ?_; refine CW.s1 (fun hK5 => CW.region ?_); refine LR.a1 ?_; refine LR.a1 (LR.nil (hK5 _ _ ?_)); refine CW.ret (hE2 .ret nofun _ _ (hret .ret (.inr rfl) _ _ _ (res2 rfl rfl rfl) ?_)); exact ⟨rfl, hm0⟩
end Go.Proofs.YtfbfjhppppoilaaGreatDoor.DskC

namespace Go.Proofs.YtfbfjhppppoilaaGreatDoor.DskD
open E Go.RowKit SimA SimB SimC SimD SimE SimF SimG SimH SimI SimJ SimK SimL SimM SimN SimP SimQ SimR SimX DskA DskB DskC
set_option maxRecDepth 20000
set_option maxRecDepth 100000 in
theorem inf31 : Inf Tryz.prog 31 5 1 1 := ⟨Tryz.underlying31, _, _, rfl, rfl, rfl, rfl, rfl⟩
set_option maxRecDepth 100000 in
theorem inf60 : Inf Tryz.prog 60 9 1 16 := ⟨Tryz.underlying60, _, _, rfl, rfl, rfl, rfl, rfl⟩
theorem rread_ct (K : List Nat) (g : Rg) (b : Nat) (D : Dk) (p : Pth) (w0 : World) (H0 : Heap)
 (hf : RDk K g H0 b D) (hA : Asc D.now) (hB_ : Asc D.stays) (hdl : g.dm.length ≤ 1099511627776) (hl : p.length ≤ 4294967280) (hB : ∀ i, (fget D.fs i).now.length ≤ 1099511627776) :
 Ct Tryz.prog w0 23 #[ptr b, Str p] H0 (fun r H2 => ∃ K2 : List Nat, ∃ g2 : Rg, ∃ s : SV, ∃ k : Nat, r = .tuple #[s.v, .int .i64 (D.readE p : Int)] ∧ (RDk K2 g2 H2 b (D)) ∧ (NxK K H0.size K2) ∧ (Ow k 5 H2 fB 1 s.v (D.readL p)) ∧ (Nx 0 H0.size k) ∧ (DL k K2) ∧ (g2.fb = g.fb) ∧ (Gr g g2 (dirP p)) ∧ Mo (Ms K) H0 H2) := by
 refine Ct.enter (args := [ptr b, Str p]) Tryz.func23 rfl rfl rfl ?_; intro Q0 hret; have hm0 : Mo (Ms K) H0 H0 := Mo.refl _ _; have nx_hm0_hf := NxK.refl K H0.size; have hbk_hf := hf.bk; refine CW.s1 (fun hK1 => CW.region ?_); refine LR.a1 ?_; refine LR.a1 (LR.nil (hK1 _ _ ?_)); refine CW.seq (fun K2 hK2 hE2 => CW.block (fun _ hK3 _ hE3 => CW.s1 (fun hK4 => CW.region ?_))); refine LR.m1 ?_; refine LR.v1 (Y.nilCheck rfl rfl) ?_; refine LR.v1 (Y.FA hf.vb.pt rfl u'53 rfl s'4) ?_; refine LR.v1 (Y.load1 (hf.vb.pt.drop 5) rfl a'4 rfl) ?_; refine LR.a1 (LR.nil (hK4 _ _ ?_)); refine CW.cond rfl (fun c7 => ?_) (fun c7 => ?_)
 ·
  refine CW.s1 (fun hK5 => CW.region ?_); refine LR.a1 ?_; refine LR.a1 (LR.nil (hK5 _ _ ?_)); refine CW.ret (hE3 .ret nofun (by simp) _ _ (hE2 .ret nofun _ _ (hret .ret (.inr rfl) _ _ _ (res2 rfl rfl rfl) ?_))); have hE : D.readE p = 11 := by unfold Dk.readE; rw [if_pos c7]
  have hL : D.readL p = [] := by unfold Dk.readL; rw [if_neg (by omega)]
  exact ⟨K, g, ⟨none, 0, 0⟩, 0, by rw [hE]; rfl, hf, nx_hm0_hf, by rw [hL]; exact Ow.nil fB_len fB_one, Nx.refl _ _, DL.zK, rfl, Gr.refl g _, hm0⟩
 ·
  refine CW.s1 (fun hK6 => CW.region ?_); refine LR.m1 ?_; refine LR.call rfl c'49 rfl (Wd.u rfl) rfl rfl (rname_ct p w0 _ hl) ?_; rintro v14 H14 ⟨rfl, hs14⟩; replace hf := hf.nw hs14; replace hm0 := hm0.trN hs14; have hz1 := hs14.size; refine LR.v1 (Y.not rfl rfl) ?_; refine LR.a1 (LR.nil (hK6 _ _ ?_)); refine CW.cond rfl (fun c12 => ?_) (fun c12 => ?_)
  ·
   refine CW.s1 (fun hK7 => CW.region ?_); refine LR.a1 ?_; refine LR.a1 (LR.nil (hK7 _ _ ?_)); refine CW.ret (hE3 .ret nofun (by simp) _ _ (hE2 .ret nofun _ _ (hret .ret (.inr rfl) _ _ _ (res2 rfl rfl rfl) ?_))); have hE : D.readE p = 7 := by unfold Dk.readE Dk.look; rw [if_neg (by simpa using c7), if_neg (by simpa using c12)]
   have hL : D.readL p = [] := by unfold Dk.readL; rw [if_neg (by omega)]
   exact ⟨K, g, ⟨none, 0, 0⟩, 0, by rw [hE]; rfl, hf, nx_hm0_hf, by rw [hL]; exact Ow.nil fB_len fB_one, Nx.refl _ _, DL.zK, rfl, Gr.refl g _, hm0⟩
  ·
   refine CW.skip (hK3 _ _ (hK2 _ _ (CW.s1 (fun hK8 => CW.region ?_)))); refine LR.m1 ?_; refine LR.m1 ?_; refine LR.call rfl c'50 rfl (Wd.u rfl) rfl rfl (rfile_ct K g b D p w0 _ hf hA hB_ hdl hl) ?_; rintro v18 H18 ⟨Q18, g18, rfl, hf, hkd18, hg18, hgd18, hs18⟩; have nx2 : NxK K H0.size Q18 := NxK.tr (nx_hm0_hf) hkd18 hm0.size; replace hm0 := hm0.trL hs18 (MIL.ofK (nx_hm0_hf) (by intro k hk; simp [hk])); have hz2 := hs18.size; have hbk_hf := hf.bk; refine LR.a1 (LR.nil (hK8 _ _ ?_)); refine CW.s2 (fun hK9 hE9 => CW.s1 (fun hK10 => CW.region ?_)); refine LR.m1 ?_; refine LR.v1 (Y.peq rfl (by kernel_rfl) (by kernel_rfl) rfl rfl) (LR.nil (hK10 _ _ ?_)); refine CW.cond rfl (fun c20 => ?_) (fun c20 => ?_)
   ·
    have hno : mget D.now p = none := by
     cases hq : mget D.now p with
     | none => rfl
     | some i => rw [hq] at c20; cases c20
    refine CW.s1 (fun hK11 => CW.region ?_); refine LR.a1 ?_; refine LR.a1 (LR.nil (hK11 _ _ ?_)); refine CW.ret (hE9 .ret nofun _ _ (hret .ret (.inr rfl) _ _ _ (res2 rfl rfl rfl) ?_)); have hE : D.readE p = 2 := by unfold Dk.readE Dk.look; rw [if_neg (by simpa using c7), if_pos (by simpa using c12), hno]; rfl
    have hL : D.readL p = [] := by unfold Dk.readL; rw [if_neg (by omega)]
    exact ⟨_, g18, ⟨none, 0, 0⟩, 0, by rw [hE]; rfl, hf, nx2, by rw [hL]; exact Ow.nil fB_len fB_one, Nx.refl _ _, DL.zK, hg18, hgd18, hm0⟩
   ·
    obtain ⟨i, hi⟩ : ∃ i, mget D.now p = some i := by
     cases hq : mget D.now p with
     | some i => exact ⟨i, rfl⟩
     | none => rw [hq] at c20; cases c20
    have hbi := hB i; refine CW.skip (hK9 _ _ (CW.s1 (fun hK12 => CW.region ?_))); refine LR.z1 (Z.litw _ (([] : List UInt8)) rfl inf31 rfl rfl rfl (by decide) (by decide) fB_len fB_one (rfl)) ?_; rintro v21 H21 ⟨ow, hs21, ob21, hH21⟩; have hzs21 : H21.size = H18.size + 1 := by rw [hH21]; simp
    have dj3 : DL (H18.size + 1) Q18 := DL.newK hf.bk; have nx4 : Nx 0 H0.size (H18.size + 1) := Nx.new hm0.size; replace hf := hf.nw hs21; replace hm0 := hm0.trN hs21; have hz3 := hs21.size; obtain ⟨nv, sv, wv, kw, lw, hfi⟩ := hf.fil i (hf.ids.1 p i hi); refine LR.v1 (Y.cast (v2 := fvl g18.fb i) (Y.move rfl rfl) (by rw [hi]; rfl)) ?_; refine LR.v1 (Y.nilCheck rfl rfl) ?_; refine LR.v1 (Y.FA hfi.vf.pt rfl u'116 rfl s'31) ?_; refine LR.v1 (Y.load1 (hfi.vf.pt.drop 0) rfl a'31 rfl) ?_; refine LR.z1 (Z.apnd ow hfi.hn rfl inf31 rfl rfl (by simp; omega) (by simp; omega)) ?_; rintro v26 H26 ⟨k26, ow, hk26, hs26⟩; replace hk26 : Nx (H18.size + 1) H21.size k26 := hk26; replace hs26 := hs26.md; have dj5 : DL k26 Q18 := DL.app2 (dj3) hf.bk hk26; have nx6 : Nx 0 H0.size k26 := Nx.tr (nx4) hk26 hm0.size; replace hf := hf.upL hs26 (DKL.cons dj3 DKL.nil); replace hm0 := hm0.trL hs26 (MIL.o (MI.q nx4)); obtain ⟨s26, rfl⟩ : ∃ s : SV, v26 = s.v := ⟨toSV v26, ow.sv.symm⟩; rw [List.nil_append] at ow; refine LR.a1 ?_; refine LR.a1 (LR.nil (hK12 _ _ ?_)); refine CW.ret (hret .ret (.inr rfl) _ _ _ (res2 rfl rfl rfl) ?_); have hE : D.readE p = 0 := by unfold Dk.readE Dk.look; rw [if_neg (by simpa using c7), if_pos (by simpa using c12), hi]; rfl
    have hL : D.readL p = (fget D.fs i).now := by unfold Dk.readL Dk.wasL; rw [if_pos hE, hi]
    exact ⟨_, g18, s26, k26, by rw [hE]; rfl, hf, nx2, by rw [hL]; exact ow, nx6, dj5, hg18, hgd18, hm0⟩
theorem rlist_ct (K : List Nat) (g : Rg) (b : Nat) (D : Dk) (p : Pth) (w0 : World) (H0 : Heap)
 (hf : RDk K g H0 b D) (hA : Asc D.now) (hB_ : Asc D.stays) (hdl : g.dm.length ≤ 1099511627776) (hl : p.length ≤ 4294967280) (hnl : D.now.length ≤ 1099511627776) :
 Ct Tryz.prog w0 25 #[ptr b, Str p] H0 (fun r H2 => ∃ K2 : List Nat, ∃ g2 : Rg, ∃ s : SV, ∃ k : Nat, r = .tuple #[s.v, .int .i64 (D.listE p : Int)] ∧ (RDk K2 g2 H2 b (D)) ∧ (NxK K H0.size K2) ∧ (Ow k 9 H2 fS 1 s.v (D.listL p)) ∧ (Nx 0 H0.size k) ∧ (DL k K2) ∧ (g2.fb = g.fb) ∧ (Gr g g2 p) ∧ Mo (Ms K) H0 H2) := by
 refine Ct.enter (args := [ptr b, Str p]) Tryz.func25 rfl rfl rfl ?_; intro Q0 hret; have hm0 : Mo (Ms K) H0 H0 := Mo.refl _ _; have nx_hm0_hf := NxK.refl K H0.size; have hbk_hf := hf.bk; refine CW.s1 (fun hK1 => CW.region ?_); refine LR.a1 ?_; refine LR.a1 (LR.nil (hK1 _ _ ?_))
 refine CW.cut (fun (_ : Unit) => [(0, ptr b), (1, Str p)])
  (fun (_ : Unit) (H : Heap) => (D.dead = false) ∧ (dirE p = 0) ∧ Nw H0 H) (fun K2 hK2 hE2 => ?_) ?_
 ·
  have hcm2 : Nw H0 H0 := Mo.refl _ _; refine CW.block (fun _ hK3 _ hE3 => CW.s1 (fun hK4 => CW.region ?_)); refine LR.m1 ?_; refine LR.v1 (Y.nilCheck rfl rfl) ?_; refine LR.v1 (Y.FA hf.vb.pt rfl u'53 rfl s'4) ?_; refine LR.v1 (Y.load1 (hf.vb.pt.drop 5) rfl a'4 rfl) ?_; refine LR.a1 (LR.nil (hK4 _ _ ?_)); refine CW.cond rfl (fun c9 => ?_) (fun c9 => ?_)
  ·
   refine CW.s1 (fun hK5 => CW.region ?_); refine LR.a1 ?_; refine LR.a1 (LR.nil (hK5 _ _ ?_)); refine CW.ret (hE3 .ret nofun (by simp) _ _ (hE2 .ret nofun _ _ (hret .ret (.inr rfl) _ _ _ (res2 rfl rfl rfl) ?_))); have hE : D.listE p = 11 := by unfold Dk.listE; rw [if_pos c9]
   have hL : D.listL p = [] := by unfold Dk.listL; rw [if_neg (by omega)]
   exact ⟨K, g, ⟨none, 0, 0⟩, 0, by rw [hE]; rfl, hf, nx_hm0_hf, by rw [hL]; exact Ow.nil fS_len fS_one, Nx.refl _ _, DL.zK, rfl, Gr.refl g _, hm0⟩
  ·
   refine CW.s1 (fun hK6 => CW.region ?_); refine LR.m1 ?_; refine LR.v1 (Y.sneq rfl rfl rfl) ?_; refine LR.m1 ?_; refine LR.splitp (d := 17) rfl (fun g17 => ?_) (fun g17 => ?_)
   ·
    refine LR.w1 (Y.move rfl rfl) ?_; refine LR.call rfl c'49 rfl (Wd.g rfl rfl rfl) rfl rfl (rname_ct p w0 _ hl) ?_; rintro v19 H19 ⟨rfl, hs19⟩; replace hf := hf.nw hs19; replace hm0 := hm0.trN hs19; replace hcm2 := hcm2.tr hs19; have hz1 := hs19.size; refine LR.w1 (Y.not rfl rfl) ?_; refine LR.v1 (Y.pick_t rfl rfl rfl) ?_; refine LR.a1 (LR.nil (hK6 _ _ ?_)); refine CW.cond rfl (fun c14 => ?_) (fun c14 => ?_)
    ·
     refine CW.s1 (fun hK7 => CW.region ?_); refine LR.a1 ?_; refine LR.a1 (LR.nil (hK7 _ _ ?_)); refine CW.ret (hE3 .ret nofun (by simp) _ _ (hE2 .ret nofun _ _ (hret .ret (.inr rfl) _ _ _ (res2 rfl rfl rfl) ?_))); have hE : D.listE p = 7 := by unfold Dk.listE; rw [if_neg (by simpa using c9)]; unfold dirE; rw [if_pos ⟨g17, by simpa using c14⟩]
     have hL : D.listL p = [] := by unfold Dk.listL; rw [if_neg (by omega)]
     exact ⟨K, g, ⟨none, 0, 0⟩, 0, by rw [hE]; rfl, hf, nx_hm0_hf, by rw [hL]; exact Ow.nil fS_len fS_one, Nx.refl _ _, DL.zK, rfl, Gr.refl g _, hm0⟩
    ·
     refine CW.skip (hK3 _ _ ?_); refine QN.sub (hK2 () _ ?_) ⟨rfl, rfl, trivial⟩; exact ⟨by simpa using c9, dirE_cases (fun h => by first | exact absurd h.1 g17 | (rw [h.2] at c14; cases c14)), hcm2⟩
   ·
    refine LR.g1 ?_; refine LR.g1 ?_; refine LR.g1 ?_; refine LR.v1 (Y.pick_f rfl rfl rfl) ?_; refine LR.a1 (LR.nil (hK6 _ _ ?_)); refine CW.cond_f rfl ?_; refine CW.skip (hK3 _ _ ?_); refine QN.sub (hK2 () _ ?_) ⟨rfl, rfl, trivial⟩; exact ⟨by simpa using c9, dirE_cases (fun h => by first | exact absurd h.1 g17 | (rw [h.2] at c14; cases c14)), hcm2⟩
 ·
  intro _ Hcut0 hIcut0; obtain ⟨hc9, hE0, hlmcut0⟩ := hIcut0; replace hf := hf.nw hlmcut0; replace hm0 := hm0.trN hlmcut0; have hz2 := hlmcut0.size; refine CW.s1 (fun hK8 => CW.region ?_); refine LR.a1 (LR.nil (hK8 _ _ ?_)); refine CW.s1 (fun hK9 => CW.region ?_); refine LR.m1 ?_; refine LR.m1 ?_; refine LR.call rfl c'54 rfl (Wd.u rfl) rfl rfl (rmk_ct K g b D p w0 _ hf hA hB_ hdl (by first | omega | (have := dirP_le p; omega))) ?_; rintro v24 H24 ⟨Q24, g24, db, rfl, hf, hkd24, hdb, hg24, hgd24, hs24⟩; have nx2 : NxK K H0.size Q24 := NxK.tr (nx_hm0_hf) hkd24 hm0.size; replace hm0 := hm0.trL hs24 (MIL.ofK (nx_hm0_hf) (by intro k hk; simp [hk])); have hz3 := hs24.size; have hbk_hf := hf.bk; obtain ⟨nvA, svA, bvA, kcA, blA, hdA⟩ := hf.dirs _ db hdb; have hxl : (dnl D.now p).length ≤ D.now.length := List.length_filter_le _ _; have hln := hdA.hn; refine LR.v1 (Y.nilCheck rfl rfl) ?_; refine LR.v1 (Y.FA hdA.vd.pt rfl u'72 rfl s'69) ?_; refine LR.v1 (Y.load1 (hdA.vd.pt.drop 1) rfl a'69 rfl) ?_; refine LR.a1 (LR.nil (hK9 _ _ ?_)); refine CW.s1 (fun hK10 => CW.s1 (fun hK11 => CW.region ?_)); refine LR.a1 (LR.nil (hK11 _ _ ?_)); refine CW.block (fun _ _ hX12 _ => ?_)
  refine CW.loop (fun (s_ : (Nat) × (SV) × (Nat)) => match s_ with | (i, s1, k1) => [(6, s1.v), (7, nvA.v), (8, .int .i64 (i : Int))])
   (fun (s_ : (Nat) × (SV) × (Nat)) (H : Heap) => match s_ with | (i, s1, k1) => (i ≤ (dnl D.now p).length) ∧ (Ow k1 9 H fS 1 s1.v (((dnl D.now p).take i).map (·.1))) ∧ (Nx 0 H24.size k1) ∧ Nw H24 H)
   (fun (s_ : (Nat) × (SV) × (Nat)) => match s_ with | (i, s1, k1) => (dnl D.now p).length - i) (0, ⟨none, 0, 0⟩, 0) ⟨rfl, rfl, rfl, trivial⟩ ?_ ?_
  ·
   exact ⟨(by omega), Ow.nil fS_len fS_one, Nx.refl _ _, Mo.refl _ _⟩
  rintro ⟨i, s1, k1⟩ HL1 hI1 K13 hN13 hE13; obtain ⟨hi, ow, nxl_ow, hlm1⟩ := hI1; have dj3 : DL k1 Q24 := DL.app2 (DL.zK) hf.bk nxl_ow; have nx5 : Nx 0 H0.size k1 := Nx.tr (Nx.refl 0 _) nxl_ow hm0.size; replace hf := hf.nw hlm1; replace hln := hln.nw hlm1; replace hm0 := hm0.trN hlm1; have hz4 := hlm1.size; have hle_ow := ow.le; have nx6 := nxl_ow; refine CW.s2 (fun hK14 hE14 => CW.s1 (fun hK15 => CW.region ?_)); refine LR.m1 ?_; refine LR.m1 ?_; refine LR.v1 (Y.len hln rfl u'69 rfl) ?_; refine LR.v1 (Y.lss rfl rfl rfl) (LR.nil (hK15 _ _ ?_)); refine CW.condp rfl (fun c31 => ?_) (fun c31 => ?_)
  ·
   have hil : i < (dnl D.now p).length := by omega
   obtain ⟨y, hey⟩ : ∃ q, q = (dnl D.now p)[i] := ⟨_, rfl⟩; refine CW.skip (hK14 _ _ (CW.s1 (fun hK16 => CW.block (fun _ hK17 _ _ => CW.region ?_)))); refine LR.m1 ?_; refine LR.m1 ?_; refine LR.m1 ?_; refine LR.e1 (g := fun ad => .pointer (some ad)) (Y.iF hln (i) rfl u'69 s'124 rfl rfl) fun ad37 pt37 => ?_; refine LR.v1 (Y.FA pt37.pt rfl u'124 rfl s'9) ?_; refine LR.v1 (Y.cast (v2 := Str y.1) (Y.load1 (pt37.pt.drop 0) rfl a'9 rfl) (by rw [hey])) ?_; refine LR.z1 (Z.litw _ ([y.1]) rfl inf60 rfl rfl rfl (by decide) (by decide) fS_len fS_one (rfl)) ?_; rintro v40 H40 ⟨nw40, hs40, ob40, hH40⟩; have hzs40 : H40.size = HL1.size + 1 := by rw [hH40]; simp
   replace ow := ow.nw hs40; replace hlm1 := hlm1.tr hs40; have hz5 := hs40.size; refine LR.z1 (Z.apnd ow nw40.rd rfl inf60 rfl rfl (by simp; omega) (by simp; omega)) ?_; rintro v41 H41 ⟨k41, ow, hk41, hs41⟩; replace hk41 : Nx k1 H40.size k41 := hk41; replace hs41 := hs41.md; have nx18 : Nx 0 H24.size k41 := Nx.tr (nx6) hk41 hlm1.size; replace hlm1 := hlm1.tq hs41 (MIL.o (MI.q nx6)); have hz6 := hs41.size; have hle_ow := ow.le; obtain ⟨s41, rfl⟩ : ∃ s : SV, v41 = s.v := ⟨toSV v41, ow.sv.symm⟩; refine LR.a1 (LR.nil (hK17 _ _ ?_)); refine hK16 _ _ (CW.region ?_); refine LR.m1 ?_; refine LR.v1 (Y.addi rfl rfl rfl (by omega)) ?_; refine LR.a1 (LR.nil ?_); refine QN.sub (hN13 (i + 1, s41, k41) _ ?_ ?_) ⟨rfl, rfl, (iv (by omega)), trivial⟩
   · exact ⟨(by omega), by rw [List.take_succ_eq_append_getElem hil, List.map_append, ← hey]; exact ow, nx18, hlm1⟩
   · first | omega | (simp only; omega) | (simp; omega)
  ·
   obtain rfl : i = (dnl D.now p).length := by omega
   rw [List.take_length] at ow; refine CW.exit (hE14 (.exit 1) nofun _ _ (hE13 (.exit 1) nofun _ _ (hX12 _ _ ?_))); refine hK10 _ _ (CW.s1 (fun hK18 => CW.region ?_)); refine LR.m1 ?_; refine LR.a1 ?_; refine LR.a1 (LR.nil (hK18 _ _ ?_)); refine CW.ret (hret .ret (.inr rfl) _ _ _ (res2 rfl rfl rfl) ?_); have hE : D.listE p = 0 := by unfold Dk.listE; rw [if_neg (by simp [hc9])]; exact hE0
   have hL : D.listL p = (dnl D.now p).map (·.1) := by unfold Dk.listL; rw [if_pos hE]
   exact ⟨_, g24, s1, k1, by rw [hE]; rfl, hf, nx2, by rw [hL]; exact ow, (nx5), dj3, hg24, hgd24, hm0⟩
theorem rused_all {K : List Nat} {g : Rg} {H : Heap} {b : Nat} {D : Dk} (hf : RDk K g H b D) (hA : Asc D.now) : ((g.dm.map (·.1)).map (dirS D)).sum = D.used :=
 dirS_all D.fs _ hf.asc.nodup D.now (fun x hx => by
  have h1 := mem_nms hA hx; rw [← isSome_iff_key]
  cases hq : mget g.dm (dirP x.1) with
  | some _ => rfl
  | none => rw [((hf.abs _ hq).1 x.1 rfl).1] at h1; cases h1)
def dmS (D : Dk) (l : Nms) : Nat := ((l.map (·.1)).map (dirS D)).sum
theorem dmS_at {D : Dk} {l : Nms} {i : Nat} (h : i < l.length) : dmS D (l.drop i) = dirS D l[i].1 + dmS D (l.drop (i + 1)) := by
 unfold dmS; rw [List.drop_eq_getElem_cons h, List.map_cons, List.map_cons, List.sum_cons]
theorem usedL_at {fs : List Fdt} {l : Nms} {i : Nat} (h : i < l.length) : usedL fs (l.drop i) = (fget fs l[i].2).now.length + usedL fs (l.drop (i + 1)) := by
 unfold usedL; rw [List.drop_eq_getElem_cons h, List.map_cons, List.sum_cons]
theorem usedL_over {fs : List Fdt} {l : Nms} {i : Nat} (h : ¬ i < l.length) : usedL fs (l.drop i) = 0 := by
 unfold usedL; rw [List.drop_of_length_le (by omega)]; rfl
theorem dmS_over {D : Dk} {l : Nms} {i : Nat} (h : ¬ i < l.length) : dmS D (l.drop i) = 0 := by
 unfold dmS; rw [List.drop_of_length_le (by omega)]; rfl
theorem rused_ct (K : List Nat) (g : Rg) (b : Nat) (D : Dk) (w0 : World) (H0 : Heap)
 (hf : RDk K g H0 b D) (hA : Asc D.now) (hU : D.used ≤ 4611686018427387904) :
 Ct Tryz.prog w0 31 #[ptr b] H0 (fun r H2 => r = .int .i64 (D.used : Int) ∧ Nw H0 H2) := by
 refine Ct.enter (args := [ptr b]) Tryz.func31 rfl rfl rfl ?_; intro Q0 hret; have hm0 : Nw H0 H0 := Mo.refl _ _; have hbk_hf := hf.bk; have hua := rused_all hf hA; have hdml := hf.hd.len; refine CW.s1 (fun hK1 => CW.region ?_); refine LR.a1 (LR.nil (hK1 _ _ ?_)); refine CW.s1 (fun hK2 => CW.region ?_); refine LR.a1 (LR.nil (hK2 _ _ ?_)); refine CW.s1 (fun hK3 => CW.s1 (fun hK4 => CW.region ?_)); refine LR.a1 (LR.nil (hK4 _ _ ?_)); refine CW.block (fun _ _ hX5 _ => ?_)
 refine CW.loop (fun (s_ : (Nat) × (Nat)) => match s_ with | (i, n) => [(0, ptr b), (3, .int .i64 (n : Int)), (4, .int .i64 (i : Int))])
  (fun (s_ : (Nat) × (Nat)) (H : Heap) => match s_ with | (i, n) => (i ≤ g.dm.length) ∧ (n + dmS D (g.dm.drop i) = D.used) ∧ Nw H0 H)
  (fun (s_ : (Nat) × (Nat)) => match s_ with | (i, n) => g.dm.length - i) (0, 0) ⟨rfl, rfl, rfl, trivial⟩ ?_ ?_
 ·
  exact ⟨(by omega), by rw [List.drop_zero, Nat.zero_add]; exact hua, Mo.refl _ _⟩
 rintro ⟨i, n⟩ HL1 hI1 K6 hN6 hE6; obtain ⟨hi, hsum, hlm1⟩ := hI1; replace hf := hf.nw hlm1; replace hm0 := hm0.tr hlm1; have hz1 := hlm1.size; refine CW.s2 (fun hK7 hE7 => CW.s1 (fun hK8 => CW.region ?_)); refine LR.m1 ?_; refine LR.m1 ?_; refine LR.v1 (Y.nilCheck rfl rfl) ?_; refine LR.v1 (Y.FA hf.vb.pt rfl u'53 rfl s'51) ?_; refine LR.v1 (Y.load1 (hf.vb.pt.drop 2) rfl a'51 rfl) ?_; refine LR.v1 (Y.len hf.hd rfl u'51 rfl) ?_; refine LR.v1 (Y.lss rfl rfl rfl) (LR.nil (hK8 _ _ ?_)); refine CW.condp rfl (fun c12 => ?_) (fun c12 => ?_)
 ·
  have hil : i < g.dm.length := by omega
  obtain ⟨y, hey⟩ : ∃ q, q = g.dm[i] := ⟨_, rfl⟩; have hyd : mget g.dm y.1 = some y.2 := by rw [hey]; exact mem_nms hf.asc (List.getElem_mem hil)
  have hds := dmS_at (D := D) hil; rw [← hey] at hds; refine CW.skip (hK7 _ _ (CW.s1 (fun hK9 => CW.block (fun _ hK10 _ _ => CW.s1 (fun hK11 => CW.region ?_))))); refine LR.a1 (LR.nil (hK11 _ _ ?_)); refine CW.block (fun _ _ hX12 _ => ?_)
  refine CW.loop (fun (s_ : (Nat) × (Nat)) => match s_ with | (j, m) => [(0, ptr b), (3, .int .i64 (m : Int)), (4, .int .i64 (i : Int)), (5, .int .i64 (j : Int))])
   (fun (s_ : (Nat) × (Nat)) (H : Heap) => match s_ with | (j, m) => (j ≤ (dnl D.now y.1).length) ∧ (m + usedL D.fs ((dnl D.now y.1).drop j) + dmS D (g.dm.drop (i + 1)) = D.used) ∧ Nw HL1 H)
   (fun (s_ : (Nat) × (Nat)) => match s_ with | (j, m) => (dnl D.now y.1).length - j) (0, n) ⟨rfl, rfl, rfl, rfl, trivial⟩ ?_ ?_
  ·
   exact ⟨(by omega), by rw [List.drop_zero]; have h9 : dirS D y.1 = usedL D.fs (dnl D.now y.1) := rfl; omega, Mo.refl _ _⟩
  rintro ⟨j, m⟩ HL2 hI2 K13 hN13 hE13; obtain ⟨hj, hsum2, hlm2⟩ := hI2; replace hf := hf.nw hlm2; replace hlm1 := hlm1.tr hlm2; have hz2 := hlm2.size; refine CW.s2 (fun hK14 hE14 => CW.s1 (fun hK15 => CW.region ?_)); refine LR.m1 ?_; refine LR.m1 ?_; refine LR.v1 (Y.nilCheck rfl rfl) ?_; refine LR.v1 (Y.FA hf.vb.pt rfl u'53 rfl s'51) ?_; refine LR.v1 (Y.load1 (hf.vb.pt.drop 2) rfl a'51 rfl) ?_; refine LR.m1 ?_; obtain ⟨nvy, svy, bvy, ky, bly, hdy⟩ := hf.dirs _ _ hyd; have hdyl := hdy.hn.len; refine LR.e1 (g := fun ad => .pointer (some ad)) (Y.indexAddr hf.hd (i) rfl u'51 s'73 rfl rfl (by first | rfl | omega) (by first | omega | (simp; omega) | (simp; done))) fun ad21 pt21 => ?_; refine LR.v1 (Y.cast (v2 := ptr y.2) (Y.load1 pt21 rfl a'73 rfl) (by rw [hey])) ?_; refine LR.v1 (Y.nilCheck rfl rfl) ?_; refine LR.v1 (Y.FA hdy.vd.pt rfl u'72 rfl s'69) ?_; refine LR.v1 (Y.load1 (hdy.vd.pt.drop 1) rfl a'69 rfl) ?_; refine LR.v1 (Y.len hdy.hn rfl u'69 rfl) ?_; refine LR.v1 (Y.lss rfl rfl rfl) (LR.nil (hK15 _ _ ?_)); refine CW.condp rfl (fun c27 => ?_) (fun c27 => ?_)
  ·
   have hjl : j < (dnl D.now y.1).length := by omega
   obtain ⟨z, hez⟩ : ∃ q, q = (dnl D.now y.1)[j] := ⟨_, rfl⟩; have hzm : mget D.now z.1 = some z.2 := mem_nms hA (List.mem_filter.1 (by rw [hez]; exact List.getElem_mem hjl : z ∈ (dnl D.now y.1))).1; obtain ⟨nvf, svf, wvf, kf, lf, hfi⟩ := hf.fil _ (hf.ids.1 _ _ hzm); have hdz := usedL_at (fs := D.fs) hjl; rw [← hez] at hdz; refine CW.skip (hK14 _ _ (CW.s1 (fun hK16 => CW.block (fun _ hK17 _ _ => CW.region ?_)))); refine LR.m1 ?_; refine LR.m1 ?_; refine LR.v1 (Y.nilCheck rfl rfl) ?_; refine LR.v1 (Y.FA hf.vb.pt rfl u'53 rfl s'51) ?_; refine LR.v1 (Y.load1 (hf.vb.pt.drop 2) rfl a'51 rfl) ?_; refine LR.m1 ?_; refine LR.e1 (g := fun ad => .pointer (some ad)) (Y.indexAddr hf.hd (i) rfl u'51 s'73 rfl rfl (by first | rfl | omega) (by first | omega | (simp; omega) | (simp; done))) fun ad36 pt36 => ?_; refine LR.v1 (Y.cast (v2 := ptr y.2) (Y.load1 pt36 rfl a'73 rfl) (by rw [hey])) ?_; refine LR.v1 (Y.nilCheck rfl rfl) ?_; refine LR.v1 (Y.FA hdy.vd.pt rfl u'72 rfl s'69) ?_; refine LR.v1 (Y.load1 (hdy.vd.pt.drop 1) rfl a'69 rfl) ?_; refine LR.m1 ?_; refine LR.e1 (g := fun ad => .pointer (some ad)) (Y.indexAddr hdy.hn (j) rfl u'69 s'124 rfl rfl (by first | rfl | omega) (by first | omega | (simp; omega) | (simp; done))) fun ad42 pt42 => ?_; refine LR.v1 (Y.FA pt42 rfl u'124 rfl s'112) ?_; refine LR.v1 (Y.cast (v2 := fvl g.fb z.2) (Y.load1 (pt42.drop 1) rfl a'112 rfl) (by rw [hez])) ?_; refine LR.v1 (Y.nilCheck rfl rfl) ?_; refine LR.v1 (Y.FA hfi.vf.pt rfl u'116 rfl s'31) ?_; refine LR.v1 (Y.load1 (hfi.vf.pt.drop 0) rfl a'31 rfl) ?_; refine LR.v1 (Y.len hfi.hn rfl u'31 rfl) ?_; refine LR.v1 (Y.cast (v2 := .int .i64 ((m + (fget D.fs z.2).now.length : Nat) : Int)) (Y.addi rfl rfl rfl (by omega)) (ivv (by omega))) ?_; refine LR.a1 (LR.nil (hK17 _ _ ?_)); refine hK16 _ _ (CW.region ?_); refine LR.m1 ?_; refine LR.v1 (Y.addi rfl rfl rfl (by omega)) ?_; refine LR.a1 (LR.nil ?_); refine QN.sub (hN13 (j + 1, m + (fget D.fs z.2).now.length) _ ?_ ?_) ⟨rfl, (iv (by omega)), (iv (by omega)), (iv (by omega)), trivial⟩
   · exact ⟨(by omega), by omega, hlm2⟩
   · first | omega | (simp only; omega) | (simp; omega)
  ·
   refine CW.exit (hE14 (.exit 2) nofun _ _ (hE13 (.exit 2) nofun _ _ (hX12 _ _ ?_))); refine hK10 _ _ (hK9 _ _ (CW.region ?_)); refine LR.m1 ?_; refine LR.v1 (Y.addi rfl rfl rfl (by omega)) ?_; refine LR.a1 (LR.nil ?_); refine QN.sub (hN6 (i + 1, m) _ ?_ ?_) ⟨rfl, (iv (by omega)), (iv (by omega)), trivial⟩
   · exact ⟨(by omega), by have h9 := usedL_over (fs := D.fs) (l := dnl D.now y.1) (i := j) (by omega); omega, hlm1⟩
   · first | omega | (simp only; omega) | (simp; omega)
 ·
  have hd0 := dmS_over (D := D) (l := g.dm) (i := i) (by omega); refine CW.exit (hE7 (.exit 0) nofun _ _ (hE6 (.exit 0) nofun _ _ (hX5 _ _ ?_))); refine hK3 _ _ (CW.s1 (fun hK18 => CW.region ?_)); refine LR.m1 ?_; refine LR.a1 (LR.nil (hK18 _ _ ?_)); refine CW.ret (hret .ret (.inr rfl) _ _ _ (res1 rfl rfl) ?_); exact ⟨by rw [show n = D.used by omega], hm0⟩
end Go.Proofs.YtfbfjhppppoilaaGreatDoor.DskD

namespace Go.Proofs.YtfbfjhppppoilaaGreatDoor.DskE
open E Go.RowKit SimA SimB SimC SimD SimE SimF SimG SimH SimI SimJ SimK SimL SimM SimN SimP SimQ SimR SimX DskA DskB DskC DskD
set_option maxRecDepth 20000
theorem lk0 {D : Dk} {p : Pth} {i : Nat} (h : nameB p = true) (h2 : mget D.now p = some i) : D.look p = 0 := by unfold Dk.look; rw [if_pos h, h2]; rfl
theorem lk2 {D : Dk} {p : Pth} (h : nameB p = true) (h2 : mget D.now p = none) : D.look p = 2 := by unfold Dk.look; rw [if_pos h, h2]; rfl
theorem rfindD_ct (fb : List Nat) (v : Value) (l : Nms) (p : Pth) (w0 : World) (H0 : Heap) (hl : RdT H0 (fL fb) 2 v (dnl l (dirP p))) : Ct Tryz.prog w0 58 #[v, Str p] H0 (fun r H2 => r = .pointer (fpt fb (mget l p)) ∧ Nw H0 H2) := by
 have h := rfind_ct fb v (dnl l (dirP p)) p w0 H0 hl; rwa [mget_dnl, if_pos rfl] at h
theorem lk7 {D : Dk} {p : Pth} (h : nameB p = false) : D.look p = 7 := by unfold Dk.look; rw [if_neg (by simp [h])]
set_option maxHeartbeats 2000000 in
theorem rsync_ct (K : List Nat) (g : Rg) (b : Nat) (D : Dk) (p : Pth) (w0 : World) (H0 : Heap)
 (hf : RDk K g H0 b D) (hdl : g.dm.length ≤ 549755813888) (hl : p.length ≤ 4294967280) (hB : Bd 274877906944 D) :
 Ct Tryz.prog w0 17 #[ptr b, Str p] H0 (fun r H2 => ∃ K2 : List Nat, ∃ g2 : Rg, r = .int .i64 ((D.sync p).1 : Int) ∧ (RDk K2 g2 H2 b ((D.sync p).2)) ∧ (NxK K H0.size K2) ∧ (g2.dm.length ≤ g.dm.length + 2) ∧ Mo (Ms K) H0 H2) := by
 refine Ct.enter (args := [ptr b, Str p]) Tryz.func17 rfl rfl rfl ?_; intro Q0 hret; have hm0 : Mo (Ms K) H0 H0 := Mo.refl _ _; have nx_hm0_hf := NxK.refl K H0.size; have hbk_hf := hf.bk; have hop0 := hB.op; obtain ⟨D1, hD1⟩ : ∃ D1, D1 = D.begin.2 := ⟨_, rfl⟩; have hB1 := hB.begin; rw [← hD1] at hB1; refine CW.s1 (fun hK1 => CW.region ?_); refine LR.a1 (LR.nil (hK1 _ _ ?_)); refine CW.seq (fun K2 hK2 hE2 => CW.s1 (fun hK3 => CW.region ?_)); refine LR.m1 ?_; refine LR.call rfl c'48 rfl (Wd.u rfl) rfl rfl (rbeg_ct K g b D w0 _ hf (by omega)) ?_; rintro v7 H7 ⟨rfl, hf, hs7⟩; replace hm0 := hm0.trL hs7 (MIL.ofK (nx_hm0_hf) (by intro k hk; simp [hk])); have hz1 := hs7.size; rw [← hD1] at hf; refine LR.v1 (Y.not rfl rfl) (LR.nil (hK3 _ _ ?_)); refine CW.cond rfl (fun c8 => ?_) (fun c8 => ?_)
 ·
  refine CW.s1 (fun hK4 => CW.region ?_); refine LR.a1 (LR.nil (hK4 _ _ ?_)); refine CW.ret (hE2 .ret nofun _ _ (hret .ret (.inr rfl) _ _ _ (res1 rfl rfl) ?_)); have hdd := sync_dead (p := p) (show D.begin.1 = false by simpa using c8); exact ⟨K, g, by rw [hdd]; rfl, by rw [hdd]; rw [hD1] at hf; exact hf, nx_hm0_hf, Nat.le_add_right _ _, hm0⟩
 ·
  have hgo : D.begin.1 = true := by simpa using c8
  have hlay := sync_go (p := p) hgo; rw [← hD1] at hlay; refine CW.skip (hK2 _ _ (CW.s2 (fun hK5 hE5 => CW.s1 (fun hK6 => CW.region ?_)))); refine LR.m1 ?_; refine LR.call rfl c'49 rfl (Wd.u rfl) rfl rfl (rname_ct p w0 _ hl) ?_; rintro v10 H10 ⟨rfl, hs10⟩; replace hf := hf.nw hs10; replace hm0 := hm0.trN hs10; have hz2 := hs10.size; refine LR.v1 (Y.not rfl rfl) (LR.nil (hK6 _ _ ?_)); refine CW.cond rfl (fun c11 => ?_) (fun c11 => ?_)
  ·
   refine CW.s1 (fun hK7 => CW.region ?_); refine LR.a1 (LR.nil (hK7 _ _ ?_)); refine CW.ret (hE5 .ret nofun _ _ (hret .ret (.inr rfl) _ _ _ (res1 rfl rfl) ?_)); have hlk := lk7 (D := D1) (p := p) (by simpa using c11); exact ⟨K, g, by rw [hlay, hlk]; rfl, by rw [hlay]; rw [if_neg (by omega)]; exact hf, nx_hm0_hf, by omega, hm0⟩
  ·
   refine CW.skip (hK5 _ _ (CW.s1 (fun hK8 => CW.region ?_))); refine LR.m1 ?_; refine LR.m1 ?_; refine LR.call rfl c'50 rfl (Wd.u rfl) rfl rfl (rfile_ct K g b D1 p w0 _ hf hB1.an hB1.ast (by omega) hl) ?_; rintro v14 H14 ⟨Q14, g14, rfl, hf, hkd14, hg14, hgd14, hs14⟩; have nx2 : NxK K H0.size Q14 := NxK.tr (nx_hm0_hf) hkd14 hm0.size; replace hm0 := hm0.trL hs14 (MIL.ofK (nx_hm0_hf) (by intro k hk; simp [hk])); have hz3 := hs14.size; have hbk_hf := hf.bk; have hgl14 := hgd14.2; refine LR.a1 (LR.nil (hK8 _ _ ?_)); refine CW.s2 (fun hK9 hE9 => CW.s1 (fun hK10 => CW.region ?_)); refine LR.m1 ?_; refine LR.v1 (Y.peq rfl (by kernel_rfl) (by kernel_rfl) rfl rfl) (LR.nil (hK10 _ _ ?_)); refine CW.cond rfl (fun c16 => ?_) (fun c16 => ?_)
   ·
    have hno : mget D1.now p = none := by
     cases hq : mget D1.now p with
     | none => rfl
     | some i => rw [hq] at c16; cases c16
    refine CW.s1 (fun hK11 => CW.region ?_); refine LR.a1 (LR.nil (hK11 _ _ ?_)); refine CW.ret (hE9 .ret nofun _ _ (hret .ret (.inr rfl) _ _ _ (res1 rfl rfl) ?_)); have hlk := lk2 (by simpa using c11) hno; exact ⟨_, g14, by rw [hlay, hlk]; rfl, by rw [hlay]; rw [if_neg (by omega)]; exact hf, nx2, by omega, hm0⟩
   ·
    obtain ⟨i, hnow⟩ : ∃ i, mget D1.now p = some i := by
     cases hq : mget D1.now p with
     | some i => exact ⟨i, rfl⟩
     | none => rw [hq] at c16; cases c16
    have hil := hf.ids.1 p i hnow; obtain ⟨bi, hbi, hbv⟩ : ∃ bi, g14.fb.getD i 0 = bi ∧ .pointer (fpt g14.fb (mget D1.now p)) = ptr bi := ⟨_, rfl, by rw [hnow]; rfl⟩; refine CW.skip (hK9 _ _ (CW.s1 (fun hK12 => ?_))); obtain ⟨nvB, svB, wvB, kwB, lwB, hfiB⟩ := hf.fil i hil; have hop : Mo (Ms [(bi + 1)]) H14 H14 := Mo.refl _ _; have km3 : KM Q14 (bi + 1) := (hf.kmf hfiB hbi); have vf2 := hfiB.atb hbi; have hlt_vf2 := vf2.lt; have nx4 : MI K H0.size (bi + 1) := MIL.at (MIL.ofK (nx2) (by intro k hk; simp [hk])) km3; have nx5 := Nx.refl (bi + 1) H14.size; refine CW.region ?_; refine LR.v1 (Y.cast (v2 := ptr bi) (Y.move rfl rfl) (hbv)) ?_; refine LR.v1 (Y.cast (v2 := ptr bi) (Y.move rfl rfl) (hbv)) ?_; refine LR.v1 (Y.nilCheck rfl rfl) ?_; refine LR.v1 (Y.FA vf2.pt rfl u'116 rfl s'31) ?_; refine LR.v1 (Y.load1 vf2.pt rfl a'31 rfl) ?_; refine LR.v1 (Y.nilCheck rfl rfl) ?_; refine LR.v1 (Y.FA vf2.pt rfl u'116 rfl s'31) ?_; refine LR.s1 (S.var1 vf2 1 ([nvB.v, nvB.v, wvB.v]) rfl rfl rfl (rfl) s'31 (by simp) (rfl)) ?_; rintro H8_7 ⟨vf2, hs8_7⟩; replace hs8_7 := hs8_7.md1; replace hm0 := hm0.trL hs8_7 (MIL.cons (nx4) MIL.nil); replace hop := hop.trL hs8_7 (MIL.o (MI.r nx5)); have hz4 := hs8_7.size; refine LR.nil (hK12 _ _ (CW.s1 (fun hK13 => CW.region ?_))); refine LR.v1 (Y.cast (v2 := ptr bi) (Y.move rfl rfl) (hbv)) ?_; refine LR.v1 (Y.nilCheck rfl rfl) ?_; refine LR.v1 (Y.FA vf2.pt rfl u'116 rfl s'114) ?_; refine LR.s1 (S.var1 vf2 2 ([nvB.v, nvB.v, .slice none 0 0]) rfl rfl rfl (rfl) s'114 (by simp) (rfl)) ?_; rintro H9_3 ⟨vf2, hs9_3⟩; replace hs9_3 := hs9_3.md1; replace hm0 := hm0.trL hs9_3 (MIL.cons (nx4) MIL.nil); replace hop := hop.trL hs9_3 (MIL.o (MI.r nx5)); have hz5 := hs9_3.size; refine LR.nil ?_; have nx6 : NxK K H0.size Q14 := nx2; replace hf := hf.fsync hil hfiB hbi hop vf2; have hbk_hf := hf.bk; refine hK13 _ _ (CW.s1 (fun hK14 => CW.region ?_)); refine LR.a1 (LR.nil (hK14 _ _ ?_)); refine CW.ret (hret .ret (.inr rfl) _ _ _ (res1 rfl rfl) ?_); have hlk := lk0 (by simpa using c11) hnow; exact ⟨_, g14, by rw [hlay, hlk]; rfl, by rw [hlay]; simp only [hlk, if_true, hnow, Option.getD_some]; exact hf, nx6, by omega, hm0⟩
set_option maxHeartbeats 2000000 in
theorem rsyncDir_ct (K : List Nat) (g : Rg) (b : Nat) (D : Dk) (p : Pth) (w0 : World) (H0 : Heap)
 (hf : RDk K g H0 b D) (hdl : g.dm.length ≤ 549755813888) (hl : p.length ≤ 4294967280) (hB : Bd 274877906944 D) :
 Ct Tryz.prog w0 22 #[ptr b, Str p] H0 (fun r H2 => ∃ K2 : List Nat, ∃ g2 : Rg, r = .int .i64 ((D.syncDir p).1 : Int) ∧ (RDk K2 g2 H2 b ((D.syncDir p).2)) ∧ (NxK K H0.size K2) ∧ (g2.dm.length ≤ g.dm.length + 2) ∧ Mo (Ms K) H0 H2) := by
 refine Ct.enter (args := [ptr b, Str p]) Tryz.func22 rfl rfl rfl ?_; intro Q0 hret; have hm0 : Mo (Ms K) H0 H0 := Mo.refl _ _; have nx_hm0_hf := NxK.refl K H0.size; have hbk_hf := hf.bk; have hop0 := hB.op; obtain ⟨D1, hD1⟩ : ∃ D1, D1 = D.begin.2 := ⟨_, rfl⟩; have hB1 := hB.begin; rw [← hD1] at hB1; refine CW.s1 (fun hK1 => CW.region ?_); refine LR.a1 (LR.nil (hK1 _ _ ?_)); refine CW.seq (fun K2 hK2 hE2 => CW.s1 (fun hK3 => CW.region ?_)); refine LR.m1 ?_; refine LR.call rfl c'48 rfl (Wd.u rfl) rfl rfl (rbeg_ct K g b D w0 _ hf (by omega)) ?_; rintro v7 H7 ⟨rfl, hf, hs7⟩; replace hm0 := hm0.trL hs7 (MIL.ofK (nx_hm0_hf) (by intro k hk; simp [hk])); have hz1 := hs7.size; rw [← hD1] at hf; refine LR.v1 (Y.not rfl rfl) (LR.nil (hK3 _ _ ?_)); refine CW.cond rfl (fun c8 => ?_) (fun c8 => ?_)
 ·
  refine CW.s1 (fun hK4 => CW.region ?_); refine LR.a1 (LR.nil (hK4 _ _ ?_)); refine CW.ret (hE2 .ret nofun _ _ (hret .ret (.inr rfl) _ _ _ (res1 rfl rfl) ?_)); have hdd := sd_dead (p := p) (show D.begin.1 = false by simpa using c8); exact ⟨K, g, by rw [hdd]; rfl, by rw [hdd]; rw [hD1] at hf; exact hf, nx_hm0_hf, Nat.le_add_right _ _, hm0⟩
 ·
  have hgo : D.begin.1 = true := by simpa using c8
  have hlay := sd_go (p := p) hgo; rw [← hD1] at hlay; refine CW.skip (hK2 _ _ ?_)
  refine CW.cut (fun (_ : Unit) => [(0, ptr b), (1, Str p)])
   (fun (_ : Unit) (H : Heap) => (dirE p = 0) ∧ Nw H7 H) (fun _ hK5 hE5 => ?_) ?_
  ·
   have hcm5 : Nw H7 H7 := Mo.refl _ _; refine CW.s1 (fun hK6 => CW.region ?_); refine LR.m1 ?_; refine LR.v1 (Y.sneq rfl rfl rfl) ?_; refine LR.m1 ?_; refine LR.splitp (d := 11) rfl (fun g11 => ?_) (fun g11 => ?_)
   ·
    refine LR.w1 (Y.move rfl rfl) ?_; refine LR.call rfl c'49 rfl (Wd.g rfl rfl rfl) rfl rfl (rname_ct p w0 _ hl) ?_; rintro v13 H13 ⟨rfl, hs13⟩; replace hf := hf.nw hs13; replace hm0 := hm0.trN hs13; replace hcm5 := hcm5.tr hs13; have hz2 := hs13.size; refine LR.w1 (Y.not rfl rfl) ?_; refine LR.v1 (Y.pick_t rfl rfl rfl) (LR.nil (hK6 _ _ ?_)); refine CW.cond rfl (fun c15 => ?_) (fun c15 => ?_)
    ·
     refine CW.s1 (fun hK7 => CW.region ?_); refine LR.a1 (LR.nil (hK7 _ _ ?_)); refine CW.ret (hE5 .ret nofun _ _ (hret .ret (.inr rfl) _ _ _ (res1 rfl rfl) ?_)); have hE : dirE p = 7 := by unfold dirE; rw [if_pos ⟨g11, by simpa using c15⟩]
     exact ⟨K, g, by rw [hlay, hE]; rfl, by rw [hlay, hE]; exact hf, nx_hm0_hf, by omega, hm0⟩
    ·
     refine CW.skip ?_; refine QN.sub (hK5 () _ ?_) ⟨rfl, rfl, trivial⟩; exact ⟨dirE_cases (fun h => by first | exact absurd h.1 g11 | (rw [h.2] at c15; cases c15)), hcm5⟩
   ·
    refine LR.g1 ?_; refine LR.g1 ?_; refine LR.g1 ?_; refine LR.v1 (Y.pick_f rfl rfl rfl) (LR.nil (hK6 _ _ ?_)); refine CW.cond_f rfl ?_; refine CW.skip ?_; refine QN.sub (hK5 () _ ?_) ⟨rfl, rfl, trivial⟩; exact ⟨dirE_cases (fun h => by first | exact absurd h.1 g11 | (rw [h.2] at c15; cases c15)), hcm5⟩
  ·
   intro _ Hcutc15 hIcutc15; obtain ⟨hE, hlmcutc15⟩ := hIcutc15; replace hf := hf.nw hlmcutc15; replace hm0 := hm0.trN hlmcutc15; have hz3 := hlmcutc15.size; refine CW.s1 (fun hK8 => CW.region ?_); refine LR.m1 ?_; refine LR.m1 ?_; refine LR.call rfl c'54 rfl (Wd.u rfl) rfl rfl (rmk_ct K g b D1 p w0 _ hf hB1.an hB1.ast (by omega) (by first | omega | (have := dirP_le p; omega))) ?_; rintro v18 H18 ⟨Q18, g18, db, rfl, hf, hkd18, hdb, hg18, hgd18, hs18⟩; have nx2 : NxK K H0.size Q18 := NxK.tr (nx_hm0_hf) hkd18 hm0.size; replace hm0 := hm0.trL hs18 (MIL.ofK (nx_hm0_hf) (by intro k hk; simp [hk])); have hz4 := hs18.size; have hbk_hf := hf.bk; have hgl18 := hgd18.2; refine LR.a1 (LR.nil (hK8 _ _ ?_)); refine CW.s1 (fun hK9 => ?_); obtain ⟨nvA, svA, bvA, kcA, blA, hdA⟩ := hf.dirs _ db hdb; have hop : Mo (Ms [(db + 1)]) H18 H18 := Mo.refl _ _; have km3 : KM Q18 (db + 1) := (hf.km1 hdA.rd (by simp)); have vd := hdA.vd; have hlt_vd := vd.lt; have nx4 : MI K H0.size (db + 1) := MIL.at (MIL.ofK (nx2) (by intro k hk; simp [hk])) km3; have nx5 := Nx.refl (db + 1) H18.size; refine CW.region ?_; refine LR.m1 ?_; refine LR.m1 ?_; refine LR.v1 (Y.nilCheck rfl rfl) ?_; refine LR.v1 (Y.FA vd.pt rfl u'72 rfl s'69) ?_; refine LR.v1 (Y.load1 (vd.pt.drop 1) rfl a'69 rfl) ?_; refine LR.v1 (Y.nilCheck rfl rfl) ?_; refine LR.v1 (Y.FA vd.pt rfl u'72 rfl s'69) ?_; refine LR.s1 (S.var1 vd 2 ([Str p, nvA.v, nvA.v, bvA.v]) rfl rfl rfl (rfl) s'69 (by simp) (rfl)) ?_; rintro H6_7 ⟨vd, hs6_7⟩; replace hs6_7 := hs6_7.md1; replace hm0 := hm0.trL hs6_7 (MIL.cons (nx4) MIL.nil); replace hop := hop.trL hs6_7 (MIL.o (MI.r nx5)); have hz5 := hs6_7.size; refine LR.nil (hK9 _ _ (CW.s1 (fun hK10 => CW.region ?_))); refine LR.m1 ?_; refine LR.v1 (Y.nilCheck rfl rfl) ?_; refine LR.v1 (Y.FA vd.pt rfl u'72 rfl s'70) ?_; refine LR.s1 (S.var1 vd 3 ([Str p, nvA.v, nvA.v, .slice none 0 0]) rfl rfl rfl (rfl) s'70 (by simp) (rfl)) ?_; rintro H7_3 ⟨vd, hs7_3⟩; replace hs7_3 := hs7_3.md1; replace hm0 := hm0.trL hs7_3 (MIL.cons (nx4) MIL.nil); replace hop := hop.trL hs7_3 (MIL.o (MI.r nx5)); have hz6 := hs7_3.size; refine LR.nil ?_; have nx6 : NxK K H0.size Q18 := nx2; replace hf := hf.dsync hB1.an hB1.ast hdb hdA hop vd; have hbk_hf := hf.bk; refine hK10 _ _ (CW.s1 (fun hK11 => CW.region ?_)); refine LR.a1 (LR.nil (hK11 _ _ ?_)); refine CW.ret (hret .ret (.inr rfl) _ _ _ (res1 rfl rfl) ?_); exact ⟨_, g18, by rw [hlay, hE]; rfl, by rw [hlay, hE]; exact hf, nx6, by omega, hm0⟩
set_option maxHeartbeats 2000000 in
theorem rremove_ct (K : List Nat) (g : Rg) (b : Nat) (D : Dk) (p : Pth) (w0 : World) (H0 : Heap)
 (hf : RDk K g H0 b D) (hdl : g.dm.length ≤ 549755813888) (hl : p.length ≤ 4294967280) (hB : Bd 274877906944 D) :
 Ct Tryz.prog w0 21 #[ptr b, Str p] H0 (fun r H2 => ∃ K2 : List Nat, ∃ g2 : Rg, r = .int .i64 ((D.remove p).1 : Int) ∧ (RDk K2 g2 H2 b ((D.remove p).2)) ∧ (NxK K H0.size K2) ∧ (g2.dm.length ≤ g.dm.length + 2) ∧ Mo (Ms K) H0 H2) := by
 refine Ct.enter (args := [ptr b, Str p]) Tryz.func21 rfl rfl rfl ?_; intro Q0 hret; have hm0 : Mo (Ms K) H0 H0 := Mo.refl _ _; have nx_hm0_hf := NxK.refl K H0.size; have hbk_hf := hf.bk; have hop0 := hB.op; obtain ⟨D1, hD1⟩ : ∃ D1, D1 = D.begin.2 := ⟨_, rfl⟩; have hB1 := hB.begin; rw [← hD1] at hB1; refine CW.s1 (fun hK1 => CW.region ?_); refine LR.a1 (LR.nil (hK1 _ _ ?_)); refine CW.seq (fun K2 hK2 hE2 => CW.s1 (fun hK3 => CW.region ?_)); refine LR.m1 ?_; refine LR.call rfl c'48 rfl (Wd.u rfl) rfl rfl (rbeg_ct K g b D w0 _ hf (by omega)) ?_; rintro v7 H7 ⟨rfl, hf, hs7⟩; replace hm0 := hm0.trL hs7 (MIL.ofK (nx_hm0_hf) (by intro k hk; simp [hk])); have hz1 := hs7.size; rw [← hD1] at hf; refine LR.v1 (Y.not rfl rfl) (LR.nil (hK3 _ _ ?_)); refine CW.cond rfl (fun c8 => ?_) (fun c8 => ?_)
 ·
  refine CW.s1 (fun hK4 => CW.region ?_); refine LR.a1 (LR.nil (hK4 _ _ ?_)); refine CW.ret (hE2 .ret nofun _ _ (hret .ret (.inr rfl) _ _ _ (res1 rfl rfl) ?_)); have hdd := rem_dead (p := p) (show D.begin.1 = false by simpa using c8); exact ⟨K, g, by rw [hdd]; rfl, by rw [hdd]; rw [hD1] at hf; exact hf, nx_hm0_hf, Nat.le_add_right _ _, hm0⟩
 ·
  have hgo : D.begin.1 = true := by simpa using c8
  have hlay := rem_go (p := p) hgo; rw [← hD1] at hlay; refine CW.skip (hK2 _ _ (CW.s2 (fun hK5 hE5 => CW.s1 (fun hK6 => CW.region ?_)))); refine LR.m1 ?_; refine LR.call rfl c'49 rfl (Wd.u rfl) rfl rfl (rname_ct p w0 _ hl) ?_; rintro v10 H10 ⟨rfl, hs10⟩; replace hf := hf.nw hs10; replace hm0 := hm0.trN hs10; have hz2 := hs10.size; refine LR.v1 (Y.not rfl rfl) (LR.nil (hK6 _ _ ?_)); refine CW.cond rfl (fun c11 => ?_) (fun c11 => ?_)
  ·
   refine CW.s1 (fun hK7 => CW.region ?_); refine LR.a1 (LR.nil (hK7 _ _ ?_)); refine CW.ret (hE5 .ret nofun _ _ (hret .ret (.inr rfl) _ _ _ (res1 rfl rfl) ?_)); have hlk := lk7 (D := D1) (p := p) (by simpa using c11); exact ⟨K, g, by rw [hlay, hlk]; rfl, by rw [hlay]; rw [if_neg (by omega)]; exact hf, nx_hm0_hf, by omega, hm0⟩
  ·
   refine CW.skip (hK5 _ _ (CW.s1 (fun hK8 => CW.region ?_))); refine LR.m1 ?_; refine LR.m1 ?_; refine LR.call rfl c'53 rfl (Wd.u rfl) rfl rfl (rdir_ct p w0 _ hl) ?_; rintro v14 H14 ⟨rfl, hs14⟩; replace hf := hf.nw hs14; replace hm0 := hm0.trN hs14; have hz3 := hs14.size; refine LR.call rfl c'54 rfl (Wd.u rfl) rfl rfl (rmk_ct K g b D1 (dirP p) w0 _ hf hB1.an hB1.ast (by omega) (by first | omega | (have := dirP_le p; omega))) ?_; rintro v15 H15 ⟨Q15, g15, db, rfl, hf, hkd15, hdb, hg15, hgd15, hs15⟩; have nx2 : NxK K H0.size Q15 := NxK.tr (nx_hm0_hf) hkd15 hm0.size; replace hm0 := hm0.trL hs15 (MIL.ofK (nx_hm0_hf) (by intro k hk; simp [hk])); have hz4 := hs15.size; have hbk_hf := hf.bk; have hgl15 := hgd15.2; refine LR.a1 (LR.nil (hK8 _ _ ?_)); refine CW.s2 (fun hK9 hE9 => CW.s1 (fun hK10 => CW.region ?_)); refine LR.m1 ?_; obtain ⟨nvA, svA, bvA, kcA, blA, hdA⟩ := hf.dirs _ db hdb; have hxl : (dnl D1.now (dirP p)).length ≤ D1.now.length := List.length_filter_le _ _; have hnl := hB1.nl; have hgl := hB1.lg; refine LR.v1 (Y.nilCheck rfl rfl) ?_; refine LR.v1 (Y.FA hdA.vd.pt rfl u'72 rfl s'69) ?_; refine LR.v1 (Y.load1 (hdA.vd.pt.drop 1) rfl a'69 rfl) ?_; refine LR.m1 ?_; refine LR.call rfl c'58 rfl (Wd.u rfl) rfl rfl (rfindD_ct g15.fb nvA.v D1.now p w0 _ hdA.hn.any) ?_; rintro v21 H21 ⟨rfl, hs21⟩; replace hf := hf.nw hs21; replace hm0 := hm0.trN hs21; have hz5 := hs21.size; refine LR.v1 (Y.peq rfl (by kernel_rfl) (by kernel_rfl) rfl rfl) (LR.nil (hK10 _ _ ?_)); refine CW.cond rfl (fun c22 => ?_) (fun c22 => ?_)
   ·
    have hno : mget D1.now p = none := by
     cases hq : mget D1.now p with
     | none => rfl
     | some i => rw [hq] at c22; cases c22
    refine CW.s1 (fun hK11 => CW.region ?_); refine LR.a1 (LR.nil (hK11 _ _ ?_)); refine CW.ret (hE9 .ret nofun _ _ (hret .ret (.inr rfl) _ _ _ (res1 rfl rfl) ?_)); have hlk := lk2 (by simpa using c11) hno; exact ⟨_, g15, by rw [hlay, hlk]; rfl, by rw [hlay]; rw [if_neg (by omega)]; exact hf, nx2, by omega, hm0⟩
   ·
    obtain ⟨i, hnow⟩ : ∃ i, mget D1.now p = some i := by
     cases hq : mget D1.now p with
     | some i => exact ⟨i, rfl⟩
     | none => rw [hq] at c22; cases c22
    have hil := hf.ids.1 p i hnow; refine CW.skip (hK9 _ _ (CW.s1 (fun hK12 => CW.region ?_))); refine LR.m1 ?_; refine LR.m1 ?_; obtain ⟨nvB, svB, bvB, kcB, blB, hdB⟩ := hf.dirs _ db hdb; refine LR.v1 (Y.nilCheck rfl rfl) ?_; refine LR.v1 (Y.FA hdB.vd.pt rfl u'72 rfl s'69) ?_; refine LR.v1 (Y.load1 (hdB.vd.pt.drop 1) rfl a'69 rfl) ?_; refine LR.m1 ?_; refine LR.call rfl c'57 rfl (Wd.u rfl) rfl rfl (without_ct g15.fb nvB.v (dnl D1.now (dirP p)) p w0 _ hdB.hn.any (by omega)) ?_; rintro v29 H29 ⟨s29, k29, rfl, ow, hk29, hs29⟩; have dj3 : DL k29 Q15 := DL.app2 (DL.zK) hf.bk hk29; have nx4 : Nx 0 H0.size k29 := Nx.tr (Nx.refl 0 _) hk29 hm0.size; replace hf := hf.nw hs29; replace hm0 := hm0.trN hs29; have hz6 := hs29.size; have hle_ow := ow.le; have hlz := ow_frz (ρ := g15.ρ) ow; have hpn : p ≠ [] := name_ne (by simpa using c11); have nx5 := NxK.cons (nx4) (nx2); replace hf := hf.fz ow (dj3); have hbk_hf := hf.bk; refine LR.call rfl c'55 rfl (Wd.u rfl) rfl rfl (rchg_ct (k29 :: Q15) { g15 with ρ := uprk g15.ρ k29 .frz } b D1 (dirP p) db s29 ⟨p, [], none⟩ w0 _ hf hB1.an hB1.ast hdb (by show Rd _ _ _ _ _ (if p = [] then _ else _); rw [if_neg hpn]; exact hlz) (by simp [Chg.dir, hpn]) ⟨nofun, fun _ => rfl⟩ nofun (by omega)) ?_; rintro v30 H30 ⟨Q30, g30, rfl, hf, hkd30, hg30, hs30⟩; have nx7 : NxK K H0.size Q30 := NxK.tr (nx5) hkd30 hm0.size; replace hm0 := hm0.trL hs30 (MIL.ofK (nx5) (by intro k hk; simp [hk])); have hz7 := hs30.size; have hbk_hf := hf.bk; refine LR.nil (hK12 _ _ (CW.s1 (fun hK13 => CW.region ?_))); refine LR.a1 (LR.nil (hK13 _ _ ?_)); refine CW.ret (hret .ret (.inr rfl) _ _ _ (res1 rfl rfl) ?_); have hlk := lk0 (by simpa using c11) hnow; exact ⟨_, g30, by rw [hlay, hlk]; rfl, by rw [hlay]; simp only [hlk, if_true]; exact hf, nx7, by rw [hg30.2]; show g15.dm.length ≤ _; omega, hm0⟩
end Go.Proofs.YtfbfjhppppoilaaGreatDoor.DskE
