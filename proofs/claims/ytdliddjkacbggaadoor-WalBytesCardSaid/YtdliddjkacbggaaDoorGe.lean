/-
  Contracts of functions of the program, and plain laws: put together of several texts.
-/
import Derived.RangeFuncLeaves
import Derived.RangeFuncRecord
import Derived.RangeFuncSeq
import Derived.Sort.Walk0
import Derived.Test.YtdliddjkacbggaaDoorGd
import Derived.Shelf.Vars
import Derived.Test.YtdliddjkacbggaaDoorGc
import Derived.Test.YtdliddjkacbggaaDoorGb
/-
  The keys of a map, collected into a row of one's own, and sorted.
-/
namespace Go.Proofs.YtdliddjkacbggaaDoor.SimK
open Go.Proofs.YtdliddjkacbggaaDoor.E Go.RowKit Go.Proofs.YtdliddjkacbggaaDoor.SimA Go.Proofs.YtdliddjkacbggaaDoor.SimB Go.Proofs.YtdliddjkacbggaaDoor.SimC Go.Proofs.YtdliddjkacbggaaDoor.SimD Go.Proofs.YtdliddjkacbggaaDoor.SimE Go.Proofs.YtdliddjkacbggaaDoor.SimF Go.Proofs.YtdliddjkacbggaaDoor.SimG Go.Proofs.YtdliddjkacbggaaDoor.SimH Go.Proofs.YtdliddjkacbggaaDoor.SimI
set_option maxRecDepth 20000
set_option linter.unusedVariables false
set_option linter.unusedSimpArgs false
set_option linter.unusedSectionVars false



/-- the loop's record -/
theorem Fr.start {n : Nat} {args : List Value} (hk : args.length ≤ n) : Fr n (argL args 0) { tmps := args.toArray ++ Array.replicate (n - args.toArray.size) undef, defers := [] } := by
  refine ⟨rfl, ?_, ?_⟩
  · simp; omega
  · intro t v e
    obtain ⟨_, h2⟩ := argL_get args 0 t v e
    simp only [Nat.sub_zero] at h2
    simp only
    have hlt := (List.getElem?_eq_some_iff.1 h2).1
    rw [Array.getElem?_append_left (by simpa using hlt)]
    simpa using h2
theorem LRD.v {P : Program} {w0 : World} {Q : Exit → Act → World → Prop} {n : Nat} {l : FL} {H : Heap} {ops : Array Oper} {rest : List Oper} {o : Oper} {ds : List Deferred} {v : Value} {d : Nat} (hy : Y P w0 n l H o v) (hnd : ∀ c, o.op ≠ .defer c) (hw : Wd ops l o) (hd : o.dst = some d) (hn : Nat.blt d n = true)
    (h : ∀ a w, Fr n ((d, v) :: l) a → At w0 H w → wpListIn (FW none) 0 P ops Q rest { a with defers := ds } w) : ∀ a w, Fr n l a → At w0 H w → wpListIn (FW none) 0 P ops Q (o :: rest) { a with defers := ds } w := by
  intro a w hf ha
  have hp := hf.put hn v
  rw [← hd] at hp
  unfold wpListIn
  rw [if_pos (hw n a hf)]
  refine ⟨fun _ _ => trivial, ?_⟩
  rw [Oper.semAt_eq _ _ _ hnd]
  show Oper.uponIn _ _ _ _ _ _ _ ((execOp a.eval o).run P w)
  rw [hy a w hf ha, Oper.uponIn_value]
  have h2 := h _ w hp ha
  have e : ({ a with defers := ds } : Act).put o.dst v = { (a.put o.dst v) with defers := ds } := by rw [hd]; rfl
  rw [e]; exact h2



end Go.Proofs.YtdliddjkacbggaaDoor.SimK
/-
  The disk: a crash, as plain data.
-/
namespace Go.Proofs.YtdliddjkacbggaaDoor.SimN
open Go.Proofs.YtdliddjkacbggaaDoor.E Go.RowKit Go.Proofs.YtdliddjkacbggaaDoor.SimA Go.Proofs.YtdliddjkacbggaaDoor.SimB Go.Proofs.YtdliddjkacbggaaDoor.SimC Go.Proofs.YtdliddjkacbggaaDoor.SimD Go.Proofs.YtdliddjkacbggaaDoor.SimE Go.Proofs.YtdliddjkacbggaaDoor.SimF Go.Proofs.YtdliddjkacbggaaDoor.SimG Go.Proofs.YtdliddjkacbggaaDoor.SimH Go.Proofs.YtdliddjkacbggaaDoor.SimI Go.Proofs.YtdliddjkacbggaaDoor.SimK
set_option maxRecDepth 20000
set_option linter.unusedVariables false
set_option linter.unusedSimpArgs false
set_option linter.unusedSectionVars false

theorem at_out {c : Chg} {n q : Pth} {o : Option Nat} (hcn : ∀ i, c.f = some i → dirP c.n = n) (hcg : c.g ≠ [] → dirP c.g = n) (hq : dirP q ≠ n) : c.at q o = o := by
  unfold Chg.at
  cases hcf : c.f with
  | none =>
    simp only
    rw [if_neg (fun e => hq (by rw [e.2]; exact hcg e.1))]
  | some i =>
    simp only
    rw [if_neg (fun e => hq (by rw [e]; exact hcn i hcf)), if_neg (fun e => hq (by rw [e.2]; exact hcg e.1))]
theorem dir_g {c : Chg} (h : c.g ≠ []) : dirP c.g = c.dir := by unfold Chg.dir; rw [if_neg h]
theorem apl_out {n q : Pth} (hq : dirP q ≠ n) : ∀ (cs : List Chg) (l : Nms), (∀ c ∈ cs, c.dir = n ∧ ∀ i, c.f = some i → dirP c.n = c.dir) → mget (apl cs l) q = mget l q
  | [], l, _ => rfl
  | c :: cs, l, h => by
    have h1 := h c List.mem_cons_self
    show mget (apl cs (c.ap l)) q = _
    rw [apl_out hq cs _ (fun d hd => h d (List.mem_cons_of_mem _ hd)), mget_ap]
    exact at_out (fun i hi => by rw [h1.2 i hi]; exact h1.1) (fun hg => by rw [dir_g hg]; exact h1.1) hq
theorem crashD_st {picks : List Int} {D : Dk} {s : Nms × Nat} {n : Pth} : (crashD picks D s n).1 = apl ((D.chgs n).take (pickN picks s.2 ((D.chgs n).length + 1))) s.1 := by
  unfold crashD
  split
  · rename_i h; rw [h, List.take_nil]; rfl
  · rfl
theorem chgs_mem {D : Dk} {n : Pth} {c : Chg} (h : c ∈ D.chgs n) : c ∈ D.log ∧ c.dir = n := by
  unfold Dk.chgs at h
  rw [List.mem_filter] at h
  exact ⟨h.1, by simpa using h.2⟩
/-- a disk of which some directories have crashed -/
structure Mid (picks : List Int) (D Di : Dk) (L : List Pth) : Prop where
  same : Di.cap = D.cap ∧ Di.most = D.most ∧ Di.fs = D.fs ∧ Di.ops = D.ops ∧ Di.left = D.left ∧ Di.dead = D.dead
  st : Di.stays = (L.foldl (crashD picks D) (D.stays, 0)).1
  an : Asc Di.now
  ast : Asc Di.stays
  nw1 : ∀ q, dirP q ∈ L → mget Di.now q = mget Di.stays q
  nw2 : ∀ q, dirP q ∉ L → mget Di.now q = mget D.now q
  ch : ∀ n, Di.chgs n = if n ∈ L then [] else D.chgs n
  lg : ∀ c ∈ Di.log, c ∈ D.log
theorem Mid.start {picks : List Int} {D : Dk} (h1 : Asc D.now) (h2 : Asc D.stays) : Mid picks D D [] :=
  ⟨⟨rfl, rfl, rfl, rfl, rfl, rfl⟩, rfl, h1, h2, fun q h => (by cases h), fun q _ => rfl, fun n => by simp, fun c h => h⟩
/-- one more -/
def stepM (picks : List Int) (Di : Dk) (at_ : Nat) (n : Pth) : Dk :=
  { Di with stays := (crashD picks Di (Di.stays, at_) n).1, now := merge (crashD picks Di (Di.stays, at_) n).1 Di.now n, log := Di.log.filter (fun c => !decide (c.dir = n)) }
theorem crashD_chg {picks : List Int} {D Di : Dk} {s : Nms × Nat} {n : Pth} (h : Di.chgs n = D.chgs n) : crashD picks Di s n = crashD picks D s n := by unfold crashD; rw [h]
theorem Mid.step {picks : List Int} {D Di : Dk} {L : List Pth} {n : Pth} (h : Mid picks D Di L) (hn : n ∉ L) (hld : ∀ c ∈ D.log, ∀ i, c.f = some i → dirP c.n = c.dir) :
    Mid picks D (stepM picks Di (L.foldl (crashD picks D) (D.stays, 0)).2 n) (L ++ [n]) ∧ (crashD picks Di (Di.stays, (L.foldl (crashD picks D) (D.stays, 0)).2) n).2 = ((L ++ [n]).foldl (crashD picks D) (D.stays, 0)).2 := by
  have hch : Di.chgs n = D.chgs n := by rw [h.ch, if_neg hn]
  have hs : (Di.stays, (L.foldl (crashD picks D) (D.stays, 0)).2) = L.foldl (crashD picks D) (D.stays, 0) := by rw [h.st]
  have hcr : crashD picks Di (Di.stays, (L.foldl (crashD picks D) (D.stays, 0)).2) n = (L ++ [n]).foldl (crashD picks D) (D.stays, 0) := by
    rw [crashD_chg hch, hs, List.foldl_append]; rfl
  have hall : ∀ c ∈ (Di.chgs n).take (pickN picks (L.foldl (crashD picks D) (D.stays, 0)).2 ((Di.chgs n).length + 1)), c.dir = n ∧ ∀ i, c.f = some i → dirP c.n = c.dir := fun c hc => by
    have := chgs_mem (List.mem_of_mem_take hc)
    exact ⟨this.2, hld c (h.lg c this.1)⟩
  have hAst : Asc (crashD picks Di (Di.stays, (L.foldl (crashD picks D) (D.stays, 0)).2) n).1 := by rw [crashD_st]; exact asc_apl h.ast _
  have hout : ∀ q, dirP q ≠ n → mget (crashD picks Di (Di.stays, (L.foldl (crashD picks D) (D.stays, 0)).2) n).1 q = mget Di.stays q := fun q hq => by
    rw [crashD_st]; exact apl_out hq _ _ hall
  refine ⟨⟨h.same, ?_, asc_merge h.an n, hAst, fun q hq => ?_, fun q hq => ?_, fun m => ?_, fun c hc => h.lg c (List.mem_filter.1 hc).1⟩, by rw [hcr]⟩
  · show (crashD picks Di _ n).1 = _; rw [hcr]
  · show mget (merge _ Di.now n) q = mget (crashD picks Di _ n).1 q
    rw [mget_merge hAst]
    by_cases e : dirP q = n
    · rw [if_pos e]
    · rw [if_neg e, hout q e]
      refine h.nw1 q ?_
      rcases List.mem_append.1 hq with h1 | h1
      · exact h1
      · exact absurd (List.mem_singleton.1 h1) e
  · show mget (merge _ Di.now n) q = _
    have e : dirP q ≠ n := fun e => hq (by rw [e]; simp)
    rw [mget_merge hAst, if_neg e]
    exact h.nw2 q (fun h1 => hq (List.mem_append_left _ h1))
  · show (Di.log.filter _).filter _ = _
    by_cases e : m = n
    · subst e
      rw [if_pos (by simp), List.filter_filter, List.filter_eq_nil_iff]
      intro c _; simp
    · have e2 : (Di.log.filter (fun c => !decide (c.dir = n))).filter (fun c => decide (c.dir = m)) = Di.chgs m := by
        unfold Dk.chgs
        rw [List.filter_filter]
        refine List.filter_congr (fun c _ => ?_)
        by_cases e3 : c.dir = m
        · simp [e3, e]
        · simp [e3]
      rw [e2, h.ch]
      simp [e]
section
variable {ρ ρ' : Nat → Role} {fb : List Nat} {H H' : Heap} {D D' : Dk} {p : Pth} {db nb sb k i b : Nat} {sv nv wv : SV} {nm sm : Nms} {S : Nat → Prop} {K K' : List Nat} {g : Gh}
end
section
variable {w0 : World} {n : Nat} {l : FL} {H : Heap} {o : Oper} {K : List Nat} {g : Gh} {b lv : Nat} {D : Dk} {x y : Operand} {t : TypeId}
end
theorem crashF_len (picks : List Int) : ∀ (L : Nms) (s : List Fdt × Nat), (L.foldl (crashF picks) s).1.length = s.1.length
  | [], s => rfl
  | x :: L, s => by
    rw [List.foldl_cons, crashF_len picks L]
    unfold crashF
    simp only
    split
    · rfl
    · simp
end Go.Proofs.YtdliddjkacbggaaDoor.SimN
/-
  The disk: how large it may grow, operation by operation: plain data.
-/
namespace Go.Proofs.YtdliddjkacbggaaDoor.SimQ
open Go.Proofs.YtdliddjkacbggaaDoor.E Go.RowKit Go.Proofs.YtdliddjkacbggaaDoor.SimA Go.Proofs.YtdliddjkacbggaaDoor.SimB Go.Proofs.YtdliddjkacbggaaDoor.SimC Go.Proofs.YtdliddjkacbggaaDoor.SimD Go.Proofs.YtdliddjkacbggaaDoor.SimE Go.Proofs.YtdliddjkacbggaaDoor.SimF Go.Proofs.YtdliddjkacbggaaDoor.SimG Go.Proofs.YtdliddjkacbggaaDoor.SimH Go.Proofs.YtdliddjkacbggaaDoor.SimI Go.Proofs.YtdliddjkacbggaaDoor.SimK Go.Proofs.YtdliddjkacbggaaDoor.SimN
set_option maxRecDepth 20000
set_option linter.unusedVariables false
set_option linter.unusedSimpArgs false
set_option linter.unusedSectionVars false

def Fsb (n : Nat) (x : Fdt) : Prop := x.now.length ≤ n ∧ x.stays.length ≤ n ∧ x.w.length ≤ n ∧ (∀ y ∈ x.w, y.d.length ≤ n) ∧ ∀ j, (onAll (x.w.take j) x.stays).length ≤ n
theorem Fsb.mono {n m : Nat} {x : Fdt} (h : Fsb n x) (hm : n ≤ m) : Fsb m x := ⟨Nat.le_trans h.1 hm, Nat.le_trans h.2.1 hm, Nat.le_trans h.2.2.1 hm, fun y hy => Nat.le_trans (h.2.2.2.1 y hy) hm, fun j => Nat.le_trans (h.2.2.2.2 j) hm⟩
theorem Fsb.nil (n : Nat) : Fsb n ⟨[], [], []⟩ := ⟨Nat.zero_le _, Nat.zero_le _, Nat.zero_le _, nofun, fun j => by simp [onAll]⟩
theorem Fsb.flat {n : Nat} {l : List UInt8} (h : l.length ≤ n) : Fsb n ⟨l, l, []⟩ := ⟨h, h, Nat.zero_le _, nofun, fun j => by simpa [onAll] using h⟩
/-- every name is one of these -/
def Inn (U : List Pth) (l : Nms) : Prop := ∀ q, (mget l q).isSome = true → q ∈ U
structure Bs (n : Nat) (D : Dk) : Prop where
  an : Asc D.now
  ast : Asc D.stays
  lg : D.log.length ≤ n
  op : D.ops ≤ n
  fl : D.fs.length ≤ n
  f : ∀ i, Fsb n (fget D.fs i)
  un : ∃ U : List Pth, U.length ≤ n ∧ Inn U D.now ∧ Inn U D.stays ∧ ∀ c ∈ D.log, ∀ i, c.f = some i → c.n ∈ U
  ld : ∀ c ∈ D.log, ∀ i, c.f = some i → dirP c.n = c.dir
theorem Bs.mono {n m : Nat} {D : Dk} (h : Bs n D) (hm : n ≤ m) : Bs m D := ⟨h.an, h.ast, Nat.le_trans h.lg hm, Nat.le_trans h.op hm, Nat.le_trans h.fl hm, fun i => (h.f i).mono hm, by obtain ⟨U, h1, h2⟩ := h.un; exact ⟨U, Nat.le_trans h1 hm, h2⟩, h.ld⟩
theorem usedL_le {fs : List Fdt} {n : Nat} (h : ∀ i, (fget fs i).now.length ≤ n) : ∀ l : Nms, usedL fs l ≤ l.length * n
  | [] => by simp [usedL]
  | x :: l => by
    have h1 := usedL_le h l
    have h2 := h x.2
    unfold usedL at h1 ⊢
    rw [List.map_cons, List.sum_cons, List.length_cons, Nat.add_mul]
    omega
theorem inn_len {U : List Pth} {l : Nms} (hA : Asc l) (h : Inn U l) : l.length ≤ U.length := by
  have := nodup_le hA.nodup (fun k hk => h k (isSome_iff_key.2 hk))
  rwa [List.length_map] at this
theorem Bs.bd {n : Nat} {D : Dk} (h : Bs n D) (hn : n ≤ 1073741824) : Bd 274877906944 D := by
  obtain ⟨U, h1, h2, h3, h4⟩ := h.un
  have e1 := inn_len h.an h2
  have e2 := inn_len h.ast h3
  have e3 := usedL_le (fun i => (h.f i).1) D.now
  have e4 : D.now.length * n ≤ 1073741824 * 1073741824 := Nat.mul_le_mul (by omega) hn
  exact ⟨h.an, h.ast, by unfold Dk.used; omega, by have := h.lg; omega, by have := h.op; omega, fun i => by have := (h.f i).1; omega, fun i => by have := (h.f i).2.1; omega, fun i => by have := (h.f i).2.2.1; omega, fun i y hy => by have := (h.f i).2.2.2.1 y hy; omega, by omega, by omega, by have := h.fl; omega, fun i j => by have := (h.f i).2.2.2.2 j; omega, h.ld⟩
theorem Bs.empty (cap most : Nat) : Bs 0 (Dk.empty cap most) :=
  ⟨List.Pairwise.nil, List.Pairwise.nil, Nat.le_refl _, Nat.le_refl _, Nat.le_refl _, fun i => by show Fsb 0 (List.getD [] i _); simpa using Fsb.nil 0, ⟨[], Nat.le_refl _, nofun, nofun, nofun⟩, nofun⟩
theorem Bs.begin {n : Nat} {D : Dk} (h : Bs n D) : Bs (n + 1) D.begin.2 := by
  obtain ⟨e1, e2, e3, e4, e5, e6, e7⟩ := begin_same D
  have h := h.mono (Nat.le_succ n)
  exact ⟨by rw [e4]; exact h.an, by rw [e5]; exact h.ast, by rw [e6]; exact h.lg, by have := Bs.op ‹Bs n D›; omega, by rw [e3]; exact h.fl, by rw [e3]; exact h.f, by rw [e4, e5, e6]; exact h.un, by rw [e6]; exact h.ld⟩
theorem inn_ap {U : List Pth} {l : Nms} {c : Chg} (h : Inn U l) (hc : ∀ i, c.f = some i → c.n ∈ U) : Inn U (c.ap l) := fun q hq => by
  rw [mget_ap] at hq
  unfold Chg.at at hq
  cases hf : c.f with
  | none =>
    rw [hf] at hq
    simp only at hq
    split at hq
    · cases hq
    · exact h q hq
  | some i =>
    rw [hf] at hq
    simp only at hq
    split at hq
    · rename_i e; rw [e]; exact hc i hf
    · split at hq
      · cases hq
      · exact h q hq
theorem inn_apl {U : List Pth} : ∀ {cs : List Chg} {l : Nms}, Inn U l → (∀ c ∈ cs, ∀ i, c.f = some i → c.n ∈ U) → Inn U (apl cs l)
  | [], l, h, _ => h
  | c :: cs, l, h, hc => inn_apl (cs := cs) (inn_ap h (hc c List.mem_cons_self)) (fun d hd => hc d (List.mem_cons_of_mem _ hd))
theorem Bs.put {n : Nat} {D : Dk} (h : Bs n D) (i : Nat) {x : Fdt} (hx : Fsb n x) : Bs n (D.putF i x) :=
  ⟨h.an, h.ast, h.lg, h.op, by rw [fl_put]; exact h.fl, fun j => by
    by_cases hi : i < D.fs.length
    · by_cases e : j = i
      · subst e; rw [fget_put hi]; exact hx
      · show Fsb n ((D.fs.set i x).getD j _)
        rw [List.getD_eq_getElem?_getD, List.getElem?_set_ne (Ne.symm e), ← List.getD_eq_getElem?_getD]; exact h.f j
    · show Fsb n ((D.fs.set i x).getD j _)
      rw [List.set_eq_of_length_le (by omega)]; exact h.f j, h.un, h.ld⟩
theorem Bs.change {n : Nat} {D : Dk} (h : Bs n D) (c : Chg) (hd : ∀ i, c.f = some i → dirP c.n = c.dir) : Bs (n + 1) (D.change c) := by
  obtain ⟨U, h1, h2, h3, h4⟩ := h.un
  refine ⟨asc_ap h.an c, h.ast, by show (D.log ++ [c]).length ≤ _; have := h.lg; simp; omega, Nat.le_succ_of_le h.op, Nat.le_succ_of_le h.fl, fun i => (h.f i).mono (Nat.le_succ _), ⟨c.n :: U, by simp; omega, inn_ap (fun q hq => List.mem_cons_of_mem _ (h2 q hq)) (fun _ _ => List.mem_cons_self), fun q hq => List.mem_cons_of_mem _ (h3 q hq), fun d hd2 i hi => ?_⟩, fun d hd2 i hi => ?_⟩
  · rcases List.mem_append.1 hd2 with hd2 | hd2
    · exact List.mem_cons_of_mem _ (h4 d hd2 i hi)
    · rw [List.mem_singleton.1 hd2]; exact List.mem_cons_self
  · rcases List.mem_append.1 hd2 with hd2 | hd2
    · exact h.ld d hd2 i hi
    · rw [List.mem_singleton.1 hd2] at hi ⊢; exact hd i hi
theorem Bs.addf {n : Nat} {D : Dk} (h : Bs n D) : Bs (n + 1) ({ D with fs := D.fs ++ [⟨[], [], []⟩] } : Dk) :=
  ⟨h.an, h.ast, Nat.le_succ_of_le h.lg, Nat.le_succ_of_le h.op, by have := h.fl; simp; omega, fun i => by
    show Fsb (n + 1) ((D.fs ++ [(⟨[], [], []⟩ : Fdt)]).getD i ⟨[], [], []⟩)
    rw [List.getD_eq_getElem?_getD, List.getElem?_append]
    split
    · rw [← List.getD_eq_getElem?_getD]; exact (h.f i).mono (Nat.le_succ _)
    · by_cases e : i - D.fs.length = 0
      · rw [e]; exact Fsb.nil _
      · rw [List.getElem?_eq_none (by simp; omega)]; exact Fsb.nil _, (h.mono (Nat.le_succ _)).un, h.ld⟩
theorem Bs.make {n : Nat} {D : Dk} (h : Bs n D) (p : Pth) : Bs (n + 2) (D.make p).1 := by
  unfold Dk.make
  split
  · exact h.mono (by omega)
  · refine h.addf.change _ (fun i _ => ?_)
    simp [Chg.dir]
theorem Fsb.laid {n : Nat} {x : Fdt} (h : Fsb n x) (w : Wr) : Fsb (n + w.d.length + 1) ⟨w.on x.now w.d.length, x.stays, x.w ++ [w]⟩ := by
  obtain ⟨h1, h2, h3, h4, h5⟩ := h
  have h6 := on_le w x.now w.d.length
  refine ⟨by show (w.on x.now w.d.length).length ≤ _; omega, by show x.stays.length ≤ _; omega, by show (x.w ++ [w]).length ≤ _; simp; omega, fun y hy => ?_, fun j => ?_⟩
  · rcases List.mem_append.1 hy with hy | hy
    · have := h4 y hy; omega
    · rw [List.mem_singleton.1 hy]; omega
  · show (onAll ((x.w ++ [w]).take j) x.stays).length ≤ _
    rw [List.take_append]
    by_cases hj : j ≤ x.w.length
    · rw [show j - x.w.length = 0 by omega, List.take_zero, List.append_nil]; have := h5 j; omega
    · obtain ⟨k, hk⟩ : ∃ k, j - x.w.length = k + 1 := ⟨j - x.w.length - 1, by omega⟩
      rw [hk]
      have e : onAll (x.w.take j ++ [w].take (k + 1)) x.stays = w.on (onAll (x.w.take j) x.stays) w.d.length := by
        unfold onAll; rw [List.foldl_append, List.take_succ_cons, List.take_nil]; rfl
      rw [e]
      have := on_le w (onAll (x.w.take j) x.stays) w.d.length
      have := h5 j
      omega
theorem Bs.write {n : Nat} {D : Dk} (h : Bs n D) (p : Pth) (w : Wr) : Bs (n + w.d.length + 3) (D.write p w) := by
  unfold Dk.write
  have h1 := h.make p
  exact (h1.mono (by omega)).put _ (((h1.f _).laid w).mono (by omega))
theorem Bs.lay {n : Nat} {D : Dk} (h : Bs n D) (p : Pth) (w : Wr) : Bs (n + w.d.length + 4) (D.lay p w).2 := by
  unfold Dk.lay
  have h1 := h.begin
  simp only
  split
  · exact h1.mono (by omega)
  · simp only; split
    · exact (h1.write p w).mono (by omega)
    · exact h1.mono (by omega)
theorem Bs.sync {n : Nat} {D : Dk} (h : Bs n D) (p : Pth) : Bs (n + 1) (D.sync p).2 := by
  unfold Dk.sync
  have h1 := h.begin
  simp only
  split
  · exact h1
  · simp only; split
    · exact h1.put _ (Fsb.flat (h1.f _).1)
    · exact h1
theorem Bs.rename {n : Nat} {D : Dk} (h : Bs n D) (a b : Pth) : Bs (n + 2) (D.rename a b).2 := by
  unfold Dk.rename
  have h1 := h.begin
  simp only
  split
  · exact h1.mono (by omega)
  · simp only; split
    · rename_i h2
      refine h1.change _ (fun i _ => ?_)
      have h3 : nameB a = true ∧ dirP a = dirP b := by
        have := h2.1
        unfold Dk.renE at this
        split at this
        · cases this
        · rename_i h4; split at this
          · cases this
          · rename_i h5; exact ⟨by cases hn : nameB a with
              | true => rfl
              | false => exact absurd (.inl hn) h4, by simpa using h5⟩
      unfold Chg.dir
      rw [if_neg (name_ne h3.1)]; exact h3.2.symm
    · exact h1.mono (by omega)
theorem Bs.syncDir {n : Nat} {D : Dk} (h : Bs n D) (p : Pth) : Bs (n + 1) (D.syncDir p).2 := by
  unfold Dk.syncDir
  have h1 := h.begin
  simp only
  split
  · exact h1
  · simp only; split
    · obtain ⟨U, e1, e2, e3, e4⟩ := h1.un
      refine ⟨h1.an, asc_merge h1.ast _, Nat.le_trans (List.length_filter_le _ _) h1.lg, h1.op, h1.fl, h1.f, ⟨U, e1, e2, fun q hq => ?_, fun c hc => e4 c (List.mem_filter.1 hc).1⟩, fun c hc => h1.ld c (List.mem_filter.1 hc).1⟩
      have hq : (mget (merge D.begin.2.now D.begin.2.stays p) q).isSome = true := hq
      rw [mget_merge h1.an] at hq
      split at hq
      · exact e2 q hq
      · exact e3 q hq
    · exact h1
theorem Bs.stop {n : Nat} {D : Dk} (h : Bs n D) (k : Nat) : Bs n (D.stop k) := ⟨h.an, h.ast, h.lg, h.op, h.fl, h.f, h.un, h.ld⟩
theorem part_len (w : Wr) (b : List UInt8) (k : Nat) (hk : k < w.ways) : (w.part b k).length ≤ (w.on b w.d.length).length := by
  unfold Wr.part
  have h := on_len w b
  have h2 : ∀ m, m ≤ w.d.length → (w.on b m).length = (if w.b = true then b.length else 0) + m := fun m hm => by
    unfold Wr.on
    rw [List.length_append, List.length_take, Nat.min_eq_left hm]; split <;> simp
  unfold Wr.ways at hk
  split
  · rw [h2 _ (Nat.min_le_right _ _), h]; omega
  · rw [List.length_append, h2 _ (by omega), List.length_replicate, h]; omega
theorem wayW_len {n : Nat} : ∀ (ws : List Wr) (b : List UInt8) (k : Nat), (∀ j, (onAll (ws.take j) b).length ≤ n) → (wayW ws b k).length ≤ n
  | [], b, k, h => by simpa [onAll, wayW] using h 0
  | w :: ws, b, k, h => by
    have h1 : (w.on b w.d.length).length ≤ n := by simpa [onAll] using h 1
    unfold wayW
    split
    · simpa [onAll] using h 0
    · split
      · exact Nat.le_trans (part_len w b (k - 1) (by unfold Wr.ways at *; omega)) h1
      · exact wayW_len ws _ _ (fun j => by simpa [onAll] using h (j + 1))
theorem crashD_in {U : List Pth} {picks : List Int} {D : Dk} (hU : ∀ c ∈ D.log, ∀ i, c.f = some i → c.n ∈ U) : ∀ (L : List Pth) (s : Nms × Nat), Inn U s.1 → Asc s.1 → Inn U (L.foldl (crashD picks D) s).1 ∧ Asc (L.foldl (crashD picks D) s).1
  | [], s, h, ha => ⟨h, ha⟩
  | x :: L, s, h, ha => by
    rw [List.foldl_cons]
    refine crashD_in hU L _ ?_ ?_
    · rw [crashD_st]; exact inn_apl h (fun c hc => hU c (chgs_mem (List.mem_of_mem_take hc)).1)
    · rw [crashD_st]; exact asc_apl ha _
theorem crashF_in {n : Nat} (picks : List Int) : ∀ (L : Nms) (s : List Fdt × Nat), (∀ i, Fsb n (fget s.1 i)) → ∀ i, Fsb n (fget (L.foldl (crashF picks) s).1 i)
  | [], s, h => h
  | x :: L, s, h => by
    rw [List.foldl_cons]
    refine crashF_in picks L _ (fun i => ?_)
    unfold crashF
    simp only
    split
    · exact h i
    · have h9 := wayW_len (n := n) (fget s.1 x.2).w (fget s.1 x.2).stays (pickN picks s.2 (waysF (fget s.1 x.2).w)) (h x.2).2.2.2.2
      show Fsb n ((s.1.set x.2 _).getD i _)
      by_cases hi : x.2 < s.1.length
      · by_cases e : i = x.2
        · rw [e, List.getD_eq_getElem?_getD, List.getElem?_set_self hi]; exact Fsb.flat h9
        · rw [List.getD_eq_getElem?_getD, List.getElem?_set_ne (Ne.symm e), ← List.getD_eq_getElem?_getD]; exact h i
      · rw [List.set_eq_of_length_le (by omega)]; exact h i
theorem Bs.crash {n : Nat} {D : Dk} (h : Bs n D) (picks : List Int) : Bs n (D.crash picks) := by
  obtain ⟨U, h1, h2, h3, h4⟩ := h.un
  obtain ⟨c1, c2⟩ := crashD_in (picks := picks) h4 D.dirty (D.stays, 0) h3 h.ast
  exact ⟨c2, c2, Nat.zero_le _, h.op, by show (D.crashA picks).1.length ≤ n; unfold Dk.crashA; rw [crashF_len]; exact h.fl, crashF_in picks _ _ h.f, ⟨U, h1, c1, c1, nofun⟩, nofun⟩

end Go.Proofs.YtdliddjkacbggaaDoor.SimQ
/-
  The disk: the statements' known example, and their helpers.
-/
namespace Go.Proofs.YtdliddjkacbggaaDoor.SimR
open Go.Proofs.YtdliddjkacbggaaDoor.E Go.RowKit Go.Proofs.YtdliddjkacbggaaDoor.SimA Go.Proofs.YtdliddjkacbggaaDoor.SimB Go.Proofs.YtdliddjkacbggaaDoor.SimC Go.Proofs.YtdliddjkacbggaaDoor.SimD Go.Proofs.YtdliddjkacbggaaDoor.SimE Go.Proofs.YtdliddjkacbggaaDoor.SimF Go.Proofs.YtdliddjkacbggaaDoor.SimG Go.Proofs.YtdliddjkacbggaaDoor.SimH Go.Proofs.YtdliddjkacbggaaDoor.SimI Go.Proofs.YtdliddjkacbggaaDoor.SimK Go.Proofs.YtdliddjkacbggaaDoor.SimN Go.Proofs.YtdliddjkacbggaaDoor.SimQ
set_option maxRecDepth 20000
set_option linter.unusedVariables false
set_option linter.unusedSimpArgs false
set_option linter.unusedSectionVars false
theorem mx_of {W : World} (h : W.ShapedOpen Tryd.prog) : ∃ m, MX m W.heap ∧ BF (fun b => b = 0) W.heap.size := by
  obtain ⟨m, hm⟩ := cell_of_shapedOpen_int (g := 0) (t := 3) (zero := #[.int .i64 0]) h (by decide) (by kernel_rfl) rfl (by kernel_rfl) (by kernel_rfl) Tryd.underlying3
  have hc : E.cell W.heap ⟨0, 0, none⟩ = some (.int .i64 m) := by rw [← (At.cell (w0 := W) ⟨rfl, rfl, rfl, rfl, Nat.le_refl _⟩ _)]; exact hm
  refine ⟨m, ⟨⟨rfl, fun j c hj => ?_⟩, rfl⟩, fun b hb => ?_⟩
  · cases j with
    | zero => cases hj; exact hc
    | succ j => cases hj
  · have := World.block_lt_of_cell? W _ hm; simp only at hb; omega

section
variable {P : Program} {w0 : World} {n : Nat} {l : FL} {H : Heap} {o : Oper}
end


theorem DFL.of {k : Nat} {K : List Nat} (d : DL k K) : DFL (fun b => b + 1 = k) K := fun j hj => DF.of (d j hj)
def wiN (a : Int) (n : Nat) : Nat := (a % (n : Int)).toNat
theorem wiN_lt {a : Int} {n : Nat} (h : 0 < n) : wiN a n < n := by
  unfold wiN
  have := Int.emod_lt_of_pos a (show (0 : Int) < n by omega)
  have := Int.emod_nonneg a (show (n : Int) ≠ 0 by omega)
  omega
theorem wiN_neg {a : Int} {n : Nat} (h : 0 < n) (h2 : a.tmod n < 0) : ((wiN a n : Nat) : Int) = a.tmod n + n := by
  unfold wiN
  have h3 := Int.emod_nonneg a (show (n : Int) ≠ 0 by omega)
  rw [Int.toNat_of_nonneg h3]
  rw [Int.tmod_eq_emod] at h2 ⊢
  split at h2
  · omega
  · rename_i h4; rw [if_neg h4]; simp
theorem wiN_pos {a : Int} {n : Nat} (h : 0 < n) (h2 : ¬ a.tmod n < 0) : ((wiN a n : Nat) : Int) = a.tmod n := by
  unfold wiN
  have h3 := Int.emod_nonneg a (show (n : Int) ≠ 0 by omega)
  have h5 := Int.emod_lt_of_pos a (show (0 : Int) < n by omega)
  rw [Int.toNat_of_nonneg h3]
  rw [Int.tmod_eq_emod] at h2 ⊢
  split at h2
  · rename_i h4; rw [if_pos h4]; simp
  · rename_i h4
    simp only [Int.natAbs_natCast] at h2
    omega
def paths : List Pth := [[97], [98], [100, 47, 97], [100, 47, 98], [100, 47, 101, 47, 97]]
end Go.Proofs.YtdliddjkacbggaaDoor.SimR
/-
  A journal on a disk: steps one behind the other; the contracts of the steps.
-/
namespace Go.Proofs.YtdliddjkacbggaaDoor.WalD
open Go.Proofs.YtdliddjkacbggaaDoor.E Go.RowKit Go.Proofs.YtdliddjkacbggaaDoor.SimA Go.Proofs.YtdliddjkacbggaaDoor.SimB Go.Proofs.YtdliddjkacbggaaDoor.SimC Go.Proofs.YtdliddjkacbggaaDoor.SimD Go.Proofs.YtdliddjkacbggaaDoor.SimE Go.Proofs.YtdliddjkacbggaaDoor.SimF Go.Proofs.YtdliddjkacbggaaDoor.SimG Go.Proofs.YtdliddjkacbggaaDoor.SimH Go.Proofs.YtdliddjkacbggaaDoor.SimI Go.Proofs.YtdliddjkacbggaaDoor.SimQ Go.Proofs.YtdliddjkacbggaaDoor.SimR Go.Proofs.YtdliddjkacbggaaDoor.WalA Go.Proofs.YtdliddjkacbggaaDoor.WalB Go.Proofs.YtdliddjkacbggaaDoor.WalC
set_option maxRecDepth 20000
set_option linter.unusedVariables false
set_option linter.unusedSimpArgs false
set_option linter.unusedSectionVars false
set_option maxRecDepth 100000 in
theorem inf23 : Inf Tryd.prog 23 5 1 1 := ⟨Tryd.underlying23, _, _, rfl, rfl, rfl, rfl, rfl⟩

section
variable {P : Program} {w0 : World} {n : Nat} {l : FL} {H H1 : Heap} {o : Oper}
/-- a field's address, whatever is in the heap now -/
theorem Y.fieldAddrX {x : Operand} {s : TypeId} {k off sz2 : Nat} {ad : Addr} {cs : List Value} {fs : Array Field} {fd : Field} (h : Pt H1 ad cs) (ho : o.op = .fieldAddr s x k) (hu : ∀ w, (underlying s).run P w = .ok (.struct fs) w) (hk : fs[k]? = some fd) (hof : fd.offset = off)
    (hsz : ∀ w, (sizeOf fd.type).run P w = .ok sz2 w) (hz : sz2 ≠ 0) (hx : opv l x = some (.pointer (some ad))) : Y P w0 n l H o (.pointer (some (ad.add off))) := by
  intro ac w hf ha
  simp [execOp, ho, hf.eval hx, Instr.fieldAt, Instr.sureAddr, fieldPlace, hu, hk, hof, hsz, hz]
end
def newP (p : Pth) : Pth := p ++ [46, 110, 101, 119]
abbrev Stp := Dk → Nat × Dk
/-- steps one behind the other, up to the first one that fails -/
def runD : List Stp → Dk → Nat × Dk
  | [], D => (0, D)
  | f :: fs, D => if (f D).1 = 0 then runD fs (f D).2 else f D
def stp (Fs : List Stp) (i : Nat) : Stp := Fs.getD i (fun D => (0, D))
theorem runD_app : ∀ (a b : List Stp) (D : Dk), runD (a ++ b) D = if (runD a D).1 = 0 then runD b (runD a D).2 else runD a D
  | [], b, D => by simp [runD]
  | f :: a, b, D => by
    rw [List.cons_append, runD, runD]
    by_cases h : (f D).1 = 0
    · rw [if_pos h, if_pos h, runD_app a b]
    · rw [if_neg h, if_neg h, if_neg h]
theorem runD_one (f : Stp) (D : Dk) : runD [f] D = f D := by
  unfold runD runD
  split
  · rename_i h; exact Prod.ext h.symm rfl
  · rfl
theorem runD_take {Fs : List Stp} {i : Nat} {D : Dk} (h : i < Fs.length) (h0 : (runD (Fs.take i) D).1 = 0) : runD (Fs.take (i + 1)) D = stp Fs i (runD (Fs.take i) D).2 := by
  rw [List.take_succ_eq_append_getElem h, runD_app, if_pos h0, runD_one]
  unfold stp; rw [List.getD_eq_getElem?_getD, List.getElem?_eq_getElem h]; rfl
theorem runD_stop {Fs : List Stp} {i : Nat} {D : Dk} (h : (runD (Fs.take i) D).1 ≠ 0) : runD Fs D = runD (Fs.take i) D := by
  conv => lhs; rw [← List.take_append_drop i Fs]
  rw [runD_app, if_neg h]
theorem bs_run {k : Nat} : ∀ {fs : List Stp} {N : Nat} {D : Dk}, (∀ f ∈ fs, ∀ N D, Bs N D → Bs (N + k) (f D).2) → Bs N D → Bs (N + k * fs.length) (runD fs D).2
  | [], N, D, _, h => by simpa [runD] using h
  | f :: fs, N, D, hf, h => by
    have h1 := hf f List.mem_cons_self N D h
    unfold runD
    split
    · have := bs_run (fs := fs) (fun g hg => hf g (List.mem_cons_of_mem _ hg)) h1
      rw [List.length_cons]
      exact this.mono (by rw [Nat.mul_add]; omega)
    · rw [List.length_cons]; exact h1.mono (by rw [Nat.mul_add]; omega)
theorem bs_runT {k : Nat} {fs : List Stp} {N : Nat} {D : Dk} (i : Nat) (hf : ∀ f ∈ fs, ∀ N D, Bs N D → Bs (N + k) (f D).2) (h : Bs N D) : Bs (N + k * fs.length) (runD (fs.take i) D).2 := by
  have := bs_run (fs := fs.take i) (fun f hm => hf f (List.mem_of_mem_take hm)) h
  exact this.mono (Nat.add_le_add_left (Nat.mul_le_mul_left _ (by rw [List.length_take]; omega)) _)
/-- what makes a journal anew -/
def frS (p : Pth) (l : List Rec) : List Stp := [fun D => D.lay (newP p) ⟨false, encW l⟩, fun D => D.sync (newP p), fun D => D.rename (newP p) p, fun D => D.syncDir (dirP p)]
/-- what puts a record behind the others -/
def apS (p : Pth) (n : Nat) (r : Rec) : List Stp := [fun D => D.lay p ⟨true, layW n r⟩, fun D => D.sync p, fun D => D.lay p ⟨true, [67]⟩, fun D => D.sync p]
theorem frS_bs (p : Pth) (l : List Rec) : ∀ f ∈ frS p l, ∀ N D, Bs N D → Bs (N + ((encW l).length + 20)) (f D).2 := by
  intro f hf N D h
  simp only [frS, List.mem_cons, List.not_mem_nil, or_false] at hf
  rcases hf with rfl | rfl | rfl | rfl
  · exact (h.lay (newP p) ⟨false, encW l⟩).mono (by simp only; omega)
  · exact (h.sync _).mono (by omega)
  · exact (h.rename _ _).mono (by omega)
  · exact (h.syncDir _).mono (by omega)
theorem apS_bs (p : Pth) (n : Nat) (r : Rec) : ∀ f ∈ apS p n r, ∀ N D, Bs N D → Bs (N + (r.length + 20)) (f D).2 := by
  intro f hf N D h
  simp only [apS, List.mem_cons, List.not_mem_nil, or_false] at hf
  rcases hf with rfl | rfl | rfl | rfl
  · exact (h.lay p ⟨true, layW n r⟩).mono (by simp only [layW_len]; omega)
  · exact (h.sync _).mono (by omega)
  · exact (h.lay p ⟨true, [67]⟩).mono (by simp only [List.length_singleton]; omega)
  · exact (h.sync _).mono (by omega)
def freshD (D : Dk) (p : Pth) (l : List Rec) : Nat × Dk := runD (frS p l) D
theorem bs_fresh {N : Nat} {D : Dk} (h : Bs N D) (p : Pth) (l : List Rec) : Bs (N + 4 * ((encW l).length + 20)) (freshD D p l).2 := (bs_run (frS_bs p l) h).mono (by simp [frS]; omega)
theorem dirP_le (p : Pth) : (dirP p).length ≤ p.length := by
  unfold dirP headP; split
  · exact List.length_take_le' _ _
  · exact Nat.zero_le _
theorem newP_len (p : Pth) : (newP p).length = p.length + 4 := by simp [newP]
/-! ### a function value that does a step -/
abbrev FnV := Nat × List Value
abbrev fFn (x : FnV) : List Value := [.func (.func x.1) #[] x.2.toArray]
theorem fFn_len (x : FnV) : (fFn x).length = 1 := rfl
theorem fFn_one (x : FnV) : ∀ u ∈ fFn x, u.oneCell' = true := by intro u hu; simp only [List.mem_singleton] at hu; subst hu; rfl
def CloD (w0 : World) (b : Nat) (f : Stp) (v : Value) (K : List Nat) (H : Heap) (D : Dk) : Prop :=
  Clo Tryd.prog w0 v [] H (fun r H2 => ∃ (K2 : List Nat) (g2 : Gh), r = .int .i64 ((f D).1 : Int) ∧ PDk K2 g2 H2 b (f D).2 ∧ NxK K H.size K2 ∧ Mo (Ms K) H H2)

theorem first_ct (K : List Nat) (g : Gh) (b : Nat) (D : Dk) (v : Value) (l : List FnV) (Fs : List Stp) (F : Nat → Prop) (w0 : World) (H0 : Heap)
    (hf : PDk K g H0 b D) (hl : Rd F H0 fFn 1 v l) (bf_hl : BF F H0.size) (dfl : DFL F K) (hll : l.length = Fs.length) (hst : ∀ (i : Nat) (h : i < l.length) (K' : List Nat) (g' : Gh) (H' : Heap), PDk K' g' H' b (runD (Fs.take i) D).2 → NxK K H0.size K' → Mo (Ms K) H0 H' → CloD w0 b (stp Fs i) (.func (.func l[i].1) #[] l[i].2.toArray) K' H' (runD (Fs.take i) D).2) :
    Ct Tryd.prog w0 32 #[v] H0 (fun r H2 => ∃ K2 : List Nat, ∃ g2 : Gh, r = .int .i64 ((runD Fs D).1 : Int) ∧ (PDk K2 g2 H2 b (runD Fs D).2) ∧ (NxK K H0.size K2) ∧ Mo (Ms K) H0 H2) := by
  refine Ct.enter (args := [v]) Tryd.func32 rfl rfl rfl ?_
  intro Q0 hret
  have hm0 : Mo (Ms K) H0 H0 := Mo.refl _ _
  have nx_hm0_hf := NxK.refl K H0.size
  have hbk_hf := hf.bk
  have hlm := hl.len
  refine CW.seq (fun K1 hK1 hE1 => ?_)
  refine CW.region ?_
  refine LR.v (Y.assign rfl rfl) (Wd.u rfl) rfl rfl ?_
  refine LR.nil ?_
  refine hK1 _ _ ?_
  refine CW.seq (fun K2 hK2 hE2 => ?_)
  refine CW.seq (fun K3 hK3 hE3 => ?_)
  refine CW.region ?_
  refine LR.v (Y.move rfl rfl) (Wd.u rfl) rfl rfl ?_
  refine LR.v (Y.len hl rfl Tryd.runUnderlying90 rfl) (Wd.u rfl) rfl rfl ?_
  refine LR.v (Y.move rfl rfl) (Wd.u rfl) rfl rfl ?_
  refine LR.nil ?_
  refine hK3 _ _ ?_
  refine CW.block (fun K4 hK4 hX4 hE4 => ?_)
  refine CW.loop (fun (s_ : (Nat) × (List Nat) × (Gh)) => match s_ with | (i, Ki, gi) => [(6, v), (7, .int .i64 (l.length : Int)), (8, .int .i64 (i : Int))])
    (fun (s_ : (Nat) × (List Nat) × (Gh)) (H : Heap) => match s_ with | (i, Ki, gi) => (PDk Ki gi H b (runD (Fs.take i) D).2) ∧ (i ≤ l.length) ∧ ((runD (Fs.take i) D).1 = 0) ∧ (NxK K H0.size Ki) ∧ Mo (Ms K) H0 H)
    (fun (s_ : (Nat) × (List Nat) × (Gh)) => match s_ with | (i, Ki, gi) => l.length - i) (0, K, g) ⟨rfl, rfl, rfl, trivial⟩ ?_ ?_
  ·
    exact ⟨hf, (by omega), rfl, NxK.refl _ _, Mo.refl _ _⟩
  rintro ⟨i, Ki, gi⟩ HL1 hI1 K5 hN5 hE5
  obtain ⟨hf, hi, h0, nxl_hf, hlm1⟩ := hI1
  have df1 := DFL.appK (dfl) (bf_hl.mono hm0.size) nxl_hf
  have nx2 : NxK K H0.size Ki := NxK.tr (nx_hm0_hf) nxl_hf hm0.size
  replace hl := hl.upL hlm1 (dfl)
  replace hm0 := hm0.trL hlm1 (MIL.ofK (nx_hm0_hf) (by intro k hk; simp [hk]))
  have hz1 := hlm1.size
  have hbk_hf := hf.bk
  have nx3 := nxl_hf
  refine CW.seq (fun K6 hK6 hE6 => ?_)
  refine CW.region ?_
  refine LR.v (Y.lss rfl rfl rfl) (Wd.u rfl) rfl rfl ?_
  refine LR.nil ?_
  refine hK6 _ _ ?_
  refine CW.seq (fun K7 hK7 hE7 => ?_)
  refine CW.condp rfl (fun c9 => ?_) (fun c9 => ?_)
  ·
    have hil : i < l.length := by omega
    have htk := runD_take (Fs := Fs) (D := D) (i := i) (by omega) h0
    refine CW.skip ?_
    refine hK7 _ _ ?_
    refine CW.seq (fun K8 hK8 hE8 => ?_)
    refine CW.block (fun K9 hK9 hX9 hE9 => ?_)
    refine CW.seq (fun K10 hK10 hE10 => ?_)
    refine CW.region ?_
    refine LR.e (g := fun ad => .pointer (some ad)) (Y.indexAddrF hl (i) rfl Tryd.runUnderlying90 Tryd.sizeOf67 rfl rfl (by first | rfl | omega) (by first | omega | (simp; omega) | (simp; done))) (Wd.u rfl) rfl rfl (fun ad10 pt10 => ?_)
    have bf_pt10 := bf_hl
    refine LR.v (Y.load1 pt10.pt rfl Tryd.isAgg67 rfl) (Wd.u rfl) rfl rfl ?_
    refine LR.v (Y.assign rfl rfl) (Wd.u rfl) rfl rfl ?_
    refine LR.nil ?_
    refine hK10 _ _ ?_
    refine CW.seq (fun K11 hK11 hE11 => ?_)
    refine CW.region ?_
    refine LR.v (Y.move rfl rfl) (Wd.u rfl) rfl rfl ?_
    refine LR.calld rfl rfl rfl (Wd.u rfl) rfl rfl (hst i hil Ki gi _ hf (nx2) hm0) (fun v13 H13 r13 => ?_)
    have ql4 := hf.bk
    obtain ⟨K13, g13, rfl, hf, hkd13, hs13⟩ := r13
    have df5 := DFL.appK (df1) (bf_hl.mono hm0.size) hkd13
    have nx6 : NxK K H0.size K13 := NxK.tr (nx2) hkd13 hm0.size
    have nx7 : NxK K H0.size K13 := NxK.tr (nx3) hkd13 hlm1.size
    replace hl := hl.upL hs13 (df1)
    replace hm0 := hm0.trL hs13 (MIL.ofK (nx2) (by intro k hk; simp [hk]))
    replace hlm1 := hlm1.trL hs13 (MIL.ofK (nx3) (by intro k hk; simp [hk]))
    have hz2 := hs13.size
    have hbk_hf := hf.bk
    refine LR.v (Y.assign rfl rfl) (Wd.u rfl) rfl rfl ?_
    refine LR.nil ?_
    refine hK11 _ _ ?_
    refine CW.seq (fun K12 hK12 hE12 => ?_)
    refine CW.region ?_
    refine LR.v (Y.move rfl rfl) (Wd.u rfl) rfl rfl ?_
    refine LR.v (Y.neq rfl rfl rfl) (Wd.u rfl) rfl rfl ?_
    refine LR.nil ?_
    refine hK12 _ _ ?_
    refine CW.condp rfl (fun c15 => ?_) (fun c15 => ?_)
    ·
      have hne : (runD (Fs.take (i + 1)) D).1 ≠ 0 := by rw [htk]; omega
      have hst2 := runD_stop hne
      rw [htk] at hst2
      refine CW.seq (fun K13 hK13 hE13 => ?_)
      refine CW.region ?_
      refine LR.v (Y.move rfl rfl) (Wd.u rfl) rfl rfl ?_
      refine LR.v (Y.assign rfl rfl) (Wd.u rfl) rfl rfl ?_
      refine LR.nil ?_
      refine hK13 _ _ ?_
      refine CW.ret (hE9 .ret nofun (by simp) _ _ (hE8 .ret nofun _ _ (hE5 .ret nofun _ _ (hE4 .ret nofun (by simp) _ _ (hE2 .ret nofun _ _ (hret .ret (.inr rfl) _ _ _ (res1 rfl rfl) ?_))))))
      exact ⟨_, _, by rw [hst2], by rw [hst2]; exact hf, nx6, hm0⟩
    ·
      refine CW.skip ?_
      refine hK9 _ _ ?_
      refine hK8 _ _ ?_
      refine CW.region ?_
      refine LR.v (Y.addi rfl rfl rfl (by omega)) (Wd.u rfl) rfl rfl ?_
      refine LR.v (Y.move rfl rfl) (Wd.u rfl) rfl rfl ?_
      refine LR.nil ?_
      refine QN.sub (hN5 (i + 1, K13, g13) _ ?_ ?_) ⟨rfl, (iv (by omega)), (iv (by omega)), trivial⟩
      · exact ⟨by rw [htk]; exact hf, (by omega), by rw [htk]; omega, nx7, hlm1⟩
      · first | omega | (simp only; omega) | (simp; omega)
  ·
    refine CW.exit (hE7 (.exit 0) nofun _ _ (hE5 (.exit 0) nofun _ _ (hX4 _ _ ?_)))
    refine hK2 _ _ ?_
    refine CW.seq (fun K14 hK14 hE14 => ?_)
    refine CW.region ?_
    refine LR.v (Y.assign rfl rfl) (Wd.u rfl) rfl rfl ?_
    refine LR.nil ?_
    refine hK14 _ _ ?_
    refine CW.ret (hret .ret (.inr rfl) _ _ _ (res1 rfl rfl) ?_)
    have hil : i = Fs.length := by omega
    rw [hil, List.take_length] at hf h0
    exact ⟨_, _, by rw [h0]; rfl, hf, nx2, hm0⟩


/-- a journal's place in memory, as a step sees it -/
structure LgS (K : List Nat) (H : Heap) (mx_ : Int) (b c lb : Nat) (p : Pth) (n : Nat) (br : Bool) : Prop where
  mx : MX mx_ H
  bmx : BF (fun b => b = 0) H.size
  dmx : DFL (fun b => b = 0) K
  cv : Var 41 H c [ptr lb]
  lg : Var 65 H lb [ptr b, Str p, .int .i64 (n : Int), .bool br]
  dc : DL (c + 1) K
  dl : DL (lb + 1) K
theorem LgS.up {K K2 : List Nat} {H H2 : Heap} {mx_ : Int} {b c lb n : Nat} {p : Pth} {br : Bool} (h : LgS K H mx_ b c lb p n br) (s : Mo (Ms K) H H2) (x : NxK K H.size K2) : LgS K2 H2 mx_ b c lb p n br :=
  ⟨h.mx.upL s h.dmx, fun b hb => by have := h.bmx b hb; have := s.size; omega, DFL.appK h.dmx h.bmx x, h.cv.upL s h.dc, h.lg.upL s h.dl, DL.appK h.dc h.cv.lt x, DL.appK h.dl h.lg.lt x⟩
/-- a row that a step sees -/
structure RwS {α : Type} (K : List Nat) (F : Nat → Prop) (H : Heap) (f : α → List Value) (v : Value) (l : List α) : Prop where
  rd : Rd F H f 1 v l
  bf : BF F H.size
  df : DFL F K
theorem RwS.up {α : Type} {K K2 : List Nat} {F : Nat → Prop} {H H2 : Heap} {f : α → List Value} {v : Value} {l : List α} (h : RwS K F H f v l) (s : Mo (Ms K) H H2) (x : NxK K H.size K2) : RwS K2 F H2 f v l :=
  ⟨h.rd.upL s h.df, fun b hb => by have := h.bf b hb; have := s.size; omega, DFL.appK h.df h.bf x⟩
structure VaS (K : List Nat) (H : Heap) (e : TypeId) (c : Nat) (cs : List Value) : Prop where
  v : Var e H c cs
  d : DL (c + 1) K
theorem VaS.up {K K2 : List Nat} {H H2 : Heap} {e : TypeId} {c : Nat} {cs : List Value} (h : VaS K H e c cs) (s : Mo (Ms K) H H2) (x : NxK K H.size K2) : VaS K2 H2 e c cs := ⟨h.v.upL s h.d, DL.appK h.d h.v.lt x⟩

set_option maxHeartbeats 2000000 in
theorem async_ct (mx_ : Int) (K : List Nat) (g : Gh) (b : Nat) (D : Dk) (c lb : Nat) (p : Pth) (n : Nat) (br : Bool) (w0 : World) (H0 : Heap)
    (hf : PDk K g H0 b D) (mx : MX mx_ H0) (bf_mx : BF (fun b => b = 0) H0.size) (dmx : DFL (fun b => b = 0) K) (hc : Var 41 H0 c [ptr lb]) (hlg : Var 65 H0 lb [ptr b, Str p, .int .i64 (n : Int), .bool br]) (dc : DL (c + 1) K) (dl : DL (lb + 1) K) (hl : p.length ≤ 4294967280) (hB : Bd 274877906944 D) :
    Ct Tryd.prog w0 30 #[ptr c] H0 (fun r H2 => ∃ K2 : List Nat, ∃ g2 : Gh, r = .int .i64 ((D.sync p).1 : Int) ∧ (PDk K2 g2 H2 b (D.sync p).2) ∧ (NxK K H0.size K2) ∧ Mo (Ms K) H0 H2) := by
  refine Ct.enter (args := [ptr c]) Tryd.func30 rfl rfl rfl ?_
  intro Q0 hret
  have hm0 : Mo (Ms K) H0 H0 := Mo.refl _ _
  have nx_hm0_hf := NxK.refl K H0.size
  have hbk_hf := hf.bk
  have nx_hm0_hc := Nx.refl (c + 1) H0.size
  have hlt_hc := hc.lt
  have nx_hm0_hlg := Nx.refl (lb + 1) H0.size
  have hlt_hlg := hlg.lt
  refine CW.seq (fun K1 hK1 hE1 => ?_)
  refine CW.region ?_
  refine LR.v (Y.assign rfl rfl) (Wd.u rfl) rfl rfl ?_
  refine LR.nil ?_
  refine hK1 _ _ ?_
  refine CW.seq (fun K2 hK2 hE2 => ?_)
  refine CW.region_tail 8 rfl (by kernel_rfl) (fun T1 hT1 => ?_)
  refine LR.v (Y.load1 hc.pt rfl Tryd.isAgg41 rfl) (Wd.u rfl) rfl rfl ?_
  refine LR.v (Y.nilCheck rfl rfl) (Wd.u rfl) rfl rfl ?_
  refine LR.v (Y.fieldAddr hlg.pt rfl Tryd.runUnderlying65 rfl rfl Tryd.sizeOf38 (by decide) rfl) (Wd.u rfl) rfl rfl ?_
  refine LR.v (Y.load1 hlg.pt rfl Tryd.isAgg38 rfl) (Wd.u rfl) rfl rfl ?_
  refine LR.v (Y.load1 hc.pt rfl Tryd.isAgg41 rfl) (Wd.u rfl) rfl rfl ?_
  refine LR.v (Y.nilCheck rfl rfl) (Wd.u rfl) rfl rfl ?_
  refine LR.v (Y.fieldAddr hlg.pt rfl Tryd.runUnderlying65 rfl rfl Tryd.sizeOf9 (by decide) rfl) (Wd.u rfl) rfl rfl ?_
  refine LR.v (Y.load1 (hlg.pt.drop 1) rfl Tryd.isAgg9 rfl) (Wd.u rfl) rfl rfl ?_
  refine LR.nil (hT1 _ ?_)
  -- call (*selvage/simfs.FS).Sync
  refine LR.call rfl Tryd.call31 rfl (Wd.u rfl) rfl rfl (sync_ct mx_ K g b D p w0 _ hf mx (bf_mx.mono (by omega)) (dmx) hl hB) (fun v10 H10 r10 => ?_)
  have ql1 := hf.bk
  have ql2 := hc.lt
  have ql3 := hlg.lt
  obtain ⟨K10, g10, rfl, hf, hkd10, hs10⟩ := r10
  have df4 := DFL.appK (dmx) (bf_mx.mono hm0.size) hkd10
  have dj5 : DL (c + 1) K10 := DL.appK (dc) ql2 hkd10
  have dj6 : DL (lb + 1) K10 := DL.appK (dl) ql3 hkd10
  have nx7 : NxK K H0.size K10 := NxK.tr (nx_hm0_hf) hkd10 hm0.size
  replace mx := mx.upL hs10 (dmx)
  replace hc := hc.upL hs10 (dc)
  replace hlg := hlg.upL hs10 (dl)
  replace hm0 := hm0.trL hs10 (MIL.ofK (nx_hm0_hf) (by intro k hk; simp [hk]))
  have hz1 := hs10.size
  have hbk_hf := hf.bk
  refine LR.v (Y.assign rfl rfl) (Wd.u rfl) rfl rfl ?_
  refine LR.nil ?_
  refine hK2 _ _ ?_
  refine CW.ret (hret .ret (.inr rfl) _ _ _ (res1 rfl rfl) ?_)
  exact ⟨_, _, rfl, hf, nx7, hm0⟩

set_option maxHeartbeats 2000000 in
theorem alay_ct (mx_ : Int) (K : List Nat) (g : Gh) (b : Nat) (D : Dk) (c lb : Nat) (p : Pth) (n : Nat) (br : Bool) (c3 : Nat) (s : SV) (rc : List UInt8) (F : Nat → Prop) (w0 : World) (H0 : Heap)
    (hf : PDk K g H0 b D) (mx : MX mx_ H0) (bf_mx : BF (fun b => b = 0) H0.size) (dmx : DFL (fun b => b = 0) K) (hc : Var 41 H0 c [ptr lb]) (hlg : Var 65 H0 lb [ptr b, Str p, .int .i64 (n : Int), .bool br]) (dc : DL (c + 1) K) (dl : DL (lb + 1) K) (hc3 : Var 23 H0 c3 [s.v]) (d3 : DL (c3 + 1) K) (hr : Rd F H0 fB 1 s.v rc) (bf_hr : BF F H0.size) (dfr : DFL F K) (hrl : rc.length ≤ 4294967000) (hl : p.length ≤ 4294967280) (hB : Bd 274877906944 D) :
    Ct Tryd.prog w0 33 #[ptr c, ptr c3] H0 (fun r H2 => ∃ K2 : List Nat, ∃ g2 : Gh, r = .int .i64 ((D.lay p ⟨true, layW n rc⟩).1 : Int) ∧ (PDk K2 g2 H2 b (D.lay p ⟨true, layW n rc⟩).2) ∧ (NxK K H0.size K2) ∧ Mo (Ms K) H0 H2) := by
  refine Ct.enter (args := [ptr c, ptr c3]) Tryd.func33 rfl rfl rfl ?_
  intro Q0 hret
  have hm0 : Mo (Ms K) H0 H0 := Mo.refl _ _
  have nx_hm0_hf := NxK.refl K H0.size
  have hbk_hf := hf.bk
  have nx_hm0_hc := Nx.refl (c + 1) H0.size
  have hlt_hc := hc.lt
  have nx_hm0_hlg := Nx.refl (lb + 1) H0.size
  have hlt_hlg := hlg.lt
  have nx_hm0_hc3 := Nx.refl (c3 + 1) H0.size
  have hlt_hc3 := hc3.lt
  refine CW.seq (fun K1 hK1 hE1 => ?_)
  refine CW.region ?_
  refine LR.v (Y.assign rfl rfl) (Wd.u rfl) rfl rfl ?_
  refine LR.nil ?_
  refine hK1 _ _ ?_
  refine CW.seq (fun K2 hK2 hE2 => ?_)
  refine CW.region_any (fun Hq => Mo (Ms K) H0 Hq) [] rfl ?_
  have hq1 : Mo (Ms K) H0 H0 := Mo.refl _ _
  have nx1 := NxK.refl K H0.size
  refine LH.take 0 (by kernel_rfl) rfl (by kernel_rfl) (by kernel_rfl) (by kernel_rfl) (fun Hq hq => Y.load1 (hc.upL hq (dc)).pt rfl Tryd.isAgg41 rfl) (Wd.u rfl) rfl rfl hq1 ?_
  refine LH.take 1 (by kernel_rfl) rfl (by kernel_rfl) (by kernel_rfl) (by kernel_rfl) (fun Hq hq => Y.nilCheck rfl rfl) (Wd.u rfl) rfl rfl hq1 ?_
  refine LH.take 2 (by kernel_rfl) rfl (by kernel_rfl) (by kernel_rfl) (by kernel_rfl) (fun Hq hq => Y.fieldAddr (hlg.upL hq (dl)).pt rfl Tryd.runUnderlying65 rfl rfl Tryd.sizeOf38 (by decide) rfl) (Wd.u rfl) rfl rfl hq1 ?_
  refine LH.take 3 (by kernel_rfl) rfl (by kernel_rfl) (by kernel_rfl) (by kernel_rfl) (fun Hq hq => Y.load1 (hlg.upL hq (dl)).pt rfl Tryd.isAgg38 rfl) (Wd.u rfl) rfl rfl hq1 ?_
  refine LH.take 4 (by kernel_rfl) rfl (by kernel_rfl) (by kernel_rfl) (by kernel_rfl) (fun Hq hq => Y.load1 (hc.upL hq (dc)).pt rfl Tryd.isAgg41 rfl) (Wd.u rfl) rfl rfl hq1 ?_
  refine LH.take 5 (by kernel_rfl) rfl (by kernel_rfl) (by kernel_rfl) (by kernel_rfl) (fun Hq hq => Y.nilCheck rfl rfl) (Wd.u rfl) rfl rfl hq1 ?_
  refine LH.take 6 (by kernel_rfl) rfl (by kernel_rfl) (by kernel_rfl) (by kernel_rfl) (fun Hq hq => Y.fieldAddr (hlg.upL hq (dl)).pt rfl Tryd.runUnderlying65 rfl rfl Tryd.sizeOf9 (by decide) rfl) (Wd.u rfl) rfl rfl hq1 ?_
  refine LH.take 7 (by kernel_rfl) rfl (by kernel_rfl) (by kernel_rfl) (by kernel_rfl) (fun Hq hq => Y.load1 ((hlg.upL hq (dl)).pt.drop 1) rfl Tryd.isAgg9 rfl) (Wd.u rfl) rfl rfl hq1 ?_
  refine LH.take 8 (by kernel_rfl) rfl (by kernel_rfl) (by kernel_rfl) (by kernel_rfl) (fun Hq hq => Y.load1 (hc.upL hq (dc)).pt rfl Tryd.isAgg41 rfl) (Wd.u rfl) rfl rfl hq1 ?_
  refine LH.take 9 (by kernel_rfl) rfl (by kernel_rfl) (by kernel_rfl) (by kernel_rfl) (fun Hq hq => Y.nilCheck rfl rfl) (Wd.u rfl) rfl rfl hq1 ?_
  refine LH.take 10 (by kernel_rfl) rfl (by kernel_rfl) (by kernel_rfl) (by kernel_rfl) (fun Hq hq => Y.fieldAddr (hlg.upL hq (dl)).pt rfl Tryd.runUnderlying65 rfl rfl Tryd.sizeOf3 (by decide) rfl) (Wd.u rfl) rfl rfl hq1 ?_
  refine LH.take 11 (by kernel_rfl) rfl (by kernel_rfl) (by kernel_rfl) (by kernel_rfl) (fun Hq hq => Y.load1 ((hlg.upL hq (dl)).pt.drop 2) rfl Tryd.isAgg3 rfl) (Wd.u rfl) rfl rfl hq1 ?_
  refine LH.take 12 (by kernel_rfl) rfl (by kernel_rfl) (by kernel_rfl) (by kernel_rfl) (fun Hq hq => Y.load1 (hc3.upL hq (d3)).pt rfl Tryd.isAgg23 rfl) (Wd.u rfl) rfl rfl hq1 ?_
  refine LH.one (i := 13) (by kernel_rfl) ?_
  -- call selvage/wal.lay
  refine LO.call rfl rfl Tryd.call26 rfl (Wd.u rfl) rfl rfl (wlay_ct n s rc w0 _ hr.any hrl) (fun v16 H16 r16 => ?_)
  obtain ⟨t16, k16, rfl, ow16, hk16, hs16⟩ := r16
  have dj2 : DL k16 K := DL.app2 (DL.zK) hf.bk hk16
  have df3 := DF.app (DF.z) (bf_mx.mono hm0.size) hk16
  have dj4 : Dj (c + 1) k16 := Dj.app (Dj.z) hc.lt hk16
  have dj5 : Dj (lb + 1) k16 := Dj.app (Dj.z) hlg.lt hk16
  have dj6 : Dj (c3 + 1) k16 := Dj.app (Dj.z) hc3.lt hk16
  have df7 := DF.app (DF.z) (bf_hr.mono hm0.size) hk16
  have nx8 : Nx 0 H0.size k16 := Nx.tr (Nx.refl 0 _) hk16 hm0.size
  have nx9 : Nx 0 H0.size k16 := Nx.tr (Nx.refl 0 _) hk16 hq1.size
  replace hf := hf.nw hs16
  replace mx := mx.nw hs16
  replace hc := hc.nw hs16
  replace hlg := hlg.nw hs16
  replace hc3 := hc3.nw hs16
  replace hr := hr.nw hs16
  replace hm0 := hm0.trN hs16
  replace hq1 := hq1.trN hs16
  have hz1 := hs16.size
  have hle_ow16 := ow16.le
  refine ⟨.inr hq1, LH.narrow (SH2 := fun Hq => Mo (Ms (K ++ [k16])) H16 Hq) (fun Hq hq => hq1.trL hq (MIL.app (MIL.ofK (nx1) (by intro k hk; simp [hk])) (MIL.cons (MI.app MI.z (nx9) (Nat.le_refl _)) MIL.nil))) ?_⟩
  have hq1 : Mo (Ms (K ++ [k16])) H16 H16 := Mo.refl _ _
  have nx10 := NxK.refl K H16.size
  have nx11 := Nx.refl k16 H16.size
  refine LH.one (i := 14) (by kernel_rfl) ?_
  -- call (*selvage/simfs.FS).Append
  refine LO.call rfl rfl Tryd.call34 rfl (Wd.u rfl) rfl rfl (append_ct mx_ K g b D p t16 (layW n rc) _ w0 _ hf mx (bf_mx.mono (by omega)) (dmx) ow16.rd (BF.of ow16.le) (DFL.of (dj2)) hl hB (by rw [layW_len]; omega)) (fun v17 H17 r17 => ?_)
  have ql12 := hf.bk
  have ql13 := hc.lt
  have ql14 := hlg.lt
  have ql15 := hc3.lt
  have ql16 := ow16.le
  obtain ⟨K17, g17, rfl, hf, hkd17, hs17⟩ := r17
  have df17 := DFL.appK (dmx) (bf_mx.mono hm0.size) hkd17
  have dj18 : DL (c + 1) K17 := DL.appK (dc) ql13 hkd17
  have dj19 : DL (lb + 1) K17 := DL.appK (dl) ql14 hkd17
  have dj20 : DL (c3 + 1) K17 := DL.appK (d3) ql15 hkd17
  have df21 := DFL.appK (dfr) (bf_hr.mono hm0.size) hkd17
  have dj22 : DL k16 K17 := DL.appK (dj2) ql16 hkd17
  have nx23 : NxK K H0.size K17 := NxK.tr (nx_hm0_hf) hkd17 hm0.size
  have nx24 : NxK K H16.size K17 := NxK.tr (nx10) hkd17 hq1.size
  replace mx := mx.upL hs17 (dmx)
  replace hc := hc.upL hs17 (dc)
  replace hlg := hlg.upL hs17 (dl)
  replace hc3 := hc3.upL hs17 (d3)
  replace hr := hr.upL hs17 (dfr)
  replace ow16 := ow16.upL hs17 (dj2)
  replace hm0 := hm0.trL hs17 (MIL.ofK (nx_hm0_hf) (by intro k hk; simp [hk]))
  replace hq1 := hq1.trL hs17 (MIL.ofK (nx10) (by intro k hk; simp [hk]))
  have hz2 := hs17.size
  have hbk_hf := hf.bk
  refine ⟨.inr hq1, LH.narrow (SH2 := fun Hq => Mo (Ms (K17 ++ [k16])) H17 Hq) (fun Hq hq => hq1.trL hq (MIL.app (MIL.ofK (nx24) (by intro k hk; simp [hk])) (MIL.cons (MI.app (MI.root (by simp)) (nx11) (Nat.le_refl _)) MIL.nil))) ?_⟩
  have hq1 : Mo (Ms (K17 ++ [k16])) H17 H17 := Mo.refl _ _
  have nx25 := NxK.refl K17 H17.size
  have nx26 := Nx.refl k16 H17.size
  refine LH.take 15 (by kernel_rfl) rfl (by kernel_rfl) (by kernel_rfl) (by kernel_rfl) (fun Hq hq => Y.assign rfl rfl) (Wd.u rfl) rfl rfl hq1 ?_
  refine LH.done (by kernel_rfl) ?_
  refine hK2 _ _ ?_
  refine CW.ret (hret .ret (.inr rfl) _ _ _ (res1 rfl rfl) ?_)
  exact ⟨_, _, rfl, hf, nx23, hm0⟩

set_option maxHeartbeats 2000000 in
theorem amark_ct (mx_ : Int) (K : List Nat) (g : Gh) (b : Nat) (D : Dk) (c lb : Nat) (p : Pth) (n : Nat) (br : Bool) (w0 : World) (H0 : Heap)
    (hf : PDk K g H0 b D) (mx : MX mx_ H0) (bf_mx : BF (fun b => b = 0) H0.size) (dmx : DFL (fun b => b = 0) K) (hc : Var 41 H0 c [ptr lb]) (hlg : Var 65 H0 lb [ptr b, Str p, .int .i64 (n : Int), .bool br]) (dc : DL (c + 1) K) (dl : DL (lb + 1) K) (hl : p.length ≤ 4294967280) (hB : Bd 274877906944 D) :
    Ct Tryd.prog w0 35 #[ptr c] H0 (fun r H2 => ∃ K2 : List Nat, ∃ g2 : Gh, r = .int .i64 ((D.lay p ⟨true, [67]⟩).1 : Int) ∧ (PDk K2 g2 H2 b (D.lay p ⟨true, [67]⟩).2) ∧ (NxK K H0.size K2) ∧ Mo (Ms K) H0 H2) := by
  refine Ct.enter (args := [ptr c]) Tryd.func35 rfl rfl rfl ?_
  intro Q0 hret
  have hm0 : Mo (Ms K) H0 H0 := Mo.refl _ _
  have nx_hm0_hf := NxK.refl K H0.size
  have hbk_hf := hf.bk
  have nx_hm0_hc := Nx.refl (c + 1) H0.size
  have hlt_hc := hc.lt
  have nx_hm0_hlg := Nx.refl (lb + 1) H0.size
  have hlt_hlg := hlg.lt
  refine CW.seq (fun K1 hK1 hE1 => ?_)
  refine CW.region ?_
  refine LR.v (Y.assign rfl rfl) (Wd.u rfl) rfl rfl ?_
  refine LR.nil ?_
  refine hK1 _ _ ?_
  refine CW.seq (fun K2 hK2 hE2 => ?_)
  refine CW.region_any (fun Hq => Mo (Ms K) H0 Hq) [] rfl ?_
  have hq1 : Mo (Ms K) H0 H0 := Mo.refl _ _
  have nx1 := NxK.refl K H0.size
  refine LH.take 0 (by kernel_rfl) rfl (by kernel_rfl) (by kernel_rfl) (by kernel_rfl) (fun Hq hq => Y.load1 (hc.upL hq (dc)).pt rfl Tryd.isAgg41 rfl) (Wd.u rfl) rfl rfl hq1 ?_
  refine LH.take 1 (by kernel_rfl) rfl (by kernel_rfl) (by kernel_rfl) (by kernel_rfl) (fun Hq hq => Y.nilCheck rfl rfl) (Wd.u rfl) rfl rfl hq1 ?_
  refine LH.take 2 (by kernel_rfl) rfl (by kernel_rfl) (by kernel_rfl) (by kernel_rfl) (fun Hq hq => Y.fieldAddr (hlg.upL hq (dl)).pt rfl Tryd.runUnderlying65 rfl rfl Tryd.sizeOf38 (by decide) rfl) (Wd.u rfl) rfl rfl hq1 ?_
  refine LH.take 3 (by kernel_rfl) rfl (by kernel_rfl) (by kernel_rfl) (by kernel_rfl) (fun Hq hq => Y.load1 (hlg.upL hq (dl)).pt rfl Tryd.isAgg38 rfl) (Wd.u rfl) rfl rfl hq1 ?_
  refine LH.take 4 (by kernel_rfl) rfl (by kernel_rfl) (by kernel_rfl) (by kernel_rfl) (fun Hq hq => Y.load1 (hc.upL hq (dc)).pt rfl Tryd.isAgg41 rfl) (Wd.u rfl) rfl rfl hq1 ?_
  refine LH.take 5 (by kernel_rfl) rfl (by kernel_rfl) (by kernel_rfl) (by kernel_rfl) (fun Hq hq => Y.nilCheck rfl rfl) (Wd.u rfl) rfl rfl hq1 ?_
  refine LH.take 6 (by kernel_rfl) rfl (by kernel_rfl) (by kernel_rfl) (by kernel_rfl) (fun Hq hq => Y.fieldAddr (hlg.upL hq (dl)).pt rfl Tryd.runUnderlying65 rfl rfl Tryd.sizeOf9 (by decide) rfl) (Wd.u rfl) rfl rfl hq1 ?_
  refine LH.take 7 (by kernel_rfl) rfl (by kernel_rfl) (by kernel_rfl) (by kernel_rfl) (fun Hq hq => Y.load1 ((hlg.upL hq (dl)).pt.drop 1) rfl Tryd.isAgg9 rfl) (Wd.u rfl) rfl rfl hq1 ?_
  refine LH.one (i := 8) (by kernel_rfl) ?_
  refine LO.z rfl (Z.litw _ ([(67 : UInt8)]) rfl inf23 rfl rfl rfl (by decide) (by decide) fB_len fB_one (rfl)) (Wd.u rfl) rfl rfl (fun v10 H10 r10 => ?_)
  obtain ⟨ow10, hs10, ob10, hH10⟩ := r10
  have hzs10 : H10.size = H0.size + 1 := by rw [hH10]; simp
  have dj2 : DL (H0.size + 1) K := DL.newK hf.bk
  have df3 := (DF.new (bf_mx.mono hm0.size) : DF _ (H0.size + 1))
  have dj4 : Dj (c + 1) (H0.size + 1) := Dj.new hc.lt
  have dj5 : Dj (lb + 1) (H0.size + 1) := Dj.new hlg.lt
  have nx6 : Nx 0 H0.size (H0.size + 1) := Nx.new hm0.size
  have nx7 : Nx 0 H0.size (H0.size + 1) := Nx.new hq1.size
  replace hf := hf.nw hs10
  replace mx := mx.nw hs10
  replace hc := hc.nw hs10
  replace hlg := hlg.nw hs10
  replace hm0 := hm0.trN hs10
  replace hq1 := hq1.trN hs10
  have hz1 := hs10.size
  obtain ⟨s10, rfl⟩ : ∃ s : SV, v10 = s.v := ⟨toSV v10, ow10.sv.symm⟩
  refine ⟨.inr hq1, LH.narrow (SH2 := fun Hq => Mo (Ms (K ++ [(H0.size + 1)])) H10 Hq) (fun Hq hq => hq1.trL hq (MIL.app (MIL.ofK (nx1) (by intro k hk; simp [hk])) (MIL.cons (MI.app MI.z (nx7) (Nat.le_refl _)) MIL.nil))) ?_⟩
  have hq1 : Mo (Ms (K ++ [(H0.size + 1)])) H10 H10 := Mo.refl _ _
  have nx8 := NxK.refl K H10.size
  have nx9 := Nx.refl (H0.size + 1) H10.size
  refine LH.one (i := 9) (by kernel_rfl) ?_
  -- call (*selvage/simfs.FS).Append
  refine LO.call rfl rfl Tryd.call34 rfl (Wd.u rfl) rfl rfl (append_ct mx_ K g b D p s10 [67] _ w0 _ hf mx (bf_mx.mono (by omega)) (dmx) ow10.rd (BF.of ow10.le) (DFL.of (dj2)) hl hB (by decide)) (fun v11 H11 r11 => ?_)
  have ql10 := hf.bk
  have ql11 := hc.lt
  have ql12 := hlg.lt
  have ql13 := ow10.le
  obtain ⟨K11, g11, rfl, hf, hkd11, hs11⟩ := r11
  have df14 := DFL.appK (dmx) (bf_mx.mono hm0.size) hkd11
  have dj15 : DL (c + 1) K11 := DL.appK (dc) ql11 hkd11
  have dj16 : DL (lb + 1) K11 := DL.appK (dl) ql12 hkd11
  have dj17 : DL (H0.size + 1) K11 := DL.appK (dj2) ql13 hkd11
  have nx18 : NxK K H0.size K11 := NxK.tr (nx_hm0_hf) hkd11 hm0.size
  have nx19 : NxK K H10.size K11 := NxK.tr (nx8) hkd11 hq1.size
  replace mx := mx.upL hs11 (dmx)
  replace hc := hc.upL hs11 (dc)
  replace hlg := hlg.upL hs11 (dl)
  replace ow10 := ow10.upL hs11 (dj2)
  replace hm0 := hm0.trL hs11 (MIL.ofK (nx_hm0_hf) (by intro k hk; simp [hk]))
  replace hq1 := hq1.trL hs11 (MIL.ofK (nx8) (by intro k hk; simp [hk]))
  have hz2 := hs11.size
  have hbk_hf := hf.bk
  refine ⟨.inr hq1, LH.narrow (SH2 := fun Hq => Mo (Ms (K11 ++ [(H0.size + 1)])) H11 Hq) (fun Hq hq => hq1.trL hq (MIL.app (MIL.ofK (nx19) (by intro k hk; simp [hk])) (MIL.cons (MI.app (MI.root (by simp)) (nx9) (Nat.le_refl _)) MIL.nil))) ?_⟩
  have hq1 : Mo (Ms (K11 ++ [(H0.size + 1)])) H11 H11 := Mo.refl _ _
  have nx20 := NxK.refl K11 H11.size
  have nx21 := Nx.refl (H0.size + 1) H11.size
  refine LH.take 10 (by kernel_rfl) rfl (by kernel_rfl) (by kernel_rfl) (by kernel_rfl) (fun Hq hq => Y.assign rfl rfl) (Wd.u rfl) rfl rfl hq1 ?_
  refine LH.done (by kernel_rfl) ?_
  refine hK2 _ _ ?_
  refine CW.ret (hret .ret (.inr rfl) _ _ _ (res1 rfl rfl) ?_)
  exact ⟨_, _, rfl, hf, nx18, hm0⟩

set_option maxHeartbeats 2000000 in
theorem cwrite_ct (mx_ : Int) (K : List Nat) (g : Gh) (b : Nat) (D : Dk) (c lb : Nat) (p : Pth) (n : Nat) (br : Bool) (c7 : Nat) (c3 : Nat) (s : SV) (l : List (SV × Rec)) (F : Nat → Prop) (w0 : World) (H0 : Heap)
    (hf : PDk K g H0 b D) (mx : MX mx_ H0) (bf_mx : BF (fun b => b = 0) H0.size) (dmx : DFL (fun b => b = 0) K) (hc : Var 41 H0 c [ptr lb]) (hlg : Var 65 H0 lb [ptr b, Str p, .int .i64 (n : Int), .bool br]) (dc : DL (c + 1) K) (dl : DL (lb + 1) K) (hc7 : Var 9 H0 c7 [Str (newP p)]) (d7 : DL (c7 + 1) K) (hc3 : Var 22 H0 c3 [s.v]) (d3 : DL (c3 + 1) K) (hr : Rd F H0 fP 1 s.v l) (bf_hr : BF F H0.size) (dfr : DFL F K) (hx : ∀ x ∈ l, Rd F H0 fB 1 x.1.v x.2) (bf_hx : BF F H0.size) (dfx : DFL F K) (hrl : ∀ x ∈ l, x.2.length ≤ 1048576) (hel : (encN 0 (recs l)).length ≤ 274877900000) (hl : p.length ≤ 4294960000) (hB : Bd 274877906944 D) :
    Ct Tryd.prog w0 45 #[ptr c, ptr c7, ptr c3] H0 (fun r H2 => ∃ K2 : List Nat, ∃ g2 : Gh, r = .int .i64 ((D.lay (newP p) ⟨false, encW (recs l)⟩).1 : Int) ∧ (PDk K2 g2 H2 b (D.lay (newP p) ⟨false, encW (recs l)⟩).2) ∧ (NxK K H0.size K2) ∧ Mo (Ms K) H0 H2) := by
  refine Ct.enter (args := [ptr c, ptr c7, ptr c3]) Tryd.func45 rfl rfl rfl ?_
  intro Q0 hret
  have hm0 : Mo (Ms K) H0 H0 := Mo.refl _ _
  have nx_hm0_hf := NxK.refl K H0.size
  have hbk_hf := hf.bk
  have nx_hm0_hc := Nx.refl (c + 1) H0.size
  have hlt_hc := hc.lt
  have nx_hm0_hlg := Nx.refl (lb + 1) H0.size
  have hlt_hlg := hlg.lt
  have nx_hm0_hc7 := Nx.refl (c7 + 1) H0.size
  have hlt_hc7 := hc7.lt
  have nx_hm0_hc3 := Nx.refl (c3 + 1) H0.size
  have hlt_hc3 := hc3.lt
  refine CW.seq (fun K1 hK1 hE1 => ?_)
  refine CW.region ?_
  refine LR.v (Y.assign rfl rfl) (Wd.u rfl) rfl rfl ?_
  refine LR.nil ?_
  refine hK1 _ _ ?_
  refine CW.seq (fun K2 hK2 hE2 => ?_)
  refine CW.region_any (fun Hq => Mo (Ms K) H0 Hq) [] rfl ?_
  have hq1 : Mo (Ms K) H0 H0 := Mo.refl _ _
  have nx1 := NxK.refl K H0.size
  refine LH.take 0 (by kernel_rfl) rfl (by kernel_rfl) (by kernel_rfl) (by kernel_rfl) (fun Hq hq => Y.load1 (hc.upL hq (dc)).pt rfl Tryd.isAgg41 rfl) (Wd.u rfl) rfl rfl hq1 ?_
  refine LH.take 1 (by kernel_rfl) rfl (by kernel_rfl) (by kernel_rfl) (by kernel_rfl) (fun Hq hq => Y.nilCheck rfl rfl) (Wd.u rfl) rfl rfl hq1 ?_
  refine LH.take 2 (by kernel_rfl) rfl (by kernel_rfl) (by kernel_rfl) (by kernel_rfl) (fun Hq hq => Y.fieldAddr (hlg.upL hq (dl)).pt rfl Tryd.runUnderlying65 rfl rfl Tryd.sizeOf38 (by decide) rfl) (Wd.u rfl) rfl rfl hq1 ?_
  refine LH.take 3 (by kernel_rfl) rfl (by kernel_rfl) (by kernel_rfl) (by kernel_rfl) (fun Hq hq => Y.load1 (hlg.upL hq (dl)).pt rfl Tryd.isAgg38 rfl) (Wd.u rfl) rfl rfl hq1 ?_
  refine LH.take 4 (by kernel_rfl) rfl (by kernel_rfl) (by kernel_rfl) (by kernel_rfl) (fun Hq hq => Y.load1 (hc7.upL hq (d7)).pt rfl Tryd.isAgg9 rfl) (Wd.u rfl) rfl rfl hq1 ?_
  refine LH.take 5 (by kernel_rfl) rfl (by kernel_rfl) (by kernel_rfl) (by kernel_rfl) (fun Hq hq => Y.load1 (hc3.upL hq (d3)).pt rfl Tryd.isAgg22 rfl) (Wd.u rfl) rfl rfl hq1 ?_
  refine LH.one (i := 6) (by kernel_rfl) ?_
  -- call selvage/wal.Encode
  refine LO.call rfl rfl Tryd.call11 rfl (Wd.u rfl) rfl rfl (encode_ct s l w0 _ hr.any (fun x h => (hx x h).any) hrl (by omega)) (fun v10 H10 r10 => ?_)
  obtain ⟨t10, k10, rfl, ow10, hk10, hs10⟩ := r10
  have dj2 : DL k10 K := DL.app2 (DL.zK) hf.bk hk10
  have df3 := DF.app (DF.z) (bf_mx.mono hm0.size) hk10
  have dj4 : Dj (c + 1) k10 := Dj.app (Dj.z) hc.lt hk10
  have dj5 : Dj (lb + 1) k10 := Dj.app (Dj.z) hlg.lt hk10
  have dj6 : Dj (c7 + 1) k10 := Dj.app (Dj.z) hc7.lt hk10
  have dj7 : Dj (c3 + 1) k10 := Dj.app (Dj.z) hc3.lt hk10
  have df8 := DF.app (DF.z) (bf_hr.mono hm0.size) hk10
  have df9 := DF.app (DF.z) (bf_hx.mono hm0.size) hk10
  have nx10 : Nx 0 H0.size k10 := Nx.tr (Nx.refl 0 _) hk10 hm0.size
  have nx11 : Nx 0 H0.size k10 := Nx.tr (Nx.refl 0 _) hk10 hq1.size
  replace hf := hf.nw hs10
  replace mx := mx.nw hs10
  replace hc := hc.nw hs10
  replace hlg := hlg.nw hs10
  replace hc7 := hc7.nw hs10
  replace hc3 := hc3.nw hs10
  replace hr := hr.nw hs10
  replace hx := fun x hx_ => (hx x hx_).nw hs10
  replace hm0 := hm0.trN hs10
  replace hq1 := hq1.trN hs10
  have hz1 := hs10.size
  have hle_ow10 := ow10.le
  refine ⟨.inr hq1, LH.narrow (SH2 := fun Hq => Mo (Ms (K ++ [k10])) H10 Hq) (fun Hq hq => hq1.trL hq (MIL.app (MIL.ofK (nx1) (by intro k hk; simp [hk])) (MIL.cons (MI.app MI.z (nx11) (Nat.le_refl _)) MIL.nil))) ?_⟩
  have hq1 : Mo (Ms (K ++ [k10])) H10 H10 := Mo.refl _ _
  have nx12 := NxK.refl K H10.size
  have nx13 := Nx.refl k10 H10.size
  refine LH.one (i := 7) (by kernel_rfl) ?_
  -- call (*selvage/simfs.FS).Write
  refine LO.call rfl rfl Tryd.call46 rfl (Wd.u rfl) rfl rfl (write_ct mx_ K g b D (newP p) t10 (encW (recs l)) _ w0 _ hf mx (bf_mx.mono (by omega)) (dmx) ow10.rd (BF.of ow10.le) (DFL.of (dj2)) (by rw [newP_len]; omega) hB (by unfold encW; rw [List.length_append]; have h8 : W8.length = 8 := rfl; omega)) (fun v11 H11 r11 => ?_)
  have ql14 := hf.bk
  have ql15 := hc.lt
  have ql16 := hlg.lt
  have ql17 := hc7.lt
  have ql18 := hc3.lt
  have ql19 := ow10.le
  obtain ⟨K11, g11, rfl, hf, hkd11, hs11⟩ := r11
  have df20 := DFL.appK (dmx) (bf_mx.mono hm0.size) hkd11
  have dj21 : DL (c + 1) K11 := DL.appK (dc) ql15 hkd11
  have dj22 : DL (lb + 1) K11 := DL.appK (dl) ql16 hkd11
  have dj23 : DL (c7 + 1) K11 := DL.appK (d7) ql17 hkd11
  have dj24 : DL (c3 + 1) K11 := DL.appK (d3) ql18 hkd11
  have df25 := DFL.appK (dfr) (bf_hr.mono hm0.size) hkd11
  have df26 := DFL.appK (dfx) (bf_hx.mono hm0.size) hkd11
  have dj27 : DL k10 K11 := DL.appK (dj2) ql19 hkd11
  have nx28 : NxK K H0.size K11 := NxK.tr (nx_hm0_hf) hkd11 hm0.size
  have nx29 : NxK K H10.size K11 := NxK.tr (nx12) hkd11 hq1.size
  replace mx := mx.upL hs11 (dmx)
  replace hc := hc.upL hs11 (dc)
  replace hlg := hlg.upL hs11 (dl)
  replace hc7 := hc7.upL hs11 (d7)
  replace hc3 := hc3.upL hs11 (d3)
  replace hr := hr.upL hs11 (dfr)
  replace hx := fun x hx_ => (hx x hx_).upL hs11 (dfx)
  replace ow10 := ow10.upL hs11 (dj2)
  replace hm0 := hm0.trL hs11 (MIL.ofK (nx_hm0_hf) (by intro k hk; simp [hk]))
  replace hq1 := hq1.trL hs11 (MIL.ofK (nx12) (by intro k hk; simp [hk]))
  have hz2 := hs11.size
  have hbk_hf := hf.bk
  refine ⟨.inr hq1, LH.narrow (SH2 := fun Hq => Mo (Ms (K11 ++ [k10])) H11 Hq) (fun Hq hq => hq1.trL hq (MIL.app (MIL.ofK (nx29) (by intro k hk; simp [hk])) (MIL.cons (MI.app (MI.root (by simp)) (nx13) (Nat.le_refl _)) MIL.nil))) ?_⟩
  have hq1 : Mo (Ms (K11 ++ [k10])) H11 H11 := Mo.refl _ _
  have nx30 := NxK.refl K11 H11.size
  have nx31 := Nx.refl k10 H11.size
  refine LH.take 8 (by kernel_rfl) rfl (by kernel_rfl) (by kernel_rfl) (by kernel_rfl) (fun Hq hq => Y.assign rfl rfl) (Wd.u rfl) rfl rfl hq1 ?_
  refine LH.done (by kernel_rfl) ?_
  refine hK2 _ _ ?_
  refine CW.ret (hret .ret (.inr rfl) _ _ _ (res1 rfl rfl) ?_)
  exact ⟨_, _, rfl, hf, nx28, hm0⟩

set_option maxHeartbeats 2000000 in
theorem csync_ct (mx_ : Int) (K : List Nat) (g : Gh) (b : Nat) (D : Dk) (c lb : Nat) (p : Pth) (n : Nat) (br : Bool) (c7 : Nat) (w0 : World) (H0 : Heap)
    (hf : PDk K g H0 b D) (mx : MX mx_ H0) (bf_mx : BF (fun b => b = 0) H0.size) (dmx : DFL (fun b => b = 0) K) (hc : Var 41 H0 c [ptr lb]) (hlg : Var 65 H0 lb [ptr b, Str p, .int .i64 (n : Int), .bool br]) (dc : DL (c + 1) K) (dl : DL (lb + 1) K) (hc7 : Var 9 H0 c7 [Str (newP p)]) (d7 : DL (c7 + 1) K) (hl : p.length ≤ 4294960000) (hB : Bd 274877906944 D) :
    Ct Tryd.prog w0 47 #[ptr c, ptr c7] H0 (fun r H2 => ∃ K2 : List Nat, ∃ g2 : Gh, r = .int .i64 ((D.sync (newP p)).1 : Int) ∧ (PDk K2 g2 H2 b (D.sync (newP p)).2) ∧ (NxK K H0.size K2) ∧ Mo (Ms K) H0 H2) := by
  refine Ct.enter (args := [ptr c, ptr c7]) Tryd.func47 rfl rfl rfl ?_
  intro Q0 hret
  have hm0 : Mo (Ms K) H0 H0 := Mo.refl _ _
  have nx_hm0_hf := NxK.refl K H0.size
  have hbk_hf := hf.bk
  have nx_hm0_hc := Nx.refl (c + 1) H0.size
  have hlt_hc := hc.lt
  have nx_hm0_hlg := Nx.refl (lb + 1) H0.size
  have hlt_hlg := hlg.lt
  have nx_hm0_hc7 := Nx.refl (c7 + 1) H0.size
  have hlt_hc7 := hc7.lt
  refine CW.seq (fun K1 hK1 hE1 => ?_)
  refine CW.region ?_
  refine LR.v (Y.assign rfl rfl) (Wd.u rfl) rfl rfl ?_
  refine LR.nil ?_
  refine hK1 _ _ ?_
  refine CW.seq (fun K2 hK2 hE2 => ?_)
  refine CW.region_tail 5 rfl (by kernel_rfl) (fun T1 hT1 => ?_)
  refine LR.v (Y.load1 hc.pt rfl Tryd.isAgg41 rfl) (Wd.u rfl) rfl rfl ?_
  refine LR.v (Y.nilCheck rfl rfl) (Wd.u rfl) rfl rfl ?_
  refine LR.v (Y.fieldAddr hlg.pt rfl Tryd.runUnderlying65 rfl rfl Tryd.sizeOf38 (by decide) rfl) (Wd.u rfl) rfl rfl ?_
  refine LR.v (Y.load1 hlg.pt rfl Tryd.isAgg38 rfl) (Wd.u rfl) rfl rfl ?_
  refine LR.v (Y.load1 hc7.pt rfl Tryd.isAgg9 rfl) (Wd.u rfl) rfl rfl ?_
  refine LR.nil (hT1 _ ?_)
  -- call (*selvage/simfs.FS).Sync
  refine LR.call rfl Tryd.call31 rfl (Wd.u rfl) rfl rfl (sync_ct mx_ K g b D (newP p) w0 _ hf mx (bf_mx.mono (by omega)) (dmx) (by rw [newP_len]; omega) hB) (fun v8 H8 r8 => ?_)
  have ql1 := hf.bk
  have ql2 := hc.lt
  have ql3 := hlg.lt
  have ql4 := hc7.lt
  obtain ⟨K8, g8, rfl, hf, hkd8, hs8⟩ := r8
  have df5 := DFL.appK (dmx) (bf_mx.mono hm0.size) hkd8
  have dj6 : DL (c + 1) K8 := DL.appK (dc) ql2 hkd8
  have dj7 : DL (lb + 1) K8 := DL.appK (dl) ql3 hkd8
  have dj8 : DL (c7 + 1) K8 := DL.appK (d7) ql4 hkd8
  have nx9 : NxK K H0.size K8 := NxK.tr (nx_hm0_hf) hkd8 hm0.size
  replace mx := mx.upL hs8 (dmx)
  replace hc := hc.upL hs8 (dc)
  replace hlg := hlg.upL hs8 (dl)
  replace hc7 := hc7.upL hs8 (d7)
  replace hm0 := hm0.trL hs8 (MIL.ofK (nx_hm0_hf) (by intro k hk; simp [hk]))
  have hz1 := hs8.size
  have hbk_hf := hf.bk
  refine LR.v (Y.assign rfl rfl) (Wd.u rfl) rfl rfl ?_
  refine LR.nil ?_
  refine hK2 _ _ ?_
  refine CW.ret (hret .ret (.inr rfl) _ _ _ (res1 rfl rfl) ?_)
  exact ⟨_, _, rfl, hf, nx9, hm0⟩

set_option maxHeartbeats 2000000 in
theorem cren_ct (mx_ : Int) (K : List Nat) (g : Gh) (b : Nat) (D : Dk) (c lb : Nat) (p : Pth) (n : Nat) (br : Bool) (c7 : Nat) (w0 : World) (H0 : Heap)
    (hf : PDk K g H0 b D) (mx : MX mx_ H0) (bf_mx : BF (fun b => b = 0) H0.size) (dmx : DFL (fun b => b = 0) K) (hc : Var 41 H0 c [ptr lb]) (hlg : Var 65 H0 lb [ptr b, Str p, .int .i64 (n : Int), .bool br]) (dc : DL (c + 1) K) (dl : DL (lb + 1) K) (hc7 : Var 9 H0 c7 [Str (newP p)]) (d7 : DL (c7 + 1) K) (hl : p.length ≤ 4294960000) (hB : Bd 274877906944 D) :
    Ct Tryd.prog w0 48 #[ptr c, ptr c7] H0 (fun r H2 => ∃ K2 : List Nat, ∃ g2 : Gh, r = .int .i64 ((D.rename (newP p) p).1 : Int) ∧ (PDk K2 g2 H2 b (D.rename (newP p) p).2) ∧ (NxK K H0.size K2) ∧ Mo (Ms K) H0 H2) := by
  refine Ct.enter (args := [ptr c, ptr c7]) Tryd.func48 rfl rfl rfl ?_
  intro Q0 hret
  have hm0 : Mo (Ms K) H0 H0 := Mo.refl _ _
  have nx_hm0_hf := NxK.refl K H0.size
  have hbk_hf := hf.bk
  have nx_hm0_hc := Nx.refl (c + 1) H0.size
  have hlt_hc := hc.lt
  have nx_hm0_hlg := Nx.refl (lb + 1) H0.size
  have hlt_hlg := hlg.lt
  have nx_hm0_hc7 := Nx.refl (c7 + 1) H0.size
  have hlt_hc7 := hc7.lt
  refine CW.seq (fun K1 hK1 hE1 => ?_)
  refine CW.region ?_
  refine LR.v (Y.assign rfl rfl) (Wd.u rfl) rfl rfl ?_
  refine LR.nil ?_
  refine hK1 _ _ ?_
  refine CW.seq (fun K2 hK2 hE2 => ?_)
  refine CW.region_tail 9 rfl (by kernel_rfl) (fun T1 hT1 => ?_)
  refine LR.v (Y.load1 hc.pt rfl Tryd.isAgg41 rfl) (Wd.u rfl) rfl rfl ?_
  refine LR.v (Y.nilCheck rfl rfl) (Wd.u rfl) rfl rfl ?_
  refine LR.v (Y.fieldAddr hlg.pt rfl Tryd.runUnderlying65 rfl rfl Tryd.sizeOf38 (by decide) rfl) (Wd.u rfl) rfl rfl ?_
  refine LR.v (Y.load1 hlg.pt rfl Tryd.isAgg38 rfl) (Wd.u rfl) rfl rfl ?_
  refine LR.v (Y.load1 hc7.pt rfl Tryd.isAgg9 rfl) (Wd.u rfl) rfl rfl ?_
  refine LR.v (Y.load1 hc.pt rfl Tryd.isAgg41 rfl) (Wd.u rfl) rfl rfl ?_
  refine LR.v (Y.nilCheck rfl rfl) (Wd.u rfl) rfl rfl ?_
  refine LR.v (Y.fieldAddr hlg.pt rfl Tryd.runUnderlying65 rfl rfl Tryd.sizeOf9 (by decide) rfl) (Wd.u rfl) rfl rfl ?_
  refine LR.v (Y.load1 (hlg.pt.drop 1) rfl Tryd.isAgg9 rfl) (Wd.u rfl) rfl rfl ?_
  refine LR.nil (hT1 _ ?_)
  -- call (*selvage/simfs.FS).Rename
  refine LR.call rfl Tryd.call49 rfl (Wd.u rfl) rfl rfl (rename_ct mx_ K g b D (newP p) p w0 _ hf mx (bf_mx.mono (by omega)) (dmx) (by rw [newP_len]; omega) (by omega) hB) (fun v12 H12 r12 => ?_)
  have ql1 := hf.bk
  have ql2 := hc.lt
  have ql3 := hlg.lt
  have ql4 := hc7.lt
  obtain ⟨K12, g12, rfl, hf, hkd12, hs12⟩ := r12
  have df5 := DFL.appK (dmx) (bf_mx.mono hm0.size) hkd12
  have dj6 : DL (c + 1) K12 := DL.appK (dc) ql2 hkd12
  have dj7 : DL (lb + 1) K12 := DL.appK (dl) ql3 hkd12
  have dj8 : DL (c7 + 1) K12 := DL.appK (d7) ql4 hkd12
  have nx9 : NxK K H0.size K12 := NxK.tr (nx_hm0_hf) hkd12 hm0.size
  replace mx := mx.upL hs12 (dmx)
  replace hc := hc.upL hs12 (dc)
  replace hlg := hlg.upL hs12 (dl)
  replace hc7 := hc7.upL hs12 (d7)
  replace hm0 := hm0.trL hs12 (MIL.ofK (nx_hm0_hf) (by intro k hk; simp [hk]))
  have hz1 := hs12.size
  have hbk_hf := hf.bk
  refine LR.v (Y.assign rfl rfl) (Wd.u rfl) rfl rfl ?_
  refine LR.nil ?_
  refine hK2 _ _ ?_
  refine CW.ret (hret .ret (.inr rfl) _ _ _ (res1 rfl rfl) ?_)
  exact ⟨_, _, rfl, hf, nx9, hm0⟩

set_option maxHeartbeats 2000000 in
theorem csd_ct (mx_ : Int) (K : List Nat) (g : Gh) (b : Nat) (D : Dk) (c lb : Nat) (p : Pth) (n : Nat) (br : Bool) (w0 : World) (H0 : Heap)
    (hf : PDk K g H0 b D) (mx : MX mx_ H0) (bf_mx : BF (fun b => b = 0) H0.size) (dmx : DFL (fun b => b = 0) K) (hc : Var 41 H0 c [ptr lb]) (hlg : Var 65 H0 lb [ptr b, Str p, .int .i64 (n : Int), .bool br]) (dc : DL (c + 1) K) (dl : DL (lb + 1) K) (hl : p.length ≤ 4294960000) (hB : Bd 274877906944 D) :
    Ct Tryd.prog w0 50 #[ptr c] H0 (fun r H2 => ∃ K2 : List Nat, ∃ g2 : Gh, r = .int .i64 ((D.syncDir (dirP p)).1 : Int) ∧ (PDk K2 g2 H2 b (D.syncDir (dirP p)).2) ∧ (NxK K H0.size K2) ∧ Mo (Ms K) H0 H2) := by
  refine Ct.enter (args := [ptr c]) Tryd.func50 rfl rfl rfl ?_
  intro Q0 hret
  have hm0 : Mo (Ms K) H0 H0 := Mo.refl _ _
  have nx_hm0_hf := NxK.refl K H0.size
  have hbk_hf := hf.bk
  have nx_hm0_hc := Nx.refl (c + 1) H0.size
  have hlt_hc := hc.lt
  have nx_hm0_hlg := Nx.refl (lb + 1) H0.size
  have hlt_hlg := hlg.lt
  refine CW.seq (fun K1 hK1 hE1 => ?_)
  refine CW.region ?_
  refine LR.v (Y.assign rfl rfl) (Wd.u rfl) rfl rfl ?_
  refine LR.nil ?_
  refine hK1 _ _ ?_
  refine CW.seq (fun K2 hK2 hE2 => ?_)
  refine CW.region_any (fun Hq => Mo (Ms K) H0 Hq) [] rfl ?_
  have hq1 : Mo (Ms K) H0 H0 := Mo.refl _ _
  have nx1 := NxK.refl K H0.size
  refine LH.take 0 (by kernel_rfl) rfl (by kernel_rfl) (by kernel_rfl) (by kernel_rfl) (fun Hq hq => Y.load1 (hc.upL hq (dc)).pt rfl Tryd.isAgg41 rfl) (Wd.u rfl) rfl rfl hq1 ?_
  refine LH.take 1 (by kernel_rfl) rfl (by kernel_rfl) (by kernel_rfl) (by kernel_rfl) (fun Hq hq => Y.nilCheck rfl rfl) (Wd.u rfl) rfl rfl hq1 ?_
  refine LH.take 2 (by kernel_rfl) rfl (by kernel_rfl) (by kernel_rfl) (by kernel_rfl) (fun Hq hq => Y.fieldAddr (hlg.upL hq (dl)).pt rfl Tryd.runUnderlying65 rfl rfl Tryd.sizeOf38 (by decide) rfl) (Wd.u rfl) rfl rfl hq1 ?_
  refine LH.take 3 (by kernel_rfl) rfl (by kernel_rfl) (by kernel_rfl) (by kernel_rfl) (fun Hq hq => Y.load1 (hlg.upL hq (dl)).pt rfl Tryd.isAgg38 rfl) (Wd.u rfl) rfl rfl hq1 ?_
  refine LH.take 4 (by kernel_rfl) rfl (by kernel_rfl) (by kernel_rfl) (by kernel_rfl) (fun Hq hq => Y.load1 (hc.upL hq (dc)).pt rfl Tryd.isAgg41 rfl) (Wd.u rfl) rfl rfl hq1 ?_
  refine LH.take 5 (by kernel_rfl) rfl (by kernel_rfl) (by kernel_rfl) (by kernel_rfl) (fun Hq hq => Y.nilCheck rfl rfl) (Wd.u rfl) rfl rfl hq1 ?_
  refine LH.take 6 (by kernel_rfl) rfl (by kernel_rfl) (by kernel_rfl) (by kernel_rfl) (fun Hq hq => Y.fieldAddr (hlg.upL hq (dl)).pt rfl Tryd.runUnderlying65 rfl rfl Tryd.sizeOf9 (by decide) rfl) (Wd.u rfl) rfl rfl hq1 ?_
  refine LH.take 7 (by kernel_rfl) rfl (by kernel_rfl) (by kernel_rfl) (by kernel_rfl) (fun Hq hq => Y.load1 ((hlg.upL hq (dl)).pt.drop 1) rfl Tryd.isAgg9 rfl) (Wd.u rfl) rfl rfl hq1 ?_
  refine LH.one (i := 8) (by kernel_rfl) ?_
  -- call selvage/simfs.Dir
  refine LO.call rfl rfl Tryd.call52 rfl (Wd.u rfl) rfl rfl (dir_ct mx_ p w0 _ mx (bf_mx.mono (by omega)) (by omega)) (fun v10 H10 r10 => ?_)
  obtain ⟨rfl, hs10⟩ := r10
  replace hf := hf.nw hs10
  replace mx := mx.nw hs10
  replace hc := hc.nw hs10
  replace hlg := hlg.nw hs10
  replace hm0 := hm0.trN hs10
  replace hq1 := hq1.trN hs10
  have hz1 := hs10.size
  refine ⟨.inr hq1, LH.narrow (SH2 := fun Hq => Mo (Ms K) H10 Hq) (fun Hq hq => hq1.trL hq (MIL.ofK (nx1) (by intro k hk; simp [hk]))) ?_⟩
  have hq1 : Mo (Ms K) H10 H10 := Mo.refl _ _
  have nx2 := NxK.refl K H10.size
  refine LH.one (i := 9) (by kernel_rfl) ?_
  -- call (*selvage/simfs.FS).SyncDir
  refine LO.call rfl rfl Tryd.call51 rfl (Wd.u rfl) rfl rfl (syncDir_ct mx_ K g b D (dirP p) w0 _ hf mx (bf_mx.mono (by omega)) (dmx) (by have := dirP_le p; omega) hB) (fun v11 H11 r11 => ?_)
  have ql3 := hf.bk
  have ql4 := hc.lt
  have ql5 := hlg.lt
  obtain ⟨K11, g11, rfl, hf, hkd11, hs11⟩ := r11
  have df6 := DFL.appK (dmx) (bf_mx.mono hm0.size) hkd11
  have dj7 : DL (c + 1) K11 := DL.appK (dc) ql4 hkd11
  have dj8 : DL (lb + 1) K11 := DL.appK (dl) ql5 hkd11
  have nx9 : NxK K H0.size K11 := NxK.tr (nx_hm0_hf) hkd11 hm0.size
  have nx10 : NxK K H10.size K11 := NxK.tr (nx2) hkd11 hq1.size
  replace mx := mx.upL hs11 (dmx)
  replace hc := hc.upL hs11 (dc)
  replace hlg := hlg.upL hs11 (dl)
  replace hm0 := hm0.trL hs11 (MIL.ofK (nx_hm0_hf) (by intro k hk; simp [hk]))
  replace hq1 := hq1.trL hs11 (MIL.ofK (nx2) (by intro k hk; simp [hk]))
  have hz2 := hs11.size
  have hbk_hf := hf.bk
  refine ⟨.inr hq1, LH.narrow (SH2 := fun Hq => Mo (Ms K11) H11 Hq) (fun Hq hq => hq1.trL hq (MIL.ofK (nx10) (by intro k hk; simp [hk]))) ?_⟩
  have hq1 : Mo (Ms K11) H11 H11 := Mo.refl _ _
  have nx11 := NxK.refl K11 H11.size
  refine LH.take 10 (by kernel_rfl) rfl (by kernel_rfl) (by kernel_rfl) (by kernel_rfl) (fun Hq hq => Y.assign rfl rfl) (Wd.u rfl) rfl rfl hq1 ?_
  refine LH.done (by kernel_rfl) ?_
  refine hK2 _ _ ?_
  refine CW.ret (hret .ret (.inr rfl) _ _ _ (res1 rfl rfl) ?_)
  exact ⟨_, _, rfl, hf, nx9, hm0⟩

end Go.Proofs.YtdliddjkacbggaaDoor.WalD
/-
  A journal on a disk: making it anew, putting a record behind the others.
-/
namespace Go.Proofs.YtdliddjkacbggaaDoor.WalE
open Go.Proofs.YtdliddjkacbggaaDoor.E Go.RowKit Go.Proofs.YtdliddjkacbggaaDoor.SimA Go.Proofs.YtdliddjkacbggaaDoor.SimB Go.Proofs.YtdliddjkacbggaaDoor.SimC Go.Proofs.YtdliddjkacbggaaDoor.SimD Go.Proofs.YtdliddjkacbggaaDoor.SimE Go.Proofs.YtdliddjkacbggaaDoor.SimF Go.Proofs.YtdliddjkacbggaaDoor.SimG Go.Proofs.YtdliddjkacbggaaDoor.SimH Go.Proofs.YtdliddjkacbggaaDoor.SimI Go.Proofs.YtdliddjkacbggaaDoor.SimQ Go.Proofs.YtdliddjkacbggaaDoor.SimR Go.Proofs.YtdliddjkacbggaaDoor.WalA Go.Proofs.YtdliddjkacbggaaDoor.WalB Go.Proofs.YtdliddjkacbggaaDoor.WalC Go.Proofs.YtdliddjkacbggaaDoor.WalD
set_option maxRecDepth 20000
set_option linter.unusedVariables false
set_option linter.unusedSimpArgs false
set_option linter.unusedSectionVars false
set_option maxRecDepth 100000 in
theorem inf90 : Inf Tryd.prog 90 67 1 8 := ⟨Tryd.underlying90, _, _, rfl, rfl, rfl, rfl, rfl⟩

section
variable {w0 : World} {K : List Nat} {H : Heap} {mx_ : Int} {b c lb n c3 c7 N : Nat} {p : Pth} {br : Bool} {s : SV} {F : Nat → Prop} {D : Dk}
theorem ck_steps {l : List (SV × Rec)} (hS : LgS K H mx_ b c lb p n br) (h7 : VaS K H 9 c7 [Str (newP p)]) (h3 : VaS K H 22 c3 [s.v]) (hr : RwS K F H fP s.v l) (hx : ∀ x ∈ l, Rd F H fB 1 x.1.v x.2)
    (hrl : ∀ x ∈ l, x.2.length ≤ 1048576) (hel : (encN 0 (recs l)).length ≤ 274877900000) (hl : p.length ≤ 4294960000) (hB : Bs N D) (hN : N + 4 * ((encW (recs l)).length + 20) ≤ 536870912) :
    ∀ (i : Nat) (h : i < ([(45, [ptr c, ptr c7, ptr c3]), (47, [ptr c, ptr c7]), (48, [ptr c, ptr c7]), (50, [ptr c])] : List FnV).length) (K' : List Nat) (g' : Gh) (H' : Heap), PDk K' g' H' b (runD ((frS p (recs l)).take i) D).2 → NxK K H.size K' → Mo (Ms K) H H' →
      CloD w0 b (stp (frS p (recs l)) i) (.func (.func ([(45, [ptr c, ptr c7, ptr c3]), (47, [ptr c, ptr c7]), (48, [ptr c, ptr c7]), (50, [ptr c])] : List FnV)[i].1) #[] ([(45, [ptr c, ptr c7, ptr c3]), (47, [ptr c, ptr c7]), (48, [ptr c, ptr c7]), (50, [ptr c])] : List FnV)[i].2.toArray) K' H' (runD ((frS p (recs l)).take i) D).2 := by
  intro i hi K' g' H' hf hK hm
  have hB2 : Bd 274877906944 (runD ((frS p (recs l)).take i) D).2 := (bs_runT i (frS_bs p (recs l)) hB).bd (by have : (frS p (recs l)).length = 4 := rfl; rw [this]; omega)
  have hS := hS.up hm hK
  have h7 := h7.up hm hK
  have h3 := h3.up hm hK
  have hx2 : ∀ x ∈ l, Rd F H' fB 1 x.1.v x.2 := fun x h => (hx x h).upL hm hr.df
  have hr := hr.up hm hK
  match i, hi with
  | 0, _ => exact Clo.of (caps := [ptr c, ptr c7, ptr c3]) (args := []) Tryd.call45 (cwrite_ct mx_ K' g' b _ c lb p n br c7 c3 s l F w0 _ hf hS.mx hS.bmx hS.dmx hS.cv hS.lg hS.dc hS.dl h7.v h7.d h3.v h3.d hr.rd hr.bf hr.df hx2 hr.bf hr.df hrl hel hl hB2)
  | 1, _ => exact Clo.of (caps := [ptr c, ptr c7]) (args := []) Tryd.call47 (csync_ct mx_ K' g' b _ c lb p n br c7 w0 _ hf hS.mx hS.bmx hS.dmx hS.cv hS.lg hS.dc hS.dl h7.v h7.d hl hB2)
  | 2, _ => exact Clo.of (caps := [ptr c, ptr c7]) (args := []) Tryd.call48 (cren_ct mx_ K' g' b _ c lb p n br c7 w0 _ hf hS.mx hS.bmx hS.dmx hS.cv hS.lg hS.dc hS.dl h7.v h7.d hl hB2)
  | 3, _ => exact Clo.of (caps := [ptr c]) (args := []) Tryd.call50 (csd_ct mx_ K' g' b _ c lb p n br w0 _ hf hS.mx hS.bmx hS.dmx hS.cv hS.lg hS.dc hS.dl hl hB2)
theorem ap_steps {rc : Rec} (hS : LgS K H mx_ b c lb p n br) (h3 : VaS K H 23 c3 [s.v]) (hr : RwS K F H fB s.v rc) (hrl : rc.length ≤ 1048576) (hl : p.length ≤ 4294960000) (hB : Bs N D) (hN : N + 4 * (rc.length + 20) ≤ 536870912) :
    ∀ (i : Nat) (h : i < ([(33, [ptr c, ptr c3]), (30, [ptr c]), (35, [ptr c]), (30, [ptr c])] : List FnV).length) (K' : List Nat) (g' : Gh) (H' : Heap), PDk K' g' H' b (runD ((apS p n rc).take i) D).2 → NxK K H.size K' → Mo (Ms K) H H' →
      CloD w0 b (stp (apS p n rc) i) (.func (.func ([(33, [ptr c, ptr c3]), (30, [ptr c]), (35, [ptr c]), (30, [ptr c])] : List FnV)[i].1) #[] ([(33, [ptr c, ptr c3]), (30, [ptr c]), (35, [ptr c]), (30, [ptr c])] : List FnV)[i].2.toArray) K' H' (runD ((apS p n rc).take i) D).2 := by
  intro i hi K' g' H' hf hK hm
  have hB2 : Bd 274877906944 (runD ((apS p n rc).take i) D).2 := (bs_runT i (apS_bs p n rc) hB).bd (by have : (apS p n rc).length = 4 := rfl; rw [this]; omega)
  have hS := hS.up hm hK
  have h3 := h3.up hm hK
  have hr := hr.up hm hK
  match i, hi with
  | 0, _ => exact Clo.of (caps := [ptr c, ptr c3]) (args := []) Tryd.call33 (alay_ct mx_ K' g' b _ c lb p n br c3 s rc F w0 _ hf hS.mx hS.bmx hS.dmx hS.cv hS.lg hS.dc hS.dl h3.v h3.d hr.rd hr.bf hr.df (by omega) (by omega) hB2)
  | 1, _ => exact Clo.of (caps := [ptr c]) (args := []) Tryd.call30 (async_ct mx_ K' g' b _ c lb p n br w0 _ hf hS.mx hS.bmx hS.dmx hS.cv hS.lg hS.dc hS.dl (by omega) hB2)
  | 2, _ => exact Clo.of (caps := [ptr c]) (args := []) Tryd.call35 (amark_ct mx_ K' g' b _ c lb p n br w0 _ hf hS.mx hS.bmx hS.dmx hS.cv hS.lg hS.dc hS.dl (by omega) hB2)
  | 3, _ => exact Clo.of (caps := [ptr c]) (args := []) Tryd.call30 (async_ct mx_ K' g' b _ c lb p n br w0 _ hf hS.mx hS.bmx hS.dmx hS.cv hS.lg hS.dc hS.dl (by omega) hB2)
end
theorem encN_parL_le (b : List UInt8) : (encN 0 (parL b)).length ≤ b.length ∧ (encW (parL b)).length ≤ b.length + 8 := by
  by_cases h : parE b = 0
  · obtain ⟨t, e, _⟩ := parL_pre h
    have h2 := congrArg List.length e
    rw [List.length_append] at h2
    unfold encW at h2 ⊢
    rw [List.length_append] at h2 ⊢
    omega
  · have : parL b = [] := by unfold parE at h; unfold parL; split at h; exact absurd rfl h; rename_i h8; rw [if_neg h8]
    rw [this]; simp [encN, encW, W8]
theorem encN_sub (l : List Rec) (n : Nat) : (encN 0 (l.take n)).length ≤ (encN 0 l).length := by
  conv => rhs; rw [← List.take_append_drop n l, encN_app]
  rw [List.length_append]; omega
def mendD (D : Dk) (p : Pth) (n : Nat) : Nat × Dk := if D.readE p ≠ 0 then (D.readE p, D) else if parE (D.readL p) ≠ 0 then (parE (D.readL p), D) else freshD D p ((parL (D.readL p)).take n)
def mendN (D : Dk) (p : Pth) (n : Nat) : Nat := ((parL (D.readL p)).take n).length
def lgN (e m n : Nat) : Nat := if e = 0 then m else n
def lgB (e : Nat) (br : Bool) : Bool := if e = 0 then false else br
/-- what is done ahead of an append -/
def preD (D : Dk) (p : Pth) (n : Nat) (br : Bool) : Nat × Nat × Dk := if br = true then ((mendD D p n).1, mendN D p n, (mendD D p n).2) else (0, n, D)
/-- an append: the error, how many there are, is it broken, the disk -/
def appD (D : Dk) (p : Pth) (n : Nat) (br : Bool) (r : Rec) : Nat × Nat × Bool × Dk :=
  if (preD D p n br).1 ≠ 0 then ((preD D p n br).1, n, br, (preD D p n br).2.2)
  else
    let q := runD (apS p (preD D p n br).2.1 r) (preD D p n br).2.2
    (q.1, if q.1 = 0 then (preD D p n br).2.1 + 1 else (preD D p n br).2.1, if q.1 = 0 then false else true, q.2)
theorem bs_mend {N : Nat} {D : Dk} (h : Bs N D) (p : Pth) (n : Nat) : Bs (N + 4 * (N + 28)) (mendD D p n).2 := by
  unfold mendD; split
  · exact h.mono (by omega)
  · split
    · exact h.mono (by omega)
    · refine (bs_fresh h p _).mono ?_
      have h1 := (encN_parL_le (D.readL p)).1
      have h2 := encN_sub (parL (D.readL p)) n
      have h3 : (D.readL p).length ≤ N := by
        unfold Dk.readL Dk.wasL; split
        · split
          · exact (h.f _).1
          · exact Nat.zero_le _
        · exact Nat.zero_le _
      have h8 : W8.length = 8 := rfl
      unfold encW; rw [List.length_append]; omega
theorem readL_bd {N : Nat} {D : Dk} (h : Bs N D) (p : Pth) : (D.readL p).length ≤ N := by
  unfold Dk.readL Dk.wasL; split
  · split
    · exact (h.f _).1
    · exact Nat.zero_le _
  · exact Nat.zero_le _
theorem bs_app {N : Nat} {D : Dk} (h : Bs N D) (p : Pth) (n : Nat) (br : Bool) (r : Rec) : Bs (N + 4 * (N + 28) + 4 * (r.length + 20)) (appD D p n br r).2.2.2 := by
  have h1 : Bs (N + 4 * (N + 28)) (preD D p n br).2.2 := by
    unfold preD; split
    · exact bs_mend h p n
    · exact h.mono (by omega)
  unfold appD; split
  · exact h1.mono (by omega)
  · exact (bs_run (apS_bs p _ r) h1).mono (by simp [apS]; omega)

set_option maxHeartbeats 4000000 in
theorem ckpt_ct (mx_ : Int) (K : List Nat) (g : Gh) (b : Nat) (D : Dk) (lb : Nat) (p : Pth) (n : Nat) (br : Bool) (s : SV) (l : List (SV × Rec)) (F : Nat → Prop) (N : Nat) (w0 : World) (H0 : Heap)
    (hf : PDk K g H0 b D) (mx : MX mx_ H0) (bf_mx : BF (fun b => b = 0) H0.size) (dmx : DFL (fun b => b = 0) K) (hlg : Var 65 H0 lb [ptr b, Str p, .int .i64 (n : Int), .bool br]) (dl : DL (lb + 1) K) (dmv : DF (fun b => b = 0) (lb + 1)) (hr : Rd F H0 fP 1 s.v l) (bf_hr : BF F H0.size) (dfr : DFL F K) (hx : ∀ x ∈ l, Rd F H0 fB 1 x.1.v x.2) (bf_hx : BF F H0.size) (dfx : DFL F K) (hrl : ∀ x ∈ l, x.2.length ≤ 1048576) (hel : (encN 0 (recs l)).length ≤ 274877900000) (dlr : DF F (lb + 1)) (dlx : DF F (lb + 1)) (hl : p.length ≤ 4294960000) (hB : Bs N D) (hN : N + 4 * ((encW (recs l)).length + 20) ≤ 536870912) (hml : l.length ≤ 1073741824) :
    Ct Tryd.prog w0 28 #[ptr lb, s.v] H0 (fun r H2 => ∃ K2 : List Nat, ∃ g2 : Gh, r = .int .i64 ((freshD D p (recs l)).1 : Int) ∧ (PDk K2 g2 H2 b (freshD D p (recs l)).2) ∧ (NxK K H0.size K2) ∧ (Var 65 H2 lb [ptr b, Str p, .int .i64 (lgN (freshD D p (recs l)).1 l.length n : Int), .bool (lgB (freshD D p (recs l)).1 br)]) ∧ (DL (lb + 1) K2) ∧ Mo (Ms (K ++ [(lb + 1)])) H0 H2) := by
  refine Ct.enter (args := [ptr lb, s.v]) Tryd.func28 rfl rfl rfl ?_
  intro Q0 hret
  have hm0 : Mo (Ms (K ++ [(lb + 1)])) H0 H0 := Mo.refl _ _
  have nx_hm0_hf := NxK.refl K H0.size
  have hbk_hf := hf.bk
  have nx_hm0_hlg := Nx.refl (lb + 1) H0.size
  have hlt_hlg := hlg.lt
  refine CW.seq (fun K1 hK1 hE1 => ?_)
  refine CW.region ?_
  refine LR.z (Z.boxv1 rfl rfl (rfl)) (Wd.u rfl) rfl rfl (fun v2 H2 r2 => ?_)
  obtain ⟨rfl, hc2, hs2, ob2, hH2⟩ := r2
  have hzs2 : H2.size = H0.size + 1 := by rw [hH2]; simp
  have dj1 : DL (H0.size + 1) K := DL.newK hf.bk
  have df2 := (DF.new (bf_mx.mono hm0.size) : DF _ (H0.size + 1))
  have dj3 : Dj (lb + 1) (H0.size + 1) := Dj.new hlg.lt
  have df4 := (DF.new (bf_hr.mono hm0.size) : DF _ (H0.size + 1))
  have df5 := (DF.new (bf_hx.mono hm0.size) : DF _ (H0.size + 1))
  have nx6 : Nx 0 H0.size (H0.size + 1) := Nx.new hm0.size
  replace hf := hf.nw hs2
  replace mx := mx.nw hs2
  replace hlg := hlg.nw hs2
  replace hr := hr.nw hs2
  replace hx := fun x hx_ => (hx x hx_).nw hs2
  replace hm0 := hm0.trN hs2
  have hz1 := hs2.size
  replace hc2 : Var 41 H2 H0.size ([ptr lb]) := hc2
  refine LR.z (Z.boxv1 rfl rfl ((hr).oneCell)) (Wd.u rfl) rfl rfl (fun v3 H3 r3 => ?_)
  obtain ⟨rfl, hc3, hs3, ob3, hH3⟩ := r3
  have hzs3 : H3.size = H2.size + 1 := by rw [hH3]; simp
  have dj7 : DL (H2.size + 1) K := DL.newK hf.bk
  have df8 := (DF.new (bf_mx.mono hm0.size) : DF _ (H2.size + 1))
  have dj9 : Dj (lb + 1) (H2.size + 1) := Dj.new hlg.lt
  have df10 := (DF.new (bf_hr.mono hm0.size) : DF _ (H2.size + 1))
  have df11 := (DF.new (bf_hx.mono hm0.size) : DF _ (H2.size + 1))
  have dj12 : Dj (H0.size + 1) (H2.size + 1) := Dj.new hc2.lt
  have nx13 : Nx 0 H0.size (H2.size + 1) := Nx.new hm0.size
  replace hf := hf.nw hs3
  replace mx := mx.nw hs3
  replace hlg := hlg.nw hs3
  replace hr := hr.nw hs3
  replace hx := fun x hx_ => (hx x hx_).nw hs3
  replace hc2 := hc2.nw hs3
  replace hm0 := hm0.trN hs3
  have hz2 := hs3.size
  replace hc3 : Var 22 H3 H2.size ([s.v]) := hc3
  refine LR.v (Y.assign rfl rfl) (Wd.u rfl) rfl rfl ?_
  refine LR.nil ?_
  refine hK1 _ _ ?_
  refine CW.seq (fun K2 hK2 hE2 => ?_)
  refine CW.seq (fun K3 hK3 hE3 => ?_)
  refine CW.region ?_
  refine LR.v (Y.load1 hc3.pt rfl Tryd.isAgg22 rfl) (Wd.u rfl) rfl rfl ?_
  refine LR.v (Y.len hr rfl Tryd.runUnderlying22 rfl) (Wd.u rfl) rfl rfl ?_
  refine LR.v (Y.move rfl rfl) (Wd.u rfl) rfl rfl ?_
  refine LR.nil ?_
  refine hK3 _ _ ?_
  refine CW.block (fun K4 hK4 hX4 hE4 => ?_)
  refine CW.loop (fun (i : (Nat)) => [(2, .pointer (some ⟨H0.size, 0, none⟩)), (3, .pointer (some ⟨H2.size, 0, none⟩)), (9, s.v), (10, .int .i64 (l.length : Int)), (11, .int .i64 (i : Int))])
    (fun (i : (Nat)) (H : Heap) => (i ≤ l.length) ∧ Nw H3 H)
    (fun (i : (Nat)) => l.length - i) 0 ⟨rfl, rfl, rfl, rfl, rfl, trivial⟩ ?_ ?_
  ·
    exact ⟨(by omega), Mo.refl _ _⟩
  intro i HL1 hI1 K5 hN5 hE5
  obtain ⟨hi, hlm1⟩ := hI1
  replace hf := hf.nw hlm1
  replace mx := mx.nw hlm1
  replace hlg := hlg.nw hlm1
  replace hr := hr.nw hlm1
  replace hx := fun x hx_ => (hx x hx_).nw hlm1
  replace hc2 := hc2.nw hlm1
  replace hc3 := hc3.nw hlm1
  replace hm0 := hm0.trN hlm1
  have hz3 := hlm1.size
  refine CW.seq (fun K6 hK6 hE6 => ?_)
  refine CW.region ?_
  refine LR.v (Y.lss rfl rfl rfl) (Wd.u rfl) rfl rfl ?_
  refine LR.nil ?_
  refine hK6 _ _ ?_
  refine CW.seq (fun K7 hK7 hE7 => ?_)
  refine CW.condp rfl (fun c12 => ?_) (fun c12 => ?_)
  ·
    have hil : i < l.length := by omega
    have hxi := hx l[i] (List.getElem_mem hil)
    have hri := hrl l[i] (List.getElem_mem hil)
    refine CW.skip ?_
    refine hK7 _ _ ?_
    refine CW.seq (fun K8 hK8 hE8 => ?_)
    refine CW.block (fun K9 hK9 hX9 hE9 => ?_)
    refine CW.seq (fun K10 hK10 hE10 => ?_)
    refine CW.region ?_
    refine LR.e (g := fun ad => .pointer (some ad)) (Y.indexAddrF hr (i) rfl Tryd.runUnderlying22 Tryd.sizeOf23 rfl rfl (by first | rfl | omega) (by first | omega | (simp; omega) | (simp; done))) (Wd.u rfl) rfl rfl (fun ad13 pt13 => ?_)
    have bf_pt13 := bf_hr
    refine LR.v (Y.load1 pt13.pt rfl Tryd.isAgg23 rfl) (Wd.u rfl) rfl rfl ?_
    refine LR.v (Y.assign rfl rfl) (Wd.u rfl) rfl rfl ?_
    refine LR.nil ?_
    refine hK10 _ _ ?_
    refine CW.seq (fun K11 hK11 hE11 => ?_)
    refine CW.region ?_
    refine LR.v (Y.move rfl rfl) (Wd.u rfl) rfl rfl ?_
    refine LR.v (Y.len hxi rfl Tryd.runUnderlying23 rfl) (Wd.u rfl) rfl rfl ?_
    refine LR.v ((Y.gtr rfl rfl rfl).isF (by omega)) (Wd.u rfl) rfl rfl ?_
    refine LR.nil ?_
    refine hK11 _ _ ?_
    refine CW.cond_f rfl ?_
    refine CW.skip ?_
    refine hK9 _ _ ?_
    refine hK8 _ _ ?_
    refine CW.region ?_
    refine LR.v (Y.addi rfl rfl rfl (by omega)) (Wd.u rfl) rfl rfl ?_
    refine LR.v (Y.move rfl rfl) (Wd.u rfl) rfl rfl ?_
    refine LR.nil ?_
    refine QN.sub (hN5 (i + 1) _ ?_ ?_) ⟨rfl, rfl, rfl, (iv (by omega)), (iv (by omega)), trivial⟩
    · exact ⟨(by omega), hlm1⟩
    · first | omega | (simp only; omega) | (simp; omega)
  ·
    refine CW.exit (hE7 (.exit 0) nofun _ _ (hE5 (.exit 0) nofun _ _ (hX4 _ _ ?_)))
    refine hK2 _ _ ?_
    refine CW.seq (fun K12 hK12 hE12 => ?_)
    refine CW.region ?_
    refine LR.v (Y.load1 hc2.pt rfl Tryd.isAgg41 rfl) (Wd.u rfl) rfl rfl ?_
    refine LR.v (Y.nilCheck rfl rfl) (Wd.u rfl) rfl rfl ?_
    refine LR.v (Y.fieldAddr hlg.pt rfl Tryd.runUnderlying65 rfl rfl Tryd.sizeOf9 (by decide) rfl) (Wd.u rfl) rfl rfl ?_
    refine LR.v (Y.load1 (hlg.pt.drop 1) rfl Tryd.isAgg9 rfl) (Wd.u rfl) rfl rfl ?_
    refine LR.v (Y.cast (v2 := Str (newP p)) (Y.sadd rfl rfl rfl (by simp only [List.length_cons, List.length_nil]; omega)) (rfl)) (Wd.u rfl) rfl rfl ?_
    refine LR.z (Z.allocv rfl Tryd.zeroValue9) (Wd.u rfl) rfl rfl (fun v7 H7 r7 => ?_)
    obtain ⟨rfl, hc7, hs7, ob7, hH7⟩ := r7
    have hzs7 : H7.size = HL1.size + 1 := by rw [hH7]; simp
    have dj14 : DL (HL1.size + 1) K := DL.newK hf.bk
    have df15 := (DF.new (bf_mx.mono hm0.size) : DF _ (HL1.size + 1))
    have dj16 : Dj (lb + 1) (HL1.size + 1) := Dj.new hlg.lt
    have df17 := (DF.new (bf_hr.mono hm0.size) : DF _ (HL1.size + 1))
    have df18 := (DF.new (bf_hx.mono hm0.size) : DF _ (HL1.size + 1))
    have dj19 : Dj (H0.size + 1) (HL1.size + 1) := Dj.new hc2.lt
    have dj20 : Dj (H2.size + 1) (HL1.size + 1) := Dj.new hc3.lt
    have nx21 : Nx 0 H0.size (HL1.size + 1) := Nx.new hm0.size
    replace hf := hf.nw hs7
    replace mx := mx.nw hs7
    replace hlg := hlg.nw hs7
    replace hr := hr.nw hs7
    replace hx := fun x hx_ => (hx x hx_).nw hs7
    replace hc2 := hc2.nw hs7
    replace hc3 := hc3.nw hs7
    replace hm0 := hm0.trN hs7
    have hz4 := hs7.size
    replace hc7 : Var 9 H7 HL1.size ([Str []]) := hc7
    refine LR.s (S.var1 hc7 0 ([Str (newP p)]) rfl rfl rfl (rfl) Tryd.sizeOf9 (by simp) (rfl)) (Wd.u rfl) rfl (fun H7_6 r7_6 => ?_)
    obtain ⟨hc7, hs7_6⟩ := r7_6
    replace hs7_6 := hs7_6.md1
    replace hf := hf.upL hs7_6 (DKL.cons dj14 DKL.nil)
    replace mx := mx.upL hs7_6 (DFL.cons df15 DFL.nil)
    replace hlg := hlg.upL hs7_6 (DL.cons dj16 DL.nil)
    replace hr := hr.upL hs7_6 (DFL.cons df17 DFL.nil)
    replace hx := fun x hx_ => (hx x hx_).upL hs7_6 (DFL.cons df18 DFL.nil)
    replace hc2 := hc2.upL hs7_6 (DL.cons dj19 DL.nil)
    replace hc3 := hc3.upL hs7_6 (DL.cons dj20 DL.nil)
    replace hm0 := hm0.trL hs7_6 (MIL.cons (MI.app MI.z (nx21) (Nat.le_refl _)) MIL.nil)
    have hz5 := hs7_6.size
    refine LR.nil ?_
    refine hK12 _ _ ?_
    refine CW.seq (fun K13 hK13 hE13 => ?_)
    refine CW.region ?_
    refine LR.v (Y.makeFunc rfl rfl) (Wd.u rfl) rfl rfl ?_
    refine LR.v (Y.makeFunc rfl rfl) (Wd.u rfl) rfl rfl ?_
    refine LR.v (Y.makeFunc rfl rfl) (Wd.u rfl) rfl rfl ?_
    refine LR.v (Y.makeFunc rfl rfl) (Wd.u rfl) rfl rfl ?_
    refine LR.z (Z.litw _ (([(45, [ptr H0.size, ptr HL1.size, ptr H2.size]), (47, [ptr H0.size, ptr HL1.size]), (48, [ptr H0.size, ptr HL1.size]), (50, [ptr H0.size])] : List FnV)) rfl inf90 rfl rfl rfl (by decide) (by decide) fFn_len fFn_one (rfl)) (Wd.u rfl) rfl rfl (fun v28 H28 r28 => ?_)
    obtain ⟨ow28, hs28, ob28, hH28⟩ := r28
    have hzs28 : H28.size = H7_6.size + 1 := by rw [hH28]; simp
    have dj22 : DL (H7_6.size + 1) K := DL.newK hf.bk
    have df23 := (DF.new (bf_mx.mono hm0.size) : DF _ (H7_6.size + 1))
    have dj24 : Dj (lb + 1) (H7_6.size + 1) := Dj.new hlg.lt
    have df25 := (DF.new (bf_hr.mono hm0.size) : DF _ (H7_6.size + 1))
    have df26 := (DF.new (bf_hx.mono hm0.size) : DF _ (H7_6.size + 1))
    have dj27 : Dj (H0.size + 1) (H7_6.size + 1) := Dj.new hc2.lt
    have dj28 : Dj (H2.size + 1) (H7_6.size + 1) := Dj.new hc3.lt
    have dj29 : Dj (HL1.size + 1) (H7_6.size + 1) := Dj.new hc7.lt
    have nx30 : Nx 0 H0.size (H7_6.size + 1) := Nx.new hm0.size
    replace hf := hf.nw hs28
    replace mx := mx.nw hs28
    replace hlg := hlg.nw hs28
    replace hr := hr.nw hs28
    replace hx := fun x hx_ => (hx x hx_).nw hs28
    replace hc2 := hc2.nw hs28
    replace hc3 := hc3.nw hs28
    replace hc7 := hc7.nw hs28
    replace hm0 := hm0.trN hs28
    have hz6 := hs28.size
    -- call selvage/wal.first
    refine LR.call rfl Tryd.call32 rfl (Wd.u rfl) rfl rfl (first_ct K g b D v28 [(45, [ptr H0.size, ptr HL1.size, ptr H2.size]), (47, [ptr H0.size, ptr HL1.size]), (48, [ptr H0.size, ptr HL1.size]), (50, [ptr H0.size])] (frS p (recs l)) _ w0 _ hf ow28.rd (BF.of ow28.le) (DFL.of (dj22)) rfl (ck_steps (LgS.mk mx (bf_mx.mono (by omega)) (dmx) hc2 hlg (dj1) (dl)) (VaS.mk hc7 (dj14)) (VaS.mk hc3 (dj7)) (RwS.mk hr (bf_hr.mono (by omega)) (dfr)) hx hrl hel hl hB hN)) (fun v29 H29 r29 => ?_)
    have ql31 := hf.bk
    have ql32 := hlg.lt
    have ql33 := hc2.lt
    have ql34 := hc3.lt
    have ql35 := hc7.lt
    have ql36 := ow28.le
    obtain ⟨K29, g29, rfl, hf, hkd29, hs29⟩ := r29
    have df37 := DFL.appK (dmx) (bf_mx.mono hm0.size) hkd29
    have dj38 : DL (lb + 1) K29 := DL.appK (dl) ql32 hkd29
    have df39 := DFL.appK (dfr) (bf_hr.mono hm0.size) hkd29
    have df40 := DFL.appK (dfx) (bf_hx.mono hm0.size) hkd29
    have dj41 : DL (H0.size + 1) K29 := DL.appK (dj1) ql33 hkd29
    have dj42 : DL (H2.size + 1) K29 := DL.appK (dj7) ql34 hkd29
    have dj43 : DL (HL1.size + 1) K29 := DL.appK (dj14) ql35 hkd29
    have dj44 : DL (H7_6.size + 1) K29 := DL.appK (dj22) ql36 hkd29
    have nx45 : NxK K H0.size K29 := NxK.tr (nx_hm0_hf) hkd29 hm0.size
    replace mx := mx.upL hs29 (dmx)
    replace hlg := hlg.upL hs29 (dl)
    replace hr := hr.upL hs29 (dfr)
    replace hx := fun x hx_ => (hx x hx_).upL hs29 (dfx)
    replace hc2 := hc2.upL hs29 (dj1)
    replace hc3 := hc3.upL hs29 (dj7)
    replace hc7 := hc7.upL hs29 (dj14)
    replace ow28 := ow28.upL hs29 (dj22)
    replace hm0 := hm0.trL hs29 (MIL.ofK (nx_hm0_hf) (by intro k hk; simp [hk]))
    have hz7 := hs29.size
    have hbk_hf := hf.bk
    refine LR.v (Y.assign rfl rfl) (Wd.u rfl) rfl rfl ?_
    refine LR.nil ?_
    refine hK13 _ _ ?_
    refine CW.seq (fun K14 hK14 hE14 => ?_)
    refine CW.seq (fun K15 hK15 hE15 => ?_)
    refine CW.region ?_
    refine LR.v (Y.move rfl rfl) (Wd.u rfl) rfl rfl ?_
    refine LR.v (Y.eql rfl rfl rfl) (Wd.u rfl) rfl rfl ?_
    refine LR.nil ?_
    refine hK15 _ _ ?_
    refine CW.condp rfl (fun c31 => ?_) (fun c31 => ?_)
    ·
      refine CW.region_any (fun Hq => Mo (Ms [(lb + 1)]) H29 Hq) [] rfl ?_
      have hq10 : Mo (Ms [(lb + 1)]) H29 H29 := Mo.refl _ _
      have nx46 := Nx.refl (lb + 1) H29.size
      refine LH.take 0 (by kernel_rfl) rfl (by kernel_rfl) (by kernel_rfl) (by kernel_rfl) (fun Hq hq => Y.load1 (hc2.upL hq (DL.cons dj3.symm DL.nil)).pt rfl Tryd.isAgg41 rfl) (Wd.u rfl) rfl rfl hq10 ?_
      refine LH.take 1 (by kernel_rfl) rfl (by kernel_rfl) (by kernel_rfl) (by kernel_rfl) (fun Hq hq => Y.load1 (hc2.upL hq (DL.cons dj3.symm DL.nil)).pt rfl Tryd.isAgg41 rfl) (Wd.u rfl) rfl rfl hq10 ?_
      refine LH.take 2 (by kernel_rfl) rfl (by kernel_rfl) (by kernel_rfl) (by kernel_rfl) (fun Hq hq => Y.load1 (hc3.upL hq (DL.cons dj9.symm DL.nil)).pt rfl Tryd.isAgg22 rfl) (Wd.u rfl) rfl rfl hq10 ?_
      refine LH.take 3 (by kernel_rfl) rfl (by kernel_rfl) (by kernel_rfl) (by kernel_rfl) (fun Hq hq => Y.len (hr.upL hq (DFL.cons dlr DFL.nil)) rfl Tryd.runUnderlying22 rfl) (Wd.u rfl) rfl rfl hq10 ?_
      refine LH.take 4 (by kernel_rfl) rfl (by kernel_rfl) (by kernel_rfl) (by kernel_rfl) (fun Hq hq => Y.nilCheck rfl rfl) (Wd.u rfl) rfl rfl hq10 ?_
      refine LH.take 5 (by kernel_rfl) rfl (by kernel_rfl) (by kernel_rfl) (by kernel_rfl) (fun Hq hq => Y.fieldAddrX hlg.pt rfl Tryd.runUnderlying65 rfl rfl Tryd.sizeOf3 (by decide) rfl) (Wd.u rfl) rfl rfl hq10 ?_
      refine LH.one (i := 6) (by kernel_rfl) ?_
      refine LO.s rfl (S.var1 hlg 2 ([ptr b, Str p, .int .i64 (l.length : Int), .bool br]) rfl rfl rfl (rfl) Tryd.sizeOf3 (by simp) (rfl)) (Wd.u rfl) rfl (fun H10_6 r10_6 => ?_)
      obtain ⟨hlg, hs10_6⟩ := r10_6
      replace hs10_6 := hs10_6.md1
      replace hf := hf.upL hs10_6 (DKL.cons dj38 DKL.nil)
      replace mx := mx.upL hs10_6 (DFL.cons dmv DFL.nil)
      replace hr := hr.upL hs10_6 (DFL.cons dlr DFL.nil)
      replace hx := fun x hx_ => (hx x hx_).upL hs10_6 (DFL.cons dlx DFL.nil)
      replace hc2 := hc2.upL hs10_6 (DL.cons dj3.symm DL.nil)
      replace hc3 := hc3.upL hs10_6 (DL.cons dj9.symm DL.nil)
      replace hm0 := hm0.trL hs10_6 (MIL.cons (MI.app (MI.root (by simp)) (nx_hm0_hlg) (Nat.le_refl _)) MIL.nil)
      replace hq10 := hq10.trL hs10_6 (MIL.cons (MI.app (MI.root (by simp)) (nx46) (Nat.le_refl _)) MIL.nil)
      have hz8 := hs10_6.size
      refine ⟨.inr hq10, LH.narrow (SH2 := fun Hq => Mo (Ms [(lb + 1)]) H10_6 Hq) (fun Hq hq => hq10.trL hq (MIL.cons (MI.app (MI.root (by simp)) (nx46) (Nat.le_refl _)) MIL.nil)) ?_⟩
      have hq10 : Mo (Ms [(lb + 1)]) H10_6 H10_6 := Mo.refl _ _
      have nx47 := Nx.refl (lb + 1) H10_6.size
      refine LH.take 7 (by kernel_rfl) rfl (by kernel_rfl) (by kernel_rfl) (by kernel_rfl) (fun Hq hq => Y.nilCheck rfl rfl) (Wd.u rfl) rfl rfl hq10 ?_
      refine LH.take 8 (by kernel_rfl) rfl (by kernel_rfl) (by kernel_rfl) (by kernel_rfl) (fun Hq hq => Y.fieldAddrX hlg.pt rfl Tryd.runUnderlying65 rfl rfl Tryd.sizeOf4 (by decide) rfl) (Wd.u rfl) rfl rfl hq10 ?_
      refine LH.one (i := 9) (by kernel_rfl) ?_
      refine LO.s rfl (S.var1 hlg 3 ([ptr b, Str p, .int .i64 (l.length : Int), .bool false]) rfl rfl rfl (rfl) Tryd.sizeOf4 (by simp) (rfl)) (Wd.u rfl) rfl (fun H10_9 r10_9 => ?_)
      obtain ⟨hlg, hs10_9⟩ := r10_9
      replace hs10_9 := hs10_9.md1
      replace hf := hf.upL hs10_9 (DKL.cons dj38 DKL.nil)
      replace mx := mx.upL hs10_9 (DFL.cons dmv DFL.nil)
      replace hr := hr.upL hs10_9 (DFL.cons dlr DFL.nil)
      replace hx := fun x hx_ => (hx x hx_).upL hs10_9 (DFL.cons dlx DFL.nil)
      replace hc2 := hc2.upL hs10_9 (DL.cons dj3.symm DL.nil)
      replace hc3 := hc3.upL hs10_9 (DL.cons dj9.symm DL.nil)
      replace hm0 := hm0.trL hs10_9 (MIL.cons (MI.app (MI.root (by simp)) (nx_hm0_hlg) (Nat.le_refl _)) MIL.nil)
      replace hq10 := hq10.trL hs10_9 (MIL.cons (MI.app (MI.root (by simp)) (nx47) (Nat.le_refl _)) MIL.nil)
      have hz9 := hs10_9.size
      refine ⟨.inr hq10, LH.narrow (SH2 := fun Hq => Mo (Ms [(lb + 1)]) H10_9 Hq) (fun Hq hq => hq10.trL hq (MIL.cons (MI.app (MI.root (by simp)) (nx47) (Nat.le_refl _)) MIL.nil)) ?_⟩
      have hq10 : Mo (Ms [(lb + 1)]) H10_9 H10_9 := Mo.refl _ _
      have nx48 := Nx.refl (lb + 1) H10_9.size
      refine LH.done (by kernel_rfl) ?_
      refine hK14 _ _ ?_
      refine CW.seq (fun K16 hK16 hE16 => ?_)
      refine CW.region ?_
      refine LR.v (Y.move rfl rfl) (Wd.u rfl) rfl rfl ?_
      refine LR.v (Y.assign rfl rfl) (Wd.u rfl) rfl rfl ?_
      refine LR.nil ?_
      refine hK16 _ _ ?_
      refine CW.ret (hret .ret (.inr rfl) _ _ _ (res1 rfl rfl) ?_)
      have he0 : (runD (frS p (recs l)) D).1 = 0 := by omega
      exact ⟨_, _, rfl, hf, nx45, by unfold lgN lgB freshD; rw [if_pos he0, if_pos he0]; exact hlg, dj38, hm0⟩
    ·
      refine CW.skip ?_
      refine hK14 _ _ ?_
      refine CW.seq (fun K17 hK17 hE17 => ?_)
      refine CW.region ?_
      refine LR.v (Y.move rfl rfl) (Wd.u rfl) rfl rfl ?_
      refine LR.v (Y.assign rfl rfl) (Wd.u rfl) rfl rfl ?_
      refine LR.nil ?_
      refine hK17 _ _ ?_
      refine CW.ret (hret .ret (.inr rfl) _ _ _ (res1 rfl rfl) ?_)
      have he0 : (runD (frS p (recs l)) D).1 ≠ 0 := by omega
      exact ⟨_, _, rfl, hf, nx45, by unfold lgN lgB freshD; rw [if_neg he0, if_neg he0]; exact hlg, dj38, hm0⟩

end Go.Proofs.YtdliddjkacbggaaDoor.WalE
/-
  A journal on a disk: mending, appending, opening.
-/
namespace Go.Proofs.YtdliddjkacbggaaDoor.WalF
open Go.Proofs.YtdliddjkacbggaaDoor.E Go.RowKit Go.Proofs.YtdliddjkacbggaaDoor.SimA Go.Proofs.YtdliddjkacbggaaDoor.SimB Go.Proofs.YtdliddjkacbggaaDoor.SimC Go.Proofs.YtdliddjkacbggaaDoor.SimD Go.Proofs.YtdliddjkacbggaaDoor.SimE Go.Proofs.YtdliddjkacbggaaDoor.SimF Go.Proofs.YtdliddjkacbggaaDoor.SimG Go.Proofs.YtdliddjkacbggaaDoor.SimH Go.Proofs.YtdliddjkacbggaaDoor.SimI Go.Proofs.YtdliddjkacbggaaDoor.SimQ Go.Proofs.YtdliddjkacbggaaDoor.SimR Go.Proofs.YtdliddjkacbggaaDoor.WalA Go.Proofs.YtdliddjkacbggaaDoor.WalB Go.Proofs.YtdliddjkacbggaaDoor.WalC Go.Proofs.YtdliddjkacbggaaDoor.WalD Go.Proofs.YtdliddjkacbggaaDoor.WalE
set_option maxRecDepth 20000
set_option linter.unusedVariables false
set_option linter.unusedSimpArgs false
set_option linter.unusedSectionVars false
set_option maxRecDepth 100000 in
theorem inf90 : Inf Tryd.prog 90 67 1 8 := ⟨Tryd.underlying90, _, _, rfl, rfl, rfl, rfl, rfl⟩

theorem mend_1 {D : Dk} {p : Pth} {n : Nat} (h : D.readE p ≠ 0) : mendD D p n = (D.readE p, D) := by unfold mendD; rw [if_pos h]
theorem mend_2 {D : Dk} {p : Pth} {n : Nat} (h : D.readE p = 0) (h2 : parE (D.readL p) ≠ 0) : mendD D p n = (parE (D.readL p), D) := by unfold mendD; rw [if_neg (by omega), if_pos h2]
theorem mend_3 {D : Dk} {p : Pth} {n : Nat} (h : D.readE p = 0) (h2 : parE (D.readL p) = 0) : mendD D p n = freshD D p ((parL (D.readL p)).take n) := by unfold mendD; rw [if_neg (by omega), if_neg (by omega)]
theorem recs_take (l : List (SV × Rec)) (i n : Nat) (h : i = min n l.length) : recs (l.take i) = (recs l).take n := by
  unfold recs; rw [List.map_take, h]
  rcases Nat.le_total n l.length with h2 | h2
  · rw [Nat.min_eq_left h2]
  · rw [Nat.min_eq_right h2, List.take_of_length_le (by simp), List.take_of_length_le (by simpa using h2)]
theorem encW_bd (b : List UInt8) (n : Nat) : (encW ((parL b).take n)).length ≤ b.length + 8 := by
  have h1 := (encN_parL_le b).1
  have h2 := encN_sub (parL b) n
  have h8 : W8.length = 8 := rfl
  unfold encW; rw [List.length_append]; omega
theorem parL_many (b : List UInt8) : (parL b).length ≤ b.length + 8 := Nat.le_trans (encW_many _) (encN_parL_le b).2
theorem lgN_0 {m n e : Nat} (h : e = 0) : lgN e m n = m := if_pos h
theorem lgB_0 {e : Nat} {br : Bool} (h : e = 0) : lgB e br = false := if_pos h
theorem lgN_1 {m n e : Nat} (h : e ≠ 0) : lgN e m n = n := if_neg h
theorem lgB_1 {e : Nat} {br : Bool} (h : e ≠ 0) : lgB e br = br := if_neg h

set_option maxHeartbeats 4000000 in
theorem mend_ct (mx_ : Int) (K : List Nat) (g : Gh) (b : Nat) (D : Dk) (lb : Nat) (p : Pth) (n : Nat) (br : Bool) (N : Nat) (w0 : World) (H0 : Heap)
    (hf : PDk K g H0 b D) (mx : MX mx_ H0) (bf_mx : BF (fun b => b = 0) H0.size) (dmx : DFL (fun b => b = 0) K) (hlg : Var 65 H0 lb [ptr b, Str p, .int .i64 (n : Int), .bool br]) (dl : DL (lb + 1) K) (dmv : DF (fun b => b = 0) (lb + 1)) (hl : p.length ≤ 4294960000) (hB : Bs N D) (hN : N ≤ 90000000) (hnn : n ≤ 1073741824) :
    Ct Tryd.prog w0 29 #[ptr lb] H0 (fun r H2 => ∃ K2 : List Nat, ∃ g2 : Gh, r = .int .i64 ((mendD D p n).1 : Int) ∧ (PDk K2 g2 H2 b (mendD D p n).2) ∧ (NxK K H0.size K2) ∧ (Var 65 H2 lb [ptr b, Str p, .int .i64 (lgN (mendD D p n).1 (mendN D p n) n : Int), .bool (lgB (mendD D p n).1 br)]) ∧ (DL (lb + 1) K2) ∧ Mo (Ms (K ++ [(lb + 1)])) H0 H2) := by
  refine Ct.enter (args := [ptr lb]) Tryd.func29 rfl rfl rfl ?_
  intro Q0 hret
  have hm0 : Mo (Ms (K ++ [(lb + 1)])) H0 H0 := Mo.refl _ _
  have nx_hm0_hf := NxK.refl K H0.size
  have hbk_hf := hf.bk
  have nx_hm0_hlg := Nx.refl (lb + 1) H0.size
  have hlt_hlg := hlg.lt
  have hrb := readL_bd hB p
  have hcm := encW_bd (D.readL p)
  have hpm := parL_many (D.readL p)
  refine CW.seq (fun K1 hK1 hE1 => ?_)
  refine CW.region ?_
  refine LR.v (Y.assign rfl rfl) (Wd.u rfl) rfl rfl ?_
  refine LR.nil ?_
  refine hK1 _ _ ?_
  refine CW.seq (fun K2 hK2 hE2 => ?_)
  refine CW.region_any (fun Hq => Nw H0 Hq) [] rfl ?_
  have hqs := Nw.refl H0
  refine LH.take 0 (by kernel_rfl) rfl (by kernel_rfl) (by kernel_rfl) (by kernel_rfl) (fun Hq hq => Y.move rfl rfl) (Wd.u rfl) rfl rfl hqs ?_
  refine LH.take 1 (by kernel_rfl) rfl (by kernel_rfl) (by kernel_rfl) (by kernel_rfl) (fun Hq hq => Y.nilCheck rfl rfl) (Wd.u rfl) rfl rfl hqs ?_
  refine LH.take 2 (by kernel_rfl) rfl (by kernel_rfl) (by kernel_rfl) (by kernel_rfl) (fun Hq hq => Y.fieldAddr (hlg.pt.nw hq) rfl Tryd.runUnderlying65 rfl rfl Tryd.sizeOf38 (by decide) rfl) (Wd.u rfl) rfl rfl hqs ?_
  refine LH.take 3 (by kernel_rfl) rfl (by kernel_rfl) (by kernel_rfl) (by kernel_rfl) (fun Hq hq => Y.load1 (hlg.pt.nw hq) rfl Tryd.isAgg38 rfl) (Wd.u rfl) rfl rfl hqs ?_
  refine LH.take 4 (by kernel_rfl) rfl (by kernel_rfl) (by kernel_rfl) (by kernel_rfl) (fun Hq hq => Y.move rfl rfl) (Wd.u rfl) rfl rfl hqs ?_
  refine LH.take 5 (by kernel_rfl) rfl (by kernel_rfl) (by kernel_rfl) (by kernel_rfl) (fun Hq hq => Y.nilCheck rfl rfl) (Wd.u rfl) rfl rfl hqs ?_
  refine LH.take 6 (by kernel_rfl) rfl (by kernel_rfl) (by kernel_rfl) (by kernel_rfl) (fun Hq hq => Y.fieldAddr (hlg.pt.nw hq) rfl Tryd.runUnderlying65 rfl rfl Tryd.sizeOf9 (by decide) rfl) (Wd.u rfl) rfl rfl hqs ?_
  refine LH.take 7 (by kernel_rfl) rfl (by kernel_rfl) (by kernel_rfl) (by kernel_rfl) (fun Hq hq => Y.load1 ((hlg.pt.drop 1).nw hq) rfl Tryd.isAgg9 rfl) (Wd.u rfl) rfl rfl hqs ?_
  refine LH.one (i := 8) (by kernel_rfl) ?_
  -- call (*selvage/simfs.FS).Read
  refine LO.call rfl rfl Tryd.call19 rfl (Wd.u rfl) rfl rfl (read_ct mx_ K g b D p w0 _ mx (bf_mx.mono (by omega)) hf (by omega) (fun i => by have := (hB.f i).1; omega)) (fun v16 H16 r16 => ?_)
  obtain ⟨s16, k16, rfl, ow16, hk16, hs16⟩ := r16
  have dj1 : DL k16 K := DL.app2 (DL.zK) hf.bk hk16
  have df2 := DF.app (DF.z) (bf_mx.mono hm0.size) hk16
  have dj3 : Dj (lb + 1) k16 := Dj.app (Dj.z) hlg.lt hk16
  have nx4 : Nx 0 H0.size k16 := Nx.tr (Nx.refl 0 _) hk16 hm0.size
  replace hf := hf.nw hs16
  replace mx := mx.nw hs16
  replace hlg := hlg.nw hs16
  replace hm0 := hm0.trN hs16
  have hz1 := hs16.size
  have hle_ow16 := ow16.le
  have hq16 := hqs.tr hs16
  refine ⟨.inr hq16, LH.narrow (SH2 := fun Hq => Nw H16 Hq) (fun Hq hq => hq16.tr hq) ?_⟩
  have hqn16 := Nw.refl H16
  refine LH.take 9 (by kernel_rfl) rfl (by kernel_rfl) (by kernel_rfl) (by kernel_rfl) (fun Hq hq => Y.move rfl rfl) (Wd.u rfl) rfl rfl hqn16 ?_
  refine LH.take 10 (by kernel_rfl) rfl (by kernel_rfl) (by kernel_rfl) (by kernel_rfl) (fun Hq hq => Y.extract rfl rfl rfl) (Wd.u rfl) rfl rfl hqn16 ?_
  refine LH.take 11 (by kernel_rfl) rfl (by kernel_rfl) (by kernel_rfl) (by kernel_rfl) (fun Hq hq => Y.extract rfl rfl rfl) (Wd.u rfl) rfl rfl hqn16 ?_
  refine LH.take 12 (by kernel_rfl) rfl (by kernel_rfl) (by kernel_rfl) (by kernel_rfl) (fun Hq hq => Y.assign rfl rfl) (Wd.u rfl) rfl rfl hqn16 ?_
  refine LH.take 13 (by kernel_rfl) rfl (by kernel_rfl) (by kernel_rfl) (by kernel_rfl) (fun Hq hq => Y.assign rfl rfl) (Wd.u rfl) rfl rfl hqn16 ?_
  refine LH.done (by kernel_rfl) ?_
  have hqe := hqn16
  refine hK2 _ _ ?_
  refine CW.seq (fun K3 hK3 hE3 => ?_)
  refine CW.seq (fun K4 hK4 hE4 => ?_)
  refine CW.region ?_
  refine LR.v (Y.move rfl rfl) (Wd.u rfl) rfl rfl ?_
  refine LR.v (Y.neq rfl rfl rfl) (Wd.u rfl) rfl rfl ?_
  refine LR.nil ?_
  refine hK4 _ _ ?_
  refine CW.condp rfl (fun c20 => ?_) (fun c20 => ?_)
  ·
    refine CW.seq (fun K5 hK5 hE5 => ?_)
    refine CW.region ?_
    refine LR.v (Y.move rfl rfl) (Wd.u rfl) rfl rfl ?_
    refine LR.v (Y.assign rfl rfl) (Wd.u rfl) rfl rfl ?_
    refine LR.nil ?_
    refine hK5 _ _ ?_
    refine CW.ret (hE3 .ret nofun _ _ (hret .ret (.inr rfl) _ _ _ (res1 rfl rfl) ?_))
    have hm := mend_1 (n := n) (show D.readE p ≠ 0 by omega)
    have hn0 : (mendD D p n).1 ≠ 0 := by rw [hm]; show D.readE p ≠ 0; omega
    exact ⟨_, _, by rw [hm]; rfl, by rw [hm]; exact hf, nx_hm0_hf, by rw [lgN_1 hn0, lgB_1 hn0]; exact hlg, dl, hm0⟩
  ·
    refine CW.skip ?_
    refine hK3 _ _ ?_
    refine CW.seq (fun K6 hK6 hE6 => ?_)
    refine CW.region ?_
    refine LR.v (Y.move rfl rfl) (Wd.u rfl) rfl rfl ?_
    -- call selvage/wal.Parse
    refine LR.call rfl Tryd.call9 rfl (Wd.u rfl) rfl rfl (parse_ct s16 (D.readL p) w0 _ ow16.rd.any (by have := readL_bd hB p; omega)) (fun v24 H24 r24 => ?_)
    obtain ⟨t24, l24, rfl, hrc24, hw24, hx24, hs24⟩ := r24
    replace hf := hf.nw hs24
    replace mx := mx.nw hs24
    replace hlg := hlg.nw hs24
    replace ow16 := ow16.nw hs24
    replace hm0 := hm0.trN hs24
    have hz2 := hs24.size
    replace hw24 := hw24.bnd
    have bf_hw24 := hw24.bf
    have df5 : DFL (fun b => H16.size ≤ b ∧ b < H24.size) K := DFL.above (fun b h => h.1) (by first | exact hbk_hf | exact fun k hk => Nat.le_trans (hbk_hf k hk) (by omega) | assumption)
    have df6 : DF (fun b => H16.size ≤ b ∧ b < H24.size) (lb + 1) := DF.above (fun b h => h.1) (by first | exact hle_hlg | exact hlt_hlg | omega)
    have df7 : DF (fun b => H16.size ≤ b ∧ b < H24.size) k16 := DF.above (fun b h => h.1) (by first | exact hle_ow16 | exact hlt_ow16 | omega)
    replace hx24 := fun x hx_ => (hx24 x hx_).bnd
    have bf_hx24 : BF (fun b => H16.size ≤ b ∧ b < H24.size) H24.size := fun b h => h.2
    have df8 : DFL (fun b => H16.size ≤ b ∧ b < H24.size) K := DFL.above (fun b h => h.1) (by first | exact hbk_hf | exact fun k hk => Nat.le_trans (hbk_hf k hk) (by omega) | assumption)
    have df9 : DF (fun b => H16.size ≤ b ∧ b < H24.size) (lb + 1) := DF.above (fun b h => h.1) (by first | exact hle_hlg | exact hlt_hlg | omega)
    have df10 : DF (fun b => H16.size ≤ b ∧ b < H24.size) k16 := DF.above (fun b h => h.1) (by first | exact hle_ow16 | exact hlt_ow16 | omega)
    refine LR.v (Y.move rfl rfl) (Wd.u rfl) rfl rfl ?_
    refine LR.v (Y.extract rfl rfl rfl) (Wd.u rfl) rfl rfl ?_
    refine LR.v (Y.extract rfl rfl rfl) (Wd.u rfl) rfl rfl ?_
    refine LR.v (Y.extract rfl rfl rfl) (Wd.u rfl) rfl rfl ?_
    refine LR.v (Y.assign rfl rfl) (Wd.u rfl) rfl rfl ?_
    refine LR.v (Y.assign rfl rfl) (Wd.u rfl) rfl rfl ?_
    refine LR.v (Y.assign rfl rfl) (Wd.u rfl) rfl rfl ?_
    refine LR.nil ?_
    refine hK6 _ _ ?_
    refine CW.seq (fun K7 hK7 hE7 => ?_)
    refine CW.seq (fun K8 hK8 hE8 => ?_)
    refine CW.region ?_
    refine LR.v (Y.move rfl rfl) (Wd.u rfl) rfl rfl ?_
    refine LR.v (Y.neq rfl rfl rfl) (Wd.u rfl) rfl rfl ?_
    refine LR.nil ?_
    refine hK8 _ _ ?_
    refine CW.condp rfl (fun c29 => ?_) (fun c29 => ?_)
    ·
      refine CW.seq (fun K9 hK9 hE9 => ?_)
      refine CW.region ?_
      refine LR.v (Y.move rfl rfl) (Wd.u rfl) rfl rfl ?_
      refine LR.v (Y.assign rfl rfl) (Wd.u rfl) rfl rfl ?_
      refine LR.nil ?_
      refine hK9 _ _ ?_
      refine CW.ret (hE7 .ret nofun _ _ (hret .ret (.inr rfl) _ _ _ (res1 rfl rfl) ?_))
      have hm := mend_2 (n := n) (show D.readE p = 0 by omega) (show parE (D.readL p) ≠ 0 by omega)
      have hn0 : (mendD D p n).1 ≠ 0 := by rw [hm]; show parE (D.readL p) ≠ 0; omega
      exact ⟨_, _, by rw [hm]; rfl, by rw [hm]; exact hf, nx_hm0_hf, by rw [lgN_1 hn0, lgB_1 hn0]; exact hlg, dl, hm0⟩
    ·
      refine CW.skip ?_
      refine hK7 _ _ ?_
      refine CW.seq (fun K10 hK10 hE10 => ?_)
      refine CW.region ?_
      refine LR.v (Y.move rfl rfl) (Wd.u rfl) rfl rfl ?_
      refine LR.v (Y.move rfl rfl) (Wd.u rfl) rfl rfl ?_
      refine LR.v (Y.move rfl rfl) (Wd.u rfl) rfl rfl ?_
      refine LR.v (Y.nilCheck rfl rfl) (Wd.u rfl) rfl rfl ?_
      refine LR.v (Y.fieldAddr hlg.pt rfl Tryd.runUnderlying65 rfl rfl Tryd.sizeOf3 (by decide) rfl) (Wd.u rfl) rfl rfl ?_
      refine LR.v (Y.load1 (hlg.pt.drop 2) rfl Tryd.isAgg3 rfl) (Wd.u rfl) rfl rfl ?_
      refine LR.v (Y.move rfl rfl) (Wd.u rfl) rfl rfl ?_
      refine LR.v (Y.len hw24 rfl Tryd.runUnderlying22 rfl) (Wd.u rfl) rfl rfl ?_
      refine LR.v (Y.cast (v2 := .int .i64 ((min n l24.length : Nat) : Int)) (Y.mini rfl rfl rfl) (ivv (by omega))) (Wd.u rfl) rfl rfl ?_
      refine LR.e (g := fun v => v) (Y.slice hw24 (0) (min n l24.length) rfl Tryd.runUnderlying22 Tryd.sizeOf23 rfl (.inl ⟨rfl, rfl⟩) (.inr ⟨_, _, _, rfl, rfl, by first | rfl | omega⟩) (by omega) (by omega)) (Wd.u rfl) rfl rfl (fun v40 rd40 => ?_)
      have bf_rd40 := bf_hw24
      rw [List.drop_zero] at rd40
      obtain ⟨s40, rfl⟩ : ∃ s : SV, v40 = s.v := ⟨toSV v40, rd40.sv.symm⟩
      have hrt := recs_take l24 (min n l24.length) n rfl
      rw [hrc24] at hrt
      have hlt24 := congrArg List.length hrc24
      simp only [recs, List.length_map] at hlt24
      -- call (*selvage/wal.Log).Checkpoint
      refine LR.call rfl Tryd.call28 rfl (Wd.u rfl) rfl rfl (ckpt_ct mx_ K g b D lb p n br s40 (l24.take (min n l24.length)) _ N w0 _ hf mx (bf_mx.mono (by omega)) (dmx) hlg (dl) (dmv) rd40 (bf_hw24.mono (by omega)) (df5) (fun x h => hx24 x (List.mem_of_mem_take h)) (bf_hw24.mono (by omega)) (df8) (fun x h => parL_max _ _ (by rw [← hrc24]; exact List.mem_map_of_mem (List.mem_of_mem_take h))) (by rw [hrt]; have h1 := encN_sub (parL (D.readL p)) n; have h2 := (encN_parL_le (D.readL p)).1; omega) (df6) (df9) hl hB (by rw [hrt]; have := hcm n; omega) (by rw [List.length_take]; omega)) (fun v41 H41 r41 => ?_)
      have ql11 := hf.bk
      have ql12 := hlg.lt
      have ql13 := ow16.le
      obtain ⟨K41, g41, rfl, hf, hkd41, hlg, dl241, hs41⟩ := r41
      have df14 := DFL.appK (dmx) (bf_mx.mono hm0.size) hkd41
      have dj15 : DL (lb + 1) K41 := DL.appK (dl) ql12 hkd41
      have dj16 : DL k16 K41 := DL.appK (dj1) ql13 hkd41
      have df17 := DFL.appK (df5) (bf_hw24.mono (by omega)) hkd41
      have df18 := DFL.appK (df8) (bf_hx24.mono (by omega)) hkd41
      have df19 := DFL.appK (df5) (bf_rd40.mono (by omega)) hkd41
      have nx20 : NxK K H0.size K41 := NxK.tr (nx_hm0_hf) hkd41 hm0.size
      replace mx := mx.upL hs41 (DFL.app dmx (DFL.cons dmv DFL.nil))
      replace ow16 := ow16.upL hs41 (DL.app dj1 (DL.cons dj3.symm DL.nil))
      replace hw24 := hw24.upL hs41 (DFL.app df5 (DFL.cons df6 DFL.nil))
      replace hx24 := fun x hx_ => (hx24 x hx_).upL hs41 (DFL.app df8 (DFL.cons df9 DFL.nil))
      replace rd40 := rd40.upL hs41 (DFL.app df5 (DFL.cons df6 DFL.nil))
      replace hm0 := hm0.trL hs41 (MIL.app (MIL.ofK (nx_hm0_hf) (by intro k hk; simp [hk])) (MIL.cons (MI.app (MI.root (by simp)) (nx_hm0_hlg) (Nat.le_refl _)) MIL.nil))
      have hz3 := hs41.size
      have hbk_hf := hf.bk
      refine LR.v (Y.assign rfl rfl) (Wd.u rfl) rfl rfl ?_
      refine LR.nil ?_
      refine hK10 _ _ ?_
      refine CW.ret (hret .ret (.inr rfl) _ _ _ (res1 rfl rfl) ?_)
      have hm := mend_3 (n := n) (show D.readE p = 0 by omega) (show parE (D.readL p) = 0 by omega)
      rw [hrt] at hf hlg
      exact ⟨_, _, by rw [hm, hrt], by rw [hm]; exact hf, nx20, by rw [hm]; unfold mendN; rw [show ((parL (D.readL p)).take n).length = (l24.take (min n l24.length)).length from by rw [← hrt]; exact List.length_map _]; exact hlg, dl241, hm0⟩


theorem pre_0 {D : Dk} {p : Pth} {n : Nat} {br : Bool} (h : br = false) : preD D p n br = (0, n, D) := by unfold preD; rw [h]; simp
theorem pre_1 {D : Dk} {p : Pth} {n : Nat} {br : Bool} (h : br = true) : preD D p n br = ((mendD D p n).1, mendN D p n, (mendD D p n).2) := by unfold preD; rw [if_pos h]
theorem app_bad {D : Dk} {p : Pth} {n : Nat} {br : Bool} {r : Rec} (h : br = true) (h2 : (mendD D p n).1 ≠ 0) : appD D p n br r = ((mendD D p n).1, n, br, (mendD D p n).2) := by unfold appD; rw [pre_1 h, if_pos h2]
theorem app_go {D D1 : Dk} {p : Pth} {n n1 : Nat} {br : Bool} {r : Rec} (h : preD D p n br = (0, n1, D1)) : appD D p n br r = ((runD (apS p n1 r) D1).1, if (runD (apS p n1 r) D1).1 = 0 then n1 + 1 else n1, if (runD (apS p n1 r) D1).1 = 0 then false else true, (runD (apS p n1 r) D1).2) := by
  unfold appD; rw [h]; simp
/-- what opening a journal comes to -/
def openD (D : Dk) (p : Pth) : Nat × List Rec × Dk :=
  if nameB p = false ∨ nameB (newP p) = false then (7, [], D)
  else if D.readE p = 2 then ((freshD D p []).1, [], (freshD D p []).2)
  else if D.readE p ≠ 0 then (D.readE p, [], D)
  else if parE (D.readL p) ≠ 0 then (parE (D.readL p), [], D)
  else if parS (D.readL p) < (D.readL p).length then ((freshD D p (parL (D.readL p))).1, if (freshD D p (parL (D.readL p))).1 = 0 then parL (D.readL p) else [], (freshD D p (parL (D.readL p))).2)
  else (0, parL (D.readL p), D)
theorem bs_open {N : Nat} {D : Dk} (h : Bs N D) (p : Pth) : Bs (N + 4 * (N + 28)) (openD D p).2.2 := by
  have h1 := (encN_parL_le (D.readL p)).2
  have h2 := readL_bd h p
  unfold openD
  split
  · exact h.mono (by omega)
  split
  · exact (bs_fresh h p []).mono (by simp [encW, W8, encN]; omega)
  split
  · exact h.mono (by omega)
  split
  · exact h.mono (by omega)
  split
  · exact (bs_fresh h p _).mono (by omega)
  · exact h.mono (by omega)

set_option maxHeartbeats 4000000 in
theorem wapp_ct (mx_ : Int) (K : List Nat) (g : Gh) (b : Nat) (D : Dk) (lb : Nat) (p : Pth) (n : Nat) (br : Bool) (s : SV) (rc : Rec) (F : Nat → Prop) (N : Nat) (w0 : World) (H0 : Heap)
    (hf : PDk K g H0 b D) (mx : MX mx_ H0) (bf_mx : BF (fun b => b = 0) H0.size) (dmx : DFL (fun b => b = 0) K) (hlg : Var 65 H0 lb [ptr b, Str p, .int .i64 (n : Int), .bool br]) (dl : DL (lb + 1) K) (dmv : DF (fun b => b = 0) (lb + 1)) (hr : Rd F H0 fB 1 s.v rc) (bf_hr : BF F H0.size) (dfr : DFL F K) (dlr : DF F (lb + 1)) (hrl : rc.length ≤ 1048576) (hl : p.length ≤ 4294960000) (hB : Bs N D) (hN : N ≤ 80000000) (hnn : n ≤ 1000000000) :
    Ct Tryd.prog w0 17 #[ptr lb, s.v] H0 (fun r H2 => ∃ K2 : List Nat, ∃ g2 : Gh, r = .int .i64 ((appD D p n br rc).1 : Int) ∧ (PDk K2 g2 H2 b (appD D p n br rc).2.2.2) ∧ (NxK K H0.size K2) ∧ (Var 65 H2 lb [ptr b, Str p, .int .i64 ((appD D p n br rc).2.1 : Int), .bool (appD D p n br rc).2.2.1]) ∧ (DL (lb + 1) K2) ∧ Mo (Ms (K ++ [(lb + 1)])) H0 H2) := by
  refine Ct.enter (args := [ptr lb, s.v]) Tryd.func17 rfl rfl rfl ?_
  intro Q0 hret
  have hm0 : Mo (Ms (K ++ [(lb + 1)])) H0 H0 := Mo.refl _ _
  have nx_hm0_hf := NxK.refl K H0.size
  have hbk_hf := hf.bk
  have nx_hm0_hlg := Nx.refl (lb + 1) H0.size
  have hlt_hlg := hlg.lt
  have hrb := readL_bd hB p
  have hcm := encW_bd (D.readL p)
  have hpm := parL_many (D.readL p)
  refine CW.seq (fun K1 hK1 hE1 => ?_)
  refine CW.region ?_
  refine LR.z (Z.boxv1 rfl rfl (rfl)) (Wd.u rfl) rfl rfl (fun v2 H2 r2 => ?_)
  obtain ⟨rfl, hc2, hs2, ob2, hH2⟩ := r2
  have hzs2 : H2.size = H0.size + 1 := by rw [hH2]; simp
  have dj1 : DL (H0.size + 1) K := DL.newK hf.bk
  have df2 := (DF.new (bf_mx.mono hm0.size) : DF _ (H0.size + 1))
  have dj3 : Dj (lb + 1) (H0.size + 1) := Dj.new hlg.lt
  have df4 := (DF.new (bf_hr.mono hm0.size) : DF _ (H0.size + 1))
  have nx5 : Nx 0 H0.size (H0.size + 1) := Nx.new hm0.size
  replace hf := hf.nw hs2
  replace mx := mx.nw hs2
  replace hlg := hlg.nw hs2
  replace hr := hr.nw hs2
  replace hm0 := hm0.trN hs2
  have hz1 := hs2.size
  replace hc2 : Var 41 H2 H0.size ([ptr lb]) := hc2
  refine LR.z (Z.boxv1 rfl rfl ((hr).oneCell)) (Wd.u rfl) rfl rfl (fun v3 H3 r3 => ?_)
  obtain ⟨rfl, hc3, hs3, ob3, hH3⟩ := r3
  have hzs3 : H3.size = H2.size + 1 := by rw [hH3]; simp
  have dj6 : DL (H2.size + 1) K := DL.newK hf.bk
  have df7 := (DF.new (bf_mx.mono hm0.size) : DF _ (H2.size + 1))
  have dj8 : Dj (lb + 1) (H2.size + 1) := Dj.new hlg.lt
  have df9 := (DF.new (bf_hr.mono hm0.size) : DF _ (H2.size + 1))
  have dj10 : Dj (H0.size + 1) (H2.size + 1) := Dj.new hc2.lt
  have nx11 : Nx 0 H0.size (H2.size + 1) := Nx.new hm0.size
  replace hf := hf.nw hs3
  replace mx := mx.nw hs3
  replace hlg := hlg.nw hs3
  replace hr := hr.nw hs3
  replace hc2 := hc2.nw hs3
  replace hm0 := hm0.trN hs3
  have hz2 := hs3.size
  replace hc3 : Var 23 H3 H2.size ([s.v]) := hc3
  refine LR.v (Y.assign rfl rfl) (Wd.u rfl) rfl rfl ?_
  refine LR.nil ?_
  refine hK1 _ _ ?_
  refine CW.seq (fun K2 hK2 hE2 => ?_)
  refine CW.seq (fun K3 hK3 hE3 => ?_)
  refine CW.region ?_
  refine LR.v (Y.load1 hc3.pt rfl Tryd.isAgg23 rfl) (Wd.u rfl) rfl rfl ?_
  refine LR.v (Y.len hr rfl Tryd.runUnderlying23 rfl) (Wd.u rfl) rfl rfl ?_
  refine LR.v ((Y.gtr rfl rfl rfl).isF (by omega)) (Wd.u rfl) rfl rfl ?_
  refine LR.nil ?_
  refine hK3 _ _ ?_
  refine CW.cond_f rfl ?_
  refine CW.skip ?_
  refine hK2 _ _ ?_
  refine CW.cut (fun (s_ : (List Nat) × (Gh) × (Dk) × (Nat)) => match s_ with | (K1, g1, D1, n1) => [(2, .pointer (some ⟨H0.size, 0, none⟩)), (3, .pointer (some ⟨H2.size, 0, none⟩))])
    (fun (s_ : (List Nat) × (Gh) × (Dk) × (Nat)) (H : Heap) => match s_ with | (K1, g1, D1, n1) => (PDk K1 g1 H b D1) ∧ (Var 65 H lb [ptr b, Str p, .int .i64 (n1 : Int), .bool false]) ∧ (preD D p n br = (0, n1, D1)) ∧ (Bs (N + 4 * (N + 28)) D1) ∧ (n1 ≤ 1100000000) ∧ (NxK K H3.size K1) ∧ (DL (lb + 1) K1) ∧ Mo (Ms (K ++ [(lb + 1)])) H3 H) (fun K4 hK4 hE4 => ?_) ?_
  ·
    have hcm4 : Mo (Ms (K ++ [(lb + 1)])) H3 H3 := Mo.refl _ _
    have nx_hcm4_hf := NxK.refl K H3.size
    have nx_hcm4_hlg := Nx.refl (lb + 1) H3.size
    refine CW.seq (fun K5 hK5 hE5 => ?_)
    refine CW.region ?_
    refine LR.v (Y.load1 hc2.pt rfl Tryd.isAgg41 rfl) (Wd.u rfl) rfl rfl ?_
    refine LR.v (Y.nilCheck rfl rfl) (Wd.u rfl) rfl rfl ?_
    refine LR.v (Y.fieldAddr hlg.pt rfl Tryd.runUnderlying65 rfl rfl Tryd.sizeOf4 (by decide) rfl) (Wd.u rfl) rfl rfl ?_
    refine LR.v (Y.load1 (hlg.pt.drop 3) rfl Tryd.isAgg4 rfl) (Wd.u rfl) rfl rfl ?_
    refine LR.nil ?_
    refine hK5 _ _ ?_
    refine CW.cond rfl (fun c14 => ?_) (fun c14 => ?_)
    ·
      refine CW.seq (fun K6 hK6 hE6 => ?_)
      refine CW.region ?_
      refine LR.v (Y.load1 hc2.pt rfl Tryd.isAgg41 rfl) (Wd.u rfl) rfl rfl ?_
      -- call (*selvage/wal.Log).mend
      refine LR.call rfl Tryd.call29 rfl (Wd.u rfl) rfl rfl (mend_ct mx_ K g b D lb p n br N w0 _ hf mx (bf_mx.mono (by omega)) (dmx) hlg (dl) (dmv) hl hB (by omega) (by omega)) (fun v16 H16 r16 => ?_)
      have ql12 := hf.bk
      have ql13 := hlg.lt
      have ql14 := hc2.lt
      have ql15 := hc3.lt
      obtain ⟨K16, g16, rfl, hf, hkd16, hlg, dl216, hs16⟩ := r16
      have df16 := DFL.appK (dmx) (bf_mx.mono hm0.size) hkd16
      have dj17 : DL (lb + 1) K16 := DL.appK (dl) ql13 hkd16
      have df18 := DFL.appK (dfr) (bf_hr.mono hm0.size) hkd16
      have dj19 : DL (H0.size + 1) K16 := DL.appK (dj1) ql14 hkd16
      have dj20 : DL (H2.size + 1) K16 := DL.appK (dj6) ql15 hkd16
      have nx21 : NxK K H0.size K16 := NxK.tr (nx_hm0_hf) hkd16 hm0.size
      have nx22 : NxK K H3.size K16 := NxK.tr (nx_hcm4_hf) hkd16 hcm4.size
      replace mx := mx.upL hs16 (DFL.app dmx (DFL.cons dmv DFL.nil))
      replace hr := hr.upL hs16 (DFL.app dfr (DFL.cons dlr DFL.nil))
      replace hc2 := hc2.upL hs16 (DL.app dj1 (DL.cons dj3.symm DL.nil))
      replace hc3 := hc3.upL hs16 (DL.app dj6 (DL.cons dj8.symm DL.nil))
      replace hm0 := hm0.trL hs16 (MIL.app (MIL.ofK (nx_hm0_hf) (by intro k hk; simp [hk])) (MIL.cons (MI.app (MI.root (by simp)) (nx_hm0_hlg) (Nat.le_refl _)) MIL.nil))
      replace hcm4 := hcm4.trL hs16 (MIL.app (MIL.ofK (nx_hcm4_hf) (by intro k hk; simp [hk])) (MIL.cons (MI.app (MI.root (by simp)) (nx_hcm4_hlg) (Nat.le_refl _)) MIL.nil))
      have hz3 := hs16.size
      have hbk_hf := hf.bk
      refine LR.v (Y.assign rfl rfl) (Wd.u rfl) rfl rfl ?_
      refine LR.nil ?_
      refine hK6 _ _ ?_
      refine CW.seq (fun K7 hK7 hE7 => ?_)
      refine CW.region ?_
      refine LR.v (Y.move rfl rfl) (Wd.u rfl) rfl rfl ?_
      refine LR.v (Y.neq rfl rfl rfl) (Wd.u rfl) rfl rfl ?_
      refine LR.nil ?_
      refine hK7 _ _ ?_
      refine CW.condp rfl (fun c18 => ?_) (fun c18 => ?_)
      ·
        refine CW.seq (fun K8 hK8 hE8 => ?_)
        refine CW.region ?_
        refine LR.v (Y.move rfl rfl) (Wd.u rfl) rfl rfl ?_
        refine LR.v (Y.assign rfl rfl) (Wd.u rfl) rfl rfl ?_
        refine LR.nil ?_
        refine hK8 _ _ ?_
        refine CW.ret (hE4 .ret nofun _ _ (hret .ret (.inr rfl) _ _ _ (res1 rfl rfl) ?_))
        have hz : (mendD D p n).1 ≠ 0 := by omega
        have hgo := app_bad (r := rc) c14 hz
        exact ⟨_, _, by rw [hgo], by rw [hgo]; exact hf, nx21, by rw [hgo]; rw [lgN_1 hz, lgB_1 hz] at hlg; exact hlg, dl216, hm0⟩
      ·
        refine CW.skip ?_
        have hm0_ : (mendD D p n).1 = 0 := by omega
        refine QN.sub (hK4 (K16, g16, (mendD D p n).2, mendN D p n) _ ?_) ⟨rfl, rfl, trivial⟩
        exact ⟨hf, by rw [lgN_0 hm0_, lgB_0 hm0_] at hlg; exact hlg, by rw [pre_1 c14, hm0_], bs_mend hB p n, by unfold mendN; rw [List.length_take]; omega, nx22, dl216, hcm4⟩
    ·
      refine CW.skip ?_
      refine QN.sub (hK4 (K, g, D, n) _ ?_) ⟨rfl, rfl, trivial⟩
      exact ⟨hf, by rw [show br = false by simpa using c14] at hlg; exact hlg, pre_0 (by simpa using c14), hB.mono (by omega), (by omega), nx_hcm4_hf, dl, hcm4⟩
  ·
    rintro ⟨K1, g1, D1, n1⟩ Hcutc14 hIcutc14
    obtain ⟨hf, hlg, hpre, hB1, hn1, nxl_hf, dj_hf_hlg, hlmcutc14⟩ := hIcutc14
    have df23 := DFL.appK (dmx) (bf_mx.mono hm0.size) nxl_hf
    have df24 := DFL.appK (dfr) (bf_hr.mono hm0.size) nxl_hf
    have dj25 : DL (H0.size + 1) K1 := DL.appK (dj1) hc2.lt nxl_hf
    have dj26 : DL (H2.size + 1) K1 := DL.appK (dj6) hc3.lt nxl_hf
    have nx27 : NxK K H0.size K1 := NxK.tr (nx_hm0_hf) nxl_hf hm0.size
    replace mx := mx.upL hlmcutc14 (DFL.app dmx (DFL.cons dmv DFL.nil))
    replace hr := hr.upL hlmcutc14 (DFL.app dfr (DFL.cons dlr DFL.nil))
    replace hc2 := hc2.upL hlmcutc14 (DL.app dj1 (DL.cons dj3.symm DL.nil))
    replace hc3 := hc3.upL hlmcutc14 (DL.app dj6 (DL.cons dj8.symm DL.nil))
    replace hm0 := hm0.trL hlmcutc14 (MIL.app (MIL.ofK (nx_hm0_hf) (by intro k hk; simp [hk])) (MIL.cons (MI.app (MI.root (by simp)) (nx_hm0_hlg) (Nat.le_refl _)) MIL.nil))
    have hz4 := hlmcutc14.size
    have hbk_hf := hf.bk
    have dj28 := dj_hf_hlg
    have nx29 := nxl_hf
    have nx_hlmcutc14_hlg := Nx.refl (lb + 1) H3.size
    refine CW.seq (fun K9 hK9 hE9 => ?_)
    refine CW.region ?_
    refine LR.v (Y.makeFunc rfl rfl) (Wd.u rfl) rfl rfl ?_
    refine LR.v (Y.assign rfl rfl) (Wd.u rfl) rfl rfl ?_
    refine LR.nil ?_
    refine hK9 _ _ ?_
    refine CW.seq (fun K10 hK10 hE10 => ?_)
    refine CW.region ?_
    refine LR.v (Y.makeFunc rfl rfl) (Wd.u rfl) rfl rfl ?_
    refine LR.v (Y.move rfl rfl) (Wd.u rfl) rfl rfl ?_
    refine LR.v (Y.makeFunc rfl rfl) (Wd.u rfl) rfl rfl ?_
    refine LR.v (Y.move rfl rfl) (Wd.u rfl) rfl rfl ?_
    refine LR.z (Z.litw _ (([(33, [ptr H0.size, ptr H2.size]), (30, [ptr H0.size]), (35, [ptr H0.size]), (30, [ptr H0.size])] : List FnV)) rfl inf90 rfl rfl rfl (by decide) (by decide) fFn_len fFn_one (rfl)) (Wd.u rfl) rfl rfl (fun v25 H25 r25 => ?_)
    obtain ⟨ow25, hs25, ob25, hH25⟩ := r25
    have hzs25 : H25.size = Hcutc14.size + 1 := by rw [hH25]; simp
    have dj30 : DL (Hcutc14.size + 1) K1 := DL.newK hf.bk
    have df31 := (DF.new (bf_mx.mono hm0.size) : DF _ (Hcutc14.size + 1))
    have df32 := (DF.new (bf_hr.mono hm0.size) : DF _ (Hcutc14.size + 1))
    have dj33 : Dj (H0.size + 1) (Hcutc14.size + 1) := Dj.new hc2.lt
    have dj34 : Dj (H2.size + 1) (Hcutc14.size + 1) := Dj.new hc3.lt
    have dj35 : Dj (lb + 1) (Hcutc14.size + 1) := Dj.new hlg.lt
    have nx36 : Nx 0 H0.size (Hcutc14.size + 1) := Nx.new hm0.size
    replace hf := hf.nw hs25
    replace mx := mx.nw hs25
    replace hr := hr.nw hs25
    replace hc2 := hc2.nw hs25
    replace hc3 := hc3.nw hs25
    replace hlg := hlg.nw hs25
    replace hm0 := hm0.trN hs25
    have hz5 := hs25.size
    -- call selvage/wal.first
    refine LR.call rfl Tryd.call32 rfl (Wd.u rfl) rfl rfl (first_ct K1 g1 b D1 v25 [(33, [ptr H0.size, ptr H2.size]), (30, [ptr H0.size]), (35, [ptr H0.size]), (30, [ptr H0.size])] (apS p n1 rc) _ w0 _ hf ow25.rd (BF.of ow25.le) (DFL.of (dj30)) rfl (ap_steps (LgS.mk mx (bf_mx.mono (by omega)) (df23) hc2 hlg (dj25) (dj28)) (VaS.mk hc3 (dj26)) (RwS.mk hr (bf_hr.mono (by omega)) (df24)) hrl hl hB1 (by omega))) (fun v26 H26 r26 => ?_)
    have ql37 := hf.bk
    have ql38 := hc2.lt
    have ql39 := hc3.lt
    have ql40 := hlg.lt
    have ql41 := ow25.le
    obtain ⟨K26, g26, rfl, hf, hkd26, hs26⟩ := r26
    have df42 := DFL.appK (df23) (bf_mx.mono hm0.size) hkd26
    have df43 := DFL.appK (df24) (bf_hr.mono hm0.size) hkd26
    have dj44 : DL (H0.size + 1) K26 := DL.appK (dj25) ql38 hkd26
    have dj45 : DL (H2.size + 1) K26 := DL.appK (dj26) ql39 hkd26
    have dj46 : DL (lb + 1) K26 := DL.appK (dj28) ql40 hkd26
    have dj47 : DL (Hcutc14.size + 1) K26 := DL.appK (dj30) ql41 hkd26
    have nx48 : NxK K H0.size K26 := NxK.tr (nx27) hkd26 hm0.size
    replace mx := mx.upL hs26 (df23)
    replace hr := hr.upL hs26 (df24)
    replace hc2 := hc2.upL hs26 (dj25)
    replace hc3 := hc3.upL hs26 (dj26)
    replace hlg := hlg.upL hs26 (dj28)
    replace ow25 := ow25.upL hs26 (dj30)
    replace hm0 := hm0.trL hs26 (MIL.ofK (nx27) (by intro k hk; simp [hk]))
    have hz6 := hs26.size
    have hbk_hf := hf.bk
    have hgo := app_go (r := rc) hpre
    refine LR.v (Y.assign rfl rfl) (Wd.u rfl) rfl rfl ?_
    refine LR.nil ?_
    refine hK10 _ _ ?_
    refine CW.seq (fun K11 hK11 hE11 => ?_)
    refine CW.seq (fun K12 hK12 hE12 => ?_)
    refine CW.region ?_
    refine LR.v (Y.move rfl rfl) (Wd.u rfl) rfl rfl ?_
    refine LR.v (Y.neq rfl rfl rfl) (Wd.u rfl) rfl rfl ?_
    refine LR.nil ?_
    refine hK12 _ _ ?_
    refine CW.condp rfl (fun c28 => ?_) (fun c28 => ?_)
    ·
      refine CW.seq (fun K13 hK13 hE13 => ?_)
      refine CW.region ?_
      refine LR.v (Y.load1 hc2.pt rfl Tryd.isAgg41 rfl) (Wd.u rfl) rfl rfl ?_
      refine LR.v (Y.nilCheck rfl rfl) (Wd.u rfl) rfl rfl ?_
      refine LR.v (Y.fieldAddr hlg.pt rfl Tryd.runUnderlying65 rfl rfl Tryd.sizeOf4 (by decide) rfl) (Wd.u rfl) rfl rfl ?_
      refine LR.s (S.var1 hlg 3 ([ptr b, Str p, .int .i64 (n1 : Int), .bool true]) rfl rfl rfl (rfl) Tryd.sizeOf4 (by simp) (rfl)) (Wd.u rfl) rfl (fun H10_3 r10_3 => ?_)
      obtain ⟨hlg, hs10_3⟩ := r10_3
      replace hs10_3 := hs10_3.md1
      replace hf := hf.upL hs10_3 (DKL.cons dj46 DKL.nil)
      replace mx := mx.upL hs10_3 (DFL.cons dmv DFL.nil)
      replace hr := hr.upL hs10_3 (DFL.cons dlr DFL.nil)
      replace hc2 := hc2.upL hs10_3 (DL.cons dj3.symm DL.nil)
      replace hm0 := hm0.trL hs10_3 (MIL.cons (MI.app (MI.root (by simp)) (nx_hm0_hlg) (Nat.le_refl _)) MIL.nil)
      have hz7 := hs10_3.size
      refine LR.nil ?_
      refine hK13 _ _ ?_
      refine CW.seq (fun K14 hK14 hE14 => ?_)
      refine CW.region ?_
      refine LR.v (Y.move rfl rfl) (Wd.u rfl) rfl rfl ?_
      refine LR.v (Y.assign rfl rfl) (Wd.u rfl) rfl rfl ?_
      refine LR.nil ?_
      refine hK14 _ _ ?_
      refine CW.ret (hE11 .ret nofun _ _ (hret .ret (.inr rfl) _ _ _ (res1 rfl rfl) ?_))
      have hz : (runD (apS p n1 rc) D1).1 ≠ 0 := by omega
      rw [if_neg hz, if_neg hz] at hgo
      exact ⟨_, _, by rw [hgo], by rw [hgo]; exact hf, nx48, by rw [hgo]; exact hlg, dj46, hm0⟩
    ·
      refine CW.skip ?_
      refine hK11 _ _ ?_
      refine CW.seq (fun K15 hK15 hE15 => ?_)
      refine CW.region ?_
      refine LR.v (Y.load1 hc2.pt rfl Tryd.isAgg41 rfl) (Wd.u rfl) rfl rfl ?_
      refine LR.v (Y.nilCheck rfl rfl) (Wd.u rfl) rfl rfl ?_
      refine LR.v (Y.fieldAddr hlg.pt rfl Tryd.runUnderlying65 rfl rfl Tryd.sizeOf3 (by decide) rfl) (Wd.u rfl) rfl rfl ?_
      refine LR.v (Y.load1 (hlg.pt.drop 2) rfl Tryd.isAgg3 rfl) (Wd.u rfl) rfl rfl ?_
      refine LR.v (Y.cast (v2 := .int .i64 ((n1 + 1 : Nat) : Int)) (Y.addi rfl rfl rfl (by omega)) (ivv (by omega))) (Wd.u rfl) rfl rfl ?_
      refine LR.v (Y.nilCheck rfl rfl) (Wd.u rfl) rfl rfl ?_
      refine LR.v (Y.fieldAddr hlg.pt rfl Tryd.runUnderlying65 rfl rfl Tryd.sizeOf3 (by decide) rfl) (Wd.u rfl) rfl rfl ?_
      refine LR.s (S.var1 hlg 2 ([ptr b, Str p, .int .i64 ((n1 + 1 : Nat) : Int), .bool false]) rfl rfl rfl (rfl) Tryd.sizeOf3 (by simp) (rfl)) (Wd.u rfl) rfl (fun H12_7 r12_7 => ?_)
      obtain ⟨hlg, hs12_7⟩ := r12_7
      replace hs12_7 := hs12_7.md1
      replace hf := hf.upL hs12_7 (DKL.cons dj46 DKL.nil)
      replace mx := mx.upL hs12_7 (DFL.cons dmv DFL.nil)
      replace hr := hr.upL hs12_7 (DFL.cons dlr DFL.nil)
      replace hc2 := hc2.upL hs12_7 (DL.cons dj3.symm DL.nil)
      replace hm0 := hm0.trL hs12_7 (MIL.cons (MI.app (MI.root (by simp)) (nx_hm0_hlg) (Nat.le_refl _)) MIL.nil)
      have hz8 := hs12_7.size
      refine LR.nil ?_
      refine hK15 _ _ ?_
      refine CW.seq (fun K16 hK16 hE16 => ?_)
      refine CW.region ?_
      refine LR.v (Y.assign rfl rfl) (Wd.u rfl) rfl rfl ?_
      refine LR.nil ?_
      refine hK16 _ _ ?_
      refine CW.ret (hret .ret (.inr rfl) _ _ _ (res1 rfl rfl) ?_)
      have hz : (runD (apS p n1 rc) D1).1 = 0 := by omega
      rw [if_pos hz, if_pos hz] at hgo
      exact ⟨_, _, by rw [hgo, hz]; rfl, by rw [hgo]; exact hf, nx48, by rw [hgo]; exact hlg, dj46, hm0⟩

end Go.Proofs.YtdliddjkacbggaaDoor.WalF
/-
  A journal on a disk: opening.
-/
namespace Go.Proofs.YtdliddjkacbggaaDoor.WalG
open Go.Proofs.YtdliddjkacbggaaDoor.E Go.RowKit Go.Proofs.YtdliddjkacbggaaDoor.SimA Go.Proofs.YtdliddjkacbggaaDoor.SimB Go.Proofs.YtdliddjkacbggaaDoor.SimC Go.Proofs.YtdliddjkacbggaaDoor.SimD Go.Proofs.YtdliddjkacbggaaDoor.SimE Go.Proofs.YtdliddjkacbggaaDoor.SimF Go.Proofs.YtdliddjkacbggaaDoor.SimG Go.Proofs.YtdliddjkacbggaaDoor.SimH Go.Proofs.YtdliddjkacbggaaDoor.SimI Go.Proofs.YtdliddjkacbggaaDoor.SimQ Go.Proofs.YtdliddjkacbggaaDoor.SimR Go.Proofs.YtdliddjkacbggaaDoor.WalA Go.Proofs.YtdliddjkacbggaaDoor.WalB Go.Proofs.YtdliddjkacbggaaDoor.WalC Go.Proofs.YtdliddjkacbggaaDoor.WalD Go.Proofs.YtdliddjkacbggaaDoor.WalE Go.Proofs.YtdliddjkacbggaaDoor.WalF
set_option maxRecDepth 20000
set_option linter.unusedVariables false
set_option linter.unusedSimpArgs false
set_option linter.unusedSectionVars false

/-- where a journal lies, or that there is none -/
structure LgP (k : Nat) (H : Heap) (v : Value) (b : Nat) (p : Pth) (n : Nat) (br : Bool) : Prop where
  ex : (k = 0 ∧ v = .pointer none) ∨ ∃ lb, k = lb + 1 ∧ v = ptr lb ∧ Var 65 H lb [ptr b, Str p, .int .i64 (n : Int), .bool br]
section
variable {k b n : Nat} {H H' : Heap} {v : Value} {p : Pth} {br : Bool} {ks : List Nat}
theorem LgP.le (h : LgP k H v b p n br) : k ≤ H.size := by
  rcases h.ex with ⟨e, _⟩ | ⟨lb, e, _, h⟩
  · omega
  · have := h.lt; omega
theorem LgP.nw (h : LgP k H v b p n br) (s : Nw H H') : LgP k H' v b p n br := ⟨h.ex.imp id (fun ⟨lb, e, e2, h⟩ => ⟨lb, e, e2, h.nw s⟩)⟩
theorem LgP.upL (h : LgP k H v b p n br) (s : Mo (Ms ks) H H') (d : DL k ks) : LgP k H' v b p n br := ⟨h.ex.imp id (fun ⟨lb, e, e2, h⟩ => ⟨lb, e, e2, h.upL s (e ▸ d)⟩)⟩
theorem LgP.var {lb : Nat} (h : LgP (lb + 1) H v b p n br) : v = ptr lb ∧ Var 65 H lb [ptr b, Str p, .int .i64 (n : Int), .bool br] := by
  rcases h.ex with ⟨e, _⟩ | ⟨lb2, e, e2, h⟩
  · omega
  · obtain rfl : lb = lb2 := by omega
    exact ⟨e2, h⟩
end
section
variable {D : Dk} {p : Pth}
theorem open_a (h : nameB p = false ∨ nameB (newP p) = false) : openD D p = (7, [], D) := by unfold openD; rw [if_pos h]
theorem open_n (n1 : nameB p = true) (n2 : nameB (newP p) = true) : ¬ (nameB p = false ∨ nameB (newP p) = false) := by rw [n1, n2]; simp
theorem open_b (n1 : nameB p = true) (n2 : nameB (newP p) = true) (h : D.readE p = 2) : openD D p = ((freshD D p []).1, [], (freshD D p []).2) := by unfold openD; rw [if_neg (open_n n1 n2), if_pos h]
theorem open_c (n1 : nameB p = true) (n2 : nameB (newP p) = true) (h : D.readE p ≠ 2) (h2 : D.readE p ≠ 0) : openD D p = (D.readE p, [], D) := by unfold openD; rw [if_neg (open_n n1 n2), if_neg h, if_pos h2]
theorem open_d (n1 : nameB p = true) (n2 : nameB (newP p) = true) (h : D.readE p = 0) (h2 : parE (D.readL p) ≠ 0) : openD D p = (parE (D.readL p), [], D) := by unfold openD; rw [if_neg (open_n n1 n2), if_neg (by omega), if_neg (by omega), if_pos h2]
theorem open_e (n1 : nameB p = true) (n2 : nameB (newP p) = true) (h : D.readE p = 0) (h2 : parE (D.readL p) = 0) (h3 : parS (D.readL p) < (D.readL p).length) : openD D p = ((freshD D p (parL (D.readL p))).1, if (freshD D p (parL (D.readL p))).1 = 0 then parL (D.readL p) else [], (freshD D p (parL (D.readL p))).2) := by
  unfold openD; rw [if_neg (open_n n1 n2), if_neg (by omega), if_neg (by omega), if_neg (by omega), if_pos h3]
theorem open_f (n1 : nameB p = true) (n2 : nameB (newP p) = true) (h : D.readE p = 0) (h2 : parE (D.readL p) = 0) (h3 : ¬ parS (D.readL p) < (D.readL p).length) : openD D p = (0, parL (D.readL p), D) := by
  unfold openD; rw [if_neg (open_n n1 n2), if_neg (by omega), if_neg (by omega), if_neg (by omega), if_neg h3]
end

set_option maxHeartbeats 4000000 in
theorem wopen_ct (mx_ : Int) (K : List Nat) (g : Gh) (b : Nat) (D : Dk) (p : Pth) (N : Nat) (w0 : World) (H0 : Heap)
    (hf : PDk K g H0 b D) (mx : MX mx_ H0) (bf_mx : BF (fun b => b = 0) H0.size) (dmx : DFL (fun b => b = 0) K) (hl : p.length ≤ 4294960000) (hB : Bs N D) (hN : N ≤ 80000000) :
    Ct Tryd.prog w0 16 #[ptr b, Str p] H0 (fun r H2 => ∃ lv : Value, ∃ kl : Nat, ∃ t : SV, ∃ l : List (SV × Rec), ∃ K2 : List Nat, ∃ g2 : Gh, ∃ G : Nat → Prop, r = .tuple #[lv, t.v, .int .i64 ((openD D p).1 : Int)] ∧ (PDk K2 g2 H2 b (openD D p).2.2) ∧ (NxK K H0.size K2) ∧ (LgP kl H2 lv b p l.length false) ∧ (Nx 0 H0.size kl) ∧ (DL kl K2) ∧ (((openD D p).1 = 0 → ∃ lb, kl = lb + 1 ∧ lv = ptr lb) ∧ ((openD D p).1 ≠ 0 → kl = 0 ∧ lv = .pointer none)) ∧ (recs l = (openD D p).2.1) ∧ (Rd G H2 fP 1 t.v l) ∧ (∀ x ∈ l, Rd G H2 fB 1 x.1.v x.2) ∧ (BF G H2.size) ∧ (∀ c, G c → H0.size ≤ c) ∧ (DFL G K2) ∧ (DF G kl) ∧ Mo (Ms K) H0 H2) := by
  refine Ct.enter (args := [ptr b, Str p]) Tryd.func16 rfl rfl rfl ?_
  intro Q0 hret
  have hm0 : Mo (Ms K) H0 H0 := Mo.refl _ _
  have nx_hm0_hf := NxK.refl K H0.size
  have hbk_hf := hf.bk
  have hrb := readL_bd hB p
  have hcm := (encN_parL_le (D.readL p)).2
  have hpm := parL_many (D.readL p)
  refine CW.seq (fun K1 hK1 hE1 => ?_)
  refine CW.region ?_
  refine LR.v (Y.assign rfl rfl) (Wd.u rfl) rfl rfl ?_
  refine LR.v (Y.assign rfl rfl) (Wd.u rfl) rfl rfl ?_
  refine LR.v (Y.assign rfl rfl) (Wd.u rfl) rfl rfl ?_
  refine LR.nil ?_
  refine hK1 _ _ ?_
  refine CW.seq (fun K2 hK2 hE2 => ?_)
  refine CW.seq (fun K3 hK3 hE3 => ?_)
  refine CW.region ?_
  refine LR.v (Y.move rfl rfl) (Wd.u rfl) rfl rfl ?_
  -- call selvage/simfs.Name
  refine LR.call rfl Tryd.call27 rfl (Wd.u rfl) rfl rfl (name_ct mx_ p w0 _ mx (bf_mx.mono (by omega)) (by omega)) (fun v13 H13 r13 => ?_)
  obtain ⟨rfl, hs13⟩ := r13
  replace hf := hf.nw hs13
  replace mx := mx.nw hs13
  replace hm0 := hm0.trN hs13
  have hz1 := hs13.size
  refine LR.v (Y.not rfl rfl) (Wd.u rfl) rfl rfl ?_
  refine LR.v (Y.move rfl rfl) (Wd.u rfl) rfl rfl ?_
  refine LR.split (d := 15) rfl (fun g15 => ?_) (fun g15 => ?_)
  ·
    have hop := open_a (D := D) (p := p) (.inl (by simpa using g15))
    refine LR.gs rfl rfl rfl rfl rfl rfl ?_
    refine LR.gs rfl rfl rfl rfl rfl rfl ?_
    refine LR.gs rfl rfl rfl rfl rfl rfl ?_
    refine LR.gs rfl rfl rfl rfl rfl rfl ?_
    refine LR.v (Y.pick_t rfl rfl rfl) (Wd.u rfl) rfl rfl ?_
    refine LR.nil ?_
    refine hK3 _ _ ?_
    refine CW.cond_t rfl ?_
    refine CW.seq (fun K4 hK4 hE4 => ?_)
    refine CW.region ?_
    refine LR.v (Y.assign rfl rfl) (Wd.u rfl) rfl rfl ?_
    refine LR.v (Y.assign rfl rfl) (Wd.u rfl) rfl rfl ?_
    refine LR.v (Y.assign rfl rfl) (Wd.u rfl) rfl rfl ?_
    refine LR.nil ?_
    refine hK4 _ _ ?_
    refine CW.ret (hE2 .ret nofun _ _ (hret .ret (.inr rfl) _ _ _ (res3 rfl rfl rfl rfl) ?_))
    exact ⟨.pointer none, 0, ⟨none, 0, 0⟩, [], _, _, (fun _ => False), by rw [hop]; rfl, by rw [hop]; exact hf, nx_hm0_hf, ⟨.inl ⟨rfl, rfl⟩⟩, (.inl rfl), DL.zK, ⟨fun h => absurd h (by rw [hop]; exact (Nat.succ_ne_zero 6)), fun _ => ⟨rfl, rfl⟩⟩, by rw [hop]; rfl, Rd.nil _ _ _ _, (fun x h => by cases h), (fun b h => h.elim), (fun c h => h.elim), (fun k hk b h => h.elim), (fun b h => h.elim), hm0⟩
  ·
    refine LR.v (Y.move rfl rfl) (Wd.g rfl rfl rfl) rfl rfl ?_
    refine LR.v (Y.cast (v2 := Str (newP p)) (Y.sadd rfl rfl rfl (by simp only [List.length_cons, List.length_nil]; omega)) (rfl)) (Wd.g rfl rfl rfl) rfl rfl ?_
    -- call selvage/simfs.Name
    refine LR.call rfl Tryd.call27 rfl (Wd.g rfl rfl rfl) rfl rfl (name_ct mx_ (newP p) w0 _ mx (bf_mx.mono (by omega)) (by rw [newP_len]; omega)) (fun v18 H18 r18 => ?_)
    obtain ⟨rfl, hs18⟩ := r18
    replace hf := hf.nw hs18
    replace mx := mx.nw hs18
    replace hm0 := hm0.trN hs18
    have hz2 := hs18.size
    refine LR.v (Y.not rfl rfl) (Wd.g rfl rfl rfl) rfl rfl ?_
    refine LR.v (Y.pick_f rfl rfl rfl) (Wd.u rfl) rfl rfl ?_
    refine LR.nil ?_
    refine hK3 _ _ ?_
    refine CW.cond rfl (fun c20 => ?_) (fun c20 => ?_)
    ·
      have hop := open_a (D := D) (p := p) (.inr (by simpa using c20))
      refine CW.seq (fun K5 hK5 hE5 => ?_)
      refine CW.region ?_
      refine LR.v (Y.assign rfl rfl) (Wd.u rfl) rfl rfl ?_
      refine LR.v (Y.assign rfl rfl) (Wd.u rfl) rfl rfl ?_
      refine LR.v (Y.assign rfl rfl) (Wd.u rfl) rfl rfl ?_
      refine LR.nil ?_
      refine hK5 _ _ ?_
      refine CW.ret (hE2 .ret nofun _ _ (hret .ret (.inr rfl) _ _ _ (res3 rfl rfl rfl rfl) ?_))
      exact ⟨.pointer none, 0, ⟨none, 0, 0⟩, [], _, _, (fun _ => False), by rw [hop]; rfl, by rw [hop]; exact hf, nx_hm0_hf, ⟨.inl ⟨rfl, rfl⟩⟩, (.inl rfl), DL.zK, ⟨fun h => absurd h (by rw [hop]; exact (Nat.succ_ne_zero 6)), fun _ => ⟨rfl, rfl⟩⟩, by rw [hop]; rfl, Rd.nil _ _ _ _, (fun x h => by cases h), (fun b h => h.elim), (fun c h => h.elim), (fun k hk b h => h.elim), (fun b h => h.elim), hm0⟩
    ·
      have hn1 : nameB p = true := by simpa using g15
      have hn2 : nameB (newP p) = true := by simpa using c20
      refine CW.skip ?_
      refine hK2 _ _ ?_
      refine CW.seq (fun K6 hK6 hE6 => ?_)
      refine CW.region ?_
      refine LR.v (Y.move rfl rfl) (Wd.u rfl) rfl rfl ?_
      refine LR.v (Y.move rfl rfl) (Wd.u rfl) rfl rfl ?_
      refine LR.v (Y.build (v := .agg #[ptr b, Str p, .int .i64 0, .bool false]) rfl rfl (by intro w; kernel_rfl)) (Wd.u rfl) rfl rfl ?_
      refine LR.z (Z.boxv rfl rfl) (Wd.u rfl) rfl rfl (fun v24 H24 r24 => ?_)
      obtain ⟨rfl, hlg, hs24, ob24, hH24⟩ := r24
      have hzs24 : H24.size = H18.size + 1 := by rw [hH24]; simp
      have dj1 : DL (H18.size + 1) K := DL.newK hf.bk
      have df2 := (DF.new (bf_mx.mono hm0.size) : DF _ (H18.size + 1))
      have nx3 : Nx 0 H0.size (H18.size + 1) := Nx.new hm0.size
      replace hf := hf.nw hs24
      replace mx := mx.nw hs24
      replace hm0 := hm0.trN hs24
      have hz3 := hs24.size
      replace hlg : Var 65 H24 H18.size ([ptr b, Str p, .int .i64 ((0 : Nat) : Int), .bool false]) := hlg
      refine LR.v (Y.assign rfl rfl) (Wd.u rfl) rfl rfl ?_
      refine LR.nil ?_
      refine hK6 _ _ ?_
      refine CW.seq (fun K7 hK7 hE7 => ?_)
      refine CW.region ?_
      refine LR.v (Y.move rfl rfl) (Wd.u rfl) rfl rfl ?_
      refine LR.v (Y.move rfl rfl) (Wd.u rfl) rfl rfl ?_
      -- call (*selvage/simfs.FS).Read
      refine LR.call rfl Tryd.call19 rfl (Wd.u rfl) rfl rfl (read_ct mx_ K g b D p w0 _ mx (bf_mx.mono (by omega)) hf (by omega) (fun i => by have := (hB.f i).1; omega)) (fun v28 H28 r28 => ?_)
      obtain ⟨s28, k28, rfl, ow28, hk28, hs28⟩ := r28
      have dj4 : DL k28 K := DL.app2 (DL.zK) hf.bk hk28
      have df5 := DF.app (DF.z) (bf_mx.mono hm0.size) hk28
      have dj6 : Dj (H18.size + 1) k28 := Dj.app (Dj.z) hlg.lt hk28
      have nx7 : Nx 0 H0.size k28 := Nx.tr (Nx.refl 0 _) hk28 hm0.size
      replace hf := hf.nw hs28
      replace mx := mx.nw hs28
      replace hlg := hlg.nw hs28
      replace hm0 := hm0.trN hs28
      have hz4 := hs28.size
      have hle_ow28 := ow28.le
      refine LR.v (Y.move rfl rfl) (Wd.u rfl) rfl rfl ?_
      refine LR.v (Y.extract rfl rfl rfl) (Wd.u rfl) rfl rfl ?_
      refine LR.v (Y.extract rfl rfl rfl) (Wd.u rfl) rfl rfl ?_
      refine LR.v (Y.assign rfl rfl) (Wd.u rfl) rfl rfl ?_
      refine LR.v (Y.assign rfl rfl) (Wd.u rfl) rfl rfl ?_
      refine LR.nil ?_
      refine hK7 _ _ ?_
      refine CW.seq (fun K8 hK8 hE8 => ?_)
      refine CW.seq (fun K9 hK9 hE9 => ?_)
      refine CW.region ?_
      refine LR.v (Y.move rfl rfl) (Wd.u rfl) rfl rfl ?_
      refine LR.v (Y.eql rfl rfl rfl) (Wd.u rfl) rfl rfl ?_
      refine LR.nil ?_
      refine hK9 _ _ ?_
      refine CW.condp rfl (fun c32 => ?_) (fun c32 => ?_)
      ·
        have hop := open_b (D := D) hn1 hn2 (by omega)
        refine CW.seq (fun K10 hK10 hE10 => ?_)
        refine CW.seq (fun K11 hK11 hE11 => ?_)
        refine CW.region ?_
        refine LR.v (Y.move rfl rfl) (Wd.u rfl) rfl rfl ?_
        -- call (*selvage/wal.Log).Checkpoint
        refine LR.call rfl Tryd.call28 rfl (Wd.u rfl) rfl rfl (ckpt_ct mx_ K g b D H18.size p 0 false ⟨none, 0, 0⟩ [] (fun _ => False) N w0 _ hf mx (bf_mx.mono (by omega)) (dmx) hlg (dj1) (df2) (Rd.nil _ _ _ _) (fun b h => h.elim) (fun k hk b h => h.elim) (fun x h => by cases h) (fun b h => h.elim) (fun k hk b h => h.elim) (fun x h => by cases h) (by simp [recs, encN]) (fun b h _ => h.elim) (fun b h _ => h.elim) hl hB (by simp [recs, encW, W8, encN]; omega) (by simp)) (fun v34 H34 r34 => ?_)
        have ql8 := hf.bk
        have ql9 := hlg.lt
        have ql10 := ow28.le
        obtain ⟨K34, g34, rfl, hf, hkd34, hlg, dl234, hs34⟩ := r34
        have df11 := DFL.appK (dmx) (bf_mx.mono hm0.size) hkd34
        have dj12 : DL (H18.size + 1) K34 := DL.appK (dj1) ql9 hkd34
        have dj13 : DL k28 K34 := DL.appK (dj4) ql10 hkd34
        have nx14 : NxK K H0.size K34 := NxK.tr (nx_hm0_hf) hkd34 hm0.size
        replace mx := mx.upL hs34 (DFL.app dmx (DFL.cons df2 DFL.nil))
        replace ow28 := ow28.upL hs34 (DL.app dj4 (DL.cons dj6.symm DL.nil))
        replace hm0 := hm0.trL hs34 (MIL.app (MIL.ofK (nx_hm0_hf) (by intro k hk; simp [hk])) (MIL.cons (MI.app MI.z (nx3) (Nat.le_refl _)) MIL.nil))
        have hz5 := hs34.size
        have hbk_hf := hf.bk
        refine LR.v (Y.assign rfl rfl) (Wd.u rfl) rfl rfl ?_
        refine LR.nil ?_
        refine hK11 _ _ ?_
        refine CW.seq (fun K12 hK12 hE12 => ?_)
        refine CW.region ?_
        refine LR.v (Y.move rfl rfl) (Wd.u rfl) rfl rfl ?_
        refine LR.v (Y.neq rfl rfl rfl) (Wd.u rfl) rfl rfl ?_
        refine LR.nil ?_
        refine hK12 _ _ ?_
        refine CW.condp rfl (fun c36 => ?_) (fun c36 => ?_)
        ·
          refine CW.seq (fun K13 hK13 hE13 => ?_)
          refine CW.region ?_
          refine LR.v (Y.move rfl rfl) (Wd.u rfl) rfl rfl ?_
          refine LR.v (Y.assign rfl rfl) (Wd.u rfl) rfl rfl ?_
          refine LR.v (Y.assign rfl rfl) (Wd.u rfl) rfl rfl ?_
          refine LR.v (Y.assign rfl rfl) (Wd.u rfl) rfl rfl ?_
          refine LR.nil ?_
          refine hK13 _ _ ?_
          refine CW.ret (hE10 .ret nofun _ _ (hE8 .ret nofun _ _ (hret .ret (.inr rfl) _ _ _ (res3 rfl rfl rfl rfl) ?_)))
          exact ⟨.pointer none, 0, ⟨none, 0, 0⟩, [], _, _, (fun _ => False), by rw [hop]; rfl, by rw [hop]; exact hf, nx14, ⟨.inl ⟨rfl, rfl⟩⟩, (.inl rfl), DL.zK, ⟨fun h => absurd h (by rw [hop]; exact (by have h9 := c36; simp only [recs, List.map_nil] at h9; show (freshD D p []).1 ≠ 0; omega)), fun _ => ⟨rfl, rfl⟩⟩, by rw [hop]; rfl, Rd.nil _ _ _ _, (fun x h => by cases h), (fun b h => h.elim), (fun c h => h.elim), (fun k hk b h => h.elim), (fun b h => h.elim), hm0⟩
        ·
          refine CW.skip ?_
          refine hK10 _ _ ?_
          refine CW.seq (fun K14 hK14 hE14 => ?_)
          refine CW.region ?_
          refine LR.v (Y.move rfl rfl) (Wd.u rfl) rfl rfl ?_
          refine LR.v (Y.assign rfl rfl) (Wd.u rfl) rfl rfl ?_
          refine LR.v (Y.assign rfl rfl) (Wd.u rfl) rfl rfl ?_
          refine LR.v (Y.assign rfl rfl) (Wd.u rfl) rfl rfl ?_
          refine LR.nil ?_
          refine hK14 _ _ ?_
          refine CW.ret (hE8 .ret nofun _ _ (hret .ret (.inr rfl) _ _ _ (res3 rfl rfl rfl rfl) ?_))
          have h8 : (freshD D p []).1 = 0 := by have h9 := c36; simp only [recs, List.map_nil] at h9; omega
          rw [h8] at hop
          exact ⟨ptr H18.size, (H18.size + 1), ⟨none, 0, 0⟩, [], _, _, (fun _ => False), by rw [hop]; rfl, by rw [hop]; exact hf, nx14, ⟨.inr ⟨_, rfl, rfl, by simp only [recs, List.map_nil] at hlg; rw [lgN_0 h8, lgB_0 h8] at hlg; exact hlg⟩⟩, nx3, dl234, ⟨fun _ => ⟨_, rfl, rfl⟩, fun h => absurd (by rw [hop]) h⟩, by rw [hop]; rfl, Rd.nil _ _ _ _, (fun x h => by cases h), (fun b h => h.elim), (fun c h => h.elim), (fun k hk b h => h.elim), (fun b h => h.elim), hm0⟩
      ·
        refine CW.skip ?_
        refine hK8 _ _ ?_
        refine CW.seq (fun K15 hK15 hE15 => ?_)
        refine CW.seq (fun K16 hK16 hE16 => ?_)
        refine CW.region ?_
        refine LR.v (Y.move rfl rfl) (Wd.u rfl) rfl rfl ?_
        refine LR.v (Y.neq rfl rfl rfl) (Wd.u rfl) rfl rfl ?_
        refine LR.nil ?_
        refine hK16 _ _ ?_
        refine CW.condp rfl (fun c40 => ?_) (fun c40 => ?_)
        ·
          refine CW.seq (fun K17 hK17 hE17 => ?_)
          refine CW.region ?_
          refine LR.v (Y.move rfl rfl) (Wd.u rfl) rfl rfl ?_
          refine LR.v (Y.assign rfl rfl) (Wd.u rfl) rfl rfl ?_
          refine LR.v (Y.assign rfl rfl) (Wd.u rfl) rfl rfl ?_
          refine LR.v (Y.assign rfl rfl) (Wd.u rfl) rfl rfl ?_
          refine LR.nil ?_
          refine hK17 _ _ ?_
          refine CW.ret (hE15 .ret nofun _ _ (hret .ret (.inr rfl) _ _ _ (res3 rfl rfl rfl rfl) ?_))
          have h8 : D.readE p ≠ 0 := by omega
          have hop := open_c (D := D) hn1 hn2 (by omega) h8
          exact ⟨.pointer none, 0, ⟨none, 0, 0⟩, [], _, _, (fun _ => False), by rw [hop]; rfl, by rw [hop]; exact hf, nx_hm0_hf, ⟨.inl ⟨rfl, rfl⟩⟩, (.inl rfl), DL.zK, ⟨fun h => absurd h (by rw [hop]; exact h8), fun _ => ⟨rfl, rfl⟩⟩, by rw [hop]; rfl, Rd.nil _ _ _ _, (fun x h => by cases h), (fun b h => h.elim), (fun c h => h.elim), (fun k hk b h => h.elim), (fun b h => h.elim), hm0⟩
        ·
          refine CW.skip ?_
          refine hK15 _ _ ?_
          refine CW.seq (fun K18 hK18 hE18 => ?_)
          refine CW.region ?_
          refine LR.v (Y.move rfl rfl) (Wd.u rfl) rfl rfl ?_
          -- call selvage/wal.Parse
          refine LR.call rfl Tryd.call9 rfl (Wd.u rfl) rfl rfl (parse_ct s28 (D.readL p) w0 _ ow28.rd.any (by have := readL_bd hB p; omega)) (fun v44 H44 r44 => ?_)
          obtain ⟨t44, l44, rfl, hrc44, hw44, hx44, hs44⟩ := r44
          replace hf := hf.nw hs44
          replace mx := mx.nw hs44
          replace hlg := hlg.nw hs44
          replace ow28 := ow28.nw hs44
          replace hm0 := hm0.trN hs44
          have hz6 := hs44.size
          replace hw44 := hw44.bnd
          have bf_hw44 := hw44.bf
          have df15 : DFL (fun b => H28.size ≤ b ∧ b < H44.size) K := DFL.above (fun b h => h.1) (by first | exact hbk_hf | exact fun k hk => Nat.le_trans (hbk_hf k hk) (by omega) | assumption)
          have df16 : DF (fun b => H28.size ≤ b ∧ b < H44.size) (H18.size + 1) := DF.above (fun b h => h.1) (by first | exact hle_hlg | exact hlt_hlg | omega)
          have df17 : DF (fun b => H28.size ≤ b ∧ b < H44.size) k28 := DF.above (fun b h => h.1) (by first | exact hle_ow28 | exact hlt_ow28 | omega)
          replace hx44 := fun x hx_ => (hx44 x hx_).bnd
          have bf_hx44 : BF (fun b => H28.size ≤ b ∧ b < H44.size) H44.size := fun b h => h.2
          have df18 : DFL (fun b => H28.size ≤ b ∧ b < H44.size) K := DFL.above (fun b h => h.1) (by first | exact hbk_hf | exact fun k hk => Nat.le_trans (hbk_hf k hk) (by omega) | assumption)
          have df19 : DF (fun b => H28.size ≤ b ∧ b < H44.size) (H18.size + 1) := DF.above (fun b h => h.1) (by first | exact hle_hlg | exact hlt_hlg | omega)
          have df20 : DF (fun b => H28.size ≤ b ∧ b < H44.size) k28 := DF.above (fun b h => h.1) (by first | exact hle_ow28 | exact hlt_ow28 | omega)
          refine LR.v (Y.move rfl rfl) (Wd.u rfl) rfl rfl ?_
          refine LR.v (Y.extract rfl rfl rfl) (Wd.u rfl) rfl rfl ?_
          refine LR.v (Y.extract rfl rfl rfl) (Wd.u rfl) rfl rfl ?_
          refine LR.v (Y.extract rfl rfl rfl) (Wd.u rfl) rfl rfl ?_
          have hlt44 := congrArg List.length hrc44
          simp only [recs, List.length_map] at hlt44
          refine LR.v (Y.assign rfl rfl) (Wd.u rfl) rfl rfl ?_
          refine LR.v (Y.assign rfl rfl) (Wd.u rfl) rfl rfl ?_
          refine LR.v (Y.assign rfl rfl) (Wd.u rfl) rfl rfl ?_
          refine LR.nil ?_
          refine hK18 _ _ ?_
          refine CW.seq (fun K19 hK19 hE19 => ?_)
          refine CW.seq (fun K20 hK20 hE20 => ?_)
          refine CW.region ?_
          refine LR.v (Y.move rfl rfl) (Wd.u rfl) rfl rfl ?_
          refine LR.v (Y.eql rfl rfl rfl) (Wd.u rfl) rfl rfl ?_
          refine LR.v (Y.move rfl rfl) (Wd.u rfl) rfl rfl ?_
          refine LR.splitp (d := 50) rfl (fun g50 => ?_) (fun g50 => ?_)
          ·
            refine LR.v (Y.move rfl rfl) (Wd.g rfl rfl rfl) rfl rfl ?_
            refine LR.v (Y.move rfl rfl) (Wd.g rfl rfl rfl) rfl rfl ?_
            refine LR.v (Y.len ow28.rd rfl Tryd.runUnderlying23 rfl) (Wd.g rfl rfl rfl) rfl rfl ?_
            refine LR.v (Y.lss rfl rfl rfl) (Wd.g rfl rfl rfl) rfl rfl ?_
            refine LR.v (Y.pick_t rfl rfl rfl) (Wd.u rfl) rfl rfl ?_
            refine LR.nil ?_
            refine hK20 _ _ ?_
            refine CW.condp rfl (fun c55 => ?_) (fun c55 => ?_)
            ·
              refine CW.region ?_
              refine LR.v (Y.move rfl rfl) (Wd.u rfl) rfl rfl ?_
              refine LR.v (Y.move rfl rfl) (Wd.u rfl) rfl rfl ?_
              -- call (*selvage/wal.Log).Checkpoint
              refine LR.call rfl Tryd.call28 rfl (Wd.u rfl) rfl rfl (ckpt_ct mx_ K g b D H18.size p 0 false t44 l44 _ N w0 _ hf mx (bf_mx.mono (by omega)) (dmx) hlg (dj1) (df2) hw44 (bf_hw44.mono (by omega)) (df15) hx44 (bf_hw44.mono (by omega)) (df18) (fun x h => parL_max _ _ (by rw [← hrc44]; exact List.mem_map_of_mem h)) (by rw [hrc44]; have h2 := (encN_parL_le (D.readL p)).1; omega) (df16) (df19) hl hB (by rw [hrc44]; omega) (by omega)) (fun v58 H58 r58 => ?_)
              have ql21 := hf.bk
              have ql22 := hlg.lt
              have ql23 := ow28.le
              obtain ⟨K58, g58, rfl, hf, hkd58, hlg, dl258, hs58⟩ := r58
              have df24 := DFL.appK (dmx) (bf_mx.mono hm0.size) hkd58
              have dj25 : DL (H18.size + 1) K58 := DL.appK (dj1) ql22 hkd58
              have dj26 : DL k28 K58 := DL.appK (dj4) ql23 hkd58
              have df27 := DFL.appK (df15) (bf_hw44.mono (by omega)) hkd58
              have df28 := DFL.appK (df18) (bf_hx44.mono (by omega)) hkd58
              have nx29 : NxK K H0.size K58 := NxK.tr (nx_hm0_hf) hkd58 hm0.size
              replace mx := mx.upL hs58 (DFL.app dmx (DFL.cons df2 DFL.nil))
              replace ow28 := ow28.upL hs58 (DL.app dj4 (DL.cons dj6.symm DL.nil))
              replace hw44 := hw44.upL hs58 (DFL.app df15 (DFL.cons df16 DFL.nil))
              replace hx44 := fun x hx_ => (hx44 x hx_).upL hs58 (DFL.app df18 (DFL.cons df19 DFL.nil))
              replace hm0 := hm0.trL hs58 (MIL.app (MIL.ofK (nx_hm0_hf) (by intro k hk; simp [hk])) (MIL.cons (MI.app MI.z (nx3) (Nat.le_refl _)) MIL.nil))
              have hz7 := hs58.size
              have hbk_hf := hf.bk
              refine LR.v (Y.assign rfl rfl) (Wd.u rfl) rfl rfl ?_
              refine LR.nil ?_
              refine hK19 _ _ ?_
              refine CW.seq (fun K21 hK21 hE21 => ?_)
              refine CW.seq (fun K22 hK22 hE22 => ?_)
              refine CW.region ?_
              refine LR.v (Y.move rfl rfl) (Wd.u rfl) rfl rfl ?_
              refine LR.v (Y.neq rfl rfl rfl) (Wd.u rfl) rfl rfl ?_
              refine LR.nil ?_
              refine hK22 _ _ ?_
              refine CW.condp rfl (fun c60 => ?_) (fun c60 => ?_)
              ·
                refine CW.seq (fun K23 hK23 hE23 => ?_)
                refine CW.region ?_
                refine LR.v (Y.move rfl rfl) (Wd.u rfl) rfl rfl ?_
                refine LR.v (Y.assign rfl rfl) (Wd.u rfl) rfl rfl ?_
                refine LR.v (Y.assign rfl rfl) (Wd.u rfl) rfl rfl ?_
                refine LR.v (Y.assign rfl rfl) (Wd.u rfl) rfl rfl ?_
                refine LR.nil ?_
                refine hK23 _ _ ?_
                refine CW.ret (hE21 .ret nofun _ _ (hret .ret (.inr rfl) _ _ _ (res3 rfl rfl rfl rfl) ?_))
                have h8 : (freshD D p (parL (D.readL p))).1 ≠ 0 := by rw [← hrc44]; omega
                have hop := open_e (D := D) hn1 hn2 (by omega) (by omega) (by omega)
                rw [if_neg h8] at hop
                rw [hrc44] at hf
                exact ⟨.pointer none, 0, ⟨none, 0, 0⟩, [], _, _, (fun _ => False), by rw [hop, hrc44], by rw [hop]; exact hf, nx29, ⟨.inl ⟨rfl, rfl⟩⟩, (.inl rfl), DL.zK, ⟨fun h => absurd h (by rw [hop]; exact h8), fun _ => ⟨rfl, rfl⟩⟩, by rw [hop]; rfl, Rd.nil _ _ _ _, (fun x h => by cases h), (fun b h => h.elim), (fun c h => h.elim), (fun k hk b h => h.elim), (fun b h => h.elim), hm0⟩
              ·
                try (have h8 : (freshD D p (recs l44)).1 = 0 := (by omega); rw [lgN_0 h8, lgB_0 h8] at hlg)
                refine CW.skip ?_
                refine hK21 _ _ ?_
                refine CW.seq (fun K24 hK24 hE24 => ?_)
                refine CW.region ?_
                refine LR.v (Y.move rfl rfl) (Wd.u rfl) rfl rfl ?_
                refine LR.v (Y.move rfl rfl) (Wd.u rfl) rfl rfl ?_
                refine LR.v (Y.len hw44 rfl Tryd.runUnderlying22 rfl) (Wd.u rfl) rfl rfl ?_
                refine LR.v (Y.nilCheck rfl rfl) (Wd.u rfl) rfl rfl ?_
                refine LR.v (Y.fieldAddr hlg.pt rfl Tryd.runUnderlying65 rfl rfl Tryd.sizeOf3 (by decide) rfl) (Wd.u rfl) rfl rfl ?_
                refine LR.s (S.var1 hlg 2 ([ptr b, Str p, .int .i64 ((l44.length : Nat) : Int), .bool false]) rfl rfl rfl (rfl) Tryd.sizeOf3 (by simp) (rfl)) (Wd.u rfl) rfl (fun H17_5 r17_5 => ?_)
                obtain ⟨hlg, hs17_5⟩ := r17_5
                replace hs17_5 := hs17_5.md1
                replace hf := hf.upL hs17_5 (DKL.cons dl258 DKL.nil)
                replace mx := mx.upL hs17_5 (DFL.cons df2 DFL.nil)
                replace ow28 := ow28.upL hs17_5 (DL.cons dj6.symm DL.nil)
                replace hw44 := hw44.upL hs17_5 (DFL.cons df16 DFL.nil)
                replace hx44 := fun x hx_ => (hx44 x hx_).upL hs17_5 (DFL.cons df19 DFL.nil)
                replace hm0 := hm0.trL hs17_5 (MIL.cons (MI.app MI.z (nx3) (Nat.le_refl _)) MIL.nil)
                have hz8 := hs17_5.size
                refine LR.nil ?_
                refine hK24 _ _ ?_
                refine CW.seq (fun K25 hK25 hE25 => ?_)
                refine CW.region ?_
                refine LR.v (Y.move rfl rfl) (Wd.u rfl) rfl rfl ?_
                refine LR.v (Y.move rfl rfl) (Wd.u rfl) rfl rfl ?_
                refine LR.v (Y.assign rfl rfl) (Wd.u rfl) rfl rfl ?_
                refine LR.v (Y.assign rfl rfl) (Wd.u rfl) rfl rfl ?_
                refine LR.v (Y.assign rfl rfl) (Wd.u rfl) rfl rfl ?_
                refine LR.nil ?_
                refine hK25 _ _ ?_
                refine CW.ret (hret .ret (.inr rfl) _ _ _ (res3 rfl rfl rfl rfl) ?_)
                have hop : (openD D p).1 = 0 ∧ (openD D p).2.1 = parL (D.readL p) := by
                  first
                  | (have h9 := open_e (D := D) hn1 hn2 (by omega) (by omega) (by omega); have h8 : (freshD D p (parL (D.readL p))).1 = 0 := (by rw [← hrc44]; omega); rw [h8, if_pos rfl] at h9; rw [h9]; exact ⟨rfl, rfl⟩)
                  | (have h9 := open_f (D := D) hn1 hn2 (by omega) (by omega) (by omega); rw [h9]; exact ⟨rfl, rfl⟩)
                exact ⟨ptr H18.size, (H18.size + 1), t44, l44, _, _, _, by rw [hop.1]; rfl, (by first | (have h9 := open_e (D := D) hn1 hn2 (by omega) (by omega) (by omega); rw [h9]; rw [hrc44] at hf; exact hf) | (have h9 := open_f (D := D) hn1 hn2 (by omega) (by omega) (by omega); rw [h9]; exact hf)), nx29, ⟨.inr ⟨_, rfl, rfl, hlg⟩⟩, nx3, dl258, ⟨fun _ => ⟨_, rfl, rfl⟩, fun h => absurd hop.1 h⟩, by rw [hop.2]; exact hrc44, hw44, (fun x h => hx44 x h), (bf_hw44.mono (by omega)), (fun c h => by have h9 := h.1; omega), (df27), (df16), hm0⟩
            ·
              refine CW.skip ?_
              refine hK19 _ _ ?_
              refine CW.seq (fun K26 hK26 hE26 => ?_)
              refine CW.seq (fun K27 hK27 hE27 => ?_)
              refine CW.region ?_
              refine LR.v (Y.move rfl rfl) (Wd.u rfl) rfl rfl ?_
              refine LR.v (Y.neq rfl rfl rfl) (Wd.u rfl) rfl rfl ?_
              refine LR.nil ?_
              refine hK27 _ _ ?_
              refine CW.condp rfl (fun c60 => ?_) (fun c60 => ?_)
              ·
                refine CW.seq (fun K28 hK28 hE28 => ?_)
                refine CW.region ?_
                refine LR.v (Y.move rfl rfl) (Wd.u rfl) rfl rfl ?_
                refine LR.v (Y.assign rfl rfl) (Wd.u rfl) rfl rfl ?_
                refine LR.v (Y.assign rfl rfl) (Wd.u rfl) rfl rfl ?_
                refine LR.v (Y.assign rfl rfl) (Wd.u rfl) rfl rfl ?_
                refine LR.nil ?_
                refine hK28 _ _ ?_
                refine CW.ret (hE26 .ret nofun _ _ (hret .ret (.inr rfl) _ _ _ (res3 rfl rfl rfl rfl) ?_))
                have h8 : parE (D.readL p) ≠ 0 := by omega
                have hop := open_d (D := D) hn1 hn2 (by omega) h8
                exact ⟨.pointer none, 0, ⟨none, 0, 0⟩, [], _, _, (fun _ => False), by rw [hop]; rfl, by rw [hop]; exact hf, nx_hm0_hf, ⟨.inl ⟨rfl, rfl⟩⟩, (.inl rfl), DL.zK, ⟨fun h => absurd h (by rw [hop]; exact h8), fun _ => ⟨rfl, rfl⟩⟩, by rw [hop]; rfl, Rd.nil _ _ _ _, (fun x h => by cases h), (fun b h => h.elim), (fun c h => h.elim), (fun k hk b h => h.elim), (fun b h => h.elim), hm0⟩
              ·
                try (have h8 : (freshD D p (recs l44)).1 = 0 := (by omega); rw [lgN_0 h8, lgB_0 h8] at hlg)
                refine CW.skip ?_
                refine hK26 _ _ ?_
                refine CW.seq (fun K29 hK29 hE29 => ?_)
                refine CW.region ?_
                refine LR.v (Y.move rfl rfl) (Wd.u rfl) rfl rfl ?_
                refine LR.v (Y.move rfl rfl) (Wd.u rfl) rfl rfl ?_
                refine LR.v (Y.len hw44 rfl Tryd.runUnderlying22 rfl) (Wd.u rfl) rfl rfl ?_
                refine LR.v (Y.nilCheck rfl rfl) (Wd.u rfl) rfl rfl ?_
                refine LR.v (Y.fieldAddr hlg.pt rfl Tryd.runUnderlying65 rfl rfl Tryd.sizeOf3 (by decide) rfl) (Wd.u rfl) rfl rfl ?_
                refine LR.s (S.var1 hlg 2 ([ptr b, Str p, .int .i64 ((l44.length : Nat) : Int), .bool false]) rfl rfl rfl (rfl) Tryd.sizeOf3 (by simp) (rfl)) (Wd.u rfl) rfl (fun H17_5 r17_5 => ?_)
                obtain ⟨hlg, hs17_5⟩ := r17_5
                replace hs17_5 := hs17_5.md1
                replace hf := hf.upL hs17_5 (DKL.cons dj1 DKL.nil)
                replace mx := mx.upL hs17_5 (DFL.cons df2 DFL.nil)
                replace ow28 := ow28.upL hs17_5 (DL.cons dj6.symm DL.nil)
                replace hw44 := hw44.upL hs17_5 (DFL.cons df16 DFL.nil)
                replace hx44 := fun x hx_ => (hx44 x hx_).upL hs17_5 (DFL.cons df19 DFL.nil)
                replace hm0 := hm0.trL hs17_5 (MIL.cons (MI.app MI.z (nx3) (Nat.le_refl _)) MIL.nil)
                have hz9 := hs17_5.size
                refine LR.nil ?_
                refine hK29 _ _ ?_
                refine CW.seq (fun K30 hK30 hE30 => ?_)
                refine CW.region ?_
                refine LR.v (Y.move rfl rfl) (Wd.u rfl) rfl rfl ?_
                refine LR.v (Y.move rfl rfl) (Wd.u rfl) rfl rfl ?_
                refine LR.v (Y.assign rfl rfl) (Wd.u rfl) rfl rfl ?_
                refine LR.v (Y.assign rfl rfl) (Wd.u rfl) rfl rfl ?_
                refine LR.v (Y.assign rfl rfl) (Wd.u rfl) rfl rfl ?_
                refine LR.nil ?_
                refine hK30 _ _ ?_
                refine CW.ret (hret .ret (.inr rfl) _ _ _ (res3 rfl rfl rfl rfl) ?_)
                have hop : (openD D p).1 = 0 ∧ (openD D p).2.1 = parL (D.readL p) := by
                  first
                  | (have h9 := open_e (D := D) hn1 hn2 (by omega) (by omega) (by omega); have h8 : (freshD D p (parL (D.readL p))).1 = 0 := (by rw [← hrc44]; omega); rw [h8, if_pos rfl] at h9; rw [h9]; exact ⟨rfl, rfl⟩)
                  | (have h9 := open_f (D := D) hn1 hn2 (by omega) (by omega) (by omega); rw [h9]; exact ⟨rfl, rfl⟩)
                exact ⟨ptr H18.size, (H18.size + 1), t44, l44, _, _, _, by rw [hop.1]; rfl, (by first | (have h9 := open_e (D := D) hn1 hn2 (by omega) (by omega) (by omega); rw [h9]; rw [hrc44] at hf; exact hf) | (have h9 := open_f (D := D) hn1 hn2 (by omega) (by omega) (by omega); rw [h9]; exact hf)), nx_hm0_hf, ⟨.inr ⟨_, rfl, rfl, hlg⟩⟩, nx3, dj1, ⟨fun _ => ⟨_, rfl, rfl⟩, fun h => absurd hop.1 h⟩, by rw [hop.2]; exact hrc44, hw44, (fun x h => hx44 x h), (bf_hw44.mono (by omega)), (fun c h => by have h9 := h.1; omega), (df15), (df16), hm0⟩
          ·
            refine LR.gs rfl rfl rfl rfl rfl rfl ?_
            refine LR.gs rfl rfl rfl rfl rfl rfl ?_
            refine LR.gs rfl rfl rfl rfl rfl rfl ?_
            refine LR.gs rfl rfl rfl rfl rfl rfl ?_
            refine LR.v (Y.pick_f rfl rfl rfl) (Wd.u rfl) rfl rfl ?_
            refine LR.nil ?_
            refine hK20 _ _ ?_
            refine CW.cond_f rfl ?_
            refine CW.skip ?_
            refine hK19 _ _ ?_
            refine CW.seq (fun K31 hK31 hE31 => ?_)
            refine CW.seq (fun K32 hK32 hE32 => ?_)
            refine CW.region ?_
            refine LR.v (Y.move rfl rfl) (Wd.u rfl) rfl rfl ?_
            refine LR.v (Y.neq rfl rfl rfl) (Wd.u rfl) rfl rfl ?_
            refine LR.nil ?_
            refine hK32 _ _ ?_
            refine CW.condp rfl (fun c60 => ?_) (fun c60 => ?_)
            ·
              refine CW.seq (fun K33 hK33 hE33 => ?_)
              refine CW.region ?_
              refine LR.v (Y.move rfl rfl) (Wd.u rfl) rfl rfl ?_
              refine LR.v (Y.assign rfl rfl) (Wd.u rfl) rfl rfl ?_
              refine LR.v (Y.assign rfl rfl) (Wd.u rfl) rfl rfl ?_
              refine LR.v (Y.assign rfl rfl) (Wd.u rfl) rfl rfl ?_
              refine LR.nil ?_
              refine hK33 _ _ ?_
              refine CW.ret (hE31 .ret nofun _ _ (hret .ret (.inr rfl) _ _ _ (res3 rfl rfl rfl rfl) ?_))
              have h8 : parE (D.readL p) ≠ 0 := by omega
              have hop := open_d (D := D) hn1 hn2 (by omega) h8
              exact ⟨.pointer none, 0, ⟨none, 0, 0⟩, [], _, _, (fun _ => False), by rw [hop]; rfl, by rw [hop]; exact hf, nx_hm0_hf, ⟨.inl ⟨rfl, rfl⟩⟩, (.inl rfl), DL.zK, ⟨fun h => absurd h (by rw [hop]; exact h8), fun _ => ⟨rfl, rfl⟩⟩, by rw [hop]; rfl, Rd.nil _ _ _ _, (fun x h => by cases h), (fun b h => h.elim), (fun c h => h.elim), (fun k hk b h => h.elim), (fun b h => h.elim), hm0⟩
            ·
              try (have h8 : (freshD D p (recs l44)).1 = 0 := (by omega); rw [lgN_0 h8, lgB_0 h8] at hlg)
              refine CW.skip ?_
              refine hK31 _ _ ?_
              refine CW.seq (fun K34 hK34 hE34 => ?_)
              refine CW.region ?_
              refine LR.v (Y.move rfl rfl) (Wd.u rfl) rfl rfl ?_
              refine LR.v (Y.move rfl rfl) (Wd.u rfl) rfl rfl ?_
              refine LR.v (Y.len hw44 rfl Tryd.runUnderlying22 rfl) (Wd.u rfl) rfl rfl ?_
              refine LR.v (Y.nilCheck rfl rfl) (Wd.u rfl) rfl rfl ?_
              refine LR.v (Y.fieldAddr hlg.pt rfl Tryd.runUnderlying65 rfl rfl Tryd.sizeOf3 (by decide) rfl) (Wd.u rfl) rfl rfl ?_
              refine LR.s (S.var1 hlg 2 ([ptr b, Str p, .int .i64 ((l44.length : Nat) : Int), .bool false]) rfl rfl rfl (rfl) Tryd.sizeOf3 (by simp) (rfl)) (Wd.u rfl) rfl (fun H17_5 r17_5 => ?_)
              obtain ⟨hlg, hs17_5⟩ := r17_5
              replace hs17_5 := hs17_5.md1
              replace hf := hf.upL hs17_5 (DKL.cons dj1 DKL.nil)
              replace mx := mx.upL hs17_5 (DFL.cons df2 DFL.nil)
              replace ow28 := ow28.upL hs17_5 (DL.cons dj6.symm DL.nil)
              replace hw44 := hw44.upL hs17_5 (DFL.cons df16 DFL.nil)
              replace hx44 := fun x hx_ => (hx44 x hx_).upL hs17_5 (DFL.cons df19 DFL.nil)
              replace hm0 := hm0.trL hs17_5 (MIL.cons (MI.app MI.z (nx3) (Nat.le_refl _)) MIL.nil)
              have hz10 := hs17_5.size
              refine LR.nil ?_
              refine hK34 _ _ ?_
              refine CW.seq (fun K35 hK35 hE35 => ?_)
              refine CW.region ?_
              refine LR.v (Y.move rfl rfl) (Wd.u rfl) rfl rfl ?_
              refine LR.v (Y.move rfl rfl) (Wd.u rfl) rfl rfl ?_
              refine LR.v (Y.assign rfl rfl) (Wd.u rfl) rfl rfl ?_
              refine LR.v (Y.assign rfl rfl) (Wd.u rfl) rfl rfl ?_
              refine LR.v (Y.assign rfl rfl) (Wd.u rfl) rfl rfl ?_
              refine LR.nil ?_
              refine hK35 _ _ ?_
              refine CW.ret (hret .ret (.inr rfl) _ _ _ (res3 rfl rfl rfl rfl) ?_)
              have hop : (openD D p).1 = 0 ∧ (openD D p).2.1 = parL (D.readL p) := by
                first
                | (have h9 := open_e (D := D) hn1 hn2 (by omega) (by omega) (by omega); have h8 : (freshD D p (parL (D.readL p))).1 = 0 := (by rw [← hrc44]; omega); rw [h8, if_pos rfl] at h9; rw [h9]; exact ⟨rfl, rfl⟩)
                | (have h9 := open_f (D := D) hn1 hn2 (by omega) (by omega) (by omega); rw [h9]; exact ⟨rfl, rfl⟩)
              exact ⟨ptr H18.size, (H18.size + 1), t44, l44, _, _, _, by rw [hop.1]; rfl, (by first | (have h9 := open_e (D := D) hn1 hn2 (by omega) (by omega) (by omega); rw [h9]; rw [hrc44] at hf; exact hf) | (have h9 := open_f (D := D) hn1 hn2 (by omega) (by omega) (by omega); rw [h9]; exact hf)), nx_hm0_hf, ⟨.inr ⟨_, rfl, rfl, hlg⟩⟩, nx3, dj1, ⟨fun _ => ⟨_, rfl, rfl⟩, fun h => absurd hop.1 h⟩, by rw [hop.2]; exact hrc44, hw44, (fun x h => hx44 x h), (bf_hw44.mono (by omega)), (fun c h => by have h9 := h.1; omega), (df15), (df16), hm0⟩


/-- opened: there is a journal -/
theorem wopen_ok (mx_ : Int) (K : List Nat) (g : Gh) (b : Nat) (D : Dk) (p : Pth) (N : Nat) (w0 : World) (H0 : Heap) (hf : PDk K g H0 b D) (mx : MX mx_ H0) (bf_mx : BF (fun b => b = 0) H0.size) (dmx : DFL (fun b => b = 0) K) (hl : p.length ≤ 4294960000) (hB : Bs N D) (hN : N ≤ 80000000) (he : (openD D p).1 = 0) :
    Ct Tryd.prog w0 16 #[ptr b, Str p] H0 (fun r H2 => ∃ (lb : Nat) (t : SV) (l : List (SV × Rec)) (K2 : List Nat) (g2 : Gh) (G : Nat → Prop), r = .tuple #[ptr lb, t.v, .int .i64 0] ∧ PDk K2 g2 H2 b (openD D p).2.2 ∧ NxK K H0.size K2 ∧ Var 65 H2 lb [ptr b, Str p, .int .i64 (l.length : Int), .bool false] ∧ Nx 0 H0.size (lb + 1) ∧ DL (lb + 1) K2 ∧ recs l = (openD D p).2.1 ∧ Rd G H2 fP 1 t.v l ∧ (∀ x ∈ l, Rd G H2 fB 1 x.1.v x.2) ∧ BF G H2.size ∧ (∀ c, G c → H0.size ≤ c) ∧ DFL G K2 ∧ DF G (lb + 1) ∧ Mo (Ms K) H0 H2) := by
  refine (wopen_ct mx_ K g b D p N w0 H0 hf mx bf_mx dmx hl hB hN).mono ?_
  rintro r H2 ⟨lv, kl, t, l, K2, g2, G, rfl, h1, h2, h3, h4, h5, h6, h7, h8, h9, h11, h12, h13, h14, h10⟩
  obtain ⟨lb, rfl, rfl⟩ := h6.1 he
  exact ⟨lb, t, l, K2, g2, G, by rw [he]; rfl, h1, h2, h3.var.2, h4, h5, h7, h8, h9, h11, h12, h13, h14, h10⟩
end Go.Proofs.YtdliddjkacbggaaDoor.WalG
/-
  The disk: what single steps of a disk that goes come to: plain data.
-/
namespace Go.Proofs.YtdliddjkacbggaaDoor.SimS
open Go.Proofs.YtdliddjkacbggaaDoor.E Go.RowKit Go.Proofs.YtdliddjkacbggaaDoor.SimA Go.Proofs.YtdliddjkacbggaaDoor.SimB Go.Proofs.YtdliddjkacbggaaDoor.SimC Go.Proofs.YtdliddjkacbggaaDoor.SimD Go.Proofs.YtdliddjkacbggaaDoor.SimE Go.Proofs.YtdliddjkacbggaaDoor.SimF Go.Proofs.YtdliddjkacbggaaDoor.SimG Go.Proofs.YtdliddjkacbggaaDoor.SimH Go.Proofs.YtdliddjkacbggaaDoor.SimI Go.Proofs.YtdliddjkacbggaaDoor.SimK Go.Proofs.YtdliddjkacbggaaDoor.SimN Go.Proofs.YtdliddjkacbggaaDoor.SimQ Go.Proofs.YtdliddjkacbggaaDoor.SimR
set_option maxRecDepth 20000
set_option linter.unusedVariables false
set_option linter.unusedSimpArgs false
set_option linter.unusedSectionVars false

theorem lay_a {c m : Nat} {fs : List Fdt} {nw st : Nms} {lg : List Chg} {op : Nat} {p : Pth} {w : Wr} (hn : nameB p = true) (h1 : (w.on (Dk.wasL ⟨c, m, fs, nw, st, lg, op + 1, 0, false⟩ p) w.d.length).length ≤ m) (h2 : usedL fs nw + (w.on (Dk.wasL ⟨c, m, fs, nw, st, lg, op + 1, 0, false⟩ p) w.d.length).length ≤ c + (Dk.wasL ⟨c, m, fs, nw, st, lg, op + 1, 0, false⟩ p).length) :
    Dk.lay ⟨c, m, fs, nw, st, lg, op, 0, false⟩ p w = (0, Dk.write ⟨c, m, fs, nw, st, lg, op + 1, 0, false⟩ p w) := by
  have hb : Dk.begin ⟨c, m, fs, nw, st, lg, op, 0, false⟩ = (true, ⟨c, m, fs, nw, st, lg, op + 1, 0, false⟩) := by simp [Dk.begin]
  have he := layE_0 (D := ⟨c, m, fs, nw, st, lg, op + 1, 0, false⟩) hn (Nat.not_lt.2 h1) (Nat.not_lt.2 h2)
  rw [lay_go (by rw [hb]), hb]
  simp only [he, if_true]
theorem on_f (b : List UInt8) (d : List UInt8) : (⟨false, d⟩ : Wr).on b d.length = d := by simp [Wr.on]
theorem on_t (b : List UInt8) (d : List UInt8) : (⟨true, d⟩ : Wr).on b d.length = b ++ d := by simp [Wr.on]
end Go.Proofs.YtdliddjkacbggaaDoor.SimS
/-
  The disk: a file is published (plain data).
-/
namespace Go.Proofs.YtdliddjkacbggaaDoor.SimU
open Go.Proofs.YtdliddjkacbggaaDoor.E Go.RowKit Go.Proofs.YtdliddjkacbggaaDoor.SimA Go.Proofs.YtdliddjkacbggaaDoor.SimB Go.Proofs.YtdliddjkacbggaaDoor.SimC Go.Proofs.YtdliddjkacbggaaDoor.SimD Go.Proofs.YtdliddjkacbggaaDoor.SimE Go.Proofs.YtdliddjkacbggaaDoor.SimF Go.Proofs.YtdliddjkacbggaaDoor.SimG Go.Proofs.YtdliddjkacbggaaDoor.SimH Go.Proofs.YtdliddjkacbggaaDoor.SimI Go.Proofs.YtdliddjkacbggaaDoor.SimK Go.Proofs.YtdliddjkacbggaaDoor.SimN Go.Proofs.YtdliddjkacbggaaDoor.SimQ Go.Proofs.YtdliddjkacbggaaDoor.SimR Go.Proofs.YtdliddjkacbggaaDoor.SimS
set_option maxRecDepth 20000
set_option linter.unusedVariables false
set_option linter.unusedSimpArgs false
set_option linter.unusedSectionVars false

def startD (p d : Pth) (x : List UInt8) : Dk := ((((Dk.empty 1048576 65536).lay p ⟨false, x⟩).2.sync p).2.syncDir d).2
theorem start_1 {p : Pth} {x : List UInt8} (hn : nameB p = true) (h : x.length ≤ 3000) : (Dk.empty 1048576 65536).lay p ⟨false, x⟩ = (0, ⟨1048576, 65536, [⟨x, [], [⟨false, x⟩]⟩], [(p, 0)], [], [⟨[], p, some 0⟩], 1, 0, false⟩) := by
  unfold Dk.empty
  rw [lay_a hn (by simp only [on_f]; omega) (by simp only [on_f]; simp [usedL, Dk.wasL, mget]; omega)]
  simp [Dk.write, Dk.make, mget, nput, Dk.change, Chg.ap, Dk.putF, fget, on_f]
theorem start_2 {p : Pth} {x : List UInt8} (hn : nameB p = true) : Dk.sync ⟨1048576, 65536, [⟨x, [], [⟨false, x⟩]⟩], [(p, 0)], [], [⟨[], p, some 0⟩], 1, 0, false⟩ p = (0, ⟨1048576, 65536, [⟨x, x, []⟩], [(p, 0)], [], [⟨[], p, some 0⟩], 2, 0, false⟩) := by
  simp [Dk.sync, Dk.begin, Dk.look, hn, mget, Dk.syncF, Dk.putF, fget]
theorem start_3 {p d : Pth} {x : List UInt8} (hd : dirP p = d) (he : dirE d = 0) : Dk.syncDir ⟨1048576, 65536, [⟨x, x, []⟩], [(p, 0)], [], [⟨[], p, some 0⟩], 2, 0, false⟩ d = (0, ⟨1048576, 65536, [⟨x, x, []⟩], [(p, 0)], [(p, 0)], [], 3, 0, false⟩) := by
  simp [Dk.syncDir, Dk.begin, he, Dk.stayD, merge, hd, nput, Chg.dir]
theorem start_all {p d : Pth} {x : List UInt8} (hn : nameB p = true) (hd : dirP p = d) (he : dirE d = 0) (h : x.length ≤ 3000) :
    ((Dk.empty 1048576 65536).lay p ⟨false, x⟩).1 = 0 ∧ (((Dk.empty 1048576 65536).lay p ⟨false, x⟩).2.sync p).1 = 0 ∧ ((((Dk.empty 1048576 65536).lay p ⟨false, x⟩).2.sync p).2.syncDir d).1 = 0 ∧ startD p d x = ⟨1048576, 65536, [⟨x, x, []⟩], [(p, 0)], [(p, 0)], [], 3, 0, false⟩ := by
  unfold startD
  rw [start_1 hn h]
  simp only
  rw [start_2 hn]
  simp only
  rw [start_3 hd he]
  simp
theorem dead_ops {D : Dk} (h : D.dead = true) : D.begin = (false, D) := by simp [Dk.begin, h]
theorem last_ops {D : Dk} (h : D.dead = false) (h2 : D.left = 1) : D.begin = (false, { D with left := 0, dead := true }) := by unfold Dk.begin; rw [if_neg (by rw [h]; decide), if_pos h2]
theorem read_of {D : Dk} {p : Pth} {i : Nat} {x : List UInt8} (hd : D.dead = false) (hn : nameB p = true) (hg : mget D.now p = some i) (hx : (fget D.fs i).now = x) : D.readE p = 0 ∧ D.readL p = x := by
  have h1 : D.readE p = 0 := by unfold Dk.readE; rw [hd]; simp [Dk.look, hn, hg]
  exact ⟨h1, by unfold Dk.readL; rw [if_pos h1, was_some hg, hx]⟩
end Go.Proofs.YtdliddjkacbggaaDoor.SimU
/-
  The disk: a row of calls as an argument; a file that was synced stays (plain data).
-/
namespace Go.Proofs.YtdliddjkacbggaaDoor.SimY
open Go.Proofs.YtdliddjkacbggaaDoor.E Go.RowKit Go.Proofs.YtdliddjkacbggaaDoor.SimA Go.Proofs.YtdliddjkacbggaaDoor.SimB Go.Proofs.YtdliddjkacbggaaDoor.SimC Go.Proofs.YtdliddjkacbggaaDoor.SimD Go.Proofs.YtdliddjkacbggaaDoor.SimE Go.Proofs.YtdliddjkacbggaaDoor.SimF Go.Proofs.YtdliddjkacbggaaDoor.SimG Go.Proofs.YtdliddjkacbggaaDoor.SimH Go.Proofs.YtdliddjkacbggaaDoor.SimI Go.Proofs.YtdliddjkacbggaaDoor.SimK Go.Proofs.YtdliddjkacbggaaDoor.SimN Go.Proofs.YtdliddjkacbggaaDoor.SimQ Go.Proofs.YtdliddjkacbggaaDoor.SimR Go.Proofs.YtdliddjkacbggaaDoor.SimS Go.Proofs.YtdliddjkacbggaaDoor.SimU
set_option maxRecDepth 20000
set_option linter.unusedVariables false
set_option linter.unusedSimpArgs false
set_option linter.unusedSectionVars false

section
variable {H : Type} {enc : TypeId × Value → H} {P : Program} {W : World} {base : Nat} {sp : Nat → Bool} {held : Bool}
open Go.ChangeShapes Go.WideShapes Go.ChangeAt Go.RowKit Go.Deep
end
/-! ### a file that was synced -/
def OnlyK (p : Pth) (l : Nms) : Prop := mget l p = some 0 ∧ ∀ q, q ≠ p → mget l q ≠ some 0
structure Kp (p : Pth) (x : List UInt8) (D : Dk) : Prop where
  dead : D.dead = false
  left : D.left = 0
  now : OnlyK p D.now
  st : OnlyK p D.stays
  f : fget D.fs 0 = ⟨x, x, []⟩
  fl : 1 ≤ D.fs.length
  lg : ∀ c ∈ D.log, c.g ≠ p ∧ ∀ i, c.f = some i → i ≠ 0 ∧ c.n ≠ p
theorem OnlyK.ap {p : Pth} {l : Nms} {c : Chg} (h : OnlyK p l) (hg : c.g ≠ p) (hc : ∀ i, c.f = some i → i ≠ 0 ∧ c.n ≠ p) : OnlyK p (c.ap l) := by
  refine ⟨?_, fun q hq => ?_⟩
  · rw [mget_ap]; unfold Chg.at
    cases hf : c.f with
    | none => simp only; rw [if_neg (fun e => hg e.2.symm)]; exact h.1
    | some i => simp only; rw [if_neg (fun e => (hc i hf).2 e.symm), if_neg (fun e => hg e.2.symm)]; exact h.1
  · rw [mget_ap]; unfold Chg.at
    cases hf : c.f with
    | none => simp only; split; exact nofun; exact h.2 q hq
    | some i =>
      simp only; split
      · exact fun e => (hc i hf).1 (Option.some.inj e)
      · split; exact nofun; exact h.2 q hq
theorem OnlyK.apl {p : Pth} : ∀ {cs : List Chg} {l : Nms}, OnlyK p l → (∀ c ∈ cs, c.g ≠ p ∧ ∀ i, c.f = some i → i ≠ 0 ∧ c.n ≠ p) → OnlyK p (apl cs l)
  | [], l, h, _ => h
  | c :: cs, l, h, hc => OnlyK.apl (cs := cs) (h.ap (hc c List.mem_cons_self).1 (hc c List.mem_cons_self).2) (fun d hd => hc d (List.mem_cons_of_mem _ hd))
theorem begin_go {D : Dk} (h : D.dead = false) (h2 : D.left = 0) : D.begin = (true, { D with left := D.left - 1, ops := D.ops + 1 }) := by
  unfold Dk.begin; rw [if_neg (by rw [h]; decide), if_neg (by omega)]
theorem Kp.begin {p : Pth} {x : List UInt8} {D : Dk} (h : Kp p x D) : D.begin.1 = true ∧ Kp p x D.begin.2 := by
  rw [begin_go h.dead h.left]
  exact ⟨rfl, h.dead, by show D.left - 1 = 0; rw [h.left], h.now, h.st, h.f, h.fl, h.lg⟩
theorem Kp.put {p : Pth} {x : List UInt8} {D : Dk} (h : Kp p x D) {i : Nat} (hi : i ≠ 0) (y : Fdt) : Kp p x (D.putF i y) :=
  ⟨h.dead, h.left, h.now, h.st, by
    show (D.fs.set i y).getD 0 _ = _
    rw [List.getD_eq_getElem?_getD, List.getElem?_set_ne hi, ← List.getD_eq_getElem?_getD]; exact h.f, by rw [fl_put]; exact h.fl, h.lg⟩
theorem Kp.change {p : Pth} {x : List UInt8} {D : Dk} (h : Kp p x D) (c : Chg) (hg : c.g ≠ p) (hc : ∀ i, c.f = some i → i ≠ 0 ∧ c.n ≠ p) : Kp p x (D.change c) :=
  ⟨h.dead, h.left, h.now.ap hg hc, h.st, h.f, h.fl, fun d hd => by
    rcases List.mem_append.1 hd with hd | hd
    · exact h.lg d hd
    · rw [List.mem_singleton.1 hd]; exact ⟨hg, hc⟩⟩
theorem Kp.make {p q : Pth} {x : List UInt8} {D : Dk} (h : Kp p x D) (hq : q ≠ p) (hp : p ≠ []) : Kp p x (D.make q).1 ∧ (D.make q).2 ≠ 0 := by
  unfold Dk.make
  cases hm : mget D.now q with
  | some i => exact ⟨h, fun e => h.now.2 q hq (by rw [hm]; exact congrArg some e)⟩
  | none =>
    have h1 : Kp p x ({ D with fs := D.fs ++ [⟨[], [], []⟩] } : Dk) := ⟨h.dead, h.left, h.now, h.st, by
      show (D.fs ++ [(⟨[], [], []⟩ : Fdt)]).getD 0 ⟨[], [], []⟩ = _
      rw [List.getD_eq_getElem?_getD, List.getElem?_append_left h.fl, ← List.getD_eq_getElem?_getD]; exact h.f, by show 1 ≤ (D.fs ++ [(⟨[], [], []⟩ : Fdt)]).length; have := h.fl; simp, h.lg⟩
    exact ⟨h1.change _ (fun e => hp e.symm) (fun i hi => ⟨by rw [← Option.some.inj hi]; have := h.fl; omega, hq⟩), by have := h.fl; simp only; omega⟩
theorem Kp.write {p q : Pth} {x : List UInt8} {D : Dk} (h : Kp p x D) (hq : q ≠ p) (hp : p ≠ []) (w : Wr) : Kp p x (D.write q w) := by
  unfold Dk.write
  obtain ⟨h1, h2⟩ := h.make hq hp
  exact h1.put h2 _
theorem Kp.lay {p q : Pth} {x : List UInt8} {D : Dk} (h : Kp p x D) (hq : q ≠ p) (hp : p ≠ []) (w : Wr) : Kp p x (D.lay q w).2 := by
  obtain ⟨h1, h2⟩ := h.begin
  rw [lay_go h1]
  simp only; split
  · exact h2.write hq hp w
  · exact h2
theorem Kp.sync {p q : Pth} {x : List UInt8} {D : Dk} (h : Kp p x D) (hq : q ≠ p) : Kp p x (D.sync q).2 := by
  obtain ⟨h1, h2⟩ := h.begin
  rw [sync_go h1]
  simp only; split
  · rename_i h3
    obtain ⟨_, i, hi⟩ := look_0 h3
    rw [hi]
    exact h2.put (fun e => h2.now.2 q hq (by rw [hi]; exact congrArg some e)) _
  · exact h2
theorem Kp.rename {p q r : Pth} {x : List UInt8} {D : Dk} (h : Kp p x D) (hq : q ≠ p) (hr : r ≠ p) : Kp p x (D.rename q r).2 := by
  obtain ⟨h1, h2⟩ := h.begin
  rw [ren_go h1]
  simp only; split
  · rename_i h3
    have h4 : D.begin.2.look q = 0 := by
      have := h3.1; unfold Dk.renE at this
      split at this
      · cases this
      · split at this
        · cases this
        · exact this
    obtain ⟨_, i, hi⟩ := look_0 h4
    refine h2.change _ hq (fun j hj => ⟨?_, hr⟩)
    rw [hi] at hj
    exact fun e => h2.now.2 q hq (by rw [hi]; have := Option.some.inj hj; simp at this; rw [this, e])
  · exact h2
theorem Kp.syncDir {p : Pth} {x : List UInt8} {D : Dk} (h : Kp p x D) (hA : Asc D.now) (n : Pth) : Kp p x (D.syncDir n).2 := by
  obtain ⟨h1, h2⟩ := h.begin
  have e := (begin_same D).2.2.2.1
  rw [sd_go h1]
  simp only; split
  · refine ⟨h2.dead, h2.left, h2.now, ?_, h2.f, h2.fl, fun c hc => h2.lg c (List.mem_filter.1 hc).1⟩
    have hA2 : Asc D.begin.2.now := by rw [e]; exact hA
    refine ⟨?_, fun q hq => ?_⟩
    · show mget (merge D.begin.2.now D.begin.2.stays n) p = some 0
      rw [mget_merge hA2]; split
      · exact h2.now.1
      · exact h2.st.1
    · show mget (merge D.begin.2.now D.begin.2.stays n) q ≠ some 0
      rw [mget_merge hA2]; split
      · exact h2.now.2 q hq
      · exact h2.st.2 q hq
  · exact h2
theorem crashD_keep {p : Pth} {picks : List Int} {D : Dk} (hU : ∀ c ∈ D.log, c.g ≠ p ∧ ∀ i, c.f = some i → i ≠ 0 ∧ c.n ≠ p) : ∀ (L : List Pth) (s : Nms × Nat), OnlyK p s.1 → OnlyK p (L.foldl (crashD picks D) s).1
  | [], s, h => h
  | y :: L, s, h => by
    rw [List.foldl_cons]
    refine crashD_keep hU L _ ?_
    rw [crashD_st]; exact h.apl (fun c hc => hU c (chgs_mem (List.mem_of_mem_take hc)).1)
theorem crashF_keep {x : List UInt8} (picks : List Int) : ∀ (L : Nms) (s : List Fdt × Nat), fget s.1 0 = ⟨x, x, []⟩ → fget (L.foldl (crashF picks) s).1 0 = ⟨x, x, []⟩
  | [], s, h => h
  | y :: L, s, h => by
    rw [List.foldl_cons]
    refine crashF_keep picks L _ ?_
    unfold crashF
    simp only
    split
    · exact h
    · rename_i hw
      have hy : y.2 ≠ 0 := fun e => hw (by rw [e, h])
      show (s.1.set y.2 _).getD 0 _ = _
      rw [List.getD_eq_getElem?_getD, List.getElem?_set_ne hy, ← List.getD_eq_getElem?_getD]; exact h
theorem Kp.crash {p : Pth} {x : List UInt8} {D : Dk} (h : Kp p x D) (picks : List Int) : Kp p x (D.crash picks) := by
  have c1 := crashD_keep (picks := picks) h.lg D.dirty (D.stays, 0) h.st
  exact ⟨rfl, rfl, c1, c1, crashF_keep picks _ _ h.f, by show 1 ≤ (D.crashA picks).1.length; unfold Dk.crashA; rw [crashF_len]; exact h.fl, nofun⟩
theorem Kp.read {p : Pth} {x : List UInt8} {D : Dk} (h : Kp p x D) (hn : nameB p = true) : D.readE p = 0 ∧ D.readL p = x := read_of h.dead hn h.now.1 (by rw [h.f])
abbrev pK : Pth := [100, 47, 107, 101, 101, 112]
theorem Kp.start {x : List UInt8} (h : x.length ≤ 3000) : Kp pK x (startD pK [100] x) := by
  rw [(start_all (p := pK) (d := [100]) (by decide) (by decide) (by decide) h).2.2.2]
  refine ⟨rfl, rfl, ⟨rfl, fun q hq => ?_⟩, ⟨rfl, fun q hq => ?_⟩, rfl, Nat.le_refl _, nofun⟩
  · simp [mget, hq]
  · simp [mget, hq]
end Go.Proofs.YtdliddjkacbggaaDoor.SimY
/-
  The disk: from the operation on at which it was to stop it is dead (plain data).
-/
namespace Go.Proofs.YtdliddjkacbggaaDoor.SimYA
open Go.Proofs.YtdliddjkacbggaaDoor.E Go.RowKit Go.Proofs.YtdliddjkacbggaaDoor.SimA Go.Proofs.YtdliddjkacbggaaDoor.SimB Go.Proofs.YtdliddjkacbggaaDoor.SimC Go.Proofs.YtdliddjkacbggaaDoor.SimD Go.Proofs.YtdliddjkacbggaaDoor.SimE Go.Proofs.YtdliddjkacbggaaDoor.SimF Go.Proofs.YtdliddjkacbggaaDoor.SimG Go.Proofs.YtdliddjkacbggaaDoor.SimH Go.Proofs.YtdliddjkacbggaaDoor.SimI Go.Proofs.YtdliddjkacbggaaDoor.SimK Go.Proofs.YtdliddjkacbggaaDoor.SimN Go.Proofs.YtdliddjkacbggaaDoor.SimQ Go.Proofs.YtdliddjkacbggaaDoor.SimR Go.Proofs.YtdliddjkacbggaaDoor.SimS Go.Proofs.YtdliddjkacbggaaDoor.SimU Go.Proofs.YtdliddjkacbggaaDoor.SimY
set_option maxRecDepth 20000
set_option linter.unusedVariables false
set_option linter.unusedSimpArgs false
set_option linter.unusedSectionVars false

structure St (n m : Nat) (D : Dk) : Prop where
  al : m < n → D.dead = false ∧ D.left = n - m ∧ D.ops = m
  de : n ≤ m → D.dead = true ∧ D.ops = n - 1
def Pns (D : Dk) : Prop := Inn paths D.now ∧ Inn paths D.stays ∧ ∀ c ∈ D.log, ∀ i, c.f = some i → c.n ∈ paths
def Sm (D E : Dk) : Prop := E.cap = D.cap ∧ E.most = D.most ∧ E.ops = D.ops ∧ E.left = D.left ∧ E.dead = D.dead
theorem Sm.rfl {D : Dk} : Sm D D := ⟨Eq.refl _, Eq.refl _, Eq.refl _, Eq.refl _, Eq.refl _⟩
structure Dd (n m : Nat) (D : Dk) : Prop where
  st : St n m D
  cap : D.cap = 65536
  most : D.most = 1024
  bs : Bs (504 * min m n) D
  pi : Pns D
theorem begin_alive {D : Dk} (h : D.dead = false) (h2 : D.left ≠ 1) : D.begin = (true, { D with left := D.left - 1, ops := D.ops + 1 }) := by
  unfold Dk.begin; rw [if_neg (by rw [h]; decide), if_neg h2]
theorem St.begin {n m : Nat} {D : Dk} (h : St n m D) (hn : 1 ≤ n) : St n (m + 1) D.begin.2 ∧ (D.begin.1 = true ↔ m + 1 < n) := by
  by_cases hm : m < n
  · obtain ⟨h1, h2, h3⟩ := h.al hm
    by_cases hl : D.left = 1
    · rw [last_ops h1 hl]
      refine ⟨⟨fun h4 => by omega, fun h4 => ⟨rfl, by show D.ops = n - 1; omega⟩⟩, by simp; omega⟩
    · rw [begin_alive h1 hl]
      refine ⟨⟨fun h4 => ⟨h1, by show D.left - 1 = n - (m + 1); omega, by show D.ops + 1 = m + 1; omega⟩, fun h4 => by omega⟩, by simp; omega⟩
  · obtain ⟨h1, h2⟩ := h.de (by omega)
    rw [dead_ops h1]
    exact ⟨⟨fun h4 => by omega, fun h4 => ⟨h1, h2⟩⟩, by simp; omega⟩
theorem bs_dead {k : Nat} {D : Dk} (h : Bs k D) (hb : D.begin.1 = false) : Bs k D.begin.2 := by
  unfold Dk.begin at hb ⊢
  split
  · exact h
  · rename_i h1
    split
    · exact ⟨h.an, h.ast, h.lg, h.op, h.fl, h.f, h.un, h.ld⟩
    · rename_i h2; rw [if_neg h1, if_neg h2] at hb; cases hb
theorem Dd.step {n m r : Nat} {D D2 : Dk} (h : Dd n m D) (hn : 1 ≤ n) (hs : Sm D.begin.2 D2 ∧ (r = 11 ↔ D.begin.1 = false) ∧ (D.begin.1 = false → D2 = D.begin.2)) (hB : Bs (504 * m + 504) D2) (hp : Pns D2) : Dd n (m + 1) D2 ∧ (r = 11 ↔ n ≤ m + 1) := by
  obtain ⟨⟨e1, e2, e3, e4, e5⟩, hr, hd⟩ := hs
  obtain ⟨s1, s2⟩ := h.st.begin hn
  obtain ⟨b1, b2, _⟩ := begin_same D
  refine ⟨⟨⟨fun h4 => ?_, fun h4 => ?_⟩, by rw [e1, b1]; exact h.cap, by rw [e2, b2]; exact h.most, ?_, hp⟩, ?_⟩
  · obtain ⟨q1, q2, q3⟩ := s1.al h4; exact ⟨by rw [e5]; exact q1, by rw [e4]; exact q2, by rw [e3]; exact q3⟩
  · obtain ⟨q1, q2⟩ := s1.de h4; exact ⟨by rw [e5]; exact q1, by rw [e3]; exact q2⟩
  · cases hb : D.begin.1 with
    | true => have := s2.1 hb; exact hB.mono (by omega)
    | false => rw [hd hb]; exact (bs_dead h.bs hb).mono (by omega)
  · rw [hr]
    cases hb : D.begin.1 with
    | true => have := s2.1 hb; simp; omega
    | false => simp; exact Classical.byContradiction (fun h5 => by have := s2.2 (by omega); rw [hb] at this; cases this)
theorem pns_begin {D : Dk} (h : Pns D) : Pns D.begin.2 := by
  obtain ⟨_, _, _, e4, e5, e6, _⟩ := begin_same D
  unfold Pns; rw [e4, e5, e6]; exact h
theorem pns_change {D : Dk} (h : Pns D) {c : Chg} (hc : ∀ i, c.f = some i → c.n ∈ paths) : Pns (D.change c) :=
  ⟨inn_ap h.1 hc, h.2.1, fun d hd i hi => by
    rcases List.mem_append.1 hd with hd | hd
    · exact h.2.2 d hd i hi
    · rw [List.mem_singleton.1 hd] at hi ⊢; exact hc i hi⟩
theorem sm_write (D : Dk) (p : Pth) (w : Wr) : Sm D (D.write p w) := by
  unfold Dk.write Dk.make
  cases mget D.now p with
  | some i => exact Sm.rfl
  | none => exact Sm.rfl
theorem pns_write {D : Dk} (h : Pns D) {p : Pth} (hp : p ∈ paths) (w : Wr) : Pns (D.write p w) := by
  unfold Dk.write Dk.make
  cases mget D.now p with
  | some i => exact h
  | none =>
    have h1 : Pns ({ D with fs := D.fs ++ [⟨[], [], []⟩] } : Dk) := h
    exact pns_change (c := ⟨[], p, some D.fs.length⟩) h1 (fun _ _ => hp)
theorem layE_ne (D : Dk) (p : Pth) (w : Wr) : D.layE p w ≠ 11 := by
  unfold Dk.layE; split; · decide
  split; · decide
  split <;> decide
theorem look_ne (D : Dk) (p : Pth) : D.look p ≠ 11 := by
  rcases look_or D p with e | e | e <;> rw [e] <;> decide
theorem dirE_ne (p : Pth) : dirE p ≠ 11 := by unfold dirE; split <;> decide
theorem step_lay (D : Dk) (p : Pth) (w : Wr) : Sm D.begin.2 (D.lay p w).2 ∧ ((D.lay p w).1 = 11 ↔ D.begin.1 = false) ∧ (D.begin.1 = false → (D.lay p w).2 = D.begin.2) := by
  cases hb : D.begin.1 with
  | false => rw [lay_dead hb]; exact ⟨Sm.rfl, by simp, fun _ => rfl⟩
  | true =>
    rw [lay_go hb]
    refine ⟨?_, by simp [layE_ne], nofun⟩
    simp only; split
    · exact sm_write _ _ _
    · exact Sm.rfl
theorem step_sync (D : Dk) (p : Pth) : Sm D.begin.2 (D.sync p).2 ∧ ((D.sync p).1 = 11 ↔ D.begin.1 = false) ∧ (D.begin.1 = false → (D.sync p).2 = D.begin.2) := by
  cases hb : D.begin.1 with
  | false => rw [sync_dead hb]; exact ⟨Sm.rfl, by simp, fun _ => rfl⟩
  | true =>
    rw [sync_go hb]
    refine ⟨?_, by simp [look_ne], nofun⟩
    simp only; split
    · exact Sm.rfl
    · exact Sm.rfl
theorem step_ren (D : Dk) (p q : Pth) : Sm D.begin.2 (D.rename p q).2 ∧ ((D.rename p q).1 = 11 ↔ D.begin.1 = false) ∧ (D.begin.1 = false → (D.rename p q).2 = D.begin.2) := by
  cases hb : D.begin.1 with
  | false => rw [ren_dead hb]; exact ⟨Sm.rfl, by simp, fun _ => rfl⟩
  | true =>
    rw [ren_go hb]
    have h : D.begin.2.renE p q ≠ 11 := by
      unfold Dk.renE; split; · decide
      split; · decide
      exact look_ne _ _
    refine ⟨?_, by simp [h], nofun⟩
    simp only; split
    · exact Sm.rfl
    · exact Sm.rfl
theorem step_sd (D : Dk) (p : Pth) : Sm D.begin.2 (D.syncDir p).2 ∧ ((D.syncDir p).1 = 11 ↔ D.begin.1 = false) ∧ (D.begin.1 = false → (D.syncDir p).2 = D.begin.2) := by
  cases hb : D.begin.1 with
  | false => rw [sd_dead hb]; exact ⟨Sm.rfl, by simp, fun _ => rfl⟩
  | true =>
    rw [sd_go hb]
    refine ⟨?_, by simp [dirE_ne], nofun⟩
    simp only; split
    · exact Sm.rfl
    · exact Sm.rfl
theorem Dd.lay {n m : Nat} {D : Dk} (h : Dd n m D) (hn : 1 ≤ n) {p : Pth} (hp : p ∈ paths) (w : Wr) (hw : w.d.length ≤ 500) : Dd n (m + 1) (D.lay p w).2 ∧ ((D.lay p w).1 = 11 ↔ n ≤ m + 1) := by
  refine h.step hn (step_lay D p w) ((h.bs.lay p w).mono (by omega)) ?_
  cases hb : D.begin.1 with
  | false => rw [lay_dead hb]; exact pns_begin h.pi
  | true =>
    rw [lay_go hb]; simp only; split
    · exact pns_write (pns_begin h.pi) hp w
    · exact pns_begin h.pi
theorem Dd.sync {n m : Nat} {D : Dk} (h : Dd n m D) (hn : 1 ≤ n) (p : Pth) : Dd n (m + 1) (D.sync p).2 ∧ ((D.sync p).1 = 11 ↔ n ≤ m + 1) := by
  refine h.step hn (step_sync D p) ((h.bs.sync p).mono (by omega)) ?_
  cases hb : D.begin.1 with
  | false => rw [sync_dead hb]; exact pns_begin h.pi
  | true =>
    rw [sync_go hb]; simp only; split
    · exact pns_begin h.pi
    · exact pns_begin h.pi
theorem Dd.rename {n m : Nat} {D : Dk} (h : Dd n m D) (hn : 1 ≤ n) (p : Pth) {q : Pth} (hq : q ∈ paths) : Dd n (m + 1) (D.rename p q).2 ∧ ((D.rename p q).1 = 11 ↔ n ≤ m + 1) := by
  refine h.step hn (step_ren D p q) ((h.bs.rename p q).mono (by omega)) ?_
  cases hb : D.begin.1 with
  | false => rw [ren_dead hb]; exact pns_begin h.pi
  | true =>
    rw [ren_go hb]; simp only; split
    · exact pns_change (pns_begin h.pi) (fun _ _ => hq)
    · exact pns_begin h.pi
theorem Dd.syncDir {n m : Nat} {D : Dk} (h : Dd n m D) (hn : 1 ≤ n) (p : Pth) : Dd n (m + 1) (D.syncDir p).2 ∧ ((D.syncDir p).1 = 11 ↔ n ≤ m + 1) := by
  refine h.step hn (step_sd D p) ((h.bs.syncDir p).mono (by omega)) ?_
  cases hb : D.begin.1 with
  | false => rw [sd_dead hb]; exact pns_begin h.pi
  | true =>
    rw [sd_go hb]; simp only; split
    · have h1 := pns_begin h.pi
      have hA : Asc D.begin.2.now := h.bs.begin.an
      refine ⟨h1.1, fun q hq => ?_, fun c hc => h1.2.2 c (List.mem_filter.1 hc).1⟩
      have hq : (mget (merge D.begin.2.now D.begin.2.stays p) q).isSome = true := hq
      rw [mget_merge hA] at hq
      split at hq
      · exact h1.1 q hq
      · exact h1.2.1 q hq
    · exact pns_begin h.pi
theorem Dd.dd {n m : Nat} {D : Dk} (h : Dd n m D) : D.dead = true ↔ n ≤ m := by
  constructor
  · intro h1
    exact Classical.byContradiction (fun h2 => by have := (h.st.al (by omega)).1; rw [h1] at this; cases this)
  · exact fun h1 => (h.st.de h1).1
theorem Dd.read {n m : Nat} {D : Dk} (h : Dd n m D) (p : Pth) : D.readE p = 11 ↔ n ≤ m := by
  rw [← h.dd]; unfold Dk.readE
  cases hd : D.dead with
  | true => simp
  | false => simp [look_ne]
theorem Dd.list {n m : Nat} {D : Dk} (h : Dd n m D) (p : Pth) : D.listE p = 11 ↔ n ≤ m := by
  rw [← h.dd]; unfold Dk.listE
  cases hd : D.dead with
  | true => simp
  | false => simp [dirE_ne]
theorem Dd.ops {n m : Nat} {D : Dk} (h : Dd n m D) : D.ops = min m (n - 1) := by
  by_cases hm : m < n
  · have := (h.st.al hm).2.2; omega
  · have := (h.st.de (by omega)).2; omega
theorem Dd.start (n : Nat) (hn : 1 ≤ n) : Dd n 0 ((Dk.empty 65536 1024).stop n) :=
  ⟨⟨fun _ => ⟨rfl, by show n = n - 0; omega, rfl⟩, fun h => by omega⟩, rfl, rfl, ((Bs.empty 65536 1024).stop n).mono (by omega), nofun, nofun, nofun⟩
end Go.Proofs.YtdliddjkacbggaaDoor.SimYA
/-
  The disk: how full it is (plain data).
-/
namespace Go.Proofs.YtdliddjkacbggaaDoor.SimYE
open Go.Proofs.YtdliddjkacbggaaDoor.E Go.RowKit Go.Proofs.YtdliddjkacbggaaDoor.SimA Go.Proofs.YtdliddjkacbggaaDoor.SimB Go.Proofs.YtdliddjkacbggaaDoor.SimC Go.Proofs.YtdliddjkacbggaaDoor.SimD Go.Proofs.YtdliddjkacbggaaDoor.SimE Go.Proofs.YtdliddjkacbggaaDoor.SimF Go.Proofs.YtdliddjkacbggaaDoor.SimG Go.Proofs.YtdliddjkacbggaaDoor.SimH Go.Proofs.YtdliddjkacbggaaDoor.SimI Go.Proofs.YtdliddjkacbggaaDoor.SimK Go.Proofs.YtdliddjkacbggaaDoor.SimN Go.Proofs.YtdliddjkacbggaaDoor.SimQ Go.Proofs.YtdliddjkacbggaaDoor.SimR Go.Proofs.YtdliddjkacbggaaDoor.SimS Go.Proofs.YtdliddjkacbggaaDoor.SimU Go.Proofs.YtdliddjkacbggaaDoor.SimY Go.Proofs.YtdliddjkacbggaaDoor.SimYA
set_option maxRecDepth 20000
set_option linter.unusedVariables false
set_option linter.unusedSimpArgs false
set_option linter.unusedSectionVars false

/-- each name has a file of its own -/
def Own1 (D : Dk) : Prop := (∀ p i, mget D.now p = some i → i < D.fs.length) ∧ ∀ p q i, mget D.now p = some i → mget D.now q = some i → p = q
theorem fget_set {fs : List Fdt} {i j : Nat} {x : Fdt} : fget (fs.set i x) j = if j = i ∧ i < fs.length then x else fget fs j := by
  unfold fget
  by_cases hi : i < fs.length
  · by_cases e : j = i
    · rw [if_pos ⟨e, hi⟩, e, List.getD_eq_getElem?_getD, List.getElem?_set_self hi]; rfl
    · rw [if_neg (fun h => e h.1), List.getD_eq_getElem?_getD, List.getElem?_set_ne (Ne.symm e), ← List.getD_eq_getElem?_getD]
  · rw [if_neg (fun h => hi h.2), List.set_eq_of_length_le (by omega)]
theorem fget_app {fs : List Fdt} {j : Nat} (h : j < fs.length) (x : Fdt) : fget (fs ++ [x]) j = fget fs j := by
  unfold fget; rw [List.getD_eq_getElem?_getD, List.getElem?_append_left h, ← List.getD_eq_getElem?_getD]
theorem wasL_eq (D : Dk) (p : Pth) : D.wasL p = match mget D.now p with | some i => (fget D.fs i).now | none => [] := rfl
theorem Own1.write {D : Dk} (h : Own1 D) (p : Pth) (w : Wr) : Own1 (D.write p w) ∧ ∀ q, (D.write p w).wasL q = if q = p then w.on (D.wasL p) w.d.length else D.wasL q := by
  cases hm : mget D.now p with
  | some i =>
    have hi := h.1 p i hm
    have e : D.write p w = D.putF i ⟨w.on (fget D.fs i).now w.d.length, (fget D.fs i).stays, (fget D.fs i).w ++ [w]⟩ := by unfold Dk.write Dk.make; rw [hm]
    rw [e]
    refine ⟨⟨fun q j hq => by rw [fl_put]; exact h.1 q j hq, h.2⟩, fun q => ?_⟩
    rw [wasL_eq, wasL_eq D q, was_some hm]
    show (match mget D.now q with | some j => (fget (D.fs.set i _) j).now | none => []) = _
    cases hq : mget D.now q with
    | none => rw [if_neg (fun e => by rw [e, hm] at hq; cases hq)]
    | some j =>
      simp only
      rw [fget_set]
      by_cases e : q = p
      · rw [e, hm] at hq
        rw [if_pos e, if_pos ⟨(Option.some.inj hq).symm, hi⟩]
      · rw [if_neg e, if_neg (fun h2 => e (h.2 q p i (by rw [hq, h2.1]) hm))]
  | none =>
    have e : D.write p w = (mk1 D p).putF D.fs.length ⟨w.on [] w.d.length, [], [w]⟩ := by
      unfold Dk.write Dk.make; rw [hm]
      show (mk1 D p).putF D.fs.length ⟨w.on (fget (mk1 D p).fs D.fs.length).now w.d.length, (fget (mk1 D p).fs D.fs.length).stays, (fget (mk1 D p).fs D.fs.length).w ++ [w]⟩ = _
      rw [mk1_get]; rfl
    have hn : (mk1 D p).now = nput D.now p D.fs.length := by simp [mk1, Dk.change, Chg.ap]
    have hfs : (mk1 D p).fs = D.fs ++ [⟨[], [], []⟩] := rfl
    rw [e]
    refine ⟨⟨fun q j hq => ?_, fun q r j hq hr => ?_⟩, fun q => ?_⟩
    · rw [fl_put, hfs]
      have hq : mget (mk1 D p).now q = some j := hq
      rw [hn, mget_nput] at hq
      simp only [List.length_append, List.length_cons, List.length_nil]
      split at hq
      · have := Option.some.inj hq; omega
      · have := h.1 q j hq; omega
    · have hq : mget (mk1 D p).now q = some j := hq
      have hr : mget (mk1 D p).now r = some j := hr
      rw [hn, mget_nput] at hq hr
      split at hq
      · rename_i e1
        split at hr
        · rename_i e2; rw [e1, e2]
        · have h3 := Option.some.inj hq; have := h.1 r j hr; omega
      · split at hr
        · have h3 := Option.some.inj hr; have := h.1 q j hq; omega
        · exact h.2 q r j hq hr
    · rw [wasL_eq, wasL_eq D q, was_none hm]
      show (match mget (mk1 D p).now q with | some j => (fget ((mk1 D p).fs.set D.fs.length _) j).now | none => []) = _
      rw [hn, mget_nput, hfs]
      by_cases e1 : q = p
      · rw [if_pos e1, if_pos e1]; simp only; rw [fget_set, if_pos ⟨rfl, by simp⟩]
      · rw [if_neg e1, if_neg e1]
        cases hq : mget D.now q with
        | none => rfl
        | some j =>
          have hj := h.1 q j hq
          simp only
          rw [fget_set, if_neg (fun h2 => by omega), fget_app hj]

end Go.Proofs.YtdliddjkacbggaaDoor.SimYE
/-
  A journal on a disk that goes on: what its steps come to (plain data).
-/
namespace Go.Proofs.YtdliddjkacbggaaDoor.WalH
open Go.Proofs.YtdliddjkacbggaaDoor.E Go.RowKit Go.Proofs.YtdliddjkacbggaaDoor.SimA Go.Proofs.YtdliddjkacbggaaDoor.SimB Go.Proofs.YtdliddjkacbggaaDoor.SimC Go.Proofs.YtdliddjkacbggaaDoor.SimD Go.Proofs.YtdliddjkacbggaaDoor.SimE Go.Proofs.YtdliddjkacbggaaDoor.SimF Go.Proofs.YtdliddjkacbggaaDoor.SimG Go.Proofs.YtdliddjkacbggaaDoor.SimH Go.Proofs.YtdliddjkacbggaaDoor.SimI Go.Proofs.YtdliddjkacbggaaDoor.SimQ Go.Proofs.YtdliddjkacbggaaDoor.SimR Go.Proofs.YtdliddjkacbggaaDoor.SimS Go.Proofs.YtdliddjkacbggaaDoor.SimU Go.Proofs.YtdliddjkacbggaaDoor.SimY Go.Proofs.YtdliddjkacbggaaDoor.SimYA Go.Proofs.YtdliddjkacbggaaDoor.SimYE Go.Proofs.YtdliddjkacbggaaDoor.WalA Go.Proofs.YtdliddjkacbggaaDoor.WalB Go.Proofs.YtdliddjkacbggaaDoor.WalC Go.Proofs.YtdliddjkacbggaaDoor.WalD Go.Proofs.YtdliddjkacbggaaDoor.WalE Go.Proofs.YtdliddjkacbggaaDoor.WalF Go.Proofs.YtdliddjkacbggaaDoor.WalG
set_option maxRecDepth 20000
set_option linter.unusedVariables false
set_option linter.unusedSimpArgs false
set_option linter.unusedSectionVars false

theorem tw_append {a b : List UInt8} {f : UInt8 → Bool} (h : ∀ x ∈ a, f x = true) : (a ++ b).takeWhile f = a ++ b.takeWhile f := by
  induction a with
  | nil => rfl
  | cons x a ih => rw [List.cons_append, List.takeWhile_cons, if_pos (h x List.mem_cons_self), ih (fun y hy => h y (List.mem_cons_of_mem _ hy)), List.cons_append]
theorem headP_new (p : Pth) : headP (newP p) = headP p := by
  unfold headP newP
  have h : ((p ++ [46, 110, 101, 119]).reverse.takeWhile (fun c => decide (c ≠ 47))).length = 4 + (p.reverse.takeWhile (fun c => decide (c ≠ 47))).length := by
    rw [List.reverse_append, tw_append (by decide), List.length_append]; rfl
  rw [h, List.length_append, List.length_cons, List.length_cons, List.length_cons, List.length_cons, List.length_nil]
  rw [List.take_append_of_le_length (by omega)]
  congr 1; omega
theorem dirP_new {p : Pth} (h : nameB p = true) (h2 : nameB (newP p) = true) : dirP (newP p) = dirP p := by unfold dirP; rw [if_pos h, if_pos h2, headP_new]
theorem blt_new (p : Pth) : blt p (newP p) := by
  unfold blt newP
  induction p with
  | nil => decide
  | cons x p ih => simp only [List.cons_append, Op.bytesLess]; simpa using ih
theorem new_ne (p : Pth) : newP p ≠ p := fun e => by have := congrArg List.length e; rw [newP_len] at this; omega
theorem new_nn (p : Pth) : ¬ newP p = [] := by simp [newP]
structure One (cap most : Nat) (p : Pth) (x : List UInt8) (D : Dk) : Prop where
  dead : D.dead = false
  left : D.left = 0
  cap : D.cap = cap
  most : D.most = most
  nw : ∃ i, D.now = [(p, i)] ∧ i < D.fs.length ∧ (fget D.fs i).now = x
section
variable {cap most : Nat} {p : Pth} {x : List UInt8} {D : Dk}
theorem One.used (h : One cap most p x D) : D.used = x.length := by
  obtain ⟨i, h1, _, h2⟩ := h.nw
  unfold Dk.used usedL; rw [h1]; simp [h2]
theorem One.was (h : One cap most p x D) : D.wasL p = x := by
  obtain ⟨i, h1, _, h2⟩ := h.nw
  unfold Dk.wasL; rw [h1]; simp [mget, h2]
theorem One.read (h : One cap most p x D) (hn : nameB p = true) : D.readE p = 0 ∧ D.readL p = x := by
  obtain ⟨i, h1, _, h2⟩ := h.nw
  exact read_of h.dead hn (by rw [h1]; simp [mget]) h2
theorem One.begin (h : One cap most p x D) : D.begin = (true, D.begin.2) ∧ One cap most p x D.begin.2 := by
  have e := begin_go h.dead h.left
  rw [e]
  exact ⟨rfl, h.dead, by show D.left - 1 = 0; rw [h.left], h.cap, h.most, h.nw⟩
theorem One.lay (h : One cap most p x D) (hn : nameB p = true) (w : Wr) :
    ((D.lay p w).1 = 5 ∧ most < (w.on x w.d.length).length ∧ One cap most p x (D.lay p w).2) ∨ ((D.lay p w).1 = 12 ∧ cap < (w.on x w.d.length).length ∧ One cap most p x (D.lay p w).2) ∨
    ((D.lay p w).1 = 0 ∧ (w.on x w.d.length).length ≤ cap ∧ One cap most p (w.on x w.d.length) (D.lay p w).2) := by
  obtain ⟨hb, h1⟩ := h.begin
  rw [lay_go (by rw [hb])]
  by_cases c1 : most < (w.on x w.d.length).length
  · rw [layE_5 hn (by rw [h1.was, h1.most]; exact c1)]
    exact .inl ⟨rfl, c1, h1⟩
  by_cases c2 : cap < (w.on x w.d.length).length
  · rw [layE_12 hn (by rw [h1.was, h1.most]; exact c1) (by rw [h1.was, h1.cap, h1.used]; omega)]
    exact .inr (.inl ⟨rfl, c2, h1⟩)
  rw [layE_0 hn (by rw [h1.was, h1.most]; exact c1) (by rw [h1.was, h1.cap, h1.used]; omega)]
  refine .inr (.inr ⟨rfl, by omega, ?_⟩)
  simp only [if_true]
  obtain ⟨s1, s2, s3, s4, s5⟩ := sm_write D.begin.2 p w
  obtain ⟨i, e1, e2, e3⟩ := h1.nw
  have hm : mget D.begin.2.now p = some i := by rw [e1]; simp [mget]
  refine ⟨by rw [s5]; exact h1.dead, by rw [s4]; exact h1.left, by rw [s1]; exact h1.cap, by rw [s2]; exact h1.most, i, ?_⟩
  unfold Dk.write Dk.make
  rw [hm]
  refine ⟨e1, by show i < (D.begin.2.fs.set i _).length; rw [List.length_set]; exact e2, ?_⟩
  show (fget (D.begin.2.fs.set i _) i).now = _
  rw [fget_set, if_pos ⟨rfl, e2⟩, e3]
theorem One.sync (h : One cap most p x D) (hn : nameB p = true) : (D.sync p).1 = 0 ∧ One cap most p x (D.sync p).2 := by
  obtain ⟨hb, h1⟩ := h.begin
  obtain ⟨i, e1, e2, e3⟩ := h1.nw
  have hm : mget D.begin.2.now p = some i := by rw [e1]; simp [mget]
  have hl : D.begin.2.look p = 0 := by unfold Dk.look; rw [if_pos hn, hm]; rfl
  rw [sync_go (by rw [hb]), hl]
  refine ⟨rfl, ?_⟩
  simp only [if_true]
  rw [hm]
  refine ⟨h1.dead, h1.left, h1.cap, h1.most, i, e1, by show i < (D.begin.2.fs.set i _).length; rw [List.length_set]; exact e2, ?_⟩
  show (fget (D.begin.2.fs.set i _) i).now = _
  rw [fget_set, if_pos ⟨rfl, e2⟩]; exact e3
/-- a new journal beside the elder one, or beside none -/
structure Two (cap most : Nat) (p : Pth) (x : List UInt8) (D : Dk) : Prop where
  dead : D.dead = false
  left : D.left = 0
  cap : D.cap = cap
  most : D.most = most
  nw : ∃ k, mget D.now (newP p) = some k ∧ k < D.fs.length ∧ (fget D.fs k).now = x ∧ (Chg.ap ⟨newP p, p, some k⟩ D.now) = [(p, k)]
theorem Two.begin (h : Two cap most p x D) : D.begin = (true, D.begin.2) ∧ Two cap most p x D.begin.2 := by
  have e := begin_go h.dead h.left
  rw [e]
  exact ⟨rfl, h.dead, by show D.left - 1 = 0; rw [h.left], h.cap, h.most, h.nw⟩
theorem Two.sync (h : Two cap most p x D) (hn : nameB (newP p) = true) : (D.sync (newP p)).1 = 0 ∧ Two cap most p x (D.sync (newP p)).2 := by
  obtain ⟨hb, h1⟩ := h.begin
  obtain ⟨k, e1, e2, e3, e4⟩ := h1.nw
  have hl : D.begin.2.look (newP p) = 0 := by unfold Dk.look; rw [if_pos hn, e1]; rfl
  rw [sync_go (by rw [hb]), hl]
  refine ⟨rfl, ?_⟩
  simp only [if_true]
  rw [e1]
  refine ⟨h1.dead, h1.left, h1.cap, h1.most, k, e1, by show k < (D.begin.2.fs.set k _).length; rw [List.length_set]; exact e2, ?_, e4⟩
  show (fget (D.begin.2.fs.set k _) k).now = _
  rw [fget_set, if_pos ⟨rfl, e2⟩]; exact e3
theorem Two.rename (h : Two cap most p x D) (n1 : nameB p = true) (n2 : nameB (newP p) = true) : (D.rename (newP p) p).1 = 0 ∧ One cap most p x (D.rename (newP p) p).2 := by
  obtain ⟨hb, h1⟩ := h.begin
  obtain ⟨k, e1, e2, e3, e4⟩ := h1.nw
  have hl : D.begin.2.renE (newP p) p = 0 := by rw [renE_l n2 n1 (dirP_new n1 n2)]; unfold Dk.look; rw [if_pos n2, e1]; rfl
  rw [ren_go (by rw [hb]), hl]
  refine ⟨rfl, ?_⟩
  rw [if_pos ⟨rfl, new_ne p⟩, e1]
  exact ⟨h1.dead, h1.left, h1.cap, h1.most, k, e4, e2, e3⟩
theorem One.syncDir (h : One cap most p x D) {d : Pth} (hd : dirE d = 0) : (D.syncDir d).1 = 0 ∧ One cap most p x (D.syncDir d).2 := by
  obtain ⟨hb, h1⟩ := h.begin
  rw [sd_go (by rw [hb]), hd]
  exact ⟨rfl, h1.dead, h1.left, h1.cap, h1.most, h1.nw⟩
theorem fresh_run {D1 : Dk} {l : List Rec} (h : D.lay (newP p) ⟨false, encW l⟩ = (0, D1)) (h1 : Two cap most p (encW l) D1) (n1 : nameB p = true) (n2 : nameB (newP p) = true) (hd : dirE (dirP p) = 0) : (freshD D p l).1 = 0 ∧ One cap most p (encW l) (freshD D p l).2 := by
  obtain ⟨a1, a2⟩ := h1.sync n2
  obtain ⟨b1, b2⟩ := a2.rename n1 n2
  obtain ⟨c1, c2⟩ := b2.syncDir hd
  unfold freshD frS
  simp only [runD, h, if_true, a1, b1, c1]
  exact ⟨trivial, c2⟩
theorem fresh_bad {l : List Rec} (h : (D.lay (newP p) ⟨false, encW l⟩).1 ≠ 0) : freshD D p l = D.lay (newP p) ⟨false, encW l⟩ := by
  unfold freshD frS runD; rw [if_neg h]
theorem write_two {q : Pth} {k : Nat} {w : Wr} (hm : mget D.now q = none) : D.write q w = ({ D with fs := (D.fs ++ [(⟨[], [], []⟩ : Fdt)]).set D.fs.length ⟨w.on [] w.d.length, [], [w]⟩, now := nput D.now q D.fs.length, log := D.log ++ [⟨[], q, some D.fs.length⟩] } : Dk) := by
  unfold Dk.write Dk.make
  rw [hm]
  simp only [Dk.change, Dk.putF, Chg.ap, if_true]
  rw [show fget (D.fs ++ [(⟨[], [], []⟩ : Fdt)]) D.fs.length = ⟨[], [], []⟩ by simp [fget]]
  rfl
theorem One.fresh (h : One cap most p x D) (n1 : nameB p = true) (n2 : nameB (newP p) = true) (hd : dirE (dirP p) = 0) (l : List Rec) (hm : (encW l).length ≤ most) :
    ((freshD D p l).1 = 12 ∧ cap < x.length + (encW l).length ∧ One cap most p x (freshD D p l).2) ∨ ((freshD D p l).1 = 0 ∧ x.length + (encW l).length ≤ cap ∧ One cap most p (encW l) (freshD D p l).2) := by
  obtain ⟨hb, h1⟩ := h.begin
  obtain ⟨i, e1, e2, e3⟩ := h1.nw
  have hq : mget D.begin.2.now (newP p) = none := by rw [e1]; simp [mget, new_ne]
  have hw : D.begin.2.wasL (newP p) = [] := by unfold Dk.wasL; rw [hq]
  have ho : ((⟨false, encW l⟩ : Wr).on [] (encW l).length) = encW l := on_f _ _
  have hlg := lay_go (D := D) (p := newP p) (w := ⟨false, encW l⟩) (by rw [hb])
  by_cases c2 : cap < x.length + (encW l).length
  · rw [layE_12 n2 (by rw [hw, h1.most]; simp only [ho]; omega) (by rw [hw, h1.cap, h1.used]; simp only [ho, List.length_nil]; omega)] at hlg
    have hbad : (D.lay (newP p) ⟨false, encW l⟩).1 ≠ 0 := by rw [hlg]; exact Nat.succ_ne_zero 11
    rw [fresh_bad hbad, hlg]
    exact .inl ⟨rfl, c2, h1⟩
  · rw [layE_0 n2 (by rw [hw, h1.most]; simp only [ho]; omega) (by rw [hw, h1.cap, h1.used]; simp only [ho, List.length_nil]; omega)] at hlg
    simp only [if_true] at hlg
    refine .inr ?_
    have hT : Two cap most p (encW l) (D.begin.2.write (newP p) ⟨false, encW l⟩) := by
      rw [write_two (k := 0) hq]
      refine ⟨h1.dead, h1.left, h1.cap, h1.most, D.begin.2.fs.length, ?_, ?_, ?_, ?_⟩
      · show mget (nput _ _ _) _ = _; rw [mget_nput, if_pos rfl]
      · simp
      · show (fget ((_ : List Fdt).set _ _) _).now = _
        rw [fget_set, if_pos ⟨rfl, by simp⟩]; exact ho
      · show Chg.ap _ (nput D.begin.2.now _ _) = _
        have h9 : ¬ p = newP p := fun e => new_ne p e.symm
        rw [e1]; simp [Chg.ap, nput, blt_new, mdel, new_ne, blt_irr, new_nn, h9]
    have := fresh_run hlg hT n1 n2 hd
    exact ⟨this.1, by omega, this.2⟩
theorem One.start (n1 : nameB p = true) (n2 : nameB (newP p) = true) (hd : dirE (dirP p) = 0) (hm : 8 ≤ most) (hc : 8 ≤ cap) : (openD (Dk.empty cap most) p).1 = 0 ∧ (openD (Dk.empty cap most) p).2.1 = [] ∧ One cap most p (encW []) (openD (Dk.empty cap most) p).2.2 := by
  have hr : (Dk.empty cap most).readE p = 2 := by simp [Dk.readE, Dk.empty, Dk.look, n1, mget]
  have e8 : encW [] = W8 := rfl
  have hlg : (Dk.empty cap most).lay (newP p) ⟨false, encW []⟩ = (0, Dk.write ⟨cap, most, [], [], [], [], 1, 0, false⟩ (newP p) ⟨false, encW []⟩) := by
    unfold Dk.empty
    rw [lay_a n2 (by simp only [on_f]; exact hm) (by simp only [on_f]; simp [usedL, Dk.wasL, mget]; exact hc)]
  have hT : Two cap most p (encW []) (Dk.write ⟨cap, most, [], [], [], [], 1, 0, false⟩ (newP p) ⟨false, encW []⟩) := by
    rw [write_two (k := 0) rfl]
    refine ⟨rfl, rfl, rfl, rfl, 0, ?_, ?_, ?_, ?_⟩
    · show mget (nput _ _ _) _ = _; rw [mget_nput, if_pos rfl]; rfl
    · simp
    · simp [fget, on_f]
    · simp [Chg.ap, nput, mdel, new_nn]
  have := fresh_run hlg hT n1 n2 hd
  rw [open_b n1 n2 hr]
  exact ⟨this.1, rfl, this.2⟩
theorem runD_c0 {f : Stp} {fs : List Stp} {D : Dk} (h : (f D).1 = 0) : runD (f :: fs) D = runD fs (f D).2 := by rw [runD, if_pos h]
theorem runD_c1 {f : Stp} {fs : List Stp} {D : Dk} (h : (f D).1 ≠ 0) : runD (f :: fs) D = f D := by rw [runD, if_neg h]
/-- a record more: done, or no room -/
theorem One.recd (h : One cap most p x D) (hn : nameB p = true) (n : Nat) (r : Rec) (hm : x.length + 13 + r.length ≤ most) :
    ((runD (apS p n r) D).1 = 12 ∧ (One cap most p x (runD (apS p n r) D).2 ∨ One cap most p (x ++ layW n r) (runD (apS p n r) D).2) ∧ cap < x.length + 13 + r.length) ∨ ((runD (apS p n r) D).1 = 0 ∧ One cap most p (x ++ recW n r) (runD (apS p n r) D).2) := by
  have hl := layW_len n r
  have on1 : ∀ b : List UInt8, (⟨true, [67]⟩ : Wr).on b 1 = b ++ [67] := fun b => by simp [Wr.on]
  unfold apS
  rcases h.lay hn ⟨true, layW n r⟩ with ⟨_, e, _⟩ | ⟨e1, e2, e3⟩ | ⟨e1, e2, e3⟩
  · simp only [on_t, List.length_append] at e; omega
  · simp only [on_t, List.length_append] at e2
    rw [runD_c1 (by rw [e1]; decide)]
    exact .inl ⟨e1, .inl e3, by omega⟩
  · simp only [on_t, List.length_append] at e3 e2
    obtain ⟨f1, f2⟩ := e3.sync hn
    rw [runD_c0 e1, runD_c0 f1]
    rcases f2.lay hn ⟨true, [67]⟩ with ⟨_, e, _⟩ | ⟨g1, g2, g3⟩ | ⟨g1, g2, g3⟩
    · simp only [List.length_singleton, on1, List.length_append] at e; omega
    · simp only [List.length_singleton, on1, List.length_append] at g2
      rw [runD_c1 (by rw [g1]; decide)]
      exact .inl ⟨g1, .inr g3, by omega⟩
    · simp only [List.length_singleton, on1] at g3
      obtain ⟨k1, k2⟩ := g3.sync hn
      rw [runD_c0 g1, runD_c0 k1]
      refine .inr ⟨rfl, ?_⟩
      unfold recW; rw [← List.append_assoc]; exact k2
end

end Go.Proofs.YtdliddjkacbggaaDoor.WalH
