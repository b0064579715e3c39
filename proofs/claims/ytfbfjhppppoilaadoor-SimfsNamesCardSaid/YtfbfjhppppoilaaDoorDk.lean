/-
  The document's disk, as plain data: files, names, what stays of them; what each call does: no condition.
-/
import Derived.Test.YtfbfjhppppoilaaDoorMr
namespace Go.Proofs.YtfbfjhppppoilaaDoor.E
set_option linter.unusedVariables false
set_option linter.unusedSimpArgs false
set_option linter.unusedSectionVars false
set_option linter.unnecessarySimpa false

abbrev Pth := List UInt8
def blt (a b : Pth) : Prop := Op.bytesLess a b = true
instance (a b : Pth) : Decidable (blt a b) := inferInstanceAs (Decidable (_ = _))
theorem blt_irr (a : Pth) : ¬ blt a a := by
  unfold blt
  induction a with
  | nil => simp [Op.bytesLess]
  | cons x a ih => simp only [Op.bytesLess]; simpa using ih
theorem blt_total : ∀ {a b : Pth}, ¬ blt a b → ¬ blt b a → a = b
  | [], [], _, _ => rfl
  | [], _ :: _, h, _ => by simp [blt, Op.bytesLess] at h
  | _ :: _, [], _, h => by simp [blt, Op.bytesLess] at h
  | x :: a, y :: b, h1, h2 => by
    simp only [blt, Op.bytesLess] at h1 h2
    by_cases e1 : x < y
    · simp [e1] at h1
    · by_cases e2 : y < x
      · simp [e2] at h2
      · have : x = y := by apply UInt8.toNat.inj; rw [UInt8.lt_iff_toNat_lt] at e1 e2; omega
        subst this
        rw [blt_total (a := a) (b := b) (by simpa [blt] using h1) (by simpa [blt] using h2)]
theorem blt_trans : ∀ {a b c : Pth}, blt a b → blt b c → blt a c
  | [], [], _, h, _ => by simp [blt, Op.bytesLess] at h
  | _ :: _, [], _, h, _ => by simp [blt, Op.bytesLess] at h
  | _, _ :: _, [], _, h => by simp [blt, Op.bytesLess] at h
  | [], _ :: _, _ :: _, _, _ => by simp [blt, Op.bytesLess]
  | x :: a, y :: b, z :: c, h1, h2 => by
    simp only [blt, Op.bytesLess, Bool.or_eq_true, decide_eq_true_eq, Bool.and_eq_true, beq_iff_eq] at h1 h2 ⊢
    rcases h1 with h1 | ⟨rfl, h1⟩
    · rcases h2 with h2 | ⟨rfl, h2⟩
      · left; rw [UInt8.lt_iff_toNat_lt] at *; omega
      · exact .inl h1
    · rcases h2 with h2 | ⟨rfl, h2⟩
      · exact .inl h2
      · exact .inr ⟨rfl, blt_trans h1 h2⟩
theorem blt_asym {a b : Pth} (h : blt a b) : ¬ blt b a := fun h2 => blt_irr a (blt_trans h h2)
theorem blt_ne {a b : Pth} (h : blt a b) : a ≠ b := fun e => by subst e; exact blt_irr a h

/-- texts that rise, each once -/
def Rise (l : List Pth) : Prop := l.Pairwise blt
theorem rise_nodup {l : List Pth} (h : Rise l) : l.Nodup := by
  rw [List.nodup_iff_pairwise_ne]; exact h.imp (fun h => blt_ne h)
theorem rise_ext : ∀ {a b : List Pth}, Rise a → Rise b → (∀ x, x ∈ a ↔ x ∈ b) → a = b
  | [], [], _, _, _ => rfl
  | [], y :: b, _, _, h => by have := (h y).2 List.mem_cons_self; cases this
  | x :: a, [], _, _, h => by have := (h x).1 List.mem_cons_self; cases this
  | x :: a, y :: b, ha, hb, h => by
    unfold Rise at ha hb
    rw [List.pairwise_cons] at ha hb
    have e : x = y := by
      rcases List.mem_cons.1 ((h x).1 List.mem_cons_self) with e | h1
      · exact e
      · rcases List.mem_cons.1 ((h y).2 List.mem_cons_self) with e | h2
        · exact e.symm
        · exact absurd (ha.1 _ h2) (blt_asym (hb.1 _ h1))
    subst e
    congr 1
    refine rise_ext ha.2 hb.2 (fun z => ⟨fun hz => ?_, fun hz => ?_⟩)
    · rcases List.mem_cons.1 ((h z).1 (List.mem_cons_of_mem _ hz)) with e | h1
      · subst e; exact absurd (ha.1 _ hz) (blt_irr _)
      · exact h1
    · rcases List.mem_cons.1 ((h z).2 (List.mem_cons_of_mem _ hz)) with e | h1
      · subst e; exact absurd (hb.1 _ hz) (blt_irr _)
      · exact h1

/-! ### names -/
abbrev Nms := List (Pth × Nat)
def Asc (l : Nms) : Prop := l.Pairwise (fun x y => blt x.1 y.1)
theorem Asc.rise {l : Nms} (h : Asc l) : Rise (l.map (·.1)) := by unfold Rise; rw [List.pairwise_map]; exact h
theorem Asc.nodup {l : Nms} (h : Asc l) : (l.map (·.1)).Nodup := rise_nodup h.rise
theorem Asc.filter {l : Nms} (h : Asc l) (p : Pth × Nat → Bool) : Asc (l.filter p) := List.Pairwise.filter _ h
def nput : Nms → Pth → Nat → Nms
  | [], p, i => [(p, i)]
  | x :: l, p, i => if blt x.1 p then x :: nput l p i else if x.1 = p then (p, i) :: l else (p, i) :: x :: l
theorem mget_nput (l : Nms) (p : Pth) (i : Nat) (q : Pth) : mget (nput l p i) q = if q = p then some i else mget l q := by
  induction l with
  | nil => simp [nput, mget]
  | cons x l ih =>
    unfold nput
    split
    · rename_i h
      simp only [mget, ih]
      by_cases hq : q = x.1
      · have : ¬ q = p := fun e => blt_ne h (by rw [← hq, e])
        rw [if_pos hq, if_pos hq, if_neg this]
      · rw [if_neg hq, if_neg hq]
    · split
      · rename_i h1 h2
        simp only [mget]
        by_cases hq : q = p
        · simp [hq]
        · rw [if_neg hq, if_neg hq, if_neg (fun e => hq (e.trans h2))]
      · simp only [mget]
theorem mem_nput {l : Nms} {p : Pth} {i : Nat} {x : Pth × Nat} (h : x ∈ nput l p i) : x = (p, i) ∨ x ∈ l := by
  induction l with
  | nil => simp [nput] at h; exact .inl h
  | cons y l ih =>
    unfold nput at h
    split at h
    · rcases List.mem_cons.1 h with e | h
      · exact .inr (by rw [e]; exact List.mem_cons_self)
      · rcases ih h with e | h
        · exact .inl e
        · exact .inr (List.mem_cons_of_mem _ h)
    · split at h
      · rcases List.mem_cons.1 h with e | h
        · exact .inl e
        · exact .inr (List.mem_cons_of_mem _ h)
      · rcases List.mem_cons.1 h with e | h
        · exact .inl e
        · exact .inr h
theorem asc_nput {l : Nms} (h : Asc l) (p : Pth) (i : Nat) : Asc (nput l p i) := by
  induction l with
  | nil => exact List.pairwise_singleton _ _
  | cons x l ih =>
    unfold Asc at h ⊢
    rw [List.pairwise_cons] at h
    unfold nput
    split
    · rename_i h1
      rw [List.pairwise_cons]
      refine ⟨fun y hy => ?_, ih h.2⟩
      rcases mem_nput hy with e | hy
      · rw [e]; exact h1
      · exact h.1 y hy
    · rename_i h1
      split
      · rename_i h2
        rw [List.pairwise_cons]
        exact ⟨fun y hy => by rw [← h2]; exact h.1 y hy, h.2⟩
      · rename_i h2
        have h3 : blt p x.1 := Classical.byContradiction (fun h3 => h2 (blt_total h1 h3))
        rw [List.pairwise_cons]
        refine ⟨fun y hy => ?_, List.pairwise_cons.2 h⟩
        rcases List.mem_cons.1 hy with e | hy
        · rw [e]; exact h3
        · exact blt_trans h3 (h.1 y hy)
theorem asc_ext {a b : Nms} (ha : Asc a) (hb : Asc b) (h : ∀ p, mget a p = mget b p) : a = b := by
  have hk : a.map (·.1) = b.map (·.1) := rise_ext ha.rise hb.rise (fun x => by rw [← isSome_iff_key, ← isSome_iff_key, h])
  have key : ∀ (a b : Nms), a.map (·.1) = b.map (·.1) → Asc a → Asc b → (∀ p, mget a p = mget b p) → a = b := by
    intro a
    induction a with
    | nil => intro b hk _ _ _; cases b with
      | nil => rfl
      | cons y b => cases hk
    | cons x a ih =>
      intro b hk ha hb h
      cases b with
      | nil => cases hk
      | cons y b =>
        simp only [List.map_cons, List.cons.injEq] at hk
        have e2 : x.2 = y.2 := by
          have := h x.1
          simp only [mget, if_pos, hk.1] at this
          exact Option.some.inj this
        have e : x = y := Prod.ext hk.1 e2
        subst e
        congr 1
        refine ih b hk.2 (List.pairwise_cons.1 ha).2 (List.pairwise_cons.1 hb).2 (fun p => ?_)
        have h1 := h p
        simp only [mget] at h1
        by_cases hp : p = x.1
        · have n1 : mget a p = none := Option.not_isSome_iff_eq_none.1 (fun q => by
            rw [isSome_iff_key] at q
            obtain ⟨z, hz, e⟩ := List.mem_map.1 q
            exact blt_ne ((List.pairwise_cons.1 ha).1 z hz) (by rw [e, hp]))
          have n2 : mget b p = none := Option.not_isSome_iff_eq_none.1 (fun q => by
            rw [isSome_iff_key] at q
            obtain ⟨z, hz, e⟩ := List.mem_map.1 q
            exact blt_ne ((List.pairwise_cons.1 hb).1 z hz) (by rw [e, hp]))
          rw [n1, n2]
        · rw [if_neg hp, if_neg hp] at h1; exact h1
  exact key a b hk ha hb h
theorem asc_del {l : Nms} (h : Asc l) (p : Pth) : Asc (mdel l p) := List.Pairwise.filter _ h
theorem mget_filter {l : Nms} {f : Pth → Bool} (p : Pth) : mget (l.filter (fun x => f x.1)) p = if f p = true then mget l p else none := by
  induction l with
  | nil => simp [mget]
  | cons x l ih =>
    by_cases hx : f x.1 = true
    · rw [List.filter_cons_of_pos (by simpa using hx)]
      simp only [mget, ih]
      by_cases hp : p = x.1
      · rw [if_pos hp, if_pos hp, hp, if_pos hx]
      · rw [if_neg hp, if_neg hp]
    · rw [List.filter_cons_of_neg (by simpa using hx), ih]
      simp only [mget]
      by_cases hp : p = x.1
      · rw [hp, if_neg hx, if_neg hx]
      · rw [if_neg hp]

/-! ### paths -/
def okc (c : UInt8) : Bool := (97 ≤ c && c ≤ 122) || (48 ≤ c && c ≤ 57) || c == 46 || c == 95 || c == 45 || c == 47
/-- a slash stands right: not at an end, not behind another one -/
def slk (p : Pth) : Bool := (List.range p.length).all (fun i => !(p.getD i 0 == 47 && (i == 0 || i == p.length - 1 || p.getD (i - 1) 0 == 47)))
def nameB (p : Pth) : Bool := decide (1 ≤ p.length) && decide (p.length ≤ 100) && p.all okc && slk p
/-- the part ahead of the last slash -/
def headP (p : Pth) : Pth := p.take (p.length - 1 - (p.reverse.takeWhile (fun c => c ≠ 47)).length)
def dirP (p : Pth) : Pth := if nameB p = true then headP p else []

/-! ### changes of names -/
structure Chg where
  g : Pth
  n : Pth
  f : Option Nat
  deriving DecidableEq
def Chg.ap (c : Chg) (l : Nms) : Nms :=
  let l1 := if c.g = [] then l else mdel l c.g
  match c.f with
  | none => l1
  | some i => nput l1 c.n i
/-- the directory it is a change of -/
def Chg.dir (c : Chg) : Pth := dirP (if c.g = [] then c.n else c.g)
def apl (cs : List Chg) (l : Nms) : Nms := cs.foldl (fun l c => c.ap l) l
theorem apl_nil (l : Nms) : apl [] l = l := rfl
theorem apl_app (a b : List Chg) (l : Nms) : apl (a ++ b) l = apl b (apl a l) := by unfold apl; rw [List.foldl_append]
theorem asc_ap {l : Nms} (h : Asc l) (c : Chg) : Asc (c.ap l) := by
  unfold Chg.ap
  have h1 : Asc (if c.g = [] then l else mdel l c.g) := by split; exact h; exact asc_del h _
  cases c.f with
  | none => exact h1
  | some i => exact asc_nput h1 _ _
theorem asc_apl {l : Nms} (h : Asc l) : ∀ cs : List Chg, Asc (apl cs l) := by
  intro cs
  induction cs generalizing l with
  | nil => exact h
  | cons c cs ih => exact ih (asc_ap h c)
/-- what a change does to what a path has -/
def Chg.at (c : Chg) (q : Pth) (o : Option Nat) : Option Nat :=
  match c.f with
  | none => if c.g ≠ [] ∧ q = c.g then none else o
  | some i => if q = c.n then some i else if c.g ≠ [] ∧ q = c.g then none else o
theorem mget_ap (c : Chg) (l : Nms) (q : Pth) : mget (c.ap l) q = c.at q (mget l q) := by
  unfold Chg.ap Chg.at
  cases c.f with
  | none =>
    simp only
    by_cases hg : c.g = []
    · simp [hg]
    · rw [if_neg hg, mget_del]; simp [hg]
  | some i =>
    simp only
    rw [mget_nput]
    by_cases hg : c.g = []
    · simp [hg]
    · rw [if_neg hg, mget_del]; simp [hg]

/-! ### files -/
structure Wr where
  b : Bool
  d : List UInt8
  deriving DecidableEq, Inhabited
structure Fdt where
  now : List UInt8
  stays : List UInt8
  w : List Wr
  deriving DecidableEq, Inhabited
def Wr.on (w : Wr) (b : List UInt8) (n : Nat) : List UInt8 := (if w.b = true then b else []) ++ w.d.take n
def Wr.ways (w : Wr) : Nat := max 1 (2 * w.d.length)
def Wr.part (w : Wr) (b : List UInt8) (way : Nat) : List UInt8 :=
  if way < w.d.length ∨ w.d.length = 0 then w.on b (min (way + 1) w.d.length) else w.on b (way - w.d.length) ++ List.replicate (w.d.length - (way - w.d.length)) 0
def waysF (ws : List Wr) : Nat := 1 + (ws.map Wr.ways).sum
def wayW : List Wr → List UInt8 → Nat → List UInt8
  | [], b, _ => b
  | w :: ws, b, k => if k = 0 then b else if k ≤ w.ways then w.part b (k - 1) else wayW ws (w.on b w.d.length) (k - w.ways)
/-- all of them -/
def onAll (ws : List Wr) (b : List UInt8) : List UInt8 := ws.foldl (fun b w => w.on b w.d.length) b

/-! ### a disk -/
structure Dk where
  cap : Nat
  most : Nat
  fs : List Fdt
  now : Nms
  stays : Nms
  log : List Chg
  ops : Nat
  left : Nat
  dead : Bool
def fget (fs : List Fdt) (i : Nat) : Fdt := fs.getD i ⟨[], [], []⟩
def Dk.empty (cap most : Nat) : Dk := ⟨cap, most, [], [], [], [], 0, 0, false⟩
def Dk.begin (d : Dk) : Bool × Dk :=
  if d.dead = true then (false, d)
  else if d.left = 1 then (false, { d with left := 0, dead := true })
  else (true, { d with left := d.left - 1, ops := d.ops + 1 })
/-- 0, or the error of a look for a path -/
def Dk.look (d : Dk) (p : Pth) : Nat := if nameB p = true then (if (mget d.now p).isSome then 0 else 2) else 7
def usedL (fs : List Fdt) (l : Nms) : Nat := (l.map (fun x => (fget fs x.2).now.length)).sum
def Dk.used (d : Dk) : Nat := usedL d.fs d.now
def Dk.chgs (d : Dk) (n : Pth) : List Chg := d.log.filter (fun c => c.dir = n)
def Dk.change (d : Dk) (c : Chg) : Dk := { d with now := c.ap d.now, log := d.log ++ [c] }
/-- the file of a path, made if there is none -/
def Dk.make (d : Dk) (p : Pth) : Dk × Nat := match mget d.now p with
  | some i => (d, i)
  | none => (({ d with fs := d.fs ++ [⟨[], [], []⟩] } : Dk).change ⟨[], p, some d.fs.length⟩, d.fs.length)
def Dk.wasL (d : Dk) (p : Pth) : List UInt8 := match mget d.now p with
  | some i => (fget d.fs i).now
  | none => []
def Dk.putF (d : Dk) (i : Nat) (x : Fdt) : Dk := { d with fs := d.fs.set i x }
def Dk.write (d : Dk) (p : Pth) (w : Wr) : Dk :=
  let (d2, i) := d.make p
  d2.putF i ⟨w.on (fget d2.fs i).now w.d.length, (fget d2.fs i).stays, (fget d2.fs i).w ++ [w]⟩
def Dk.layE (d : Dk) (p : Pth) (w : Wr) : Nat :=
  if nameB p = false then 7
  else if d.most < (w.on (d.wasL p) w.d.length).length then 5
  else if d.cap + (d.wasL p).length < d.used + (w.on (d.wasL p) w.d.length).length then 12
  else 0
def Dk.lay (d : Dk) (p : Pth) (w : Wr) : Nat × Dk :=
  let (g, d1) := d.begin
  if g = false then (11, d1) else (d1.layE p w, if d1.layE p w = 0 then d1.write p w else d1)
def Dk.syncF (d : Dk) (i : Nat) : Dk := d.putF i ⟨(fget d.fs i).now, (fget d.fs i).now, []⟩
def Dk.sync (d : Dk) (p : Pth) : Nat × Dk :=
  let (g, d1) := d.begin
  if g = false then (11, d1) else (d1.look p, if d1.look p = 0 then d1.syncF ((mget d1.now p).getD 0) else d1)
def Dk.renE (d : Dk) (a b : Pth) : Nat :=
  if nameB a = false ∨ nameB b = false then 7 else if dirP a ≠ dirP b then 13 else d.look a
def Dk.rename (d : Dk) (a b : Pth) : Nat × Dk :=
  let (g, d1) := d.begin
  if g = false then (11, d1) else (d1.renE a b, if d1.renE a b = 0 ∧ a ≠ b then d1.change ⟨a, b, some ((mget d1.now a).getD 0)⟩ else d1)
def Dk.remove (d : Dk) (p : Pth) : Nat × Dk :=
  let (g, d1) := d.begin
  if g = false then (11, d1) else (d1.look p, if d1.look p = 0 then d1.change ⟨p, [], none⟩ else d1)
/-- names of one directory in place of those that stay -/
def merge (now stays : Nms) (n : Pth) : Nms := (now.filter (fun x => dirP x.1 = n)).foldl (fun l x => nput l x.1 x.2) (stays.filter (fun x => !decide (dirP x.1 = n)))
def Dk.stayD (d : Dk) (n : Pth) : Dk := { d with stays := merge d.now d.stays n, log := d.log.filter (fun c => !decide (c.dir = n)) }
def dirE (n : Pth) : Nat := if n ≠ [] ∧ nameB n = false then 7 else 0
def Dk.syncDir (d : Dk) (n : Pth) : Nat × Dk :=
  let (g, d1) := d.begin
  if g = false then (11, d1) else (dirE n, if dirE n = 0 then d1.stayD n else d1)
def Dk.readE (d : Dk) (p : Pth) : Nat := if d.dead = true then 11 else d.look p
def Dk.readL (d : Dk) (p : Pth) : List UInt8 := if d.readE p = 0 then d.wasL p else []
def Dk.listE (d : Dk) (n : Pth) : Nat := if d.dead = true then 11 else dirE n
def Dk.listL (d : Dk) (n : Pth) : List Pth := if d.listE n = 0 then (d.now.filter (fun x => dirP x.1 = n)).map (·.1) else []
def Dk.stop (d : Dk) (n : Nat) : Dk := { d with left := n }
/-- a pick -/
def pickN (picks : List Int) (at_ of : Nat) : Nat := if at_ < picks.length then (picks.getD at_ 0 % (of : Int)).toNat else 0
/-- names of directories: what a crash leaves of each -/
def crashD (picks : List Int) (d : Dk) (s : Nms × Nat) (n : Pth) : Nms × Nat :=
  if d.chgs n = [] then s else (apl ((d.chgs n).take (pickN picks s.2 ((d.chgs n).length + 1))) s.1, s.2 + 1)
def crashF (picks : List Int) (s : List Fdt × Nat) (x : Pth × Nat) : List Fdt × Nat :=
  let f := fget s.1 x.2
  if f.w = [] then s
  else
    let b := wayW f.w f.stays (pickN picks s.2 (waysF f.w))
    (s.1.set x.2 ⟨b, b, []⟩, s.2 + 1)
def insP : List Pth → Pth → List Pth
  | [], p => [p]
  | x :: l, p => if blt x p then x :: insP l p else if x = p then x :: l else p :: x :: l
def Dk.dirty (d : Dk) : List Pth := (d.log.map Chg.dir).foldl insP []
def Dk.crashN (d : Dk) (picks : List Int) : Nms × Nat := d.dirty.foldl (crashD picks d) (d.stays, 0)
def Dk.crashA (d : Dk) (picks : List Int) : List Fdt × Nat := (d.crashN picks).1.foldl (crashF picks) (d.fs, (d.crashN picks).2)
def Dk.crash (d : Dk) (picks : List Int) : Dk :=
  { d with fs := (d.crashA picks).1, now := (d.crashN picks).1, stays := (d.crashN picks).1, log := [], left := 0, dead := false }

theorem mem_insP {l : List Pth} {p q : Pth} : q ∈ insP l p ↔ q = p ∨ q ∈ l := by
  induction l with
  | nil => simp [insP]
  | cons x l ih =>
    unfold insP
    split
    · simp only [List.mem_cons, ih]
      constructor
      · rintro (h | h | h)
        · exact .inr (.inl h)
        · exact .inl h
        · exact .inr (.inr h)
      · rintro (h | h | h)
        · exact .inr (.inl h)
        · exact .inl h
        · exact .inr (.inr h)
    · split
      · rename_i h; subst h
        simp only [List.mem_cons]
        constructor
        · rintro (h | h)
          · exact .inl h
          · exact .inr (.inr h)
        · rintro (h | h | h)
          · exact .inl h
          · exact .inl h
          · exact .inr h
      · simp only [List.mem_cons]
theorem rise_insP {l : List Pth} (h : Rise l) (p : Pth) : Rise (insP l p) := by
  induction l with
  | nil => exact List.pairwise_singleton _ _
  | cons x l ih =>
    unfold Rise at h ⊢
    have h0 := h
    rw [List.pairwise_cons] at h
    unfold insP
    split
    · rename_i h1
      rw [List.pairwise_cons]
      refine ⟨fun y hy => ?_, ih h.2⟩
      rcases mem_insP.1 hy with e | hy
      · rw [e]; exact h1
      · exact h.1 y hy
    · rename_i h1
      split
      · exact h0
      · rename_i h2
        have h3 : blt p x := Classical.byContradiction (fun h3 => h2 (blt_total h1 h3))
        rw [List.pairwise_cons]
        refine ⟨fun y hy => ?_, h0⟩
        rcases List.mem_cons.1 hy with e | hy
        · rw [e]; exact h3
        · exact blt_trans h3 (h.1 y hy)
theorem foldl_insP (m : List Pth) : ∀ {l : List Pth}, Rise l → Rise (m.foldl insP l) ∧ ∀ q, q ∈ m.foldl insP l ↔ q ∈ m ∨ q ∈ l := by
  induction m with
  | nil => intro l h; exact ⟨h, fun q => by simp⟩
  | cons p m ih =>
    intro l h
    obtain ⟨h1, h2⟩ := ih (rise_insP h p)
    refine ⟨h1, fun q => ?_⟩
    rw [List.foldl_cons, h2, mem_insP, List.mem_cons]
    constructor
    · rintro (h | h | h)
      · exact .inl (.inr h)
      · exact .inl (.inl h)
      · exact .inr h
    · rintro ((h | h) | h)
      · exact .inr (.inl h)
      · exact .inl h
      · exact .inr (.inr h)
theorem Dk.dirty_rise (d : Dk) : Rise d.dirty := (foldl_insP _ List.Pairwise.nil).1
theorem Dk.mem_dirty (d : Dk) (n : Pth) : n ∈ d.dirty ↔ d.chgs n ≠ [] := by
  unfold Dk.dirty
  rw [(foldl_insP _ List.Pairwise.nil).2]
  unfold Dk.chgs
  rw [ne_eq, List.filter_eq_nil_iff]
  simp
theorem crashD_skip {picks : List Int} {d : Dk} {s : Nms × Nat} {n : Pth} (h : d.chgs n = []) : crashD picks d s n = s := by unfold crashD; rw [if_pos h]
theorem crashN_of (d : Dk) (picks : List Int) : ∀ (L : List Pth) (s : Nms × Nat), L.foldl (crashD picks d) s = (L.filter (fun n => !(d.chgs n).isEmpty)).foldl (crashD picks d) s := by
  intro L
  induction L with
  | nil => intro s; rfl
  | cons n L ih =>
    intro s
    rw [List.foldl_cons]
    by_cases h : d.chgs n = []
    · rw [List.filter_cons_of_neg (by simp [h]), crashD_skip h, ih]
    · rw [List.filter_cons_of_pos (by simpa using h), List.foldl_cons, ih]
/-- any rising row of directories that has all those with changes leads to the same -/
theorem Dk.crashN_any (d : Dk) (picks : List Int) {L : List Pth} (hL : Rise L) (h : ∀ n, d.chgs n ≠ [] → n ∈ L) : L.foldl (crashD picks d) (d.stays, 0) = d.crashN picks := by
  unfold Dk.crashN
  rw [crashN_of]
  congr 1
  refine rise_ext (List.Pairwise.filter _ hL) d.dirty_rise (fun n => ?_)
  rw [List.mem_filter, d.mem_dirty]
  constructor
  · rintro ⟨_, h2⟩; simpa using h2
  · intro h2; exact ⟨h n h2, by simpa using h2⟩
theorem mget_fold (l : Nms) : ∀ (m : Nms) (q : Pth), Asc l → mget (l.foldl (fun l x => nput l x.1 x.2) m) q = match mget l q with | some i => some i | none => mget m q := by
  induction l with
  | nil => intro m q _; rfl
  | cons x l ih =>
    intro m q h
    unfold Asc at h
    rw [List.pairwise_cons] at h
    rw [List.foldl_cons, ih _ _ h.2, mget_nput]
    simp only [mget]
    by_cases hq : q = x.1
    · have : mget l q = none := Option.not_isSome_iff_eq_none.1 (fun c => by
        rw [isSome_iff_key] at c
        obtain ⟨z, hz, e⟩ := List.mem_map.1 c
        exact blt_ne (h.1 z hz) (by rw [e, hq]))
      rw [if_pos hq, if_pos hq, this]
    · rw [if_neg hq, if_neg hq]
theorem mget_merge {now stays : Nms} (h : Asc now) (n q : Pth) : mget (merge now stays n) q = if dirP q = n then mget now q else mget stays q := by
  unfold merge
  rw [mget_fold _ _ _ (h.filter _), mget_filter (f := fun p => decide (dirP p = n)), mget_filter (f := fun p => !decide (dirP p = n))]
  by_cases hq : dirP q = n
  · simp only [hq, decide_true, if_true, Bool.not_true, Bool.false_eq_true, if_false]
    cases mget now q <;> rfl
  · simp [hq]
theorem asc_fold (l : Nms) : ∀ m : Nms, Asc m → Asc (l.foldl (fun l x => nput l x.1 x.2) m) := by
  induction l with
  | nil => intro m h; exact h
  | cons x l ih => intro m h; exact ih _ (asc_nput h _ _)
theorem asc_merge {now stays : Nms} (h : Asc stays) (n : Pth) : Asc (merge now stays n) := asc_fold _ _ (h.filter _)
end Go.Proofs.YtfbfjhppppoilaaDoor.E
