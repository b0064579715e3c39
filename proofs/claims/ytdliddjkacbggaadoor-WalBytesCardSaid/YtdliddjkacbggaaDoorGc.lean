/-
  Contracts of functions of the program, and plain laws: put together of several texts.
-/
import Derived.Test.YtdliddjkacbggaaDoorGb
import Derived.Test.YtdliddjkacbggaaDoorGa
import Derived.RangeFuncLeaves
import Derived.RangeFuncRecord
import Derived.RangeFuncSeq
import Derived.TacticsIn
import Derived.Lib.SplitLaws
import Derived.Test.YtdliddjkacbggaaDoorShelf
import Derived.Test.YtdliddjkacbggaaDoorMcl
import Derived.Lib.Bytealg
import Derived.Lib.AppendZerosOnto
/-
  The document's disk, as plain data: files, names, what stays of them; what each call does: no condition.
-/
namespace Go.Proofs.YtdliddjkacbggaaDoor.E
set_option linter.unusedVariables false
set_option linter.unusedSimpArgs false
set_option linter.unusedSectionVars false
set_option linter.unnecessarySimpa false

abbrev Pth := List UInt8
def blt (a b : Pth) : Prop := Op.bytesLess a b = true
instance (a b : Pth) : Decidable (blt a b) := inferInstanceAs (Decidable (_ = _))
theorem blt_irr (a : Pth) : ¬ blt a a := by
  unfold blt
  induction a with
  | nil => simp [Op.bytesLess]
  | cons x a ih => simp only [Op.bytesLess]; simpa using ih
theorem blt_total : ∀ {a b : Pth}, ¬ blt a b → ¬ blt b a → a = b
  | [], [], _, _ => rfl
  | [], _ :: _, h, _ => by simp [blt, Op.bytesLess] at h
  | _ :: _, [], _, h => by simp [blt, Op.bytesLess] at h
  | x :: a, y :: b, h1, h2 => by
    simp only [blt, Op.bytesLess] at h1 h2
    by_cases e1 : x < y
    · simp [e1] at h1
    · by_cases e2 : y < x
      · simp [e2] at h2
      · have : x = y := by apply UInt8.toNat.inj; rw [UInt8.lt_iff_toNat_lt] at e1 e2; omega
        subst this
        rw [blt_total (a := a) (b := b) (by simpa [blt] using h1) (by simpa [blt] using h2)]
theorem blt_trans : ∀ {a b c : Pth}, blt a b → blt b c → blt a c
  | [], [], _, h, _ => by simp [blt, Op.bytesLess] at h
  | _ :: _, [], _, h, _ => by simp [blt, Op.bytesLess] at h
  | _, _ :: _, [], _, h => by simp [blt, Op.bytesLess] at h
  | [], _ :: _, _ :: _, _, _ => by simp [blt, Op.bytesLess]
  | x :: a, y :: b, z :: c, h1, h2 => by
    simp only [blt, Op.bytesLess, Bool.or_eq_true, decide_eq_true_eq, Bool.and_eq_true, beq_iff_eq] at h1 h2 ⊢
    rcases h1 with h1 | ⟨rfl, h1⟩
    · rcases h2 with h2 | ⟨rfl, h2⟩
      · left; rw [UInt8.lt_iff_toNat_lt] at *; omega
      · exact .inl h1
    · rcases h2 with h2 | ⟨rfl, h2⟩
      · exact .inl h2
      · exact .inr ⟨rfl, blt_trans h1 h2⟩
theorem blt_ne {a b : Pth} (h : blt a b) : a ≠ b := fun e => by subst e; exact blt_irr a h

/-- texts that rise, each once -/
def Rise (l : List Pth) : Prop := l.Pairwise blt
theorem rise_nodup {l : List Pth} (h : Rise l) : l.Nodup := by
  rw [List.nodup_iff_pairwise_ne]; exact h.imp (fun h => blt_ne h)
/-! ### names -/
abbrev Nms := List (Pth × Nat)
def Asc (l : Nms) : Prop := l.Pairwise (fun x y => blt x.1 y.1)
theorem Asc.rise {l : Nms} (h : Asc l) : Rise (l.map (·.1)) := by unfold Rise; rw [List.pairwise_map]; exact h
theorem Asc.nodup {l : Nms} (h : Asc l) : (l.map (·.1)).Nodup := rise_nodup h.rise
theorem Asc.filter {l : Nms} (h : Asc l) (p : Pth × Nat → Bool) : Asc (l.filter p) := List.Pairwise.filter _ h
def nput : Nms → Pth → Nat → Nms
  | [], p, i => [(p, i)]
  | x :: l, p, i => if blt x.1 p then x :: nput l p i else if x.1 = p then (p, i) :: l else (p, i) :: x :: l
theorem mget_nput (l : Nms) (p : Pth) (i : Nat) (q : Pth) : mget (nput l p i) q = if q = p then some i else mget l q := by
  induction l with
  | nil => simp [nput, mget]
  | cons x l ih =>
    unfold nput
    split
    · rename_i h
      simp only [mget, ih]
      by_cases hq : q = x.1
      · have : ¬ q = p := fun e => blt_ne h (by rw [← hq, e])
        rw [if_pos hq, if_pos hq, if_neg this]
      · rw [if_neg hq, if_neg hq]
    · split
      · rename_i h1 h2
        simp only [mget]
        by_cases hq : q = p
        · simp [hq]
        · rw [if_neg hq, if_neg hq, if_neg (fun e => hq (e.trans h2))]
      · simp only [mget]
theorem mem_nput {l : Nms} {p : Pth} {i : Nat} {x : Pth × Nat} (h : x ∈ nput l p i) : x = (p, i) ∨ x ∈ l := by
  induction l with
  | nil => simp [nput] at h; exact .inl h
  | cons y l ih =>
    unfold nput at h
    split at h
    · rcases List.mem_cons.1 h with e | h
      · exact .inr (by rw [e]; exact List.mem_cons_self)
      · rcases ih h with e | h
        · exact .inl e
        · exact .inr (List.mem_cons_of_mem _ h)
    · split at h
      · rcases List.mem_cons.1 h with e | h
        · exact .inl e
        · exact .inr (List.mem_cons_of_mem _ h)
      · rcases List.mem_cons.1 h with e | h
        · exact .inl e
        · exact .inr h
theorem asc_nput {l : Nms} (h : Asc l) (p : Pth) (i : Nat) : Asc (nput l p i) := by
  induction l with
  | nil => exact List.pairwise_singleton _ _
  | cons x l ih =>
    unfold Asc at h ⊢
    rw [List.pairwise_cons] at h
    unfold nput
    split
    · rename_i h1
      rw [List.pairwise_cons]
      refine ⟨fun y hy => ?_, ih h.2⟩
      rcases mem_nput hy with e | hy
      · rw [e]; exact h1
      · exact h.1 y hy
    · rename_i h1
      split
      · rename_i h2
        rw [List.pairwise_cons]
        exact ⟨fun y hy => by rw [← h2]; exact h.1 y hy, h.2⟩
      · rename_i h2
        have h3 : blt p x.1 := Classical.byContradiction (fun h3 => h2 (blt_total h1 h3))
        rw [List.pairwise_cons]
        refine ⟨fun y hy => ?_, List.pairwise_cons.2 h⟩
        rcases List.mem_cons.1 hy with e | hy
        · rw [e]; exact h3
        · exact blt_trans h3 (h.1 y hy)
theorem asc_del {l : Nms} (h : Asc l) (p : Pth) : Asc (mdel l p) := List.Pairwise.filter _ h
theorem mget_filter {l : Nms} {f : Pth → Bool} (p : Pth) : mget (l.filter (fun x => f x.1)) p = if f p = true then mget l p else none := by
  induction l with
  | nil => simp [mget]
  | cons x l ih =>
    by_cases hx : f x.1 = true
    · rw [List.filter_cons_of_pos (by simpa using hx)]
      simp only [mget, ih]
      by_cases hp : p = x.1
      · rw [if_pos hp, if_pos hp, hp, if_pos hx]
      · rw [if_neg hp, if_neg hp]
    · rw [List.filter_cons_of_neg (by simpa using hx), ih]
      simp only [mget]
      by_cases hp : p = x.1
      · rw [hp, if_neg hx, if_neg hx]
      · rw [if_neg hp]

/-! ### paths -/
def okc (c : UInt8) : Bool := (97 ≤ c && c ≤ 122) || (48 ≤ c && c ≤ 57) || c == 46 || c == 95 || c == 45 || c == 47
/-- a slash stands right: not at an end, not behind another one -/
def slk (p : Pth) : Bool := (List.range p.length).all (fun i => !(p.getD i 0 == 47 && (i == 0 || i == p.length - 1 || p.getD (i - 1) 0 == 47)))
def nameB (p : Pth) : Bool := decide (1 ≤ p.length) && decide (p.length ≤ 100) && p.all okc && slk p
/-- the part ahead of the last slash -/
def headP (p : Pth) : Pth := p.take (p.length - 1 - (p.reverse.takeWhile (fun c => c ≠ 47)).length)
def dirP (p : Pth) : Pth := if nameB p = true then headP p else []

/-! ### changes of names -/
structure Chg where
  g : Pth
  n : Pth
  f : Option Nat
  deriving DecidableEq
def Chg.ap (c : Chg) (l : Nms) : Nms :=
  let l1 := if c.g = [] then l else mdel l c.g
  match c.f with
  | none => l1
  | some i => nput l1 c.n i
/-- the directory it is a change of -/
def Chg.dir (c : Chg) : Pth := dirP (if c.g = [] then c.n else c.g)
def apl (cs : List Chg) (l : Nms) : Nms := cs.foldl (fun l c => c.ap l) l
theorem asc_ap {l : Nms} (h : Asc l) (c : Chg) : Asc (c.ap l) := by
  unfold Chg.ap
  have h1 : Asc (if c.g = [] then l else mdel l c.g) := by split; exact h; exact asc_del h _
  cases c.f with
  | none => exact h1
  | some i => exact asc_nput h1 _ _
theorem asc_apl {l : Nms} (h : Asc l) : ∀ cs : List Chg, Asc (apl cs l) := by
  intro cs
  induction cs generalizing l with
  | nil => exact h
  | cons c cs ih => exact ih (asc_ap h c)
/-- what a change does to what a path has -/
def Chg.at (c : Chg) (q : Pth) (o : Option Nat) : Option Nat :=
  match c.f with
  | none => if c.g ≠ [] ∧ q = c.g then none else o
  | some i => if q = c.n then some i else if c.g ≠ [] ∧ q = c.g then none else o
theorem mget_ap (c : Chg) (l : Nms) (q : Pth) : mget (c.ap l) q = c.at q (mget l q) := by
  unfold Chg.ap Chg.at
  cases c.f with
  | none =>
    simp only
    by_cases hg : c.g = []
    · simp [hg]
    · rw [if_neg hg, mget_del]; simp [hg]
  | some i =>
    simp only
    rw [mget_nput]
    by_cases hg : c.g = []
    · simp [hg]
    · rw [if_neg hg, mget_del]; simp [hg]

/-! ### files -/
structure Wr where
  b : Bool
  d : List UInt8
  deriving DecidableEq, Inhabited
structure Fdt where
  now : List UInt8
  stays : List UInt8
  w : List Wr
  deriving DecidableEq, Inhabited
def Wr.on (w : Wr) (b : List UInt8) (n : Nat) : List UInt8 := (if w.b = true then b else []) ++ w.d.take n
def Wr.ways (w : Wr) : Nat := max 1 (2 * w.d.length)
def Wr.part (w : Wr) (b : List UInt8) (way : Nat) : List UInt8 :=
  if way < w.d.length ∨ w.d.length = 0 then w.on b (min (way + 1) w.d.length) else w.on b (way - w.d.length) ++ List.replicate (w.d.length - (way - w.d.length)) 0
def waysF (ws : List Wr) : Nat := 1 + (ws.map Wr.ways).sum
def wayW : List Wr → List UInt8 → Nat → List UInt8
  | [], b, _ => b
  | w :: ws, b, k => if k = 0 then b else if k ≤ w.ways then w.part b (k - 1) else wayW ws (w.on b w.d.length) (k - w.ways)
/-- all of them -/
def onAll (ws : List Wr) (b : List UInt8) : List UInt8 := ws.foldl (fun b w => w.on b w.d.length) b

/-! ### a disk -/
structure Dk where
  cap : Nat
  most : Nat
  fs : List Fdt
  now : Nms
  stays : Nms
  log : List Chg
  ops : Nat
  left : Nat
  dead : Bool
def fget (fs : List Fdt) (i : Nat) : Fdt := fs.getD i ⟨[], [], []⟩
def Dk.empty (cap most : Nat) : Dk := ⟨cap, most, [], [], [], [], 0, 0, false⟩
def Dk.begin (d : Dk) : Bool × Dk :=
  if d.dead = true then (false, d)
  else if d.left = 1 then (false, { d with left := 0, dead := true })
  else (true, { d with left := d.left - 1, ops := d.ops + 1 })
/-- 0, or the error of a look for a path -/
def Dk.look (d : Dk) (p : Pth) : Nat := if nameB p = true then (if (mget d.now p).isSome then 0 else 2) else 7
def usedL (fs : List Fdt) (l : Nms) : Nat := (l.map (fun x => (fget fs x.2).now.length)).sum
def Dk.used (d : Dk) : Nat := usedL d.fs d.now
def Dk.chgs (d : Dk) (n : Pth) : List Chg := d.log.filter (fun c => c.dir = n)
def Dk.change (d : Dk) (c : Chg) : Dk := { d with now := c.ap d.now, log := d.log ++ [c] }
/-- the file of a path, made if there is none -/
def Dk.make (d : Dk) (p : Pth) : Dk × Nat := match mget d.now p with
  | some i => (d, i)
  | none => (({ d with fs := d.fs ++ [⟨[], [], []⟩] } : Dk).change ⟨[], p, some d.fs.length⟩, d.fs.length)
def Dk.wasL (d : Dk) (p : Pth) : List UInt8 := match mget d.now p with
  | some i => (fget d.fs i).now
  | none => []
def Dk.putF (d : Dk) (i : Nat) (x : Fdt) : Dk := { d with fs := d.fs.set i x }
def Dk.write (d : Dk) (p : Pth) (w : Wr) : Dk :=
  let (d2, i) := d.make p
  d2.putF i ⟨w.on (fget d2.fs i).now w.d.length, (fget d2.fs i).stays, (fget d2.fs i).w ++ [w]⟩
def Dk.layE (d : Dk) (p : Pth) (w : Wr) : Nat :=
  if nameB p = false then 7
  else if d.most < (w.on (d.wasL p) w.d.length).length then 5
  else if d.cap + (d.wasL p).length < d.used + (w.on (d.wasL p) w.d.length).length then 12
  else 0
def Dk.lay (d : Dk) (p : Pth) (w : Wr) : Nat × Dk :=
  let (g, d1) := d.begin
  if g = false then (11, d1) else (d1.layE p w, if d1.layE p w = 0 then d1.write p w else d1)
def Dk.syncF (d : Dk) (i : Nat) : Dk := d.putF i ⟨(fget d.fs i).now, (fget d.fs i).now, []⟩
def Dk.sync (d : Dk) (p : Pth) : Nat × Dk :=
  let (g, d1) := d.begin
  if g = false then (11, d1) else (d1.look p, if d1.look p = 0 then d1.syncF ((mget d1.now p).getD 0) else d1)
def Dk.renE (d : Dk) (a b : Pth) : Nat :=
  if nameB a = false ∨ nameB b = false then 7 else if dirP a ≠ dirP b then 13 else d.look a
def Dk.rename (d : Dk) (a b : Pth) : Nat × Dk :=
  let (g, d1) := d.begin
  if g = false then (11, d1) else (d1.renE a b, if d1.renE a b = 0 ∧ a ≠ b then d1.change ⟨a, b, some ((mget d1.now a).getD 0)⟩ else d1)
/-- names of one directory in place of those that stay -/
def merge (now stays : Nms) (n : Pth) : Nms := (now.filter (fun x => dirP x.1 = n)).foldl (fun l x => nput l x.1 x.2) (stays.filter (fun x => !decide (dirP x.1 = n)))
def Dk.stayD (d : Dk) (n : Pth) : Dk := { d with stays := merge d.now d.stays n, log := d.log.filter (fun c => !decide (c.dir = n)) }
def dirE (n : Pth) : Nat := if n ≠ [] ∧ nameB n = false then 7 else 0
def Dk.syncDir (d : Dk) (n : Pth) : Nat × Dk :=
  let (g, d1) := d.begin
  if g = false then (11, d1) else (dirE n, if dirE n = 0 then d1.stayD n else d1)
def Dk.readE (d : Dk) (p : Pth) : Nat := if d.dead = true then 11 else d.look p
def Dk.readL (d : Dk) (p : Pth) : List UInt8 := if d.readE p = 0 then d.wasL p else []
def Dk.listE (d : Dk) (n : Pth) : Nat := if d.dead = true then 11 else dirE n
def Dk.stop (d : Dk) (n : Nat) : Dk := { d with left := n }
/-- a pick -/
def pickN (picks : List Int) (at_ of : Nat) : Nat := if at_ < picks.length then (picks.getD at_ 0 % (of : Int)).toNat else 0
/-- names of directories: what a crash leaves of each -/
def crashD (picks : List Int) (d : Dk) (s : Nms × Nat) (n : Pth) : Nms × Nat :=
  if d.chgs n = [] then s else (apl ((d.chgs n).take (pickN picks s.2 ((d.chgs n).length + 1))) s.1, s.2 + 1)
def crashF (picks : List Int) (s : List Fdt × Nat) (x : Pth × Nat) : List Fdt × Nat :=
  let f := fget s.1 x.2
  if f.w = [] then s
  else
    let b := wayW f.w f.stays (pickN picks s.2 (waysF f.w))
    (s.1.set x.2 ⟨b, b, []⟩, s.2 + 1)
def insP : List Pth → Pth → List Pth
  | [], p => [p]
  | x :: l, p => if blt x p then x :: insP l p else if x = p then x :: l else p :: x :: l
def Dk.dirty (d : Dk) : List Pth := (d.log.map Chg.dir).foldl insP []
def Dk.crashN (d : Dk) (picks : List Int) : Nms × Nat := d.dirty.foldl (crashD picks d) (d.stays, 0)
def Dk.crashA (d : Dk) (picks : List Int) : List Fdt × Nat := (d.crashN picks).1.foldl (crashF picks) (d.fs, (d.crashN picks).2)
def Dk.crash (d : Dk) (picks : List Int) : Dk :=
  { d with fs := (d.crashA picks).1, now := (d.crashN picks).1, stays := (d.crashN picks).1, log := [], left := 0, dead := false }

theorem mget_fold (l : Nms) : ∀ (m : Nms) (q : Pth), Asc l → mget (l.foldl (fun l x => nput l x.1 x.2) m) q = match mget l q with | some i => some i | none => mget m q := by
  induction l with
  | nil => intro m q _; rfl
  | cons x l ih =>
    intro m q h
    unfold Asc at h
    rw [List.pairwise_cons] at h
    rw [List.foldl_cons, ih _ _ h.2, mget_nput]
    simp only [mget]
    by_cases hq : q = x.1
    · have : mget l q = none := Option.not_isSome_iff_eq_none.1 (fun c => by
        rw [isSome_iff_key] at c
        obtain ⟨z, hz, e⟩ := List.mem_map.1 c
        exact blt_ne (h.1 z hz) (by rw [e, hq]))
      rw [if_pos hq, if_pos hq, this]
    · rw [if_neg hq, if_neg hq]
theorem mget_merge {now stays : Nms} (h : Asc now) (n q : Pth) : mget (merge now stays n) q = if dirP q = n then mget now q else mget stays q := by
  unfold merge
  rw [mget_fold _ _ _ (h.filter _), mget_filter (f := fun p => decide (dirP p = n)), mget_filter (f := fun p => !decide (dirP p = n))]
  by_cases hq : dirP q = n
  · simp only [hq, decide_true, if_true, Bool.not_true, Bool.false_eq_true, if_false]
    cases mget now q <;> rfl
  · simp [hq]
theorem asc_fold (l : Nms) : ∀ m : Nms, Asc m → Asc (l.foldl (fun l x => nput l x.1 x.2) m) := by
  induction l with
  | nil => intro m h; exact h
  | cons x l ih => intro m h; exact ih _ (asc_nput h _ _)
theorem asc_merge {now stays : Nms} (h : Asc stays) (n : Pth) : Asc (merge now stays n) := asc_fold _ _ (h.filter _)
end Go.Proofs.YtdliddjkacbggaaDoor.E
/-
  A journal's bytes, as plain data: what is written, what is read; what a torn end is read as.
-/
namespace Go.Proofs.YtdliddjkacbggaaDoor.WalA
open Go.Proofs.YtdliddjkacbggaaDoor.E Go.RowKit Go.Proofs.YtdliddjkacbggaaDoor.Num Go.Proofs.YtdliddjkacbggaaDoor.DelA Go.Proofs.YtdliddjkacbggaaDoor.SumF
set_option maxRecDepth 20000
set_option linter.unusedVariables false
set_option linter.unusedSimpArgs false
set_option linter.unusedSectionVars false

abbrev Rec := List UInt8
def W8 : List UInt8 := [83, 76, 86, 71, 87, 65, 76, 49]
def chkW (n : Nat) (r : Rec) : List UInt8 := (sumOf (Num.numL 8 (UInt64.ofNat n) ++ r)).take 8
def layW (n : Nat) (r : Rec) : List UInt8 := be32 r.length ++ (chkW n r ++ r)
def recW (n : Nat) (r : Rec) : List UInt8 := layW n r ++ [67]
def encN : Nat → List Rec → List UInt8
  | _, [] => []
  | n, r :: l => recW n r ++ encN (n + 1) l
def encW (l : List Rec) : List UInt8 := W8 ++ encN 0 l
theorem chkW_len (n : Nat) (r : Rec) : (chkW n r).length = 8 := by unfold chkW; rw [List.length_take, sumOf_len]; rfl
theorem layW_len (n : Nat) (r : Rec) : (layW n r).length = 12 + r.length := by unfold layW; rw [List.length_append, List.length_append, chkW_len, be32_len]; omega
theorem recW_len (n : Nat) (r : Rec) : (recW n r).length = 13 + r.length := by unfold recW; rw [List.length_append, layW_len]; simp; omega
theorem encN_app : ∀ (a b : List Rec) (n : Nat), encN n (a ++ b) = encN n a ++ encN (n + a.length) b
  | [], b, n => rfl
  | r :: a, b, n => by rw [List.cons_append, encN, encN_app a b (n + 1), encN, List.append_assoc, List.length_cons, show n + 1 + a.length = n + (a.length + 1) by omega]
theorem encW_snoc (l : List Rec) (r : Rec) : encW (l ++ [r]) = encW l ++ recW l.length r := by unfold encW; rw [encN_app, List.append_assoc]; simp [encN]
theorem encN_len : ∀ (l : List Rec) (n : Nat), (encN n l).length = (l.map (fun r => 13 + r.length)).sum
  | [], n => rfl
  | r :: l, n => by rw [encN, List.length_append, encN_len l, recW_len]; simp
theorem encW_len (l : List Rec) : (encW l).length = 8 + (l.map (fun r => 13 + r.length)).sum := by unfold encW; rw [List.length_append, encN_len]; rfl
/-- the record at the front of bytes -/
def big (b : List UInt8) : Nat := bev 0 (b.take 4)
def oneW (n : Nat) (b : List UInt8) : Option Rec :=
  if b.length ≤ 12 ∨ 1048576 < big b ∨ b.length - 12 ≤ big b then none
  else if b.getD (12 + big b) 0 = 67 ∧ (b.drop 4).take 8 = chkW n ((b.drop 12).take (big b)) then some ((b.drop 12).take (big b)) else none
theorem oneW_len {n : Nat} {b : List UInt8} {r : Rec} (h : oneW n b = some r) : r.length = big b ∧ 13 + r.length ≤ b.length ∧ r.length ≤ 1048576 := by
  unfold oneW at h
  split at h
  · cases h
  · rename_i h1
    split at h
    · have e := Option.some.inj h
      rw [← e, List.length_take, List.length_drop]; omega
    · cases h
def parF : Nat → Nat → List UInt8 → List Rec
  | 0, _, _ => []
  | f + 1, n, b => match oneW n b with
    | none => []
    | some r => r :: parF f (n + 1) (b.drop (13 + r.length))
theorem parF_ext : ∀ (f g n : Nat) (b : List UInt8), b.length ≤ f → b.length ≤ g → parF f n b = parF g n b
  | 0, 0, _, _, _, _ => rfl
  | 0, g + 1, n, b, h, _ => by
    have : oneW n b = none := by unfold oneW; rw [if_pos (.inl (by omega))]
    simp [parF, this]
  | f + 1, 0, n, b, _, h => by
    have : oneW n b = none := by unfold oneW; rw [if_pos (.inl (by omega))]
    simp [parF, this]
  | f + 1, g + 1, n, b, h1, h2 => by
    unfold parF
    cases h : oneW n b with
    | none => rfl
    | some r =>
      have := oneW_len h
      simp only
      rw [parF_ext f g (n + 1) _ (by rw [List.length_drop]; omega) (by rw [List.length_drop]; omega)]
def parP (n : Nat) (b : List UInt8) : List Rec := parF b.length n b
theorem parP_stop {n : Nat} {b : List UInt8} (h : oneW n b = none) : parP n b = [] := by
  unfold parP
  cases hb : b.length with
  | zero => rfl
  | succ f => simp [parF, h]
theorem parP_step {n : Nat} {b : List UInt8} {r : Rec} (h : oneW n b = some r) : parP n b = r :: parP (n + 1) (b.drop (13 + r.length)) := by
  have h1 := oneW_len h
  unfold parP
  rw [parF_ext b.length (b.length + 1) n b (Nat.le_refl _) (by omega), parF, h]
  show r :: parF b.length (n + 1) (b.drop (13 + r.length)) = _
  rw [parF_ext b.length _ (n + 1) (b.drop (13 + r.length)) (by rw [List.length_drop]; omega) (Nat.le_refl _)]
theorem big_lay (n : Nat) (r : Rec) (t : List UInt8) (h : r.length < 4294967296) : big (layW n r ++ t) = r.length := by
  unfold big layW
  rw [List.append_assoc, List.take_left' (be32_len _), bev_be32 _ h]
theorem oneW_rec (n : Nat) (r : Rec) (t : List UInt8) (h : r.length ≤ 1048576) : oneW n (recW n r ++ t) = some r := by
  have e : recW n r ++ t = be32 r.length ++ (chkW n r ++ (r ++ (67 :: t))) := by unfold recW layW; simp
  have hb : big (recW n r ++ t) = r.length := by unfold recW; rw [List.append_assoc, big_lay n r _ (by omega)]
  have hl : (recW n r ++ t).length = 13 + r.length + t.length := by rw [List.length_append, recW_len]
  have e12 : (recW n r ++ t).drop 12 = r ++ (67 :: t) := by
    rw [e, ← List.append_assoc, List.drop_left' (by rw [List.length_append, chkW_len, be32_len])]
  have e4 : ((recW n r ++ t).drop 4).take 8 = chkW n r := by
    rw [e, List.drop_left' (be32_len _), List.take_left' (chkW_len _ _)]
  have er : ((recW n r ++ t).drop 12).take r.length = r := by rw [e12, List.take_left' rfl]
  have hC : (recW n r ++ t).getD (12 + r.length) 0 = 67 := by
    have : (recW n r ++ t).getD (12 + r.length) 0 = ((recW n r ++ t).drop 12).getD r.length 0 := by
      simp only [List.getD_eq_getElem?_getD, List.getElem?_drop]
    rw [this, e12]
    simp [List.getD_eq_getElem?_getD]
  unfold oneW
  rw [hb, if_neg (by omega), er, e4, if_pos ⟨hC, rfl⟩]
theorem parP_enc : ∀ (l : List Rec) (n : Nat) (t : List UInt8), (∀ r ∈ l, r.length ≤ 1048576) → parP n (encN n l ++ t) = l ++ parP (n + l.length) t
  | [], n, t, _ => rfl
  | r :: l, n, t, h => by
    rw [encN, List.append_assoc, parP_step (oneW_rec n r _ (h r List.mem_cons_self)), List.drop_left' (recW_len n r), parP_enc l (n + 1) t (fun x hx => h x (List.mem_cons_of_mem _ hx)), List.cons_append, List.length_cons, show n + 1 + l.length = n + (l.length + 1) by omega]
theorem be32_bev : ∀ (a b c d : UInt8), be32 (bev 0 [a, b, c, d]) = [a, b, c, d] := fun a b c d => by
  have ha := a.toNat_lt; have hb := b.toNat_lt; have hc := c.toNat_lt; have hd := d.toNat_lt
  simp only [bev, List.foldl_cons, List.foldl_nil, be32, List.cons.injEq, and_true]
  refine ⟨?_, ?_, ?_, ?_⟩ <;> (apply UInt8.toNat.inj; rw [UInt8.toNat_ofNat']; omega)
/-- what one reads is what was written -/
theorem oneW_some {n : Nat} {b : List UInt8} {r : Rec} (h : oneW n b = some r) : b = recW n r ++ b.drop (13 + r.length) := by
  have h0 := oneW_len h
  unfold oneW at h
  split at h
  · cases h
  · rename_i h1
    split at h
    · rename_i h2
      have e := Option.some.inj h
      rw [e, ← h0.1] at h2
      have h3 : b.take 4 = be32 r.length := by
        rw [h0.1]; unfold big
        match b, h1 with
        | a :: b :: c :: d :: t, _ => exact (be32_bev a b c d).symm
      have h4 : (b.drop 12).take r.length = r := by rw [h0.1]; exact e
      have h5 : b.drop (12 + r.length) = 67 :: b.drop (13 + r.length) := by
        have hl : 12 + r.length < b.length := by omega
        rw [List.drop_eq_getElem_cons hl, show 12 + r.length + 1 = 13 + r.length by omega]
        have := h2.1
        rw [List.getD_eq_getElem?_getD, List.getElem?_eq_getElem hl] at this
        rw [show b[12 + r.length] = 67 from this]
      calc b = b.take 4 ++ b.drop 4 := (List.take_append_drop 4 b).symm
        _ = b.take 4 ++ ((b.drop 4).take 8 ++ (b.drop 4).drop 8) := congrArg (fun x => b.take 4 ++ x) (List.take_append_drop 8 (b.drop 4)).symm
        _ = be32 r.length ++ (chkW n r ++ b.drop 12) := by rw [h3, h2.2, List.drop_drop]
        _ = be32 r.length ++ (chkW n r ++ (r ++ (b.drop 12).drop r.length)) := by
          rw [show (b.drop 12) = (b.drop 12).take r.length ++ (b.drop 12).drop r.length from (List.take_append_drop _ _).symm, h4]
          rw [List.drop_left' rfl]
        _ = recW n r ++ b.drop (13 + r.length) := by rw [List.drop_drop, h5]; unfold recW layW; simp
    · cases h
theorem oneW_iff {n : Nat} {b : List UInt8} {r : Rec} : oneW n b = some r ↔ r.length ≤ 1048576 ∧ ∃ t, b = recW n r ++ t :=
  ⟨fun h => ⟨(oneW_len h).2.2, _, oneW_some h⟩, fun ⟨h, t, e⟩ => by rw [e]; exact oneW_rec n r t h⟩
/-! ### a journal -/
def parE (b : List UInt8) : Nat := if b.take 8 = W8 then 0 else 16
def parL (b : List UInt8) : List Rec := if b.take 8 = W8 then parP 0 (b.drop 8) else []
def parS (b : List UInt8) : Nat := if b.take 8 = W8 then (encW (parL b)).length else 0
theorem enc_take (l : List Rec) (t : List UInt8) : (encW l ++ t).take 8 = W8 := by unfold encW; rw [List.append_assoc, List.take_left' (show W8.length = 8 from rfl)]
theorem parE_enc (l : List Rec) (t : List UInt8) : parE (encW l ++ t) = 0 := by unfold parE; rw [if_pos (enc_take l t)]
theorem parL_enc (l : List Rec) (t : List UInt8) (h : ∀ r ∈ l, r.length ≤ 1048576) : parL (encW l ++ t) = l ++ parP l.length t := by
  unfold parL
  rw [if_pos (enc_take l t)]
  unfold encW
  rw [List.append_assoc, List.drop_left' (show W8.length = 8 from rfl), parP_enc l 0 t h, Nat.zero_add]
theorem parL_all {l : List Rec} (h : ∀ r ∈ l, r.length ≤ 1048576) : parL (encW l) = l := by
  have := parL_enc l [] h
  rw [List.append_nil, parP_stop (by simp [oneW]), List.append_nil] at this; exact this
theorem parP_max : ∀ (f : Nat) (n : Nat) (b : List UInt8), ∀ r ∈ parF f n b, r.length ≤ 1048576
  | 0, _, _, r, h => by cases h
  | f + 1, n, b, r, h => by
    unfold parF at h
    split at h
    · cases h
    · rename_i x hx
      rcases List.mem_cons.1 h with e | h
      · rw [e]; exact (oneW_len hx).2.2
      · exact parP_max f _ _ r h
theorem parL_max (b : List UInt8) : ∀ r ∈ parL b, r.length ≤ 1048576 := fun r h => by
  unfold parL at h
  split at h
  · exact parP_max _ _ _ r h
  · cases h
theorem parP_pre : ∀ (f n : Nat) (b : List UInt8), b.length ≤ f → ∃ t, b = encN n (parP n b) ++ t ∧ oneW (n + (parP n b).length) t = none
  | 0, n, b, h => by
    have : oneW n b = none := by unfold oneW; rw [if_pos (.inl (by omega))]
    rw [parP_stop this]; exact ⟨b, rfl, by simpa using this⟩
  | f + 1, n, b, h => by
    cases ho : oneW n b with
    | none => rw [parP_stop ho]; exact ⟨b, rfl, by simpa using ho⟩
    | some r =>
      have h1 := oneW_len ho
      obtain ⟨t, e, h2⟩ := parP_pre f (n + 1) (b.drop (13 + r.length)) (by rw [List.length_drop]; omega)
      rw [parP_step ho]
      refine ⟨t, ?_, by rw [List.length_cons, show n + ((parP (n + 1) (b.drop (13 + r.length))).length + 1) = n + 1 + (parP (n + 1) (b.drop (13 + r.length))).length by omega]; exact h2⟩
      rw [encN, List.append_assoc, ← e]
      exact oneW_some ho
/-- bytes are their records, and a rest that begins with none -/
theorem parL_pre {b : List UInt8} (h : parE b = 0) : ∃ t, b = encW (parL b) ++ t ∧ oneW (parL b).length t = none := by
  have h8 : b.take 8 = W8 := by unfold parE at h; split at h; assumption; cases h
  obtain ⟨t, e, h2⟩ := parP_pre _ 0 (b.drop 8) (Nat.le_refl _)
  have e2 : parL b = parP 0 (b.drop 8) := by unfold parL; rw [if_pos h8]
  refine ⟨t, ?_, by rw [e2]; simpa using h2⟩
  rw [e2]; unfold encW
  rw [List.append_assoc, ← e, ← h8, List.take_append_drop]
/-! ### a torn end -/
end Go.Proofs.YtdliddjkacbggaaDoor.WalA
/-
  Families of rows that are ours, one for each key; histories above a heap's size: no condition.
-/
namespace Go.Proofs.YtdliddjkacbggaaDoor.E
set_option linter.unusedVariables false
set_option linter.unusedSimpArgs false
set_option linter.unusedSectionVars false
/-- numbers that are 0 or above h -/
def BL (h : Nat) (ks : List Nat) : Prop := ∀ k ∈ ks, Nx 0 h k
section
variable {h k kk : Nat} {ks : List Nat} {G F : Nat → Prop} {H0 H H' : Heap}
theorem BL.nil : BL h [] := fun k hk => by cases hk
theorem BL.cons (d : Nx 0 h k) (e : BL h ks) : BL h (k :: ks) := fun j hj => by
  rcases List.mem_cons.1 hj with rfl | hj
  · exact d
  · exact e j hj
theorem Nx.z {a : Nat} (x : Nx 0 h k) : Nx a h k := by unfold Nx at *; omega
end
section
variable {κ β : Type} [DecidableEq κ] {fk : κ → Value} {fv : β → Value} {b m r : Nat} {l : List (κ × β)} {es : Array MapEntry} {clock : Nat} {dn : List κ} {H H' : Heap}
end
/-- rows that are ours, one for each key, of blocks that are told -/
structure Fam {κ α : Type} (G : Nat → Prop) (e : TypeId) (H : Heap) (f : α → List Value) (sz : Nat) (val : κ → Value) (ch : κ → List α) : Prop where
  ex : ∃ nm : κ → Nat, (∀ p, Ow (nm p) e H f sz (val p) (ch p)) ∧ (∀ p q, p ≠ q → Dj (nm p) (nm q)) ∧ ∀ p b, b + 1 = nm p → G b
section
variable {κ α : Type} {G : Nat → Prop} {e : TypeId} {H H' : Heap} {f : α → List Value} {sz : Nat} {val : κ → Value} {ch : κ → List α} {ks : List Nat}
theorem Fam.none (hf : ∀ x, (f x).length = sz) (h1 : ∀ x, ∀ u ∈ f x, u.oneCell' = true) : Fam G e H f sz (fun _ : κ => .slice none 0 0) (fun _ => ([] : List α)) :=
  ⟨fun _ => 0, fun p => ⟨(Ow.nil hf h1).own, Nat.zero_le _⟩, fun p q _ => Dj.z, fun p b (hb : b + 1 = 0) => absurd hb (by omega)⟩
theorem Fam.nw (h : Fam G e H f sz val ch) (s : Nw H H') : Fam G e H' f sz val ch := by
  obtain ⟨nm, h1, h2, h3⟩ := h.ex
  exact ⟨nm, fun p => (h1 p).nw s, h2, h3⟩
theorem Fam.upL (h : Fam G e H f sz val ch) (s : Mo (Ms ks) H H') (d : DFL G ks) : Fam G e H' f sz val ch := by
  obtain ⟨nm, h1, h2, h3⟩ := h.ex
  exact ⟨nm, fun p => (h1 p).up s (fun b _ hb hm => d (b + 1) hm b (h3 p b hb) rfl), h2, h3⟩
theorem Fam.row (h : Fam G e H f sz val ch) (p : κ) : Rd G H f sz (val p) (ch p) := by
  obtain ⟨nm, h1, h2, h3⟩ := h.ex
  exact (h1 p).rd.imp (fun b _ hb => h3 p b hb)
theorem Fam.at [DecidableEq κ] (h : Fam G e H f sz val ch) (p : κ) : ∃ kk, Ow kk e H f sz (val p) (ch p) ∧ (∀ b, b + 1 = kk → G b) ∧
    ∀ H' k2 r l', Mo (Ms [kk]) H H' → Ow k2 e H' f sz r l' → Nx kk H.size k2 → Fam (fun b => G b ∨ b + 1 = k2) e H' f sz (fun q => if q = p then r else val q) (fun q => if q = p then l' else ch q) := by
  obtain ⟨nm, h1, h2, h3⟩ := h.ex
  refine ⟨nm p, h1 p, h3 p, fun H' k2 r l' s hr hk => ⟨fun q => if q = p then k2 else nm q, fun q => ?_, fun a b hab => ?_, fun q b hb => ?_⟩⟩
  · by_cases hq : q = p
    · simp only [hq, if_true]; exact hr
    · simp only [hq, if_false]
      exact (h1 q).upL s (DL.cons (h2 q p hq) DL.nil)
  · by_cases ha : a = p <;> by_cases hb : b = p
    · exact absurd (ha.trans hb.symm) hab
    · simp only [ha, hb, if_true, if_false]; exact (Dj.app (h2 b p hb) (h1 b).le hk).symm
    · simp only [ha, hb, if_true, if_false]; exact Dj.app (h2 a p ha) (h1 a).le hk
    · simp only [ha, hb, if_false]; exact h2 a b hab
  · by_cases hq : q = p
    · simp only [hq, if_true] at hb; exact .inr hb
    · simp only [hq, if_false] at hb; exact .inl (h3 q b hb)
end
end Go.Proofs.YtdliddjkacbggaaDoor.E
/-
  A range over a function: the rounds of its body, the call of yield, what stays behind: no condition.
-/
namespace Go.Proofs.YtdliddjkacbggaaDoor.E
set_option linter.unusedVariables false
set_option linter.unusedSimpArgs false
set_option linter.unusedSectionVars false
/-- the fence that lets all in, in a round or in none -/
abbrev FW (ro : Option Nat) : Fence := { Fence.wide with round := ro }
/-- the block b is a loop's record -/
structure Lpr (H : Heap) (b : Nat) (r : Loop) : Prop where
  at_ : H[b]? = some (.loop r)
/-- the block b bears the calls that were put off -/
structure Dfr (H : Heap) (b : Nat) : Prop where
  at_ : H[b]? = some (.deferred (some []))
section
variable {H H' : Heap} {b : Nat} {r : Loop} {ks : List Nat}
theorem Lpr.lt (h : Lpr H b r) : b < H.size := (Array.getElem?_eq_some_iff.1 h.at_).1
theorem Lpr.le (h : Lpr H b r) : b + 1 ≤ H.size := h.lt
theorem Lpr.up {S : Nat → Prop} (h : Lpr H b r) (s : Mo S H H') (hS : ¬ S b) : Lpr H' b r := ⟨by rw [s.same b h.lt hS]; exact h.at_⟩
theorem Lpr.nw (h : Lpr H b r) (s : Nw H H') : Lpr H' b r := h.up s (fun e => e)
theorem Lpr.upL (h : Lpr H b r) (s : Mo (Ms ks) H H') (d : DL (b + 1) ks) : Lpr H' b r := h.up s (fun h2 => d (b + 1) h2 b rfl rfl)
theorem Dfr.lt (h : Dfr H b) : b < H.size := (Array.getElem?_eq_some_iff.1 h.at_).1
theorem Dfr.le (h : Dfr H b) : b + 1 ≤ H.size := h.lt
theorem Dfr.up {S : Nat → Prop} (h : Dfr H b) (s : Mo S H H') (hS : ¬ S b) : Dfr H' b := ⟨by rw [s.same b h.lt hS]; exact h.at_⟩
theorem Dfr.nw (h : Dfr H b) (s : Nw H H') : Dfr H' b := h.up s (fun e => e)
theorem Dfr.upL (h : Dfr H b) (s : Mo (Ms ks) H H') (d : DL (b + 1) ks) : Dfr H' b := h.up s (fun h2 => d (b + 1) h2 b rfl rfl)
end
theorem Var.le {e : TypeId} {H : Heap} {b : Nat} {cs : List Value} (h : Var e H b cs) : b + 1 ≤ H.size := h.lt
/-- operations in the text's order, within a fence that lets all in -/
def LRI (ro : Option Nat) (P : Program) (w0 : World) (ops : Array Oper) (Q : Exit → Act → World → Prop) (n : Nat) (l : FL) (rest : List Oper) (H : Heap) : Prop :=
  ∀ a w, Fr n l a → At w0 H w → wpListIn (FW ro) 0 P ops Q rest a w
/-- yield, called with these: a round -/
def YCt (P : Program) (w0 : World) (lp : Nat) (args : List Value) (H : Heap) (R : Value → Heap → Prop) : Prop :=
  ∀ w, At w0 H w → YieldAt (FW none) 0 P lp args.toArray w (fun e w' => ∃ r H', e = .returned r ∧ At w0 H' w' ∧ R r H')
section
variable {ro : Option Nat} {P : Program} {w0 : World} {Q : Exit → Act → World → Prop} {n : Nat} {l : FL} {H : Heap} {ops : Array Oper} {rest : List Oper} {o : Oper}
theorem LRI.nil (h : QN w0 Q n l H) : LRI ro P w0 ops Q n l [] H := fun a w hf ha => h a w hf ha
theorem LRI.v {v : Value} {d : Nat} (hy : Y P w0 n l H o v) (hnd : ∀ c, o.op ≠ .defer c) (hw : Wd ops l o) (hd : o.dst = some d) (hn : Nat.blt d n = true) (h : LRI ro P w0 ops Q n ((d, v) :: l) rest H) : LRI ro P w0 ops Q n l (o :: rest) H := by
  intro a w hf ha
  have hp := hf.put hn v
  rw [← hd] at hp
  unfold wpListIn
  rw [if_pos (hw n a hf)]
  refine ⟨fun _ _ => trivial, ?_⟩
  rw [Oper.semAt_eq _ _ _ hnd, hy a w hf ha]
  exact h _ w hp ha
theorem LRI.z {R : Value → Heap → Prop} {d : Nat} (hz : Z P w0 n l H o R) (hnd : ∀ c, o.op ≠ .defer c) (hw : Wd ops l o) (hd : o.dst = some d) (hn : Nat.blt d n = true) (h : ∀ v H', R v H' → LRI ro P w0 ops Q n ((d, v) :: l) rest H') : LRI ro P w0 ops Q n l (o :: rest) H := by
  intro a w hf ha
  obtain ⟨v, H', w', hr, ha', hR⟩ := hz a w hf ha
  have hp := hf.put hn v
  rw [← hd] at hp
  unfold wpListIn
  rw [if_pos (hw n a hf)]
  refine ⟨fun _ _ => trivial, ?_⟩
  rw [Oper.semAt_eq _ _ _ hnd, hr]
  exact h v H' hR _ w' hp ha'
theorem LRI.s {R : Heap → Prop} (hz : S P w0 n l H o R) (hnd : ∀ c, o.op ≠ .defer c) (hw : Wd ops l o) (hd : o.dst = none) (h : ∀ H', R H' → LRI ro P w0 ops Q n l rest H') : LRI ro P w0 ops Q n l (o :: rest) H := by
  intro a w hf ha
  obtain ⟨H', w', hr, ha', hR⟩ := hz a w hf ha
  unfold wpListIn
  rw [if_pos (hw n a hf)]
  refine ⟨fun _ _ => trivial, ?_⟩
  rw [Oper.semAt_eq _ _ _ hnd, hr]
  show wpListIn (FW ro) 0 P ops Q rest (a.put o.dst undef) w'
  rw [hd]
  exact h H' hR a w' hf ha'
theorem LRI.round {R : Value → Heap → Prop} {d lp : Nat} {c : Operand} {args : List Operand} {ats : Array TypeId} {vs : List Value} (ho : o.op = .call { callee := .value c, args := args.toArray, argTypes := ats })
    (hcv : opv l c = some (.func (.yield lp) #[] #[])) (hv : opvs l args = some vs) (hw : Wd ops l o) (hd : o.dst = some d) (hn : Nat.blt d n = true) (hc : YCt P w0 lp vs H R)
    (h : ∀ v H', R v H' → LRI none P w0 ops Q n ((d, v) :: l) rest H') : LRI none P w0 ops Q n l (o :: rest) H := by
  intro a w hf ha
  obtain ⟨fn, tmps, assign, body, hy, hr⟩ := hc w ha
  have he : (execOp a.eval o).run P w = .ok (.round lp fn tmps assign body) w := by
    have h2 := hf.evals hv
    have h3 : (args.toArray.map a.eval) = vs.toArray := by rw [List.map_toArray, h2]
    simp [execOp, ho, resolve, Deferred.ofValue, hf.eval hcv, invoke, h2, hy]
  unfold wpListIn
  rw [if_pos (hw n a hf)]
  refine ⟨fun _ _ => trivial, ?_⟩
  rw [Oper.semAt_eq _ _ _ (by intro c e; rw [ho] at e; cases e), he, Oper.uponIn_round]
  refine ⟨fun q => (by cases q), ?_⟩
  refine hr.mono ?_
  rintro e w' ⟨r, H', rfl, ha', hR⟩
  have hp := hf.put hn r
  rw [← hd] at hp
  exact h r H' hR _ w' hp ha'
theorem LRI.mono {Q2 : Exit → Act → World → Prop} (hq : ∀ e a w, Q e a w → Q2 e a w) {id : Nat} {lo : List Oper} (h : LRI ro P w0 lo.toArray Q n l lo H) {a : Act} {w : World} (hf : Fr n l a) (ha : At w0 H w) : (Code.region id lo.toArray false).wpIn (FW ro) 0 P Q2 a w :=
  Code.wpIn_mono hq (wpIn_region_lit (h a w hf ha))
/-- a round out of the walks of its two pieces of code -/
theorem YCt.of {r : Loop} {x : Value} {p lp ida idb idc : Nat} {la lb : List Oper} {R : Value → Heap → Prop} (hl : Lpr H lp r) (hst : r.state = .ready) (hpe : r.pending = none) (hps : r.params = #[p]) (hA : r.assign = .region ida la.toArray false) (hB : r.body = .block idb (.region idc lb.toArray false))
    (hf : Fr n l { tmps := r.tmps.setIfInBounds p x, defers := [] })
    (h : LRI (some lp) P w0 la.toArray (fun e a1 w1 => e = .normal ∧ ∃ l2 H2, Fr n l2 a1 ∧ At w0 H2 w1 ∧ Lpr H2 lp r ∧
      LRI (some lp) P w0 lb.toArray (fun e a3 w3 => e = .normal ∧ ∃ H3, At w0 H3 w3 ∧ Lpr H3 lp { r with state := .busy } ∧ R (.bool true) (H3.setIfInBounds lp (.loop r))) n l2 lb (H2.setIfInBounds lp (.loop { r with state := .busy }))) n l la H) :
    YCt P w0 lp [x] H R := by
  intro w ha
  have hlw : w.heap[lp]? = some (.loop r) := by rw [ha.heap]; exact hl.at_
  refine ⟨r.fn, r.tmps.setIfInBounds p x, r.assign, r.body, ?_, ?_⟩
  · have := run_yield (P := P) (args := #[x]) hlw (by rw [hps]; rfl)
    rw [hps] at this
    simpa using this
  · refine roundIn_of_wpIn (F := FW none) trivial ?_
    rw [hA, hB]
    refine LRI.mono (ro := some lp) ?_ h hf ha
    rintro e a1 w1 ⟨rfl, l2, H2, hf2, ha2, hl2, hb⟩
    have hlw2 : w1.heap[lp]? = some (.loop r) := by rw [ha2.heap]; exact hl2.at_
    refine ⟨_, run_beginRound (P := P) hlw2 hst, ?_⟩
    have ha3 : At w0 (H2.setIfInBounds lp (.loop { r with state := .busy })) (w1.putObj lp (.loop { r with state := .busy })) := by
      unfold World.putObj
      rw [ha2.heap]
      exact ha2.set
    refine wpIn_block ?_
    refine LRI.mono (ro := some lp) ?_ hb hf2 ha3
    rintro e a3 w3 ⟨rfl, H3, ha4, hl4, hR⟩
    have hlw4 : w3.heap[lp]? = some (.loop { r with state := .busy }) := by rw [ha4.heap]; exact hl4.at_
    refine ⟨_, _, run_endRound (P := P) none hlw4, .bool true, H3.setIfInBounds lp (.loop r), rfl, ?_, hR⟩
    have hr2 : ({ ({ r with state := .busy } : Loop) with state := if (none : Option Code).isNone then .ready else .done, pending := none } : Loop) = r := by
      cases r
      simp only at hst hpe
      subst hst hpe
      rfl
    rw [hr2]
    unfold World.putObj
    rw [ha4.heap]
    exact ha4.set
end
end Go.Proofs.YtdliddjkacbggaaDoor.E
/-
  Things of many blocks (sets of numbers): what is apart from them: no condition.
-/
namespace Go.Proofs.YtdliddjkacbggaaDoor.E
set_option linter.unusedVariables false
section
variable {F : Nat → Prop} {a k k2 h h2 m : Nat} {K K0 K2 K3 ks : List Nat}
def DKL (K ks : List Nat) : Prop := ∀ k ∈ K, DL k ks
/-- each number is an elder one, or lies behind h -/
def NxK (K : List Nat) (h : Nat) (K2 : List Nat) : Prop := ∀ k ∈ K2, k = 0 ∨ k ∈ K ∨ h < k
def BK (K : List Nat) (h : Nat) : Prop := ∀ k ∈ K, k ≤ h
theorem DL.z (h : False) : DL a K := h.elim
theorem DL.zK : DL 0 K := fun k _ => Dj.z2
theorem DL.app (d : DL a K) (e : DL a ks) : DL a (K ++ ks) := fun k hk => (List.mem_append.1 hk).elim (d k) (e k)
theorem DFL.app (d : DFL F K) (e : DFL F ks) : DFL F (K ++ ks) := fun k hk => (List.mem_append.1 hk).elim (d k) (e k)
theorem DKL.nil : DKL K [] := fun k _ => DL.nil
theorem DKL.cons (d : DL m K) (e : DKL K ks) : DKL K (m :: ks) := fun k hk => DL.cons (d k hk).symm (e k hk)
theorem DKL.app (d : DKL K K2) (e : DKL K ks) : DKL K (K2 ++ ks) := fun k hk => DL.app (d k hk) (e k hk)
theorem DKL.symm (d : DKL K K2) : DKL K2 K := fun k hk j hj => (d j hj k hk).symm
theorem MIL.app {js : List Nat} (d : MIL ks h K) (e : MIL ks h js) : MIL ks h (K ++ js) := fun k hk => (List.mem_append.1 hk).elim (d k) (e k)
theorem DL.newK (b : BK K h) : DL (h + 1) K := fun k hk => (Dj.new (b k hk)).symm
theorem DL.appK (d : DL a K) (ha : a ≤ h) (x : NxK K h K2) : DL a K2 := fun k hk => by
  rcases x k hk with e | e | e
  · subst e; exact Dj.z
  · exact d k e
  · intro c h1 h2; omega
theorem DFL.appK (d : DFL F K) (hb : BF F h) (x : NxK K h K2) : DFL F K2 := fun k hk b hF he => by
  have := hb b hF
  rcases x k hk with e | e | e
  · omega
  · exact d k e b hF he
  · omega
theorem DKL.appK (d : DKL K0 K) (b : BK K0 h) (x : NxK K h K2) : DKL K0 K2 := fun k hk => DL.appK (d k hk) (b k hk) x
theorem DL.app2 (d : DL k K) (b : BK K h) (x : Nx k h k2) : DL k2 K := fun j hj => by
  rcases x with e | e | e
  · subst e; exact Dj.z2
  · subst e; exact d j hj
  · have := b j hj; intro c h1 h2; omega
theorem NxK.refl (K : List Nat) (h : Nat) : NxK K h K := fun k hk => .inr (.inl hk)
theorem NxK.tr (x : NxK K h K2) (y : NxK K2 h2 K3) (hh : h ≤ h2) : NxK K h K3 := fun k hk => by
  rcases y k hk with e | e | e
  · exact .inl e
  · exact x k e
  · exact .inr (.inr (by omega))
theorem NxK.cons (d : Nx 0 h a) (x : NxK K h K2) : NxK K h (a :: K2) := fun k hk => by
  rcases List.mem_cons.1 hk with e | e
  · subst e; unfold Nx at d; omega
  · exact x k e
/-- a number of a set's, or none -/
def KM (K : List Nat) (k : Nat) : Prop := ∀ c, c + 1 = k → c + 1 ∈ K
theorem KM.of (h : k ∈ K) : KM K k := fun c e => by rw [e]; exact h
theorem KM.cons (h : KM K k) : KM (a :: K) k := fun c e => List.mem_cons_of_mem _ (h c e)
theorem KM.or (h : KM K k) : k = 0 ∨ k ∈ K := by
  cases k with
  | zero => exact .inl rfl
  | succ c => exact .inr (h c rfl)
theorem DL.at (d : DL a K) (m : KM K k) : Dj a k := by
  rcases m.or with e | e
  · subst e; exact Dj.z
  · exact d k e
theorem DFL.at (d : DFL F K) (m : KM K k) : DF F k := by
  rcases m.or with e | e
  · subst e; exact DF.z
  · exact d k e
theorem MIL.at (d : MIL ks h K) (m : KM K k) : MI ks h k := by
  rcases m.or with e | e
  · subst e; exact MI.z
  · exact d k e
theorem NxK.app {k0 : Nat} (x : NxK K h K2) (hm : KM K2 k0) (y : Nx k0 h2 a) (hh : h ≤ h2) : NxK K h (a :: K2) := fun k hk => by
  rcases List.mem_cons.1 hk with e | e
  · subst e
    rcases y with y | y | y
    · exact .inl y
    · rcases hm.or with e2 | e2
      · exact .inl (y.trans e2)
      · rw [y]; exact x k0 e2
    · exact .inr (.inr (by omega))
  · exact x k e
theorem DL.nxK (b : BK K h) (x : Nx 0 h a) : DL a K := fun k hk => by
  have := b k hk
  intro c h1 h2
  unfold Nx at x; omega
theorem NxK.new (hh : h < a) (x : NxK K h K2) : NxK K h (a :: K2) := NxK.cons (.inr (.inr hh)) x
theorem MIL.ofK (x : NxK K h K2) (hk : ∀ k ∈ K, k ∈ ks) : MIL ks h K2 := fun k hk2 b hb e => by
  rcases x k hk2 with e2 | e2 | e2
  · omega
  · unfold Ms; rw [e]; exact hk k e2
  · omega
theorem MIL.ofK0 (x : NxK [] h K2) : MIL ks h K2 := fun k hk2 b hb e => by
  rcases x k hk2 with e2 | e2 | e2
  · omega
  · cases e2
  · omega
theorem BL.ofK (x : NxK [] h K) : BL h K := fun k hk => by
  rcases x k hk with e | e | e
  · exact .inl e
  · cases e
  · exact .inr (.inr e)
theorem BL.app (d : BL h K) (e : BL h ks) : BL h (K ++ ks) := fun k hk => (List.mem_append.1 hk).elim (d k) (e k)
theorem DFL.above {n : Nat} (hF : ∀ b, F b → n ≤ b) (hk : BK K n) : DFL F K := fun k hk2 b h1 e => by have := hF b h1; have := hk k hk2; omega
theorem DFL.below {n : Nat} (hF : BF F n) (hk : NxK [] n K) : DFL F K := fun k hk2 b h1 e => by
  have := hF b h1
  rcases hk k hk2 with e2 | e2 | e2
  · omega
  · cases e2
  · omega
theorem DFL.sub {G : Nat → Prop} (d : DFL F K) (h : ∀ b, G b → F b) : DFL G K := fun k hk b hb => d k hk b (h b hb)
end
/-! ### keys that are texts -/
section
open Go.MapKept
variable {P : Program} {w0 : World} {n : Nat} {l : FL} {H : Heap} {o : Oper} {κ β : Type} [DecidableEq κ] {fk : κ → Value} {fv : β → Value} {b : Nat} {m : List (κ × β)} {d : TypeDesc}
theorem Z.delS {t u kt et : TypeId} {x i : Operand} {k : κ} (h : Mp H fk fv b m) (hfk : KeyFn d fk) (ho : o.op = .call { callee := .builtin .delete, args := #[x, i], argTypes := #[t, u] }) (hm : ∀ w, (underlying t).run P w = .ok (.map kt et) w) (hk : P.underlying kt = some d)
    (hx : opv l x = some (.map (some b))) (hi : opv l i = some (fk k)) : Z P w0 n l H o (fun r H' => r = .tuple #[] ∧ Mp H' fk fv b (mdel m k) ∧ Mo (fun c => c = b) H H') := by
  intro ac w hf ha
  obtain ⟨r, es, clock, hv, h2, h3, h4, h5⟩ := h.mo.ex
  obtain rfl := h2
  have h3' : w.heap[r]? = some (.map es clock) := by rw [ha.heap]; exact h3
  have hlt := (Array.getElem?_eq_some_iff.1 h3).1
  have hget : ∀ ob, (H.setIfInBounds r ob)[r]? = some ob := fun ob => by simp [hlt]
  rcases find_entries (k := k) hfk es.toList m 0 h5 with ⟨q1, q2, q3⟩ | ⟨j, e', b', q1, q2, q3, q4, q5⟩
  · refine ⟨_, H.setIfInBounds r (.map es clock), { w with heap := H.setIfInBounds r (.map es clock) }, ?_, ha.set, rfl, ⟨⟨r, _, _, rfl, rfl, hget _, h4, ?_⟩⟩, mo_set _⟩
    · simp [execOp, ho, hf.eval hx, hf.eval hi, resolve, invoke, builtin, Builtin.delete_, hm, MapKept.run_getObj_map h3', MapKept.run_checkKey hk (hfk.key k), MapKept.run_findKey hk q2, MapKept.run_setObj_map _ h3', ha.heap]
    · rw [h5]
      congr 1
      unfold mdel
      exact (List.filter_eq_self.2 (fun p hp => by simpa using mget_none q1 p hp)).symm
  · have hj : es[j]? = some e' := by simpa using q3
    refine ⟨_, H.setIfInBounds r (.map (es.eraseIdxIfInBounds j) clock), { w with heap := H.setIfInBounds r (.map (es.eraseIdxIfInBounds j) clock) }, ?_, ha.set, rfl, ⟨⟨r, _, _, rfl, rfl, hget _, stamped_erase h4 _, ?_⟩⟩, mo_set _⟩
    · simp [execOp, ho, hf.eval hx, hf.eval hi, resolve, invoke, builtin, Builtin.delete_, hm, MapKept.run_getObj_map h3', MapKept.run_checkKey hk (hfk.key k), MapKept.run_findKey hk q2, MapKept.run_setObj_map _ h3', ha.heap]
    · have hjl : j < es.size := (Array.getElem?_eq_some_iff.1 hj).1
      rw [Array.eraseIdxIfInBounds, dif_pos hjl, Array.toList_eraseIdx]
      exact erase_entries hfk.inj es.toList m j e' h5 h4.2.2 q3 q4
end
end Go.Proofs.YtdliddjkacbggaaDoor.E
/-
  The disk: the library's functions on texts; what a path is, and its directory.
-/
namespace Go.Proofs.YtdliddjkacbggaaDoor.SimA
open Go.Proofs.YtdliddjkacbggaaDoor.E Go.RowKit
set_option maxRecDepth 20000
set_option linter.unusedVariables false
set_option linter.unusedSimpArgs false
set_option linter.unusedSectionVars false

/-! ### contracts of the library's, as this engine's -/
theorem Ct.still {P : Program} {w0 : World} {f : FuncId} {args : Array Value} {H : Heap} {v : Value} (h : ∀ w, At w0 H w → Calls P f args w fun e w' => e = .returned v ∧ w' = w) : Ct P w0 f args H (fun r H2 => r = v ∧ Nw H H2) :=
  fun w ha => (h w ha).mono (fun e w' ⟨he, hw⟩ => ⟨v, H, he, by rw [hw]; exact ha, rfl, Nw.refl _⟩)
/-- the library's variable holds some number -/
abbrev MX (m : Int) (H : Heap) : Prop := PtF (fun b => b = 0) H ⟨0, 0, none⟩ [.int .i64 m]
theorem MX.cell {m : Int} {H : Heap} {w0 w : World} (h : MX m H) (ha : At w0 H w) : w.cell? ⟨0, 0, none⟩ = some (.int .i64 m) := by
  have := h.pt.cells 0 (.int .i64 m) rfl
  rw [ha.cell]; exact this
theorem contains_ct (s sub : List UInt8) (mx_ : Int) (w0 : World) (H0 : Heap) (mx : MX mx_ H0) (hs : s.length < 4294967281) : Ct Tryd.prog w0 43 #[Str s, Str sub] H0 (fun r H2 => r = .bool (Lib.contains s sub) ∧ Nw H0 H2) :=
  Ct.still (fun w ha => by
    have h : Calls Tryd.prog 43 #[Str s, Str sub] w fun e w' => e = .returned (.bool (Lib.contains s sub)) ∧ w' = w := Any.strings_Contains Tryd.lays144 ⟨s.toArray⟩ ⟨sub.toArray⟩ mx_ w (by simpa [ByteArray.size] using hs) (mx.cell ha)
    exact h)

theorem idx_ct (s : List UInt8) (c : UInt8) (w0 : World) (H0 : Heap) : Ct Tryd.prog w0 44 #[Str s, .int .u8 c.toNat] H0 (fun r H2 => r = .int .i64 (Lib.indexByte s c) ∧ Nw H0 H2) :=
  Ct.still (fun w ha => by
    have h : Calls Tryd.prog 44 #[Str s, .int .u8 c.toNat] w fun e w' => e = .returned (.int .i64 (Lib.indexByte s ((c.toNat : Int)).toNat.toUInt8)) ∧ w' = w := Any.strings_IndexByte Tryd.lays137 ⟨s.toArray⟩ c.toNat w
    have e : ((c.toNat : Int)).toNat.toUInt8 = c := by simp
    rw [e] at h; exact h)

/-- a path's last name -/
def lastL (p : List UInt8) : List UInt8 := (p.reverse.takeWhile (fun c => c ≠ 47)).reverse
theorem lastL_at {p : List UInt8} {j : Nat} (hj : j ≤ p.length) (h1 : ∀ q (h : q < p.length), j ≤ q → p[q] ≠ 47) (h2 : ∀ h : 0 < j, p[j - 1]'(by omega) = 47) : lastL p = p.drop j := by
  have e : p.reverse = (p.drop j).reverse ++ (p.take j).reverse := by rw [← List.reverse_append, List.take_append_drop]
  have hd : ∀ c ∈ (p.drop j).reverse, (decide (c ≠ 47)) = true := by
    intro c hc
    rw [List.mem_reverse, List.mem_iff_getElem] at hc
    obtain ⟨q, hq, rfl⟩ := hc
    rw [List.getElem_drop]
    simpa using h1 (j + q) (by simpa using (by rw [List.length_drop] at hq; omega)) (by omega)
  unfold lastL
  rw [e, List.takeWhile_append_of_pos hd]
  rcases Nat.eq_zero_or_pos j with h0 | h0
  · subst h0; simp
  · have e2 : (p.take j).reverse = 47 :: (p.take (j - 1)).reverse := by
      have : p.take j = p.take (j - 1) ++ [47] := by
        have h3 := List.take_succ_eq_append_getElem (l := p) (i := j - 1) (by omega)
        rw [show j - 1 + 1 = j by omega, h2 h0] at h3
        exact h3
      rw [this]; simp
    rw [e2, List.takeWhile_cons]; simp


theorem Ct.still2 {P : Program} {w0 : World} {f : FuncId} {args : Array Value} {H : Heap} {v : Value} (h : ∀ w, At w0 H w → Calls P f args w fun e w' => e = .returned v ∧ (w' = w ∨ w' = w.drew)) : Ct P w0 f args H (fun r H2 => r = v ∧ Nw H H2) :=
  fun w ha => (h w ha).mono (fun e w' ⟨he, hw⟩ => by
    rcases hw with rfl | rfl
    · exact ⟨v, H, he, ha, rfl, Nw.refl _⟩
    · exact ⟨v, H, he, ha.drew, rfl, Nw.refl _⟩)
theorem trim_ct (s : List UInt8) (w0 : World) (H0 : Heap) (hs : s.length ≤ 9223372036854775807) : Ct Tryd.prog w0 42 #[Str s, Str [47]] H0 (fun r H2 => r = Str (Lib.trimB s 47) ∧ Nw H0 H2) :=
  Ct.still2 (fun w ha => by
    have h : Calls Tryd.prog 42 #[Str s, Str [47]] w fun e w' => e = .returned (.string ⟨(Lib.trimB (⟨s.toArray⟩ : ByteArray).data.toList 47).toArray⟩) ∧ (w' = w ∨ w' = w.drew) := Any.strings_Trim_one Tryd.lays160 ⟨s.toArray⟩ 47 (by decide) w (by simpa [ByteArray.size] using hs)
    exact h)
def dd : List UInt8 → Bool
  | [] => false
  | [_] => false
  | a :: b :: l => (a == 47 && b == 47) || dd (b :: l)
theorem dd_index : ∀ s : List UInt8, (0 ≤ Lib.index s [47, 47]) ↔ dd s = true
  | [] => by simp [Lib.index, dd]
  | [a] => by simp [Lib.index, dd, List.isPrefixOf]
  | a :: b :: l => by
    have ih := dd_index (b :: l)
    have hg := Lib.index_ge (b :: l) [47, 47]
    rw [Lib.index]
    by_cases h : a = 47 ∧ b = 47
    · obtain ⟨rfl, rfl⟩ := h
      simp [List.isPrefixOf, dd]
    · have hp : ([47, 47] : List UInt8).isPrefixOf (a :: b :: l) = false := by
        simp only [List.isPrefixOf, Bool.and_true, Bool.and_eq_false_iff, beq_eq_false_iff_ne]
        by_cases h1 : a = 47
        · exact .inr (fun e => h ⟨h1, e.symm⟩)
        · exact .inl (fun e => h1 e.symm)
      have hd : dd (a :: b :: l) = dd (b :: l) := by
        rw [dd]
        have : (a == 47 && b == 47) = false := by
          rw [Bool.and_eq_false_iff, beq_eq_false_iff_ne, beq_eq_false_iff_ne]
          by_cases h1 : a = 47
          · exact .inr (fun e => h ⟨h1, e⟩)
          · exact .inl h1
        rw [this, Bool.false_or]
      rw [hp, hd, ← ih]
      simp only [Bool.false_eq_true, if_false]
      by_cases hm : Lib.index (b :: l) [47, 47] = -1
      · simp [hm]
      · simp [hm]; omega
theorem dd_iff : ∀ s : List UInt8, dd s = true ↔ ∃ i, i + 1 < s.length ∧ s.getD i 0 = 47 ∧ s.getD (i + 1) 0 = 47
  | [] => by simp [dd]
  | [a] => by simp [dd]
  | a :: b :: l => by
    rw [dd, Bool.or_eq_true, dd_iff (b :: l), Bool.and_eq_true, beq_iff_eq, beq_iff_eq]
    constructor
    · rintro (⟨h1, h2⟩ | ⟨i, h1, h2, h3⟩)
      · exact ⟨0, by simp, by simpa using h1, by simpa using h2⟩
      · exact ⟨i + 1, by simp at h1 ⊢; omega, by simpa using h2, by simpa using h3⟩
    · rintro ⟨i, h1, h2, h3⟩
      cases i with
      | zero => exact .inl ⟨by simpa using h2, by simpa using h3⟩
      | succ i => exact .inr ⟨i, by simp at h1 ⊢; omega, by simpa using h2, by simpa using h3⟩
theorem slk_iff {p : List UInt8} (h0 : 1 ≤ p.length) : slk p = true ↔ p.getD 0 0 ≠ 47 ∧ p.getD (p.length - 1) 0 ≠ 47 ∧ dd p = false := by
  unfold slk
  rw [List.all_eq_true]
  simp only [List.mem_range, Bool.not_eq_true', Bool.and_eq_false_iff, beq_eq_false_iff_ne, Bool.or_eq_false_iff]
  constructor
  · intro h
    refine ⟨?_, ?_, ?_⟩
    · rcases h 0 (by omega) with h | h
      · exact h
      · exact absurd rfl h.1.1
    · rcases h (p.length - 1) (by omega) with h | h
      · exact h
      · exact absurd rfl h.1.2
    · cases hd : dd p with
      | false => rfl
      | true =>
        obtain ⟨i, h1, h2, h3⟩ := (dd_iff p).1 hd
        rcases h (i + 1) h1 with h | h
        · exact absurd h3 h
        · exact absurd h2 (by simpa using h.2)
  · rintro ⟨h1, h2, h3⟩ i hi
    by_cases e : p.getD i 0 = 47
    · refine .inr ⟨⟨fun e0 => ?_, fun e0 => ?_⟩, fun e0 => ?_⟩
      · subst e0; exact h1 e
      · subst e0; exact h2 e
      · have : dd p = true := (dd_iff p).2 ⟨i - 1, by
          rcases Nat.eq_zero_or_pos i with h | h
          · subst h; exact absurd e h1
          · omega, e0, by
          rcases Nat.eq_zero_or_pos i with h | h
          · subst h; exact absurd e h1
          · rw [show i - 1 + 1 = i by omega]; exact e⟩
        rw [h3] at this; cases this
    · exact .inl e
theorem trimB_iff {p : List UInt8} (h0 : 1 ≤ p.length) : Lib.trimB p 47 = p ↔ p.getD 0 0 ≠ 47 ∧ p.getD (p.length - 1) 0 ≠ 47 := by
  have hL : ∀ q : List UInt8, (Lib.trimLeftB q 47).length ≤ q.length := fun q => (List.dropWhile_suffix _).length_le
  have hR : ∀ q : List UInt8, (Lib.trimRightB q 47).length ≤ q.length := fun q => by unfold Lib.trimRightB; rw [List.length_reverse]; have := (List.dropWhile_suffix (l := q.reverse) (fun x : UInt8 => x == 47)).length_le; rwa [List.length_reverse] at this
  have hl1 : ∀ q : List UInt8, 1 ≤ q.length → (Lib.trimLeftB q 47 = q ↔ q.getD 0 0 ≠ 47) := by
    intro q hq
    cases q with
    | nil => simp at hq
    | cons a l =>
      unfold Lib.trimLeftB
      rw [List.dropWhile_cons]
      by_cases ha : a = 47
      · have : (List.dropWhile (fun x : UInt8 => x == 47) l).length ≤ l.length := (List.dropWhile_suffix _).length_le
        simp only [ha, beq_self_eq_true, if_true, List.getD_cons_zero, ne_eq, not_true, iff_false]
        intro e
        rw [e] at this
        simp only [List.length_cons] at this
        omega
      · simp [ha]
  have hr1 : Lib.trimRightB p 47 = p ↔ p.getD (p.length - 1) 0 ≠ 47 := by
    have h := hl1 p.reverse (by rw [List.length_reverse]; omega)
    have e1 : p.reverse.getD 0 0 = p.getD (p.length - 1) 0 := by
      simp [List.getD, List.getElem?_reverse (show 0 < p.length by omega)]
    rw [← e1, ← h]
    unfold Lib.trimRightB Lib.trimLeftB
    constructor
    · intro h; have := congrArg List.reverse h; rwa [List.reverse_reverse] at this
    · intro h; rw [h, List.reverse_reverse]
  unfold Lib.trimB
  constructor
  · intro h
    have e : Lib.trimRightB p 47 = p := by
      refine (List.IsPrefix.eq_of_length_le ?_ ?_)
      · unfold Lib.trimRightB
        rw [← List.reverse_suffix, List.reverse_reverse]
        exact List.dropWhile_suffix _
      · have h1 := congrArg List.length h
        have h2 := hL (Lib.trimRightB p 47)
        omega
    rw [e] at h
    exact ⟨(hl1 p h0).1 h, hr1.1 e⟩
  · rintro ⟨h1, h2⟩
    rw [hr1.2 h2]; exact (hl1 p h0).2 h1
theorem name_iff (p : List UInt8) : nameB p = true ↔ p ≠ [] ∧ p.length ≤ 100 ∧ Lib.trimB p 47 = p ∧ Lib.contains p [47, 47] = false ∧ ∀ i (h : i < p.length), okc p[i] = true := by
  have hc : Lib.contains p [47, 47] = dd p := by
    unfold Lib.contains
    rw [Bool.eq_iff_iff, decide_eq_true_iff]; exact dd_index p
  unfold nameB
  simp only [Bool.and_eq_true, decide_eq_true_eq, List.all_eq_true]
  rw [hc]
  constructor
  · rintro ⟨⟨⟨h1, h2⟩, h3⟩, h4⟩
    have h5 := (slk_iff h1).1 h4
    exact ⟨fun e => by rw [e] at h1; simp at h1, h2, (trimB_iff h1).2 ⟨h5.1, h5.2.1⟩, h5.2.2, fun i h => h3 _ (List.getElem_mem h)⟩
  · rintro ⟨h1, h2, h3, h4, h5⟩
    have h0 : 1 ≤ p.length := by cases p with
      | nil => exact absurd rfl h1
      | cons a l => simp
    have h6 := (trimB_iff h0).1 h3
    refine ⟨⟨⟨h0, h2⟩, fun x hx => ?_⟩, (slk_iff h0).2 ⟨h6.1, h6.2, h4⟩⟩
    obtain ⟨i, hi, rfl⟩ := List.mem_iff_getElem.1 hx
    exact h5 i hi
theorem nameF {p : List UInt8} (h : ¬ (p ≠ [] ∧ p.length ≤ 100 ∧ Lib.trimB p 47 = p ∧ Lib.contains p [47, 47] = false ∧ ∀ i (h : i < p.length), okc p[i] = true)) : nameB p = false := by
  cases hn : nameB p with
  | false => rfl
  | true => exact absurd ((name_iff p).1 hn) h
theorem okc_iff (c : UInt8) : okc c = true ↔ (97 ≤ c.toNat ∧ c.toNat ≤ 122) ∨ (48 ≤ c.toNat ∧ c.toNat ≤ 57) ∨ 0 ≤ Lib.indexByte [46, 95, 45, 47] c := by
  have h : ∀ n : Fin 256, (okc (UInt8.ofNat n.val) = decide ((97 ≤ n.val ∧ n.val ≤ 122) ∨ (48 ≤ n.val ∧ n.val ≤ 57) ∨ 0 ≤ Lib.indexByte [46, 95, 45, 47] (UInt8.ofNat n.val))) := by decide +kernel
  have := h ⟨c.toNat, c.toNat_lt⟩
  simp only [UInt8.ofNat_toNat] at this
  rw [this, decide_eq_true_iff]
theorem head_of {s : List UInt8} {j : Nat} (hj : j ≤ s.length) (h : lastL s = s.drop j) : headP s = s.take (j - 1) := by
  unfold headP
  have h1 := congrArg List.length h
  unfold lastL at h1
  rw [List.length_reverse, List.length_drop] at h1
  rw [h1]; congr 1; omega

theorem lix_ct0 (s : List UInt8) (w0 : World) (H0 : Heap)
    (hl : s.length ≤ 9223372036854775807) :
    Ct Tryd.prog w0 85 #[Str s, .int .u8 (47 : UInt8).toNat] H0 (fun r H2 => ∃ j : Nat, r = .int .i64 ((j : Int) - 1) ∧ (j ≤ s.length) ∧ (lastL s = s.drop j) ∧ Nw H0 H2) := by
  refine Ct.enter (args := [Str s, .int .u8 (47 : UInt8).toNat]) Tryd.func85 rfl rfl rfl ?_
  intro Q0 hret
  have hm0 : Nw H0 H0 := Mo.refl _ _
  refine CW.seq (fun K1 hK1 hE1 => ?_)
  refine CW.region ?_
  refine LR.v (Y.assign rfl rfl) (Wd.u rfl) rfl rfl ?_
  refine LR.nil ?_
  refine hK1 _ _ ?_
  refine CW.seq (fun K2 hK2 hE2 => ?_)
  refine CW.seq (fun K3 hK3 hE3 => ?_)
  refine CW.region ?_
  refine LR.v (Y.move rfl rfl) (Wd.u rfl) rfl rfl ?_
  refine LR.v (Y.slen rfl Tryd.runUnderlying9 rfl) (Wd.u rfl) rfl rfl ?_
  refine LR.v (Y.subi rfl rfl rfl (by omega)) (Wd.u rfl) rfl rfl ?_
  refine LR.v (Y.assign rfl rfl) (Wd.u rfl) rfl rfl ?_
  refine LR.nil ?_
  refine hK3 _ _ ?_
  refine CW.block (fun K4 hK4 hX4 hE4 => ?_)
  refine CW.loop (fun (j : (Nat)) => [(0, Str s), (1, .int .u8 (47 : UInt8).toNat), (5, .int .i64 ((j : Int) - 1))])
    (fun (j : (Nat)) (H : Heap) => (j ≤ s.length) ∧ (∀ q (h : q < s.length), j ≤ q → s[q] ≠ 47) ∧ Nw H0 H)
    (fun (j : (Nat)) => j) s.length ⟨rfl, rfl, rfl, trivial⟩ ?_ ?_
  ·
    exact ⟨(by omega), (fun q h h2 => absurd h2 (by omega)), Mo.refl _ _⟩
  intro j HL1 hI1 K5 hN5 hE5
  obtain ⟨hj, hno, hlm1⟩ := hI1
  replace hm0 := hm0.tr hlm1
  have hz1 := hlm1.size
  refine CW.seq (fun K6 hK6 hE6 => ?_)
  refine CW.seq (fun K7 hK7 hE7 => ?_)
  refine CW.region ?_
  refine LR.v (Y.move rfl rfl) (Wd.u rfl) rfl rfl ?_
  refine LR.v (Y.geq rfl rfl rfl) (Wd.u rfl) rfl rfl ?_
  refine LR.nil ?_
  refine hK7 _ _ ?_
  refine CW.condp rfl (fun c10 => ?_) (fun c10 => ?_)
  ·
    refine CW.skip ?_
    refine hK6 _ _ ?_
    refine CW.seq (fun K8 hK8 hE8 => ?_)
    refine CW.block (fun K9 hK9 hX9 hE9 => ?_)
    refine CW.seq (fun K10 hK10 hE10 => ?_)
    refine CW.region ?_
    refine LR.v (Y.move rfl rfl) (Wd.u rfl) rfl rfl ?_
    refine LR.v (Y.move rfl rfl) (Wd.u rfl) rfl rfl ?_
    refine LR.v (Y.sindex (j - 1) rfl Tryd.runUnderlying9 rfl rfl (by first | rfl | omega) (by omega)) (Wd.u rfl) rfl rfl ?_
    refine LR.v (Y.move rfl rfl) (Wd.u rfl) rfl rfl ?_
    refine LR.v (Y.eql rfl rfl rfl) (Wd.u rfl) rfl rfl ?_
    refine LR.nil ?_
    refine hK10 _ _ ?_
    refine CW.condp rfl (fun c17 => ?_) (fun c17 => ?_)
    ·
      refine CW.seq (fun K11 hK11 hE11 => ?_)
      refine CW.region ?_
      refine LR.v (Y.move rfl rfl) (Wd.u rfl) rfl rfl ?_
      refine LR.v (Y.assign rfl rfl) (Wd.u rfl) rfl rfl ?_
      refine LR.nil ?_
      refine hK11 _ _ ?_
      refine CW.ret (hE9 .ret nofun (by simp) _ _ (hE8 .ret nofun _ _ (hE5 .ret nofun _ _ (hE4 .ret nofun (by simp) _ _ (hE2 .ret nofun _ _ (hret .ret (.inr rfl) _ _ _ (res1 rfl rfl) ?_))))))
      exact ⟨j, rfl, (by omega), lastL_at hj hno (fun h => by apply UInt8.toNat_inj.1; have := c17; simp at this ⊢; omega), hm0⟩
    ·
      refine CW.skip ?_
      refine hK9 _ _ ?_
      refine hK8 _ _ ?_
      refine CW.region ?_
      refine LR.v (Y.move rfl rfl) (Wd.u rfl) rfl rfl ?_
      refine LR.v (Y.subi rfl rfl rfl (by omega)) (Wd.u rfl) rfl rfl ?_
      refine LR.v (Y.assign rfl rfl) (Wd.u rfl) rfl rfl ?_
      refine LR.nil ?_
      refine QN.sub (hN5 (j - 1) _ ?_ ?_) ⟨rfl, (iv (by omega)), (iv (by omega)), trivial⟩
      · exact ⟨(by omega), (fun q h h2 => by rcases Nat.lt_or_ge q j with h5 | h5; (obtain rfl : q = j - 1 := by omega); exact (fun e => c17 (by first | (rw [e]; done) | (rw [e]; rfl))); exact hno q h h5), hlm1⟩
      · first | omega | (simp only; omega) | (simp; omega)
  ·
    refine CW.exit (hE6 (.exit 0) nofun _ _ (hE5 (.exit 0) nofun _ _ (hX4 _ _ ?_)))
    refine hK2 _ _ ?_
    refine CW.seq (fun K12 hK12 hE12 => ?_)
    refine CW.region ?_
    refine LR.v (Y.assign rfl rfl) (Wd.u rfl) rfl rfl ?_
    refine LR.nil ?_
    refine hK12 _ _ ?_
    refine CW.ret (hret .ret (.inr rfl) _ _ _ (res1 rfl rfl) ?_)
    obtain rfl : j = 0 := by omega
    exact ⟨0, rfl, (by omega), lastL_at hj hno (fun h => absurd h (Nat.lt_irrefl _)), hm0⟩

theorem lix_ct (s : List UInt8) (w0 : World) (H0 : Heap)
    (hl : s.length ≤ 9223372036854775807) :
    Ct Tryd.prog w0 72 #[Str s, .int .u8 (47 : UInt8).toNat] H0 (fun r H2 => ∃ j : Nat, r = .int .i64 ((j : Int) - 1) ∧ (j ≤ s.length) ∧ (lastL s = s.drop j) ∧ Nw H0 H2) := by
  refine Ct.enter (args := [Str s, .int .u8 (47 : UInt8).toNat]) Tryd.func72 rfl rfl rfl ?_
  intro Q0 hret
  have hm0 : Nw H0 H0 := Mo.refl _ _
  refine CW.seq (fun K1 hK1 hE1 => ?_)
  refine CW.region ?_
  refine LR.v (Y.assign rfl rfl) (Wd.u rfl) rfl rfl ?_
  refine LR.nil ?_
  refine hK1 _ _ ?_
  refine CW.seq (fun K2 hK2 hE2 => ?_)
  refine CW.region ?_
  refine LR.v (Y.move rfl rfl) (Wd.u rfl) rfl rfl ?_
  refine LR.v (Y.move rfl rfl) (Wd.u rfl) rfl rfl ?_
  -- call internal/bytealg.LastIndexByteString
  refine LR.call rfl Tryd.call85 rfl (Wd.u rfl) rfl rfl (lix_ct0 s w0 _ hl) (fun v7 H7 r7 => ?_)
  obtain ⟨j7, rfl, hj7, hl7, hs7⟩ := r7
  replace hm0 := hm0.tr hs7
  have hz1 := hs7.size
  refine LR.v (Y.assign rfl rfl) (Wd.u rfl) rfl rfl ?_
  refine LR.nil ?_
  refine hK2 _ _ ?_
  refine CW.ret (hret .ret (.inr rfl) _ _ _ (res1 rfl rfl) ?_)
  exact ⟨j7, rfl, hj7, hl7, hm0⟩

theorem name_ct (mx_ : Int) (l : List UInt8) (w0 : World) (H0 : Heap)
    (mx : MX mx_ H0) (bf_mx : BF (fun b => b = 0) H0.size) (hl : l.length ≤ 4294967280) :
    Ct Tryd.prog w0 27 #[Str l] H0 (fun r H2 => r = .bool (nameB l) ∧ Nw H0 H2) := by
  refine Ct.enter (args := [Str l]) Tryd.func27 rfl rfl rfl ?_
  intro Q0 hret
  have hm0 : Nw H0 H0 := Mo.refl _ _
  refine CW.seq (fun K1 hK1 hE1 => ?_)
  refine CW.region ?_
  refine LR.v (Y.assign rfl rfl) (Wd.u rfl) rfl rfl ?_
  refine LR.nil ?_
  refine hK1 _ _ ?_
  refine CW.seq (fun K2 hK2 hE2 => ?_)
  refine CW.seq (fun K3 hK3 hE3 => ?_)
  refine CW.region ?_
  refine LR.v (Y.move rfl rfl) (Wd.u rfl) rfl rfl ?_
  refine LR.v (Y.seql rfl rfl rfl) (Wd.u rfl) rfl rfl ?_
  refine LR.v (Y.move rfl rfl) (Wd.u rfl) rfl rfl ?_
  refine LR.splitp (d := 7) rfl (fun g7 => ?_) (fun g7 => ?_)
  ·
    refine LR.gs rfl rfl rfl rfl rfl rfl ?_
    refine LR.gs rfl rfl rfl rfl rfl rfl ?_
    refine LR.gs rfl rfl rfl rfl rfl rfl ?_
    refine LR.v (Y.pick_t rfl rfl rfl) (Wd.u rfl) rfl rfl ?_
    refine LR.v (Y.move rfl rfl) (Wd.u rfl) rfl rfl ?_
    refine LR.gs rfl rfl rfl rfl rfl rfl ?_
    refine LR.gs rfl rfl rfl rfl rfl rfl ?_
    refine LR.gs rfl rfl rfl rfl rfl rfl ?_
    refine LR.gs rfl rfl rfl rfl rfl rfl ?_
    refine LR.v (Y.pick_t rfl rfl rfl) (Wd.u rfl) rfl rfl ?_
    refine LR.v (Y.move rfl rfl) (Wd.u rfl) rfl rfl ?_
    refine LR.gs rfl rfl rfl rfl rfl rfl ?_
    refine LR.gs rfl rfl rfl rfl rfl rfl ?_
    refine LR.v (Y.pick_t rfl rfl rfl) (Wd.u rfl) rfl rfl ?_
    refine LR.nil ?_
    refine hK3 _ _ ?_
    refine CW.cond_t rfl ?_
    refine CW.seq (fun K4 hK4 hE4 => ?_)
    refine CW.region ?_
    refine LR.v (Y.assign rfl rfl) (Wd.u rfl) rfl rfl ?_
    refine LR.nil ?_
    refine hK4 _ _ ?_
    refine CW.ret (hE2 .ret nofun _ _ (hret .ret (.inr rfl) _ _ _ (res1 rfl rfl) ?_))
    exact ⟨congrArg Value.bool (nameF (fun h => by obtain ⟨h1, h2, h3, h4, h5⟩ := h; first | exact h1 g7 | omega | exact g18 h3 | (rw [h4] at c21; cases c21))).symm, hm0⟩
  ·
    refine LR.v (Y.move rfl rfl) (Wd.g rfl rfl rfl) rfl rfl ?_
    refine LR.v (Y.slen rfl Tryd.runUnderlying9 rfl) (Wd.g rfl rfl rfl) rfl rfl ?_
    refine LR.v (Y.gtr rfl rfl rfl) (Wd.g rfl rfl rfl) rfl rfl ?_
    refine LR.v (Y.pick_f rfl rfl rfl) (Wd.u rfl) rfl rfl ?_
    refine LR.v (Y.move rfl rfl) (Wd.u rfl) rfl rfl ?_
    refine LR.splitp (d := 12) rfl (fun g12 => ?_) (fun g12 => ?_)
    ·
      refine LR.gs rfl rfl rfl rfl rfl rfl ?_
      refine LR.gs rfl rfl rfl rfl rfl rfl ?_
      refine LR.gs rfl rfl rfl rfl rfl rfl ?_
      refine LR.gs rfl rfl rfl rfl rfl rfl ?_
      refine LR.v (Y.pick_t rfl rfl rfl) (Wd.u rfl) rfl rfl ?_
      refine LR.v (Y.move rfl rfl) (Wd.u rfl) rfl rfl ?_
      refine LR.gs rfl rfl rfl rfl rfl rfl ?_
      refine LR.gs rfl rfl rfl rfl rfl rfl ?_
      refine LR.v (Y.pick_t rfl rfl rfl) (Wd.u rfl) rfl rfl ?_
      refine LR.nil ?_
      refine hK3 _ _ ?_
      refine CW.cond_t rfl ?_
      refine CW.seq (fun K5 hK5 hE5 => ?_)
      refine CW.region ?_
      refine LR.v (Y.assign rfl rfl) (Wd.u rfl) rfl rfl ?_
      refine LR.nil ?_
      refine hK5 _ _ ?_
      refine CW.ret (hE2 .ret nofun _ _ (hret .ret (.inr rfl) _ _ _ (res1 rfl rfl) ?_))
      exact ⟨congrArg Value.bool (nameF (fun h => by obtain ⟨h1, h2, h3, h4, h5⟩ := h; first | exact h1 g7 | omega | exact g18 h3 | (rw [h4] at c21; cases c21))).symm, hm0⟩
    ·
      refine LR.v (Y.move rfl rfl) (Wd.g rfl rfl rfl) rfl rfl ?_
      -- call strings.Trim
      refine LR.call rfl Tryd.call42 rfl (Wd.g rfl rfl rfl) rfl rfl (trim_ct l w0 _ (by omega)) (fun v14 H14 r14 => ?_)
      obtain ⟨rfl, hs14⟩ := r14
      replace mx := mx.nw hs14
      replace hm0 := hm0.tr hs14
      have hz1 := hs14.size
      refine LR.v (Y.move rfl rfl) (Wd.g rfl rfl rfl) rfl rfl ?_
      refine LR.v (Y.sneq rfl rfl rfl) (Wd.g rfl rfl rfl) rfl rfl ?_
      refine LR.v (Y.pick_f rfl rfl rfl) (Wd.u rfl) rfl rfl ?_
      refine LR.v (Y.move rfl rfl) (Wd.u rfl) rfl rfl ?_
      refine LR.splitp (d := 18) rfl (fun g18 => ?_) (fun g18 => ?_)
      ·
        refine LR.gs rfl rfl rfl rfl rfl rfl ?_
        refine LR.gs rfl rfl rfl rfl rfl rfl ?_
        refine LR.v (Y.pick_t rfl rfl rfl) (Wd.u rfl) rfl rfl ?_
        refine LR.nil ?_
        refine hK3 _ _ ?_
        refine CW.cond_t rfl ?_
        refine CW.seq (fun K6 hK6 hE6 => ?_)
        refine CW.region ?_
        refine LR.v (Y.assign rfl rfl) (Wd.u rfl) rfl rfl ?_
        refine LR.nil ?_
        refine hK6 _ _ ?_
        refine CW.ret (hE2 .ret nofun _ _ (hret .ret (.inr rfl) _ _ _ (res1 rfl rfl) ?_))
        exact ⟨congrArg Value.bool (nameF (fun h => by obtain ⟨h1, h2, h3, h4, h5⟩ := h; first | exact h1 g7 | omega | exact g18 h3 | (rw [h4] at c21; cases c21))).symm, hm0⟩
      ·
        refine LR.v (Y.move rfl rfl) (Wd.g rfl rfl rfl) rfl rfl ?_
        -- call strings.Contains
        refine LR.call rfl Tryd.call43 rfl (Wd.g rfl rfl rfl) rfl rfl (contains_ct l [47, 47] mx_ w0 _ mx (by omega)) (fun v20 H20 r20 => ?_)
        obtain ⟨rfl, hs20⟩ := r20
        replace mx := mx.nw hs20
        replace hm0 := hm0.tr hs20
        have hz2 := hs20.size
        refine LR.v (Y.pick_f rfl rfl rfl) (Wd.u rfl) rfl rfl ?_
        refine LR.nil ?_
        refine hK3 _ _ ?_
        refine CW.cond rfl (fun c21 => ?_) (fun c21 => ?_)
        ·
          refine CW.seq (fun K7 hK7 hE7 => ?_)
          refine CW.region ?_
          refine LR.v (Y.assign rfl rfl) (Wd.u rfl) rfl rfl ?_
          refine LR.nil ?_
          refine hK7 _ _ ?_
          refine CW.ret (hE2 .ret nofun _ _ (hret .ret (.inr rfl) _ _ _ (res1 rfl rfl) ?_))
          exact ⟨congrArg Value.bool (nameF (fun h => by obtain ⟨h1, h2, h3, h4, h5⟩ := h; first | exact h1 g7 | omega | exact g18 h3 | (rw [h4] at c21; cases c21))).symm, hm0⟩
        ·
          refine CW.skip ?_
          refine hK2 _ _ ?_
          refine CW.seq (fun K8 hK8 hE8 => ?_)
          refine CW.seq (fun K9 hK9 hE9 => ?_)
          refine CW.region ?_
          refine LR.v (Y.move rfl rfl) (Wd.u rfl) rfl rfl ?_
          refine LR.z (Z.strbw rfl Tryd.underlying9 Tryd.underlying23 Tryd.underlying5 rfl (by omega)) (Wd.u rfl) rfl rfl (fun v23 H23 r23 => ?_)
          obtain ⟨owb, hs23, hzs23⟩ := r23
          have df1 := (DF.new (bf_mx.mono hm0.size) : DF _ (H20.size + 1))
          have nx2 : Nx 0 H0.size (H20.size + 1) := Nx.new hm0.size
          replace mx := mx.nw hs23
          replace hm0 := hm0.tr hs23
          have hz3 := hs23.size
          refine LR.v (Y.len owb.rd rfl Tryd.runUnderlying23 rfl) (Wd.u rfl) rfl rfl ?_
          refine LR.v (Y.move rfl rfl) (Wd.u rfl) rfl rfl ?_
          refine LR.nil ?_
          refine hK9 _ _ ?_
          refine CW.block (fun K10 hK10 hX10 hE10 => ?_)
          refine CW.loop (fun (i : (Nat)) => [(23, v23), (24, .int .i64 l.length), (25, .int .i64 i)])
            (fun (i : (Nat)) (H : Heap) => (i ≤ l.length) ∧ (∀ q (h : q < l.length), q < i → okc l[q] = true) ∧ Nw H23 H)
            (fun (i : (Nat)) => l.length - i) 0 ⟨rfl, rfl, rfl, trivial⟩ ?_ ?_
          ·
            exact ⟨(by omega), (fun q h h2 => absurd h2 (by omega)), Mo.refl _ _⟩
          intro i HL1 hI1 K11 hN11 hE11
          obtain ⟨hi, hok, hlm1⟩ := hI1
          replace mx := mx.nw hlm1
          replace owb := owb.nw hlm1
          replace hm0 := hm0.tr hlm1
          have hz4 := hlm1.size
          refine CW.seq (fun K12 hK12 hE12 => ?_)
          refine CW.region ?_
          refine LR.v (Y.lss rfl rfl rfl) (Wd.u rfl) rfl rfl ?_
          refine LR.nil ?_
          refine hK12 _ _ ?_
          refine CW.seq (fun K13 hK13 hE13 => ?_)
          refine CW.condp rfl (fun c26 => ?_) (fun c26 => ?_)
          ·
            have hil : i < l.length := by omega
            refine CW.skip ?_
            refine hK13 _ _ ?_
            refine CW.seq (fun K14 hK14 hE14 => ?_)
            refine CW.block (fun K15 hK15 hX15 hE15 => ?_)
            refine CW.seq (fun K16 hK16 hE16 => ?_)
            refine CW.region ?_
            refine LR.v (Y.owAddr owb (i) rfl Tryd.runUnderlying23 Tryd.sizeOf5 rfl rfl (by first | rfl | omega) (by first | omega | (simp; omega) | (simp; done))) (Wd.u rfl) rfl rfl ?_
            refine LR.v (Y.load1 (owb.pt (j := i) (by first | omega | (simp; omega) | (simp; done))) rfl Tryd.isAgg5 rfl) (Wd.u rfl) rfl rfl ?_
            refine LR.v (Y.assign rfl rfl) (Wd.u rfl) rfl rfl ?_
            refine LR.nil ?_
            refine hK16 _ _ ?_
            refine CW.seq (fun K17 hK17 hE17 => ?_)
            refine CW.region ?_
            refine LR.v (Y.move rfl rfl) (Wd.u rfl) rfl rfl ?_
            refine LR.v (Y.geq rfl rfl rfl) (Wd.u rfl) rfl rfl ?_
            refine LR.v (Y.move rfl rfl) (Wd.u rfl) rfl rfl ?_
            refine LR.splitp (d := 31) rfl (fun g31 => ?_) (fun g31 => ?_)
            ·
              refine LR.v (Y.move rfl rfl) (Wd.g rfl rfl rfl) rfl rfl ?_
              refine LR.v (Y.leq rfl rfl rfl) (Wd.g rfl rfl rfl) rfl rfl ?_
              refine LR.v (Y.pick_t rfl rfl rfl) (Wd.u rfl) rfl rfl ?_
              refine LR.v (Y.move rfl rfl) (Wd.u rfl) rfl rfl ?_
              refine LR.splitp (d := 35) rfl (fun g35 => ?_) (fun g35 => ?_)
              ·
                refine LR.gs rfl rfl rfl rfl rfl rfl ?_
                refine LR.gs rfl rfl rfl rfl rfl rfl ?_
                refine LR.gs rfl rfl rfl rfl rfl rfl ?_
                refine LR.gsu rfl rfl rfl rfl rfl ?_
                refine LR.gsu rfl rfl rfl rfl rfl ?_
                refine LR.gs rfl rfl rfl rfl rfl rfl ?_
                refine LR.v (Y.pick_t rfl rfl rfl) (Wd.u rfl) rfl rfl ?_
                refine LR.v (Y.move rfl rfl) (Wd.u rfl) rfl rfl ?_
                refine LR.gs rfl rfl rfl rfl rfl rfl ?_
                refine LR.gs rfl rfl rfl rfl rfl rfl ?_
                refine LR.gs rfl rfl rfl rfl rfl rfl ?_
                refine LR.v (Y.pick_t rfl rfl rfl) (Wd.u rfl) rfl rfl ?_
                refine LR.v (Y.not rfl rfl) (Wd.u rfl) rfl rfl ?_
                refine LR.nil ?_
                refine hK17 _ _ ?_
                refine CW.cond_f rfl ?_
                refine CW.skip ?_
                refine hK15 _ _ ?_
                refine hK14 _ _ ?_
                refine CW.region ?_
                refine LR.v (Y.addi rfl rfl rfl (by omega)) (Wd.u rfl) rfl rfl ?_
                refine LR.v (Y.move rfl rfl) (Wd.u rfl) rfl rfl ?_
                refine LR.nil ?_
                have hci : okc l[i] = true := (okc_iff _).2 (by simp at *; omega)
                refine QN.sub (hN11 (i + 1) _ ?_ ?_) ⟨rfl, (iv (by omega)), (iv (by omega)), trivial⟩
                · exact ⟨(by omega), (fun q h h2 => by rcases Nat.lt_or_ge q i with h5 | h5; exact hok q h h5; (obtain rfl : q = i := by omega); exact hci), hlm1⟩
                · first | omega | (simp only; omega) | (simp; omega)
              ·
                refine LR.v (Y.move rfl rfl) (Wd.g rfl rfl rfl) rfl rfl ?_
                refine LR.v (Y.geq rfl rfl rfl) (Wd.g rfl rfl rfl) rfl rfl ?_
                refine LR.v (Y.move rfl rfl) (Wd.g rfl rfl rfl) rfl rfl ?_
                refine LR.splitp (d := 38) rfl (fun g38 => ?_) (fun g38 => ?_)
                ·
                  refine LR.v (Y.move rfl rfl) (Wd.g rfl rfl rfl) rfl rfl ?_
                  refine LR.v (Y.leq rfl rfl rfl) (Wd.g rfl rfl rfl) rfl rfl ?_
                  refine LR.v (Y.pick_t rfl rfl rfl) (Wd.g rfl rfl rfl) rfl rfl ?_
                  refine LR.v (Y.pick_f rfl rfl rfl) (Wd.u rfl) rfl rfl ?_
                  refine LR.v (Y.move rfl rfl) (Wd.u rfl) rfl rfl ?_
                  refine LR.splitp (d := 43) rfl (fun g43 => ?_) (fun g43 => ?_)
                  ·
                    refine LR.gs rfl rfl rfl rfl rfl rfl ?_
                    refine LR.gs rfl rfl rfl rfl rfl rfl ?_
                    refine LR.gs rfl rfl rfl rfl rfl rfl ?_
                    refine LR.v (Y.pick_t rfl rfl rfl) (Wd.u rfl) rfl rfl ?_
                    refine LR.v (Y.not rfl rfl) (Wd.u rfl) rfl rfl ?_
                    refine LR.nil ?_
                    refine hK17 _ _ ?_
                    refine CW.cond_f rfl ?_
                    refine CW.skip ?_
                    refine hK15 _ _ ?_
                    refine hK14 _ _ ?_
                    refine CW.region ?_
                    refine LR.v (Y.addi rfl rfl rfl (by omega)) (Wd.u rfl) rfl rfl ?_
                    refine LR.v (Y.move rfl rfl) (Wd.u rfl) rfl rfl ?_
                    refine LR.nil ?_
                    have hci : okc l[i] = true := (okc_iff _).2 (by simp at *; omega)
                    refine QN.sub (hN11 (i + 1) _ ?_ ?_) ⟨rfl, (iv (by omega)), (iv (by omega)), trivial⟩
                    · exact ⟨(by omega), (fun q h h2 => by rcases Nat.lt_or_ge q i with h5 | h5; exact hok q h h5; (obtain rfl : q = i := by omega); exact hci), hlm1⟩
                    · first | omega | (simp only; omega) | (simp; omega)
                  ·
                    refine LR.v (Y.move rfl rfl) (Wd.g rfl rfl rfl) rfl rfl ?_
                    -- call strings.IndexByte
                    refine LR.call rfl Tryd.call44 rfl (Wd.g rfl rfl rfl) rfl rfl (idx_ct [46, 95, 45, 47] l[i] w0 _) (fun v45 H45 r45 => ?_)
                    obtain ⟨rfl, hs45⟩ := r45
                    replace mx := mx.nw hs45
                    replace owb := owb.nw hs45
                    replace hm0 := hm0.tr hs45
                    replace hlm1 := hlm1.tr hs45
                    have hz5 := hs45.size
                    refine LR.v (Y.geq rfl rfl rfl) (Wd.g rfl rfl rfl) rfl rfl ?_
                    refine LR.v (Y.pick_f rfl rfl rfl) (Wd.u rfl) rfl rfl ?_
                    refine LR.v (Y.notp rfl rfl) (Wd.u rfl) rfl rfl ?_
                    refine LR.nil ?_
                    refine hK17 _ _ ?_
                    refine CW.condp rfl (fun c48 => ?_) (fun c48 => ?_)
                    ·
                      refine CW.seq (fun K18 hK18 hE18 => ?_)
                      refine CW.region ?_
                      refine LR.v (Y.assign rfl rfl) (Wd.u rfl) rfl rfl ?_
                      refine LR.nil ?_
                      refine hK18 _ _ ?_
                      refine CW.ret (hE15 .ret nofun (by simp) _ _ (hE14 .ret nofun _ _ (hE11 .ret nofun _ _ (hE10 .ret nofun (by simp) _ _ (hE8 .ret nofun _ _ (hret .ret (.inr rfl) _ _ _ (res1 rfl rfl) ?_))))))
                      exact ⟨congrArg Value.bool (nameF (fun h => by have h9 := (okc_iff _).1 (h.2.2.2.2 i hil); simp at *; omega)).symm, hm0⟩
                    ·
                      refine CW.skip ?_
                      refine hK15 _ _ ?_
                      refine hK14 _ _ ?_
                      refine CW.region ?_
                      refine LR.v (Y.addi rfl rfl rfl (by omega)) (Wd.u rfl) rfl rfl ?_
                      refine LR.v (Y.move rfl rfl) (Wd.u rfl) rfl rfl ?_
                      refine LR.nil ?_
                      have hci : okc l[i] = true := (okc_iff _).2 (by simp at *; omega)
                      refine QN.sub (hN11 (i + 1) _ ?_ ?_) ⟨rfl, (iv (by omega)), (iv (by omega)), trivial⟩
                      · exact ⟨(by omega), (fun q h h2 => by rcases Nat.lt_or_ge q i with h5 | h5; exact hok q h h5; (obtain rfl : q = i := by omega); exact hci), hlm1⟩
                      · first | omega | (simp only; omega) | (simp; omega)
                ·
                  refine LR.gs rfl rfl rfl rfl rfl rfl ?_
                  refine LR.gs rfl rfl rfl rfl rfl rfl ?_
                  refine LR.v (Y.pick_f rfl rfl rfl) (Wd.g rfl rfl rfl) rfl rfl ?_
                  refine LR.v (Y.pick_f rfl rfl rfl) (Wd.u rfl) rfl rfl ?_
                  refine LR.v (Y.move rfl rfl) (Wd.u rfl) rfl rfl ?_
                  refine LR.v (Y.move rfl rfl) (Wd.g rfl rfl rfl) rfl rfl ?_
                  -- call strings.IndexByte
                  refine LR.call rfl Tryd.call44 rfl (Wd.g rfl rfl rfl) rfl rfl (idx_ct [46, 95, 45, 47] l[i] w0 _) (fun v45 H45 r45 => ?_)
                  obtain ⟨rfl, hs45⟩ := r45
                  replace mx := mx.nw hs45
                  replace owb := owb.nw hs45
                  replace hm0 := hm0.tr hs45
                  replace hlm1 := hlm1.tr hs45
                  have hz6 := hs45.size
                  refine LR.v (Y.geq rfl rfl rfl) (Wd.g rfl rfl rfl) rfl rfl ?_
                  refine LR.v (Y.pick_f rfl rfl rfl) (Wd.u rfl) rfl rfl ?_
                  refine LR.v (Y.notp rfl rfl) (Wd.u rfl) rfl rfl ?_
                  refine LR.nil ?_
                  refine hK17 _ _ ?_
                  refine CW.condp rfl (fun c48 => ?_) (fun c48 => ?_)
                  ·
                    refine CW.seq (fun K19 hK19 hE19 => ?_)
                    refine CW.region ?_
                    refine LR.v (Y.assign rfl rfl) (Wd.u rfl) rfl rfl ?_
                    refine LR.nil ?_
                    refine hK19 _ _ ?_
                    refine CW.ret (hE15 .ret nofun (by simp) _ _ (hE14 .ret nofun _ _ (hE11 .ret nofun _ _ (hE10 .ret nofun (by simp) _ _ (hE8 .ret nofun _ _ (hret .ret (.inr rfl) _ _ _ (res1 rfl rfl) ?_))))))
                    exact ⟨congrArg Value.bool (nameF (fun h => by have h9 := (okc_iff _).1 (h.2.2.2.2 i hil); simp at *; omega)).symm, hm0⟩
                  ·
                    refine CW.skip ?_
                    refine hK15 _ _ ?_
                    refine hK14 _ _ ?_
                    refine CW.region ?_
                    refine LR.v (Y.addi rfl rfl rfl (by omega)) (Wd.u rfl) rfl rfl ?_
                    refine LR.v (Y.move rfl rfl) (Wd.u rfl) rfl rfl ?_
                    refine LR.nil ?_
                    have hci : okc l[i] = true := (okc_iff _).2 (by simp at *; omega)
                    refine QN.sub (hN11 (i + 1) _ ?_ ?_) ⟨rfl, (iv (by omega)), (iv (by omega)), trivial⟩
                    · exact ⟨(by omega), (fun q h h2 => by rcases Nat.lt_or_ge q i with h5 | h5; exact hok q h h5; (obtain rfl : q = i := by omega); exact hci), hlm1⟩
                    · first | omega | (simp only; omega) | (simp; omega)
            ·
              refine LR.gs rfl rfl rfl rfl rfl rfl ?_
              refine LR.gs rfl rfl rfl rfl rfl rfl ?_
              refine LR.v (Y.pick_f rfl rfl rfl) (Wd.u rfl) rfl rfl ?_
              refine LR.v (Y.move rfl rfl) (Wd.u rfl) rfl rfl ?_
              refine LR.v (Y.move rfl rfl) (Wd.g rfl rfl rfl) rfl rfl ?_
              refine LR.v (Y.geq rfl rfl rfl) (Wd.g rfl rfl rfl) rfl rfl ?_
              refine LR.v (Y.move rfl rfl) (Wd.g rfl rfl rfl) rfl rfl ?_
              refine LR.splitp (d := 38) rfl (fun g38 => ?_) (fun g38 => ?_)
              ·
                refine LR.v (Y.move rfl rfl) (Wd.g rfl rfl rfl) rfl rfl ?_
                refine LR.v (Y.leq rfl rfl rfl) (Wd.g rfl rfl rfl) rfl rfl ?_
                refine LR.v (Y.pick_t rfl rfl rfl) (Wd.g rfl rfl rfl) rfl rfl ?_
                refine LR.v (Y.pick_f rfl rfl rfl) (Wd.u rfl) rfl rfl ?_
                refine LR.v (Y.move rfl rfl) (Wd.u rfl) rfl rfl ?_
                refine LR.splitp (d := 43) rfl (fun g43 => ?_) (fun g43 => ?_)
                ·
                  refine LR.gs rfl rfl rfl rfl rfl rfl ?_
                  refine LR.gs rfl rfl rfl rfl rfl rfl ?_
                  refine LR.gs rfl rfl rfl rfl rfl rfl ?_
                  refine LR.v (Y.pick_t rfl rfl rfl) (Wd.u rfl) rfl rfl ?_
                  refine LR.v (Y.not rfl rfl) (Wd.u rfl) rfl rfl ?_
                  refine LR.nil ?_
                  refine hK17 _ _ ?_
                  refine CW.cond_f rfl ?_
                  refine CW.skip ?_
                  refine hK15 _ _ ?_
                  refine hK14 _ _ ?_
                  refine CW.region ?_
                  refine LR.v (Y.addi rfl rfl rfl (by omega)) (Wd.u rfl) rfl rfl ?_
                  refine LR.v (Y.move rfl rfl) (Wd.u rfl) rfl rfl ?_
                  refine LR.nil ?_
                  have hci : okc l[i] = true := (okc_iff _).2 (by simp at *; omega)
                  refine QN.sub (hN11 (i + 1) _ ?_ ?_) ⟨rfl, (iv (by omega)), (iv (by omega)), trivial⟩
                  · exact ⟨(by omega), (fun q h h2 => by rcases Nat.lt_or_ge q i with h5 | h5; exact hok q h h5; (obtain rfl : q = i := by omega); exact hci), hlm1⟩
                  · first | omega | (simp only; omega) | (simp; omega)
                ·
                  refine LR.v (Y.move rfl rfl) (Wd.g rfl rfl rfl) rfl rfl ?_
                  -- call strings.IndexByte
                  refine LR.call rfl Tryd.call44 rfl (Wd.g rfl rfl rfl) rfl rfl (idx_ct [46, 95, 45, 47] l[i] w0 _) (fun v45 H45 r45 => ?_)
                  obtain ⟨rfl, hs45⟩ := r45
                  replace mx := mx.nw hs45
                  replace owb := owb.nw hs45
                  replace hm0 := hm0.tr hs45
                  replace hlm1 := hlm1.tr hs45
                  have hz7 := hs45.size
                  refine LR.v (Y.geq rfl rfl rfl) (Wd.g rfl rfl rfl) rfl rfl ?_
                  refine LR.v (Y.pick_f rfl rfl rfl) (Wd.u rfl) rfl rfl ?_
                  refine LR.v (Y.notp rfl rfl) (Wd.u rfl) rfl rfl ?_
                  refine LR.nil ?_
                  refine hK17 _ _ ?_
                  refine CW.condp rfl (fun c48 => ?_) (fun c48 => ?_)
                  ·
                    refine CW.seq (fun K20 hK20 hE20 => ?_)
                    refine CW.region ?_
                    refine LR.v (Y.assign rfl rfl) (Wd.u rfl) rfl rfl ?_
                    refine LR.nil ?_
                    refine hK20 _ _ ?_
                    refine CW.ret (hE15 .ret nofun (by simp) _ _ (hE14 .ret nofun _ _ (hE11 .ret nofun _ _ (hE10 .ret nofun (by simp) _ _ (hE8 .ret nofun _ _ (hret .ret (.inr rfl) _ _ _ (res1 rfl rfl) ?_))))))
                    exact ⟨congrArg Value.bool (nameF (fun h => by have h9 := (okc_iff _).1 (h.2.2.2.2 i hil); simp at *; omega)).symm, hm0⟩
                  ·
                    refine CW.skip ?_
                    refine hK15 _ _ ?_
                    refine hK14 _ _ ?_
                    refine CW.region ?_
                    refine LR.v (Y.addi rfl rfl rfl (by omega)) (Wd.u rfl) rfl rfl ?_
                    refine LR.v (Y.move rfl rfl) (Wd.u rfl) rfl rfl ?_
                    refine LR.nil ?_
                    have hci : okc l[i] = true := (okc_iff _).2 (by simp at *; omega)
                    refine QN.sub (hN11 (i + 1) _ ?_ ?_) ⟨rfl, (iv (by omega)), (iv (by omega)), trivial⟩
                    · exact ⟨(by omega), (fun q h h2 => by rcases Nat.lt_or_ge q i with h5 | h5; exact hok q h h5; (obtain rfl : q = i := by omega); exact hci), hlm1⟩
                    · first | omega | (simp only; omega) | (simp; omega)
              ·
                refine LR.gs rfl rfl rfl rfl rfl rfl ?_
                refine LR.gs rfl rfl rfl rfl rfl rfl ?_
                refine LR.v (Y.pick_f rfl rfl rfl) (Wd.g rfl rfl rfl) rfl rfl ?_
                refine LR.v (Y.pick_f rfl rfl rfl) (Wd.u rfl) rfl rfl ?_
                refine LR.v (Y.move rfl rfl) (Wd.u rfl) rfl rfl ?_
                refine LR.v (Y.move rfl rfl) (Wd.g rfl rfl rfl) rfl rfl ?_
                -- call strings.IndexByte
                refine LR.call rfl Tryd.call44 rfl (Wd.g rfl rfl rfl) rfl rfl (idx_ct [46, 95, 45, 47] l[i] w0 _) (fun v45 H45 r45 => ?_)
                obtain ⟨rfl, hs45⟩ := r45
                replace mx := mx.nw hs45
                replace owb := owb.nw hs45
                replace hm0 := hm0.tr hs45
                replace hlm1 := hlm1.tr hs45
                have hz8 := hs45.size
                refine LR.v (Y.geq rfl rfl rfl) (Wd.g rfl rfl rfl) rfl rfl ?_
                refine LR.v (Y.pick_f rfl rfl rfl) (Wd.u rfl) rfl rfl ?_
                refine LR.v (Y.notp rfl rfl) (Wd.u rfl) rfl rfl ?_
                refine LR.nil ?_
                refine hK17 _ _ ?_
                refine CW.condp rfl (fun c48 => ?_) (fun c48 => ?_)
                ·
                  refine CW.seq (fun K21 hK21 hE21 => ?_)
                  refine CW.region ?_
                  refine LR.v (Y.assign rfl rfl) (Wd.u rfl) rfl rfl ?_
                  refine LR.nil ?_
                  refine hK21 _ _ ?_
                  refine CW.ret (hE15 .ret nofun (by simp) _ _ (hE14 .ret nofun _ _ (hE11 .ret nofun _ _ (hE10 .ret nofun (by simp) _ _ (hE8 .ret nofun _ _ (hret .ret (.inr rfl) _ _ _ (res1 rfl rfl) ?_))))))
                  exact ⟨congrArg Value.bool (nameF (fun h => by have h9 := (okc_iff _).1 (h.2.2.2.2 i hil); simp at *; omega)).symm, hm0⟩
                ·
                  refine CW.skip ?_
                  refine hK15 _ _ ?_
                  refine hK14 _ _ ?_
                  refine CW.region ?_
                  refine LR.v (Y.addi rfl rfl rfl (by omega)) (Wd.u rfl) rfl rfl ?_
                  refine LR.v (Y.move rfl rfl) (Wd.u rfl) rfl rfl ?_
                  refine LR.nil ?_
                  have hci : okc l[i] = true := (okc_iff _).2 (by simp at *; omega)
                  refine QN.sub (hN11 (i + 1) _ ?_ ?_) ⟨rfl, (iv (by omega)), (iv (by omega)), trivial⟩
                  · exact ⟨(by omega), (fun q h h2 => by rcases Nat.lt_or_ge q i with h5 | h5; exact hok q h h5; (obtain rfl : q = i := by omega); exact hci), hlm1⟩
                  · first | omega | (simp only; omega) | (simp; omega)
          ·
            refine CW.exit (hE13 (.exit 0) nofun _ _ (hE11 (.exit 0) nofun _ _ (hX10 _ _ ?_)))
            refine hK8 _ _ ?_
            refine CW.seq (fun K22 hK22 hE22 => ?_)
            refine CW.region ?_
            refine LR.v (Y.assign rfl rfl) (Wd.u rfl) rfl rfl ?_
            refine LR.nil ?_
            refine hK22 _ _ ?_
            refine CW.ret (hret .ret (.inr rfl) _ _ _ (res1 rfl rfl) ?_)
            obtain rfl : i = l.length := by omega
            exact ⟨congrArg Value.bool ((name_iff l).2 ⟨g7, by omega, by simpa using g18, by simpa using c21, fun i h => hok i h h⟩).symm, hm0⟩

theorem dir_ct (mx_ : Int) (l : List UInt8) (w0 : World) (H0 : Heap)
    (mx : MX mx_ H0) (bf_mx : BF (fun b => b = 0) H0.size) (hl : l.length ≤ 4294967280) :
    Ct Tryd.prog w0 52 #[Str l] H0 (fun r H2 => r = Str (dirP l) ∧ Nw H0 H2) := by
  refine Ct.enter (args := [Str l]) Tryd.func52 rfl rfl rfl ?_
  intro Q0 hret
  have hm0 : Nw H0 H0 := Mo.refl _ _
  refine CW.seq (fun K1 hK1 hE1 => ?_)
  refine CW.region ?_
  refine LR.v (Y.assign rfl rfl) (Wd.u rfl) rfl rfl ?_
  refine LR.nil ?_
  refine hK1 _ _ ?_
  refine CW.seq (fun K2 hK2 hE2 => ?_)
  refine CW.seq (fun K3 hK3 hE3 => ?_)
  refine CW.region ?_
  refine LR.v (Y.move rfl rfl) (Wd.u rfl) rfl rfl ?_
  -- call selvage/simfs.Name
  refine LR.call rfl Tryd.call27 rfl (Wd.u rfl) rfl rfl (name_ct mx_ l w0 _ mx (bf_mx.mono (by omega)) hl) (fun v4 H4 r4 => ?_)
  obtain ⟨rfl, hs4⟩ := r4
  replace mx := mx.nw hs4
  replace hm0 := hm0.tr hs4
  have hz1 := hs4.size
  refine LR.v (Y.not rfl rfl) (Wd.u rfl) rfl rfl ?_
  refine LR.nil ?_
  refine hK3 _ _ ?_
  refine CW.cond rfl (fun c5 => ?_) (fun c5 => ?_)
  ·
    refine CW.seq (fun K4 hK4 hE4 => ?_)
    refine CW.region ?_
    refine LR.v (Y.assign rfl rfl) (Wd.u rfl) rfl rfl ?_
    refine LR.nil ?_
    refine hK4 _ _ ?_
    refine CW.ret (hE2 .ret nofun _ _ (hret .ret (.inr rfl) _ _ _ (res1 rfl rfl) ?_))
    exact ⟨by rw [dirP, if_neg (by simpa using c5)]; rfl, hm0⟩
  ·
    refine CW.skip ?_
    refine hK2 _ _ ?_
    refine CW.seq (fun K5 hK5 hE5 => ?_)
    refine CW.region ?_
    refine LR.v (Y.move rfl rfl) (Wd.u rfl) rfl rfl ?_
    refine LR.v (Y.move rfl rfl) (Wd.u rfl) rfl rfl ?_
    -- call strings.LastIndexByte
    refine LR.call rfl Tryd.call72 rfl (Wd.u rfl) rfl rfl (lix_ct l w0 _ (by omega)) (fun v8 H8 r8 => ?_)
    obtain ⟨j8, rfl, hj8, hl8, hs8⟩ := r8
    replace mx := mx.nw hs8
    replace hm0 := hm0.tr hs8
    have hz2 := hs8.size
    refine LR.v (Y.cast (v2 := .int .i64 ((j8 - 1 : Nat) : Int)) (Y.maxi rfl rfl rfl) (ivv (by omega))) (Wd.u rfl) rfl rfl ?_
    refine LR.v (Y.sslice (0) (j8 - 1) rfl Tryd.runUnderlying9 rfl (.inl ⟨rfl, rfl⟩) (.inr ⟨_, _, _, rfl, rfl, by first | rfl | omega⟩) (by omega) (by omega)) (Wd.u rfl) rfl rfl ?_
    refine LR.v (Y.assign rfl rfl) (Wd.u rfl) rfl rfl ?_
    refine LR.nil ?_
    refine hK5 _ _ ?_
    refine CW.ret (hret .ret (.inr rfl) _ _ _ (res1 rfl rfl) ?_)
    exact ⟨by rw [dirP, if_pos (by simpa using c5), head_of hj8 hl8]; simp, hm0⟩

end Go.Proofs.YtdliddjkacbggaaDoor.SimA
/-
  Zeros put behind a row that is ours; values of slices of slices: no condition.
-/
namespace Go.Proofs.YtdliddjkacbggaaDoor.E
open Go.Lib
set_option linter.unusedVariables false
set_option linter.unusedSimpArgs false
set_option linter.unusedSectionVars false
section
variable {P : Program} {w0 : World} {n : Nat} {l : FL} {H : Heap} {o : Oper} {α : Type} {f : α → List Value} {sz : Nat} {v : Value} {e : TypeId}
theorem zeroCells_rep' {z : Value} {z0 : α} (h : z.cells.toList = f z0) : ∀ m, (Builtin.zeroCells z.cells m).toList = (List.replicate m z0).flatMap f := by
  have hl : (f z0).length = z.cells.size := by rw [← h, Array.length_toList]
  have e0 : ∀ m, (Builtin.zeroCells z.cells m).toList = (List.range (m * z.cells.size)).map (fun i => z.cells[i % z.cells.size]!) := fun m => by
    unfold Builtin.zeroCells
    rw [Array.toList_map, Array.toList_range]
  have e1 : (List.range z.cells.size).map (fun i => z.cells[i % z.cells.size]!) = f z0 := by
    rw [← h]
    apply List.ext_getElem
    · simp
    · intro j h1 h2
      have hj : j < z.cells.size := by simpa using h1
      simp [Nat.mod_eq_of_lt hj, getElem!_pos z.cells j hj]
  intro m
  rw [e0]
  induction m with
  | zero => simp
  | succ m ih =>
    rw [Nat.succ_mul, Nat.add_comm, List.range_add, List.map_append, List.map_map, e1, List.replicate_succ, List.flatMap_cons, ← ih]
    congr 1
    apply List.map_congr_left
    intro j _
    simp
theorem Z.apzOwn {G : Nat → Prop} {xs : List α} {s x : Operand} {t tn : TypeId} {kn kq : IntKind} {bytes m : Nat} {zv : Value} (h : Own G e H f sz v xs) (z0 : α) (ho : o.op = .call { callee := .builtin .append, args := #[s, x], argTypes := #[t, tn] })
    (hinf : Inf P t e sz bytes) (htn : P.underlying tn = some (.int kn)) (hzv : ∀ w, (zeroValue e).run P w = .ok zv w) (hz0 : zv.cells.toList = f z0) (hs0 : 0 < sz) (hs : opv l s = some v) (hx : opv l x = some (.int kq (m : Nat)))
    (hb : (xs.length + m) * bytes ≤ 140737488355328) (hm : xs.length + m ≤ 9223372036854775807) :
    Z P w0 n l H o (fun r H' => Own (fun b => G b ∨ H.size ≤ b) e H' f sz r (xs ++ List.replicate m z0) ∧ Mo G H H') := by
  obtain ⟨ht, i, z, hi, hz, hsz, hby, hzs⟩ := hinf
  subst hsz
  subst hby
  intro a w hf ha
  have hzz : z = zv := by
    have h1 := hzv w
    simp [zeroValue, typeInfo, hi, hz] at h1
    exact h1
  subst hzz
  have hl : ((List.replicate m z0).flatMap f).length = m * i.size := by rw [length_flatMap h.cells, List.length_replicate]
  have h1 : ∀ c ∈ (List.replicate m z0).flatMap f, c.oneCell' = true := by
    intro c hc
    obtain ⟨y, hy, hc⟩ := List.mem_flatMap.1 hc
    exact h.one y c hc
  have hzc : Builtin.zeroCells z.cells m = ((List.replicate m z0).flatMap f).toArray := by apply Array.ext'; rw [zeroCells_rep' hz0]
  have hw : IntKind.i64.wrap (m : Int) = m := by rw [IntKind.wrap_i64]; omega
  have hneg : ¬ ((m : Int) < 0) := by omega
  have h48i : ¬ (281474976710656 < (m : Int) * (i.bytes : Int)) := by
    have : m * i.bytes ≤ (xs.length + m) * i.bytes := Nat.mul_le_mul_right _ (by omega)
    rw [← Int.natCast_mul]
    omega
  have grown : ∀ (old : Nat) (r : Value), old < xs.length + m → r = .slice (some ⟨w.heap.size, 0, none⟩) (xs.length + m) (grownCap w (xs.length + m) old e) → ∀ ob, ob = Obj.cells ((xs.flatMap f).toArray ++ Builtin.zeroCells z.cells m ++ Builtin.zeroCells z.cells (grownCap w (xs.length + m) old e - (xs.length + m))) e →
      At w0 (w.drew.alloc ob).heap (w.drew.alloc ob) ∧ Own (fun b => G b ∨ H.size ≤ b) e (w.drew.alloc ob).heap f i.size r (xs ++ List.replicate m z0) ∧ Mo G H (w.drew.alloc ob).heap := by
    rintro old r ho' rfl ob rfl
    have hge := grownCap_ge w (xs.length + m) old e
    have hcm : grownCap w (xs.length + m) old e ≤ maxLen := grownCap_le_maxLen w (xs.length + m) old e (by unfold maxLen; omega)
    have ha2 : At w0 H w.drew := ha.drew
    refine ⟨⟨rfl, ha.os, ha.tape, ha.output, ha2.dr⟩, ?_, ?_⟩
    · have := Own.new (e := e) (G' := fun b => G b ∨ H.size ≤ b) (w := w.drew) (z := z) (cap := grownCap w (xs.length + m) old e) (zs := xs ++ List.replicate m z0) h.cells h.one hzs (.inr (by rw [ha2.heap]; exact Nat.le_refl _)) (by simpa using hge) hcm
      rw [hzc]
      simpa using this
    · rw [(ha2.alloc _).heap]; exact Mo.push _ _ _
  rcases h.ex with ⟨rfl, rfl⟩ | ⟨g, cap', cur, rfl, hg, hh, r1, r2, r3, r4⟩
  · by_cases hm0 : m = 0
    · subst hm0
      refine ⟨.slice none 0 0, H, w, ?_, ha, by simpa using h.imp (fun b _ hg => .inl hg), Mo.refl _ _⟩
      simp [execOp, ho, resolve, invoke, builtin, hf.eval hs, hf.eval hx, Builtin.append_, run_underlying ht, run_underlying htn, sizeOf, typeInfo, hi, asInt, asIntOf, IntKind.wrap_i64]
    · simp only [List.length_nil, Nat.zero_add] at hb hm
      have hrun := run_append_nil_zeros (P := P) w t tn o.type e i z kq kn ht htn hi hz m (by omega) hs0 (by omega) (by omega)
      have := grown 0 _ (by simp; omega) rfl _ rfl
      simp only [List.length_nil, Nat.zero_add, List.flatMap_nil, List.nil_append, Array.empty_append] at this
      exact ⟨_, _, _, by simp [execOp, ho, resolve, invoke, builtin, hf.eval hs, hf.eval hx, hrun], this.1, this.2.1, this.2.2⟩
  · obtain ⟨fz, hh0, hsf⟩ := id hh
    have hg' : w.heap[g]? = some (.cells cur e fz) := by rw [ha.heap]; exact hh0
    by_cases hroom : xs.length + m ≤ cap'
    · have hfit : xs.length * i.size + ((List.replicate m z0).flatMap f).length ≤ cur.size := by rw [hl, r3, ← Nat.add_mul]; exact Nat.mul_le_mul_right _ hroom
      have hst := run_storeCells_soft P g (xs.length * i.size) e fz ((List.replicate m z0).flatMap f) 0 cur w hg' hsf (by simpa using hfit) h1
      simp only [Nat.add_zero] at hst
      have hrun : (Builtin.append_ #[t, tn] o.type #[.slice (some ⟨g, 0, none⟩) xs.length cap', .int kq m]).run P w = .ok (.slice (some ⟨g, 0, none⟩) (xs.length + m) cap') (w.setRow g (cur.toList.take (xs.length * i.size) ++ (List.replicate m z0).flatMap f ++ cur.toList.drop (xs.length * i.size + ((List.replicate m z0).flatMap f).length)).toArray) := by
        by_cases hm0 : m = 0
        · subst hm0
          simp only [List.replicate_zero, List.flatMap_nil] at hst
          simp [Builtin.append_, run_underlying ht, run_underlying htn, sizeOf, typeInfo, hi, asInt, asIntOf, IntKind.wrap_i64, r1, Addr.add_lit, hst]
        · have hns : ¬ (m * i.size = 0) := Nat.mul_ne_zero hm0 (by omega)
          simp [Builtin.append_, run_underlying ht, run_underlying htn, sizeOf, typeInfo, zeroValue, hi, hz, asInt, asIntOf, hw, hneg, h48i, hns, hroom, hzc, Addr.add_lit, hst]
      refine ⟨.slice (some ⟨g, 0, none⟩) (xs.length + m) cap', (w.setRow g (cur.toList.take (xs.length * i.size) ++ (List.replicate m z0).flatMap f ++ cur.toList.drop (xs.length * i.size + ((List.replicate m z0).flatMap f).length)).toArray).heap, w.setRow g (cur.toList.take (xs.length * i.size) ++ (List.replicate m z0).flatMap f ++ cur.toList.drop (xs.length * i.size + ((List.replicate m z0).flatMap f).length)).toArray, by simp [execOp, ho, resolve, invoke, builtin, hf.eval hs, hf.eval hx, hrun], ⟨rfl, ha.os, ha.tape, ha.output, ha.dr⟩, ⟨h.cells, h.one, .inr ⟨g, cap', _, by rw [List.length_append, List.length_replicate], .inl hg, ⟨fz, setRow_heap w g cur _ e _ hg', hsf.1, fun i hi => hsf.2 i (by simp only [List.size_toArray, List.length_append, List.length_take, List.length_drop, Array.length_toList] at hi; omega)⟩, by rw [List.length_append, List.length_replicate]; exact hroom, r2, ?_, ?_⟩⟩, ?_⟩
      · simp only [List.size_toArray, List.length_append, List.length_take, List.length_drop, Array.length_toList]
        omega
      · have hlx := length_flatMap h.cells xs
        rw [r4, ← List.flatMap_append, List.length_append, Nat.add_mul, List.length_replicate, ← hl, ← hlx, ← List.length_append, ← List.flatMap_append]
        exact List.take_left
      · exact (setRow_mo ha g _).weaken (fun b _ e => by rw [e]; exact hg)
    · have holds : ∀ j c, (xs.flatMap f)[j]? = some c → w.drew.cell? ((⟨g, 0, none⟩ : Addr).add j) = some c := h.rd.pts h.cells rfl ha.drew
      have hold : (Builtin.firstCells i.size xs.length (.slice (some ⟨g, 0, none⟩) xs.length cap')).run P w.drew = .ok (xs.flatMap f).toArray w.drew := run_firstCells_some (P := P) w.drew i.size xs.length ⟨g, 0, none⟩ xs.length cap' _ (length_flatMap h.cells xs) holds
      have hrun := Lib.run_append_grow_zeros (P := P) w t tn o.type e i z kq kn ht htn hi hz (some ⟨g, 0, none⟩) xs.length cap' (xs.flatMap f) hold m (by omega) hs0 (by omega) (by omega) (by
        have : m * i.bytes ≤ (xs.length + m) * i.bytes := Nat.mul_le_mul_right _ (by omega)
        omega) (growslice_fits (by omega) hb)
      have := grown cap' _ (by omega) rfl _ rfl
      exact ⟨_, _, _, by simp [execOp, ho, resolve, invoke, builtin, hf.eval hs, hf.eval hx, hrun], this.1, this.2.1, this.2.2⟩
theorem Z.apz {k : Nat} {xs : List α} {s x : Operand} {t tn : TypeId} {kn kq : IntKind} {bytes m : Nat} {zv : Value} (h : Ow k e H f sz v xs) (z0 : α) (ho : o.op = .call { callee := .builtin .append, args := #[s, x], argTypes := #[t, tn] })
    (hinf : Inf P t e sz bytes) (htn : P.underlying tn = some (.int kn)) (hzv : ∀ w, (zeroValue e).run P w = .ok zv w) (hz0 : zv.cells.toList = f z0) (hs0 : 0 < sz) (hs : opv l s = some v) (hx : opv l x = some (.int kq (m : Nat)))
    (hb : (xs.length + m) * bytes ≤ 140737488355328) (hm : xs.length + m ≤ 9223372036854775807) :
    Z P w0 n l H o (fun r H' => ∃ k', Ow k' e H' f sz r (xs ++ List.replicate m z0) ∧ (k' = 0 ∨ k' = k ∨ H.size < k') ∧ Mo (fun b => b + 1 = k) H H') :=
  (Z.apzOwn h.own z0 ho hinf htn hzv hz0 hs0 hs hx hb hm).mono fun r H' ⟨h1, h2⟩ => by
    obtain ⟨k', h3, h4⟩ := Ow.of h1
    refine ⟨k', h3, ?_, h2⟩
    rcases h4 with rfl | ⟨g, rfl, h5⟩
    · exact .inl rfl
    · omega
theorem Y.sliceV' {x : Operand} {lo hi : Option Operand} {t e : TypeId} {a : Option Addr} {len cap sz : Nat} (i j : Nat) (ho : o.op = .slice t x lo hi none) (ht : ∀ w, (underlying t).run P w = .ok (.slice e) w) (hs : ∀ w, (sizeOf e).run P w = .ok sz w) (hx : opv l x = some (.slice a len cap))
    (hlo : lo = none ∧ i = 0 ∨ ∃ p k iv, lo = some p ∧ opv l p = some (.int k iv) ∧ iv = (i : Int)) (hhi : hi = none ∧ j = len ∨ ∃ p k iv, hi = some p ∧ opv l p = some (.int k iv) ∧ iv = (j : Int)) (hij : i ≤ j) (hj : j ≤ cap) :
    Y P w0 n l H o (.slice (if cap = i then a else a.map (·.add (i * sz))) (j - i) (cap - i)) := by
  intro ac w hf ha
  have e1 : ∀ w, (Instr.sliceBounds true len cap (lo.map ac.eval) (hi.map ac.eval) none).run P w = .ok (i, j, cap) w := by
    intro w
    rcases hlo with ⟨rfl, rfl⟩ | ⟨p, k, iv, rfl, h1, rfl⟩ <;> rcases hhi with ⟨rfl, rfl⟩ | ⟨p2, k2, iv2, rfl, h3, rfl⟩ <;>
      simp [Instr.sliceBounds, Instr.sliceBound, asIntOf, hf.eval, *]
  have hu : ∀ w, (underlying t).run P w = .ok (.slice e) w := ht
  simp [execOp, ho, hf.eval hx, Instr.sliceAt, Instr.slice, hu, hs, e1]
theorem Y.capV' {x : Operand} {t e : TypeId} {a : Option Addr} {len cap : Nat} (ho : o.op = .call { callee := .builtin .cap, args := #[x], argTypes := #[t] }) (ht : ∀ w, (underlying t).run P w = .ok (.slice e) w) (hx : opv l x = some (.slice a len cap)) : Y P w0 n l H o (.int .i64 cap) := by
  intro ac w hf ha
  simp [execOp, ho, hf.eval hx, resolve, invoke, builtin, Builtin.cap_, ht, goInt]
end
end Go.Proofs.YtdliddjkacbggaaDoor.E
/-
  Rows of bytes put together; a write, done whole or in part.
-/
namespace Go.Proofs.YtdliddjkacbggaaDoor.SimB
open Go.Proofs.YtdliddjkacbggaaDoor.E Go.RowKit Go.Proofs.YtdliddjkacbggaaDoor.SimA
set_option maxRecDepth 20000
set_option linter.unusedVariables false
set_option linter.unusedSimpArgs false
set_option linter.unusedSectionVars false
set_option maxRecDepth 100000 in
theorem inf22 : Inf Tryd.prog 22 23 1 24 := ⟨Tryd.underlying22, _, _, rfl, rfl, rfl, rfl, rfl⟩
set_option maxRecDepth 100000 in
theorem inf23 : Inf Tryd.prog 23 5 1 1 := ⟨Tryd.underlying23, _, _, rfl, rfl, rfl, rfl, rfl⟩
theorem bclone_ct (v1 : Value) (a : List UInt8) (w0 : World) (H0 : Heap)
    (ha : RdT H0 fB 1 v1 a) (hal : a.length ≤ 140737488355328) :
    Ct Tryd.prog w0 23 #[v1] H0 (fun r H2 => ∃ s : SV, ∃ k : Nat, r = s.v ∧ (Ow k 5 H2 fB 1 s.v a) ∧ (Nx 0 H0.size k) ∧ Nw H0 H2) := by
  refine Ct.enter (args := [v1]) Tryd.func23 rfl rfl rfl ?_
  intro Q0 hret
  have hm0 : Nw H0 H0 := Mo.refl _ _
  replace ha := ha.bnd
  have bf_ha := ha.bf
  obtain ⟨p, cp, rfl, _, _, hne⟩ := id ha.ex
  refine CW.seq (fun K1 hK1 hE1 => ?_)
  refine CW.region ?_
  refine LR.v (Y.assign rfl rfl) (Wd.u rfl) rfl rfl ?_
  refine LR.nil ?_
  refine hK1 _ _ ?_
  refine CW.seq (fun K2 hK2 hE2 => ?_)
  refine CW.seq (fun K3 hK3 hE3 => ?_)
  refine CW.region ?_
  refine LR.v (Y.move rfl rfl) (Wd.u rfl) rfl rfl ?_
  refine LR.v (Y.sleq rfl Tryd.underlying23 rfl rfl) (Wd.u rfl) rfl rfl ?_
  refine LR.nil ?_
  refine hK3 _ _ ?_
  refine CW.cond rfl (fun c4 => ?_) (fun c4 => ?_)
  ·
    obtain rfl : a = [] := by
      apply Decidable.byContradiction
      intro h
      obtain ⟨ad, h1, _⟩ := hne h
      rw [h1] at c4; cases c4
    refine CW.seq (fun K4 hK4 hE4 => ?_)
    refine CW.region ?_
    refine LR.v (Y.assign rfl rfl) (Wd.u rfl) rfl rfl ?_
    refine LR.nil ?_
    refine hK4 _ _ ?_
    refine CW.ret (hE2 .ret nofun _ _ (hret .ret (.inr rfl) _ _ _ (res1 rfl rfl) ?_))
    exact ⟨⟨none, 0, 0⟩, 0, rfl, Ow.nil fB_len fB_one, Nx.refl _ _, hm0⟩
  ·
    
    refine CW.skip ?_
    refine hK2 _ _ ?_
    refine CW.seq (fun K5 hK5 hE5 => ?_)
    refine CW.region ?_
    refine LR.z (Z.litw _ (([] : List UInt8)) rfl inf23 rfl rfl rfl (by decide) (by decide) fB_len fB_one (rfl)) (Wd.u rfl) rfl rfl (fun v5 H5 r5 => ?_)
    obtain ⟨ow5, hs5, ob5, hH5⟩ := r5
    have hzs5 : H5.size = H0.size + 1 := by rw [hH5]; simp
    have df1 := (DF.new (bf_ha.mono hm0.size) : DF _ (H0.size + 1))
    have nx2 : Nx 0 H0.size (H0.size + 1) := Nx.new hm0.size
    replace ha := ha.nw hs5
    replace hm0 := hm0.tr hs5
    have hz1 := hs5.size
    refine LR.v (Y.move rfl rfl) (Wd.u rfl) rfl rfl ?_
    refine LR.z (Z.apnd ow5 ha rfl inf23 rfl rfl (by first | omega | (simp; omega)) (by first | omega | (simp; omega))) (Wd.u rfl) rfl rfl (fun v7 H7 r7 => ?_)
    obtain ⟨k7, ow7, hk7, hs7⟩ := r7
    replace hk7 : Nx (H0.size + 1) H5.size k7 := hk7
    replace hs7 := hs7.md
    have df3 := DF.app (df1) (bf_ha.mono hm0.size) hk7
    have nx4 : Nx 0 H0.size k7 := Nx.tr (nx2) hk7 hm0.size
    replace ha := ha.upL hs7 (DFL.cons df1 DFL.nil)
    replace hm0 := (Mo.trL (ks := []) (hm0.mdn []) hs7 (MIL.cons (MI.app MI.z (nx2) (Nat.le_refl _)) MIL.nil)).nil
    have hz2 := hs7.size
    have hle_ow7 := ow7.le
    refine LR.v (Y.assign rfl rfl) (Wd.u rfl) rfl rfl ?_
    refine LR.nil ?_
    refine hK5 _ _ ?_
    refine CW.ret (hret .ret (.inr rfl) _ _ _ (res1 rfl rfl) ?_)
    obtain ⟨s7, rfl⟩ : ∃ s : SV, v7 = s.v := ⟨toSV v7, ow7.sv.symm⟩
    exact ⟨s7, k7, rfl, by simpa using ow7, nx4, hm0⟩


def catP (l : List (SV × List UInt8)) : List UInt8 := l.flatMap (·.2)
theorem catP_take {l : List (SV × List UInt8)} {i : Nat} (h : i < l.length) : catP (l.take (i + 1)) = catP (l.take i) ++ l[i].2 := by
  unfold catP; rw [List.take_succ_eq_append_getElem h, List.flatMap_append]; simp
theorem catP_le (l : List (SV × List UInt8)) (i : Nat) : (catP (l.take i)).length ≤ (catP l).length := by
  have : catP l = catP (l.take i) ++ catP (l.drop i) := by unfold catP; rw [← List.flatMap_append, List.take_append_drop]
  rw [this, List.length_append]; omega
theorem catP_at {l : List (SV × List UInt8)} {i : Nat} (h : i < l.length) : (catP (l.take i)).length + l[i].2.length ≤ (catP l).length := by
  have := catP_le l (i + 1)
  rw [catP_take h, List.length_append] at this; exact this

theorem grow_ct (m : Nat) (w0 : World) (H0 : Heap)
    (hm : m ≤ 1099511627776) :
    Ct Tryd.prog w0 59 #[.slice none 0 0, .int .i64 (m : Int)] H0 (fun r H2 => ∃ s : SV, ∃ k : Nat, r = s.v ∧ (Ow k 5 H2 fB 1 s.v []) ∧ (Nx 0 H0.size k) ∧ Nw H0 H2) := by
  refine Ct.enter (args := [.slice none 0 0, .int .i64 (m : Int)]) Tryd.func59 rfl rfl rfl ?_
  intro Q0 hret
  have hm0 : Nw H0 H0 := Mo.refl _ _
  refine CW.seq (fun K1 hK1 hE1 => ?_)
  refine CW.region ?_
  refine LR.v (Y.assign rfl rfl) (Wd.u rfl) rfl rfl ?_
  refine LR.nil ?_
  refine hK1 _ _ ?_
  refine CW.seq (fun K2 hK2 hE2 => ?_)
  refine CW.seq (fun K3 hK3 hE3 => ?_)
  refine CW.region ?_
  refine LR.v (Y.move rfl rfl) (Wd.u rfl) rfl rfl ?_
  refine LR.v ((Y.lss rfl rfl rfl).isF (by omega)) (Wd.u rfl) rfl rfl ?_
  refine LR.nil ?_
  refine hK3 _ _ ?_
  refine CW.cond_f rfl ?_
  refine CW.skip ?_
  refine hK2 _ _ ?_
  refine CW.seq (fun K4 hK4 hE4 => ?_)
  refine CW.seq (fun K5 hK5 hE5 => ?_)
  refine CW.region ?_
  refine LR.v (Y.move rfl rfl) (Wd.u rfl) rfl rfl ?_
  refine LR.v (Y.move rfl rfl) (Wd.u rfl) rfl rfl ?_
  refine LR.v (Y.capV' rfl Tryd.runUnderlying23 rfl) (Wd.u rfl) rfl rfl ?_
  refine LR.v (Y.move rfl rfl) (Wd.u rfl) rfl rfl ?_
  refine LR.v (Y.cast (v2 := .int .i64 ((0 : Nat) : Int)) (Y.len (Rd.nil (fun _ => False) _ fB 1) rfl Tryd.runUnderlying23 rfl) (rfl)) (Wd.u rfl) rfl rfl ?_
  refine LR.v (Y.cast (v2 := .int .i64 ((0 : Nat) : Int)) (Y.subi rfl rfl rfl (by omega)) (rfl)) (Wd.u rfl) rfl rfl ?_
  refine LR.v (Y.cast (v2 := .int .i64 (m : Int)) (Y.subi rfl rfl rfl (by omega)) (ivv (by simp))) (Wd.u rfl) rfl rfl ?_
  refine LR.v (Y.assign rfl rfl) (Wd.u rfl) rfl rfl ?_
  refine LR.nil ?_
  refine hK5 _ _ ?_
  refine CW.seq (fun K6 hK6 hE6 => ?_)
  refine CW.region ?_
  refine LR.v (Y.move rfl rfl) (Wd.u rfl) rfl rfl ?_
  refine LR.v (Y.gtr rfl rfl rfl) (Wd.u rfl) rfl rfl ?_
  refine LR.nil ?_
  refine hK6 _ _ ?_
  refine CW.condp rfl (fun c16 => ?_) (fun c16 => ?_)
  ·
    refine CW.region ?_
    refine LR.v (Y.move rfl rfl) (Wd.u rfl) rfl rfl ?_
    refine LR.v (Y.move rfl rfl) (Wd.u rfl) rfl rfl ?_
    refine LR.v (Y.capV' rfl Tryd.runUnderlying23 rfl) (Wd.u rfl) rfl rfl ?_
    refine LR.v (Y.sliceV' 0 0 rfl Tryd.runUnderlying23 Tryd.sizeOf5 rfl (.inl ⟨rfl, rfl⟩) (.inr ⟨_, _, _, rfl, rfl, rfl⟩) (by omega) (by omega)) (Wd.u rfl) rfl rfl ?_
    refine LR.v (Y.move rfl rfl) (Wd.u rfl) rfl rfl ?_
    have nl22 : Ow 0 5 H0 fB 1 (.slice none 0 0) [] := Ow.nil fB_len fB_one
    refine LR.z (Z.apz (m := m) nl22 (0 : UInt8) rfl inf23 Tryd.underlying3 Tryd.zeroValue5 rfl (by decide) rfl rfl (by simp; omega) (by simp; omega)) (Wd.u rfl) rfl rfl (fun v22 H22 r22 => ?_)
    obtain ⟨k22, ow22, hk22, hs22⟩ := r22
    replace hk22 : Nx 0 H0.size k22 := hk22
    replace hs22 := hs22.md
    have nx1 : Nx 0 H0.size k22 := Nx.tr (Nx.refl 0 _) hk22 hm0.size
    replace hm0 := (Mo.trL (ks := []) (hm0.mdn []) hs22 (MIL.cons MI.z MIL.nil)).nil
    have hz1 := hs22.size
    have hle_ow22 := ow22.le
    refine LR.v (Y.move rfl rfl) (Wd.u rfl) rfl rfl ?_
    refine LR.v (Y.cast (v2 := .int .i64 ((0 : Nat) : Int)) (Y.len (Rd.nil (fun _ => False) _ fB 1) rfl Tryd.runUnderlying23 rfl) (rfl)) (Wd.u rfl) rfl rfl ?_
    refine LR.e (g := fun v => v) (Y.owFront ow22 (0) rfl Tryd.runUnderlying23 Tryd.sizeOf5 rfl rfl (by first | rfl | omega) (by omega)) (Wd.u rfl) rfl rfl (fun v25 ow25 => ?_)
    refine LR.v (Y.assign rfl rfl) (Wd.u rfl) rfl rfl ?_
    refine LR.nil ?_
    refine hK4 _ _ ?_
    refine CW.seq (fun K7 hK7 hE7 => ?_)
    refine CW.region ?_
    refine LR.v (Y.move rfl rfl) (Wd.u rfl) rfl rfl ?_
    refine LR.v (Y.assign rfl rfl) (Wd.u rfl) rfl rfl ?_
    refine LR.nil ?_
    refine hK7 _ _ ?_
    refine CW.ret (hret .ret (.inr rfl) _ _ _ (res1 rfl rfl) ?_)
    obtain ⟨s25, rfl⟩ : ∃ s : SV, v25 = s.v := ⟨toSV v25, ow25.sv.symm⟩
    exact ⟨s25, k22, rfl, by simpa using ow25, nx1, hm0⟩
  ·
    refine CW.skip ?_
    refine hK4 _ _ ?_
    refine CW.seq (fun K8 hK8 hE8 => ?_)
    refine CW.region ?_
    refine LR.v (Y.move rfl rfl) (Wd.u rfl) rfl rfl ?_
    refine LR.v (Y.assign rfl rfl) (Wd.u rfl) rfl rfl ?_
    refine LR.nil ?_
    refine hK8 _ _ ?_
    refine CW.ret (hret .ret (.inr rfl) _ _ _ (res1 rfl rfl) ?_)
    exact ⟨⟨none, 0, 0⟩, 0, rfl, Ow.nil fB_len fB_one, Nx.refl _ _, hm0⟩

theorem concat_ct (v : Value) (l : List (SV × List UInt8)) (w0 : World) (H0 : Heap)
    (hl : RdT H0 fP 1 v l) (hx : ∀ x ∈ l, RdT H0 fB 1 x.1.v x.2) (hc : (catP l).length ≤ 1099511627776) :
    Ct Tryd.prog w0 41 #[v] H0 (fun r H2 => ∃ s : SV, ∃ k : Nat, r = s.v ∧ (Ow k 5 H2 fB 1 s.v (catP l)) ∧ (Nx 0 H0.size k) ∧ Nw H0 H2) := by
  refine Ct.enter (args := [v]) Tryd.func41 rfl rfl rfl ?_
  intro Q0 hret
  have hm0 : Nw H0 H0 := Mo.refl _ _
  replace hl := hl.bnd
  have bf_hl := hl.bf
  replace hx := fun x hx0 => (hx x hx0).bnd
  have bf_hx : BF (fun b => True ∧ b < H0.size) H0.size := fun b h => h.2
  have hlm := hl.len
  refine CW.seq (fun K1 hK1 hE1 => ?_)
  refine CW.region ?_
  refine LR.v (Y.assign rfl rfl) (Wd.u rfl) rfl rfl ?_
  refine LR.nil ?_
  refine hK1 _ _ ?_
  refine CW.seq (fun K2 hK2 hE2 => ?_)
  refine CW.region ?_
  refine LR.v (Y.assign rfl rfl) (Wd.u rfl) rfl rfl ?_
  refine LR.nil ?_
  refine hK2 _ _ ?_
  refine CW.seq (fun K3 hK3 hE3 => ?_)
  refine CW.seq (fun K4 hK4 hE4 => ?_)
  refine CW.region ?_
  refine LR.v (Y.move rfl rfl) (Wd.u rfl) rfl rfl ?_
  refine LR.v (Y.len hl rfl Tryd.runUnderlying22 rfl) (Wd.u rfl) rfl rfl ?_
  refine LR.v (Y.move rfl rfl) (Wd.u rfl) rfl rfl ?_
  refine LR.nil ?_
  refine hK4 _ _ ?_
  refine CW.block (fun K5 hK5 hX5 hE5 => ?_)
  refine CW.loop (fun (i : (Nat)) => [(0, v), (3, .int .i64 ((catP (l.take i)).length : Int)), (9, v), (10, .int .i64 l.length), (11, .int .i64 i)])
    (fun (i : (Nat)) (H : Heap) => (i ≤ l.length) ∧ Nw H0 H)
    (fun (i : (Nat)) => l.length - i) 0 ⟨rfl, rfl, rfl, rfl, rfl, trivial⟩ ?_ ?_
  ·
    exact ⟨(by omega), Mo.refl _ _⟩
  intro i HL1 hI1 K6 hN6 hE6
  obtain ⟨hi, hlm1⟩ := hI1
  replace hl := hl.nw hlm1
  replace hx := fun x hx0 => (hx x hx0).nw hlm1
  replace hm0 := hm0.tr hlm1
  have hz1 := hlm1.size
  refine CW.seq (fun K7 hK7 hE7 => ?_)
  refine CW.region ?_
  refine LR.v (Y.lss rfl rfl rfl) (Wd.u rfl) rfl rfl ?_
  refine LR.nil ?_
  refine hK7 _ _ ?_
  refine CW.seq (fun K8 hK8 hE8 => ?_)
  refine CW.condp rfl (fun c12 => ?_) (fun c12 => ?_)
  ·
    have hil : i < l.length := by omega
    have hca := catP_at hil
    have hxi := hx l[i] (List.getElem_mem hil)
    refine CW.skip ?_
    refine hK8 _ _ ?_
    refine CW.seq (fun K9 hK9 hE9 => ?_)
    refine CW.block (fun K10 hK10 hX10 hE10 => ?_)
    refine CW.seq (fun K11 hK11 hE11 => ?_)
    refine CW.region ?_
    refine LR.e (g := fun ad => .pointer (some ad)) (Y.indexAddrF hl (i) rfl Tryd.runUnderlying22 Tryd.sizeOf23 rfl rfl (by first | rfl | omega) (by first | omega | (simp; omega) | (simp; done))) (Wd.u rfl) rfl rfl (fun ad13 pt13 => ?_)
    have bf_pt13 := bf_hl
    refine LR.v (Y.load1 pt13.pt rfl Tryd.isAgg23 rfl) (Wd.u rfl) rfl rfl ?_
    refine LR.v (Y.assign rfl rfl) (Wd.u rfl) rfl rfl ?_
    refine LR.nil ?_
    refine hK11 _ _ ?_
    refine CW.seq (fun K12 hK12 hE12 => ?_)
    refine CW.region ?_
    refine LR.v (Y.move rfl rfl) (Wd.u rfl) rfl rfl ?_
    refine LR.v (Y.move rfl rfl) (Wd.u rfl) rfl rfl ?_
    refine LR.v (Y.len hxi rfl Tryd.runUnderlying23 rfl) (Wd.u rfl) rfl rfl ?_
    refine LR.v (Y.cast (v2 := .int .i64 ((catP (l.take (i + 1))).length : Int)) (Y.addi rfl rfl rfl (by omega)) (ivv (by rw [catP_take hil, List.length_append]; omega))) (Wd.u rfl) rfl rfl ?_
    refine LR.v (Y.assign rfl rfl) (Wd.u rfl) rfl rfl ?_
    refine LR.nil ?_
    refine hK12 _ _ ?_
    refine CW.seq (fun K13 hK13 hE13 => ?_)
    refine CW.region ?_
    refine LR.v (Y.move rfl rfl) (Wd.u rfl) rfl rfl ?_
    refine LR.v ((Y.lss rfl rfl rfl).isF (by omega)) (Wd.u rfl) rfl rfl ?_
    refine LR.nil ?_
    refine hK13 _ _ ?_
    refine CW.cond_f rfl ?_
    refine CW.skip ?_
    refine hK10 _ _ ?_
    refine hK9 _ _ ?_
    refine CW.region ?_
    refine LR.v (Y.addi rfl rfl rfl (by omega)) (Wd.u rfl) rfl rfl ?_
    refine LR.v (Y.move rfl rfl) (Wd.u rfl) rfl rfl ?_
    refine LR.nil ?_
    have hci := catP_take hil
    refine QN.sub (hN6 (i + 1) _ ?_ ?_) ⟨rfl, (iv (by omega)), rfl, (iv (by omega)), (iv (by omega)), trivial⟩
    · exact ⟨(by omega), hlm1⟩
    · first | omega | (simp only; omega) | (simp; omega)
  ·
    obtain rfl : i = l.length := by omega
    refine CW.exit (hE8 (.exit 0) nofun _ _ (hE6 (.exit 0) nofun _ _ (hX5 _ _ ?_)))
    refine hK3 _ _ ?_
    refine CW.seq (fun K14 hK14 hE14 => ?_)
    refine CW.region ?_
    refine LR.v (Y.cast (v2 := .int .i64 ((catP l).length : Int)) (Y.move rfl rfl) (by rw [List.take_length])) (Wd.u rfl) rfl rfl ?_
    -- call slices.Grow[[]byte,byte]
    refine LR.call rfl Tryd.call59 rfl (Wd.u rfl) rfl rfl (grow_ct (catP l).length w0 _ hc) (fun v24 H24 r24 => ?_)
    obtain ⟨s24, k24, rfl, ow6, hk24, hs24⟩ := r24
    have df1 := DF.app (DF.z) (bf_hl.mono hm0.size) hk24
    have df2 := DF.app (DF.z) (bf_hx.mono hm0.size) hk24
    have nx3 : Nx 0 H0.size k24 := Nx.tr (Nx.refl 0 _) hk24 hm0.size
    replace hl := hl.nw hs24
    replace hx := fun x hx0 => (hx x hx0).nw hs24
    replace hm0 := hm0.tr hs24
    have hz2 := hs24.size
    have hle_ow6 := ow6.le
    refine LR.v (Y.assign rfl rfl) (Wd.u rfl) rfl rfl ?_
    refine LR.nil ?_
    refine hK14 _ _ ?_
    refine CW.seq (fun K15 hK15 hE15 => ?_)
    refine CW.seq (fun K16 hK16 hE16 => ?_)
    refine CW.region ?_
    refine LR.v (Y.move rfl rfl) (Wd.u rfl) rfl rfl ?_
    refine LR.v (Y.len hl rfl Tryd.runUnderlying22 rfl) (Wd.u rfl) rfl rfl ?_
    refine LR.v (Y.move rfl rfl) (Wd.u rfl) rfl rfl ?_
    refine LR.nil ?_
    refine hK16 _ _ ?_
    refine CW.block (fun K17 hK17 hX17 hE17 => ?_)
    refine CW.loop (fun (s_ : (Nat) × (SV) × (Nat)) => match s_ with | (q, s6, k6) => [(6, s6.v), (25, v), (26, .int .i64 l.length), (27, .int .i64 q)])
      (fun (s_ : (Nat) × (SV) × (Nat)) (H : Heap) => match s_ with | (q, s6, k6) => (q ≤ l.length) ∧ (Ow k6 5 H fB 1 s6.v (catP (l.take q))) ∧ (Nx k24 H24.size k6) ∧ Mo (Ms [k24]) H24 H)
      (fun (s_ : (Nat) × (SV) × (Nat)) => match s_ with | (q, s6, k6) => l.length - q) (0, s24, k24) ⟨rfl, rfl, rfl, rfl, trivial⟩ ?_ ?_
    ·
      exact ⟨(by omega), by simpa [catP] using ow6, Nx.refl _ _, Mo.refl _ _⟩
    rintro ⟨q, s6, k6⟩ HL2 hI2 K18 hN18 hE18
    obtain ⟨hq, ow6, nxl_ow6, hlm2⟩ := hI2
    have df4 := DF.app (df1) (bf_hl.mono hm0.size) nxl_ow6
    have df5 := DF.app (df2) (bf_hx.mono hm0.size) nxl_ow6
    have nx6 : Nx 0 H0.size k6 := Nx.tr (nx3) nxl_ow6 hm0.size
    replace hl := hl.upL hlm2 (DFL.cons df1 DFL.nil)
    replace hx := fun x hx0 => (hx x hx0).upL hlm2 (DFL.cons df2 DFL.nil)
    replace hm0 := (Mo.trL (ks := []) (hm0.mdn []) hlm2 (MIL.cons (MI.app MI.z (nx3) (Nat.le_refl _)) MIL.nil)).nil
    have hz3 := hlm2.size
    have hle_ow6 := ow6.le
    have nx7 := nxl_ow6
    refine CW.seq (fun K19 hK19 hE19 => ?_)
    refine CW.region ?_
    refine LR.v (Y.lss rfl rfl rfl) (Wd.u rfl) rfl rfl ?_
    refine LR.nil ?_
    refine hK19 _ _ ?_
    refine CW.seq (fun K20 hK20 hE20 => ?_)
    refine CW.condp rfl (fun c28 => ?_) (fun c28 => ?_)
    ·
      have hql : q < l.length := by omega
      have hcb := catP_at hql
      have hxq := hx l[q] (List.getElem_mem hql)
      refine CW.skip ?_
      refine hK20 _ _ ?_
      refine CW.seq (fun K21 hK21 hE21 => ?_)
      refine CW.block (fun K22 hK22 hX22 hE22 => ?_)
      refine CW.seq (fun K23 hK23 hE23 => ?_)
      refine CW.region ?_
      refine LR.e (g := fun ad => .pointer (some ad)) (Y.indexAddrF hl (q) rfl Tryd.runUnderlying22 Tryd.sizeOf23 rfl rfl (by first | rfl | omega) (by first | omega | (simp; omega) | (simp; done))) (Wd.u rfl) rfl rfl (fun ad29 pt29 => ?_)
      have bf_pt29 := bf_hl
      refine LR.v (Y.load1 pt29.pt rfl Tryd.isAgg23 rfl) (Wd.u rfl) rfl rfl ?_
      refine LR.v (Y.assign rfl rfl) (Wd.u rfl) rfl rfl ?_
      refine LR.nil ?_
      refine hK23 _ _ ?_
      refine CW.region ?_
      refine LR.v (Y.move rfl rfl) (Wd.u rfl) rfl rfl ?_
      refine LR.v (Y.move rfl rfl) (Wd.u rfl) rfl rfl ?_
      refine LR.z (Z.apnd ow6 hxq rfl inf23 rfl rfl (by first | omega | (simp; omega)) (by first | omega | (simp; omega))) (Wd.u rfl) rfl rfl (fun v33 H33 r33 => ?_)
      obtain ⟨k33, ow6, hk33, hs33⟩ := r33
      replace hk33 : Nx k6 HL2.size k33 := hk33
      replace hs33 := hs33.md
      have df8 := DF.app (df4) (bf_hl.mono hm0.size) hk33
      have df9 := DF.app (df5) (bf_hx.mono hm0.size) hk33
      have nx10 : Nx 0 H0.size k33 := Nx.tr (nx6) hk33 hm0.size
      have nx11 : Nx k24 H24.size k33 := Nx.tr (nx7) hk33 hlm2.size
      replace hl := hl.upL hs33 (DFL.cons df4 DFL.nil)
      replace hx := fun x hx0 => (hx x hx0).upL hs33 (DFL.cons df5 DFL.nil)
      replace hm0 := (Mo.trL (ks := []) (hm0.mdn []) hs33 (MIL.cons (MI.app MI.z (nx6) (Nat.le_refl _)) MIL.nil)).nil
      replace hlm2 := hlm2.trL hs33 (MIL.cons (MI.app (MI.root (by simp)) (nx7) (Nat.le_refl _)) MIL.nil)
      have hz4 := hs33.size
      have hle_ow6 := ow6.le
      refine LR.v (Y.assign rfl rfl) (Wd.u rfl) rfl rfl ?_
      refine LR.nil ?_
      refine hK22 _ _ ?_
      refine hK21 _ _ ?_
      refine CW.region ?_
      refine LR.v (Y.addi rfl rfl rfl (by omega)) (Wd.u rfl) rfl rfl ?_
      refine LR.v (Y.move rfl rfl) (Wd.u rfl) rfl rfl ?_
      refine LR.nil ?_
      obtain ⟨s33, rfl⟩ : ∃ s : SV, v33 = s.v := ⟨toSV v33, ow6.sv.symm⟩
      refine QN.sub (hN18 (q + 1, s33, k33) _ ?_ ?_) ⟨rfl, rfl, (iv (by omega)), (iv (by omega)), trivial⟩
      · exact ⟨(by omega), by rw [catP_take hql]; exact ow6, nx11, hlm2⟩
      · first | omega | (simp only; omega) | (simp; omega)
    ·
      refine CW.exit (hE20 (.exit 2) nofun _ _ (hE18 (.exit 2) nofun _ _ (hX17 _ _ ?_)))
      refine hK15 _ _ ?_
      refine CW.seq (fun K24 hK24 hE24 => ?_)
      refine CW.region ?_
      refine LR.v (Y.move rfl rfl) (Wd.u rfl) rfl rfl ?_
      refine LR.v (Y.assign rfl rfl) (Wd.u rfl) rfl rfl ?_
      refine LR.nil ?_
      refine hK24 _ _ ?_
      refine CW.ret (hret .ret (.inr rfl) _ _ _ (res1 rfl rfl) ?_)
      obtain rfl : q = l.length := by omega
      rw [List.take_length] at ow6
      exact ⟨s6, k6, rfl, ow6, nx6, hm0⟩


abbrev Wx := Wr × SV
/-- a write's cells -/
abbrev fW (x : Wx) : List Value := [.bool x.1.b, x.2.v]
theorem fW_len (x : Wx) : (fW x).length = 2 := rfl
theorem fW_one (x : Wx) : ∀ u ∈ fW x, u.oneCell' = true := by intro u hu; simp only [List.mem_cons, List.not_mem_nil, or_false] at hu; rcases hu with rfl | rfl <;> rfl
abbrev wV (x : Wx) : Value := .agg (fW x).toArray
theorem on_le (w : Wr) (b : List UInt8) (n : Nat) : (w.on b n).length ≤ b.length + n := by
  unfold Wr.on; rw [List.length_append, List.length_take]; split <;> simp <;> omega

theorem on_ct (x : Wx) (sb : SV) (b : List UInt8) (n : Nat) (w0 : World) (H0 : Heap)
    (hd : RdT H0 fB 1 x.2.v x.1.d) (hb : RdT H0 fB 1 sb.v b) (hn : n ≤ x.1.d.length) (hbl : b.length + n ≤ 1099511627776) :
    Ct Tryd.prog w0 75 #[wV x, sb.v, .int .i64 (n : Int)] H0 (fun r H2 => ∃ s : SV, ∃ k : Nat, r = s.v ∧ (Ow k 5 H2 fB 1 s.v (x.1.on b n)) ∧ (Nx 0 H0.size k) ∧ Nw H0 H2) := by
  refine Ct.enter (args := [wV x, sb.v, .int .i64 (n : Int)]) Tryd.func75 rfl rfl rfl ?_
  intro Q0 hret
  have hm0 : Nw H0 H0 := Mo.refl _ _
  replace hd := hd.bnd
  have bf_hd := hd.bf
  replace hb := hb.bnd
  have bf_hb := hb.bf
  refine CW.seq (fun K1 hK1 hE1 => ?_)
  refine CW.region ?_
  refine LR.z (Z.boxv rfl rfl) (Wd.u rfl) rfl rfl (fun v3 H3 r3 => ?_)
  obtain ⟨rfl, vx, hs3, ob3, hH3⟩ := r3
  have hzs3 : H3.size = H0.size + 1 := by rw [hH3]; simp
  have df1 := (DF.new (bf_hd.mono hm0.size) : DF _ (H0.size + 1))
  have df2 := (DF.new (bf_hb.mono hm0.size) : DF _ (H0.size + 1))
  have nx3 : Nx 0 H0.size (H0.size + 1) := Nx.new hm0.size
  replace hd := hd.nw hs3
  replace hb := hb.nw hs3
  replace hm0 := hm0.tr hs3
  have hz1 := hs3.size
  replace vx : Var 93 H3 H0.size (fW x) := vx
  refine LR.v (Y.assign rfl rfl) (Wd.u rfl) rfl rfl ?_
  refine LR.nil ?_
  refine hK1 _ _ ?_
  refine CW.cut (fun (s_ : (SV) × (List UInt8)) => match s_ with | (s1, b1) => [(1, s1.v), (2, .int .i64 (n : Int)), (3, .pointer (some ⟨H0.size, 0, none⟩))])
    (fun (s_ : (SV) × (List UInt8)) (H : Heap) => match s_ with | (s1, b1) => (RdT H fB 1 s1.v b1) ∧ (b1 = if x.1.b = true then b else []) ∧ Nw H3 H) (fun K2 hK2 hE2 => ?_) ?_
  ·
    have hcm2 : Nw H3 H3 := Mo.refl _ _
    refine CW.seq (fun K3 hK3 hE3 => ?_)
    refine CW.region ?_
    refine LR.v (Y.fieldAddr vx.pt rfl Tryd.runUnderlying93 rfl rfl Tryd.sizeOf4 (by decide) rfl) (Wd.u rfl) rfl rfl ?_
    refine LR.v (Y.load1 vx.pt rfl Tryd.isAgg4 rfl) (Wd.u rfl) rfl rfl ?_
    refine LR.v (Y.not rfl rfl) (Wd.u rfl) rfl rfl ?_
    refine LR.nil ?_
    refine hK3 _ _ ?_
    refine CW.cond rfl (fun c9 => ?_) (fun c9 => ?_)
    ·
      refine CW.region ?_
      refine LR.v (Y.assign rfl rfl) (Wd.u rfl) rfl rfl ?_
      refine LR.nil ?_
      refine QN.sub (hK2 (⟨none, 0, 0⟩, []) _ ?_) ⟨rfl, (iv (by omega)), rfl, trivial⟩
      exact ⟨Rd.nil _ _ _ _, by rw [if_neg (by simpa using c9)], hcm2⟩
    ·
      refine CW.skip ?_
      refine QN.sub (hK2 (sb, b) _ ?_) ⟨rfl, (iv (by omega)), rfl, trivial⟩
      exact ⟨hb.any, by rw [if_pos (by simpa using c9)], hcm2⟩
  ·
    rintro ⟨s1, b1⟩ Hcutc9 hIcutc9
    obtain ⟨hb1, hb1e, hlmcutc9⟩ := hIcutc9
    replace hd := hd.nw hlmcutc9
    replace hb := hb.nw hlmcutc9
    replace vx := vx.nw hlmcutc9
    replace hm0 := hm0.tr hlmcutc9
    have hz2 := hlmcutc9.size
    have hb1l : b1.length ≤ b.length := by rw [hb1e]; split <;> simp
    refine CW.seq (fun K4 hK4 hE4 => ?_)
    refine CW.region ?_
    refine LR.v (Y.move rfl rfl) (Wd.u rfl) rfl rfl ?_
    refine LR.v (Y.fieldAddr vx.pt rfl Tryd.runUnderlying93 rfl rfl Tryd.sizeOf23 (by decide) rfl) (Wd.u rfl) rfl rfl ?_
    refine LR.v (Y.load1 (vx.pt.drop 1) rfl Tryd.isAgg23 rfl) (Wd.u rfl) rfl rfl ?_
    refine LR.v (Y.move rfl rfl) (Wd.u rfl) rfl rfl ?_
    refine LR.e (g := fun v => v) (Y.slice hd (0) (n) rfl Tryd.runUnderlying23 Tryd.sizeOf5 rfl (.inl ⟨rfl, rfl⟩) (.inr ⟨_, _, _, rfl, rfl, by first | rfl | omega⟩) (by omega) (by omega)) (Wd.u rfl) rfl rfl (fun v14 rd14 => ?_)
    have bf_rd14 := bf_hd
    obtain ⟨s14, rfl⟩ : ∃ s : SV, v14 = s.v := ⟨toSV v14, rd14.sv.symm⟩
    refine LR.z (Z.litw _ ([(s1, b1), (s14, (x.1.d.take n).drop 0)]) rfl inf22 rfl rfl rfl (by decide) (by decide) fP_len fP_one (rfl)) (Wd.u rfl) rfl rfl (fun v15 H15 r15 => ?_)
    obtain ⟨ow15, hs15, ob15, hH15⟩ := r15
    have hzs15 : H15.size = Hcutc9.size + 1 := by rw [hH15]; simp
    have df4 := (DF.new (bf_hd.mono hm0.size) : DF _ (Hcutc9.size + 1))
    have df5 := (DF.new (bf_hb.mono hm0.size) : DF _ (Hcutc9.size + 1))
    have dj6 : Dj (H0.size + 1) (Hcutc9.size + 1) := Dj.new vx.lt
    have df7 := (DF.new (bf_rd14.mono hm0.size) : DF _ (Hcutc9.size + 1))
    have nx8 : Nx 0 H0.size (Hcutc9.size + 1) := Nx.new hm0.size
    replace hd := hd.nw hs15
    replace hb := hb.nw hs15
    replace vx := vx.nw hs15
    replace rd14 := rd14.nw hs15
    replace hm0 := hm0.tr hs15
    have hz3 := hs15.size
    -- call slices.Concat[[]byte,byte]
    refine LR.call rfl Tryd.call41 rfl (Wd.u rfl) rfl rfl (concat_ct v15 [(s1, b1), (s14, (x.1.d.take n).drop 0)] w0 _ ow15.rd.any (fun x hx => by simp only [List.mem_cons, List.not_mem_nil, or_false] at hx; rcases hx with rfl | rfl; exact hb1.nw hs15; exact rd14.any) (by simp [catP]; omega)) (fun v16 H16 r16 => ?_)
    obtain ⟨s16, k16, rfl, ow16, hk16, hs16⟩ := r16
    have df9 := DF.app (DF.z) (bf_hd.mono hm0.size) hk16
    have df10 := DF.app (DF.z) (bf_hb.mono hm0.size) hk16
    have dj11 : Dj (H0.size + 1) k16 := Dj.app (Dj.z) vx.lt hk16
    have df12 := DF.app (DF.z) (bf_rd14.mono hm0.size) hk16
    have dj13 : Dj (Hcutc9.size + 1) k16 := Dj.app (Dj.z) ow15.le hk16
    have nx14 : Nx 0 H0.size k16 := Nx.tr (Nx.refl 0 _) hk16 hm0.size
    replace hd := hd.nw hs16
    replace hb := hb.nw hs16
    replace vx := vx.nw hs16
    replace rd14 := rd14.nw hs16
    replace ow15 := ow15.nw hs16
    replace hm0 := hm0.tr hs16
    have hz4 := hs16.size
    have hle_ow16 := ow16.le
    refine LR.v (Y.assign rfl rfl) (Wd.u rfl) rfl rfl ?_
    refine LR.nil ?_
    refine hK4 _ _ ?_
    refine CW.ret (hret .ret (.inr rfl) _ _ _ (res1 rfl rfl) ?_)
    exact ⟨s16, k16, rfl, by have e : catP [(s1, b1), (s14, (x.1.d.take n).drop 0)] = x.1.on b n := (by unfold Wr.on; rw [← hb1e]; simp [catP]); rw [← e]; exact ow16, nx14, hm0⟩

end Go.Proofs.YtdliddjkacbggaaDoor.SimB
/-
  A journal's bytes: the contracts of the functions that write and read them.
-/
namespace Go.Proofs.YtdliddjkacbggaaDoor.WalB
open Go.Proofs.YtdliddjkacbggaaDoor.E Go.RowKit Go.Proofs.YtdliddjkacbggaaDoor.SumB Go.Proofs.YtdliddjkacbggaaDoor.SumC Go.Proofs.YtdliddjkacbggaaDoor.SumD Go.Proofs.YtdliddjkacbggaaDoor.SumF Go.Proofs.YtdliddjkacbggaaDoor.SumG Go.Proofs.YtdliddjkacbggaaDoor.DelA Go.Proofs.YtdliddjkacbggaaDoor.SimA Go.Proofs.YtdliddjkacbggaaDoor.SimB Go.Proofs.YtdliddjkacbggaaDoor.WalA
set_option maxRecDepth 20000
set_option linter.unusedVariables false
set_option linter.unusedSimpArgs false
set_option linter.unusedSectionVars false
set_option maxRecDepth 100000 in
theorem inf22 : Inf Tryd.prog 22 23 1 24 := ⟨Tryd.underlying22, _, _, rfl, rfl, rfl, rfl, rfl⟩
set_option maxRecDepth 100000 in
theorem inf23 : Inf Tryd.prog 23 5 1 1 := ⟨Tryd.underlying23, _, _, rfl, rfl, rfl, rfl, rfl⟩

abbrev recs (l : List (SV × Rec)) : List Rec := l.map (·.2)
theorem encN_take {l : List (SV × Rec)} {i : Nat} (h : i < l.length) : encN 0 (recs (l.take (i + 1))) = encN 0 (recs (l.take i)) ++ recW i l[i].2 := by
  have e : (recs (l.take i)).length = i := by simp; omega
  rw [List.take_succ_eq_append_getElem h]
  unfold recs
  rw [List.map_append, encN_app]
  unfold recs at e
  rw [e]; simp [encN]
theorem encN_take_le (l : List (SV × Rec)) (i : Nat) : (encN 0 (recs (l.take i))).length ≤ (encN 0 (recs l)).length := by
  have h : l = l.take i ++ l.drop i := (List.take_append_drop i l).symm
  have h2 : recs l = recs (l.take i) ++ recs (l.drop i) := by unfold recs; rw [← List.map_append, ← h]
  rw [h2, encN_app, List.length_append]; omega
theorem encN_take_le2 {l : List (SV × Rec)} {i : Nat} (h : i < l.length) : (encN 0 (recs (l.take i))).length + (13 + l[i].2.length) ≤ (encN 0 (recs l)).length := by
  have := encN_take_le l (i + 1)
  rw [encN_take h, List.length_append, recW_len] at this; exact this

theorem number_ct (k : Nat) (v : Value) (xs : List UInt8) (n : Nat) (x : UInt64) (w0 : World) (H0 : Heap)
    (how : Ow k 5 H0 fB 1 v xs) (hn : n ≤ 8) (hx : xs.length ≤ 1099511627776) :
    Ct Tryd.prog w0 38 #[v, .int .i64 n, .int .u64 x.toNat] H0 (fun r H2 => ∃ v2 : Value, ∃ k2 : Nat, r = v2 ∧ (Ow k2 5 H2 fB 1 v2 (xs ++ Num.numL n x)) ∧ (Nx k H0.size k2) ∧ Mo (Ms [k]) H0 H2) := by
  refine Ct.enter (args := [v, .int .i64 n, .int .u64 x.toNat]) Tryd.func38 rfl rfl rfl ?_
  intro Q0 hret
  have hm0 : Mo (Ms [k]) H0 H0 := Mo.refl _ _
  have nx_hm0_how := Nx.refl k H0.size
  have hle_how := how.le
  refine CW.seq (fun K1 hK1 hE1 => ?_)
  refine CW.region ?_
  refine LR.v (Y.assign rfl rfl) (Wd.u rfl) rfl rfl ?_
  refine LR.nil ?_
  refine hK1 _ _ ?_
  refine CW.seq (fun K2 hK2 hE2 => ?_)
  refine CW.seq (fun K3 hK3 hE3 => ?_)
  refine CW.region ?_
  refine LR.v (Y.move rfl rfl) (Wd.u rfl) rfl rfl ?_
  refine LR.v (Y.subi rfl rfl rfl (by omega)) (Wd.u rfl) rfl rfl ?_
  refine LR.v (Y.assign rfl rfl) (Wd.u rfl) rfl rfl ?_
  refine LR.nil ?_
  refine hK3 _ _ ?_
  refine CW.block (fun K4 hK4 hX4 hE4 => ?_)
  refine CW.loop (fun (s_ : (Nat) × (Value) × (Nat) × (List UInt8)) => match s_ with | (j, v', k', ys) => [(0, v'), (2, .int .u64 x.toNat), (7, .int .i64 ((j : Int) - 1))])
    (fun (s_ : (Nat) × (Value) × (Nat) × (List UInt8)) (H : Heap) => match s_ with | (j, v', k', ys) => (j ≤ n) ∧ (Ow k' 5 H fB 1 v' ys) ∧ (ys ++ Num.numL j x = xs ++ Num.numL n x) ∧ (Nx k H0.size (k')) ∧ Mo (Ms [k]) H0 H)
    (fun (s_ : (Nat) × (Value) × (Nat) × (List UInt8)) => match s_ with | (j, v', k', ys) => j) (n, v, k, xs) ⟨rfl, rfl, rfl, trivial⟩ ?_ ?_
  ·
    exact ⟨(by omega), how, rfl, Nx.refl _ _, Mo.refl _ _⟩
  rintro ⟨j, v', k', ys⟩ HL1 hI1 K5 hN5 hE5
  obtain ⟨hj, how, hys, nxl_how, hlm1⟩ := hI1
  have nx1 : Nx k H0.size (k') := Nx.tr (nx_hm0_how) nxl_how hm0.size
  replace hm0 := hm0.trL hlm1 (MIL.cons (MI.app (MI.root (by simp)) (nx_hm0_how) (Nat.le_refl _)) MIL.nil)
  have hz1 := hlm1.size
  have hle_how := how.le
  have nx2 := nxl_how
  have hyl : ys.length + j = xs.length + n := by have := congrArg List.length hys; simpa [Num.numL_len] using this
  refine CW.seq (fun K6 hK6 hE6 => ?_)
  refine CW.seq (fun K7 hK7 hE7 => ?_)
  refine CW.region ?_
  refine LR.v (Y.move rfl rfl) (Wd.u rfl) rfl rfl ?_
  refine LR.v (Y.geq rfl rfl rfl) (Wd.u rfl) rfl rfl ?_
  refine LR.nil ?_
  refine hK7 _ _ ?_
  refine CW.condp rfl (fun c11 => ?_) (fun c11 => ?_)
  ·
    obtain ⟨j, rfl⟩ : ∃ q, j = q + 1 := ⟨j - 1, by omega⟩
    refine CW.skip ?_
    refine hK6 _ _ ?_
    refine CW.seq (fun K8 hK8 hE8 => ?_)
    refine CW.block (fun K9 hK9 hX9 hE9 => ?_)
    refine CW.region ?_
    refine LR.v (Y.move rfl rfl) (Wd.u rfl) rfl rfl ?_
    refine LR.v (Y.move rfl rfl) (Wd.u rfl) rfl rfl ?_
    refine LR.v (Y.move rfl rfl) (Wd.u rfl) rfl rfl ?_
    refine LR.v (Y.muli rfl rfl rfl (by omega)) (Wd.u rfl) rfl rfl ?_
    refine LR.v (Y.shr_u64 (8 * j) rfl rfl rfl (by first | rfl | omega) (by omega)) (Wd.u rfl) rfl rfl ?_
    refine LR.v (Y.conv_u8 rfl Tryd.runUnderlying83 Tryd.runUnderlying5 rfl) (Wd.u rfl) rfl rfl ?_
    refine LR.z (Z.litw _ ([UInt8.ofNat (shrw_u64 x (8 * j)).toNat]) rfl inf23 rfl rfl rfl (by decide) (by decide) fB_len fB_one (rfl)) (Wd.u rfl) rfl rfl (fun v20 H20 r20 => ?_)
    obtain ⟨ow20, hs20, ob20, hH20⟩ := r20
    have hzs20 : H20.size = HL1.size + 1 := by rw [hH20]; simp
    have dj3 : Dj (k') (HL1.size + 1) := Dj.new how.le
    have nx4 : Nx 0 H0.size (HL1.size + 1) := Nx.new hm0.size
    have nx5 : Nx 0 H0.size (HL1.size + 1) := Nx.new hlm1.size
    replace how := how.nw hs20
    replace hm0 := hm0.trN hs20
    replace hlm1 := hlm1.trN hs20
    have hz2 := hs20.size
    refine LR.z (Z.apnd how ow20.rd rfl inf23 rfl rfl (by first | omega | (simp; omega)) (by first | omega | (simp; omega))) (Wd.u rfl) rfl rfl (fun v21 H21 r21 => ?_)
    obtain ⟨k21, ow21, hk21, hs21⟩ := r21
    replace hk21 : Nx (k') H20.size k21 := hk21
    replace hs21 := hs21.md
    have dj6 : Dj (HL1.size + 1) k21 := Dj.app (dj3.symm) ow20.le hk21
    have nx7 : Nx k H0.size k21 := Nx.tr (nx1) hk21 hm0.size
    have nx8 : Nx k H0.size k21 := Nx.tr (nx2) hk21 hlm1.size
    replace ow20 := ow20.upL hs21 (DL.cons dj3.symm DL.nil)
    replace hm0 := hm0.trL hs21 (MIL.cons (MI.app (MI.root (by simp)) (nx1) (Nat.le_refl _)) MIL.nil)
    replace hlm1 := hlm1.trL hs21 (MIL.cons (MI.app (MI.root (by simp)) (nx2) (Nat.le_refl _)) MIL.nil)
    have hz3 := hs21.size
    have hle_ow21 := ow21.le
    refine LR.v (Y.assign rfl rfl) (Wd.u rfl) rfl rfl ?_
    refine LR.nil ?_
    refine hK9 _ _ ?_
    refine hK8 _ _ ?_
    refine CW.region ?_
    refine LR.v (Y.move rfl rfl) (Wd.u rfl) rfl rfl ?_
    refine LR.v (Y.subi rfl rfl rfl (by omega)) (Wd.u rfl) rfl rfl ?_
    refine LR.v (Y.assign rfl rfl) (Wd.u rfl) rfl rfl ?_
    refine LR.nil ?_
    refine QN.sub (hN5 (j, v21, k21, ys ++ [UInt8.ofNat (shrw_u64 x (8 * j)).toNat]) _ ?_ ?_) ⟨rfl, (iv (by omega)), (iv (by omega)), trivial⟩
    · exact ⟨(by omega), ow21, by rw [← hys, List.append_assoc]; rfl, nx8, hlm1⟩
    · first | omega | (simp only; omega) | (simp; omega)
  ·
    obtain rfl : j = 0 := by omega
    rw [Num.numL, List.append_nil] at hys
    subst hys
    refine CW.exit (hE6 (.exit 0) nofun _ _ (hE5 (.exit 0) nofun _ _ (hX4 _ _ ?_)))
    refine hK2 _ _ ?_
    refine CW.seq (fun K10 hK10 hE10 => ?_)
    refine CW.region ?_
    refine LR.v (Y.move rfl rfl) (Wd.u rfl) rfl rfl ?_
    refine LR.v (Y.assign rfl rfl) (Wd.u rfl) rfl rfl ?_
    refine LR.nil ?_
    refine hK10 _ _ ?_
    refine CW.ret (hret .ret (.inr rfl) _ _ _ (res1 rfl rfl) ?_)
    exact ⟨v', k', rfl, how, nx1, hm0⟩


theorem spl2 {vs cs : List Value} (h : cs.length = vs.length) : splice cs 0 vs = vs := by simp [splice, h]

theorem check_ct (n : Nat) (s : SV) (rc : List UInt8) (w0 : World) (H0 : Heap)
    (hr : RdT H0 fB 1 s.v rc) (hrl : rc.length ≤ 1099511000000) :
    Ct Tryd.prog w0 22 #[.int .i64 (n : Int), s.v] H0 (fun r H2 => ∃ t : SV, r = t.v ∧ (Rd (fun b => H0.size ≤ b) H2 fB 1 t.v (chkW n rc)) ∧ Nw H0 H2) := by
  refine Ct.enter (args := [.int .i64 (n : Int), s.v]) Tryd.func22 rfl rfl rfl ?_
  intro Q0 hret
  have hm0 : Nw H0 H0 := Mo.refl _ _
  replace hr := hr.bnd
  have bf_hr := hr.bf
  refine CW.seq (fun K1 hK1 hE1 => ?_)
  refine CW.region ?_
  refine LR.v (Y.assign rfl rfl) (Wd.u rfl) rfl rfl ?_
  refine LR.nil ?_
  refine hK1 _ _ ?_
  refine CW.seq (fun K2 hK2 hE2 => ?_)
  refine CW.region ?_
  refine LR.v (Y.move rfl rfl) (Wd.u rfl) rfl rfl ?_
  refine LR.v (Y.cast (v2 := .int .u64 (UInt64.ofNat n).toNat) (Y.conv_u64 rfl Tryd.runUnderlying3 Tryd.runUnderlying83 rfl) (rfl)) (Wd.u rfl) rfl rfl ?_
  -- call selvage/wal.number
  refine LR.call rfl Tryd.call38 rfl (Wd.u rfl) rfl rfl (number_ct 0 _ [] 8 (UInt64.ofNat (n)) w0 _ (Ow.nil fB_len fB_one) (by omega) (by simp)) (fun v8 H8 r8 => ?_)
  obtain ⟨v28, k8, rfl, ow8, hk8, hs8⟩ := r8
  have df1 := DF.app (DF.z) (bf_hr.mono hm0.size) hk8
  have nx2 : Nx 0 H0.size k8 := Nx.tr (Nx.refl 0 _) hk8 hm0.size
  replace hr := hr.upL hs8 (DFL.cons DF.z DFL.nil)
  replace hm0 := (Mo.trL (ks := []) (hm0.mdn []) hs8 (MIL.cons MI.z MIL.nil)).nil
  have hz1 := hs8.size
  have hle_ow8 := ow8.le
  rw [List.nil_append] at ow8
  obtain ⟨s8, rfl⟩ : ∃ s : SV, v8 = s.v := ⟨toSV v8, ow8.sv.symm⟩
  refine LR.v (Y.move rfl rfl) (Wd.u rfl) rfl rfl ?_
  refine LR.z (Z.litw _ ([(s8, Num.numL 8 (UInt64.ofNat n)), (s, rc)]) rfl inf22 rfl rfl rfl (by decide) (by decide) fP_len fP_one (rfl)) (Wd.u rfl) rfl rfl (fun v10 H10 r10 => ?_)
  obtain ⟨ow10, hs10, ob10, hH10⟩ := r10
  have hzs10 : H10.size = H8.size + 1 := by rw [hH10]; simp
  have df3 := (DF.new (bf_hr.mono hm0.size) : DF _ (H8.size + 1))
  have dj4 : Dj k8 (H8.size + 1) := Dj.new ow8.le
  have nx5 : Nx 0 H0.size (H8.size + 1) := Nx.new hm0.size
  replace hr := hr.nw hs10
  replace ow8 := ow8.nw hs10
  replace hm0 := hm0.tr hs10
  have hz2 := hs10.size
  -- call selvage/sum.Of
  refine LR.call rfl Tryd.call37 rfl (Wd.u rfl) rfl rfl (pof_ct _ [(s8, Num.numL 8 (UInt64.ofNat n)), (s, rc)] w0 _ ow10.rd.any (fun x hx => by simp only [List.mem_cons, List.not_mem_nil, or_false] at hx; rcases hx with rfl | rfl; exact ow8.rd.any; exact hr.any) (by simp [cat, Num.numL_len]; omega)) (fun v11 H11 r11 => ?_)
  obtain ⟨rfl, hs11⟩ := r11
  replace hr := hr.nw hs11
  replace ow8 := ow8.nw hs11
  replace ow10 := ow10.nw hs11
  replace hm0 := hm0.tr hs11
  have hz3 := hs11.size
  rw [show cat [(s8, Num.numL 8 (UInt64.ofNat n)), (s, rc)] = (Num.numL 8 (UInt64.ofNat n) ++ rc) from by simp [cat]]
  refine LR.z (Z.allocv rfl Tryd.zeroValue80) (Wd.u rfl) rfl rfl (fun v5 H5 r5 => ?_)
  obtain ⟨rfl, va5, hs5, ob5, hH5⟩ := r5
  have hzs5 : H5.size = H11.size + 1 := by rw [hH5]; simp
  have df6 := (DF.new (bf_hr.mono hm0.size) : DF _ (H11.size + 1))
  have dj7 : Dj k8 (H11.size + 1) := Dj.new ow8.le
  have dj8 : Dj (H8.size + 1) (H11.size + 1) := Dj.new ow10.le
  have nx9 : Nx 0 H0.size (H11.size + 1) := Nx.new hm0.size
  replace hr := hr.nw hs5
  replace ow8 := ow8.nw hs5
  replace ow10 := ow10.nw hs5
  replace hm0 := hm0.tr hs5
  have hz4 := hs5.size
  replace va5 : Var 80 H5 H11.size ((List.replicate 32 (0 : UInt8)).map V8) := va5
  refine LR.s (S.var va5 ((sumOf (Num.numL 8 (UInt64.ofNat n) ++ rc)).map V8) ((sumOf (Num.numL 8 (UInt64.ofNat n) ++ rc)).map V8) rfl rfl rfl rfl (by intro u hu; obtain ⟨x, _, rfl⟩ := List.mem_map.1 hu; rfl) Tryd.sizeOf80 (by simp [sumOf_len]) (by simp [sumOf_len]) (spl2 (by simp [sumOf_len]))) (Wd.u rfl) rfl (fun H1_7 r1_7 => ?_)
  obtain ⟨va5, hs1_7⟩ := r1_7
  replace hs1_7 := hs1_7.md1
  replace hr := hr.upL hs1_7 (DFL.cons df6 DFL.nil)
  replace ow8 := ow8.upL hs1_7 (DL.cons dj7 DL.nil)
  replace ow10 := ow10.upL hs1_7 (DL.cons dj8 DL.nil)
  replace hm0 := (Mo.trL (ks := []) (hm0.mdn []) hs1_7 (MIL.cons (MI.app MI.z (nx9) (Nat.le_refl _)) MIL.nil)).nil
  have hz5 := hs1_7.size
  refine LR.nil ?_
  refine hK2 _ _ ?_
  refine CW.seq (fun K3 hK3 hE3 => ?_)
  refine CW.region ?_
  refine LR.e (g := fun v => v) (Y.sliceArrE (F := fun c => c = H11.size) (f := fB) (xs := sumOf (Num.numL 8 (UInt64.ofNat n) ++ rc)) va5.pt rfl va5.lt (sumOf_len _) (fun i x h => ⟨by simp [h], rfl⟩) (0) (8) rfl (fun w => .inl (Tryd.runUnderlying80 w)) Tryd.sizeOf5 rfl (.inl ⟨rfl, rfl⟩) (.inr ⟨_, _, _, rfl, rfl, by first | rfl | omega⟩) (by omega) (by omega) (by decide)) (Wd.u rfl) rfl rfl (fun v12 rd12 => ?_)
  rw [List.drop_zero] at rd12
  obtain ⟨s12, rfl⟩ : ∃ s : SV, v12 = s.v := ⟨toSV v12, rd12.sv.symm⟩
  refine LR.v (Y.assign rfl rfl) (Wd.u rfl) rfl rfl ?_
  refine LR.nil ?_
  refine hK3 _ _ ?_
  refine CW.ret (hret .ret (.inr rfl) _ _ _ (res1 rfl rfl) ?_)
  exact ⟨s12, rfl, (rd12.imp (fun b _ e => by omega)), hm0⟩

theorem wlay_ct (n : Nat) (s : SV) (rc : List UInt8) (w0 : World) (H0 : Heap)
    (hr : RdT H0 fB 1 s.v rc) (hrl : rc.length ≤ 4294967000) :
    Ct Tryd.prog w0 26 #[.int .i64 (n : Int), s.v] H0 (fun r H2 => ∃ t : SV, ∃ k : Nat, r = t.v ∧ (Ow k 5 H2 fB 1 t.v (layW n rc)) ∧ (Nx 0 H0.size k) ∧ Nw H0 H2) := by
  refine Ct.enter (args := [.int .i64 (n : Int), s.v]) Tryd.func26 rfl rfl rfl ?_
  intro Q0 hret
  have hm0 : Nw H0 H0 := Mo.refl _ _
  replace hr := hr.bnd
  have bf_hr := hr.bf
  refine CW.seq (fun K1 hK1 hE1 => ?_)
  refine CW.region ?_
  refine LR.v (Y.assign rfl rfl) (Wd.u rfl) rfl rfl ?_
  refine LR.nil ?_
  refine hK1 _ _ ?_
  refine CW.seq (fun K2 hK2 hE2 => ?_)
  refine CW.region ?_
  refine LR.v (Y.move rfl rfl) (Wd.u rfl) rfl rfl ?_
  refine LR.v (Y.len hr rfl Tryd.runUnderlying23 rfl) (Wd.u rfl) rfl rfl ?_
  refine LR.v (Y.cast (v2 := .int .u64 (UInt64.ofNat rc.length).toNat) (Y.conv_u64 rfl Tryd.runUnderlying3 Tryd.runUnderlying83 rfl) (rfl)) (Wd.u rfl) rfl rfl ?_
  -- call selvage/wal.number
  refine LR.call rfl Tryd.call38 rfl (Wd.u rfl) rfl rfl (number_ct 0 _ [] 4 (UInt64.ofNat (rc.length)) w0 _ (Ow.nil fB_len fB_one) (by omega) (by simp)) (fun v8 H8 r8 => ?_)
  obtain ⟨v28, k8, rfl, ow8, hk8, hs8⟩ := r8
  have df1 := DF.app (DF.z) (bf_hr.mono hm0.size) hk8
  have nx2 : Nx 0 H0.size k8 := Nx.tr (Nx.refl 0 _) hk8 hm0.size
  replace hr := hr.upL hs8 (DFL.cons DF.z DFL.nil)
  replace hm0 := (Mo.trL (ks := []) (hm0.mdn []) hs8 (MIL.cons MI.z MIL.nil)).nil
  have hz1 := hs8.size
  have hle_ow8 := ow8.le
  rw [List.nil_append] at ow8
  obtain ⟨s8, rfl⟩ : ∃ s : SV, v8 = s.v := ⟨toSV v8, ow8.sv.symm⟩
  rw [num_be32 _ (by omega)] at ow8
  refine LR.v (Y.move rfl rfl) (Wd.u rfl) rfl rfl ?_
  refine LR.v (Y.move rfl rfl) (Wd.u rfl) rfl rfl ?_
  -- call selvage/wal.check
  refine LR.call rfl Tryd.call22 rfl (Wd.u rfl) rfl rfl (check_ct n s rc w0 _ hr.any (by omega)) (fun v11 H11 r11 => ?_)
  obtain ⟨t11, rfl, hw11, hs11⟩ := r11
  replace hr := hr.nw hs11
  replace ow8 := ow8.nw hs11
  replace hm0 := hm0.tr hs11
  have hz2 := hs11.size
  replace hw11 := hw11.bnd
  have bf_hw11 := hw11.bf
  have df3 : DF (fun b => H8.size ≤ b ∧ b < H11.size) k8 := DF.above (fun b h => h.1) (by first | exact hle_ow8 | exact hlt_ow8 | omega)
  refine LR.v (Y.move rfl rfl) (Wd.u rfl) rfl rfl ?_
  refine LR.z (Z.litw _ ([(s8, be32 rc.length), (t11, chkW n rc), (s, rc)]) rfl inf22 rfl rfl rfl (by decide) (by decide) fP_len fP_one (rfl)) (Wd.u rfl) rfl rfl (fun v13 H13 r13 => ?_)
  obtain ⟨ow13, hs13, ob13, hH13⟩ := r13
  have hzs13 : H13.size = H11.size + 1 := by rw [hH13]; simp
  have df4 := (DF.new (bf_hr.mono hm0.size) : DF _ (H11.size + 1))
  have dj5 : Dj k8 (H11.size + 1) := Dj.new ow8.le
  have df6 := (DF.new (bf_hw11.mono (by omega)) : DF _ (H11.size + 1))
  have nx7 : Nx 0 H0.size (H11.size + 1) := Nx.new hm0.size
  replace hr := hr.nw hs13
  replace ow8 := ow8.nw hs13
  replace hw11 := hw11.nw hs13
  replace hm0 := hm0.tr hs13
  have hz3 := hs13.size
  -- call slices.Concat[[]byte,byte]
  refine LR.call rfl Tryd.call41 rfl (Wd.u rfl) rfl rfl (concat_ct v13 [(s8, be32 rc.length), (t11, chkW n rc), (s, rc)] w0 _ ow13.rd.any (fun x hx => by simp only [List.mem_cons, List.not_mem_nil, or_false] at hx; rcases hx with rfl | rfl | rfl; exact ow8.rd.any; exact hw11.any; exact hr.any) (by simp [catP, be32_len, chkW_len]; omega)) (fun v14 H14 r14 => ?_)
  obtain ⟨s14, k14, rfl, ow14, hk14, hs14⟩ := r14
  have df8 := DF.app (DF.z) (bf_hr.mono hm0.size) hk14
  have dj9 : Dj k8 k14 := Dj.app (Dj.z) ow8.le hk14
  have df10 := DF.app (DF.z) (bf_hw11.mono (by omega)) hk14
  have dj11 : Dj (H11.size + 1) k14 := Dj.app (Dj.z) ow13.le hk14
  have nx12 : Nx 0 H0.size k14 := Nx.tr (Nx.refl 0 _) hk14 hm0.size
  replace hr := hr.nw hs14
  replace ow8 := ow8.nw hs14
  replace hw11 := hw11.nw hs14
  replace ow13 := ow13.nw hs14
  replace hm0 := hm0.tr hs14
  have hz4 := hs14.size
  have hle_ow14 := ow14.le
  refine LR.v (Y.assign rfl rfl) (Wd.u rfl) rfl rfl ?_
  refine LR.nil ?_
  refine hK2 _ _ ?_
  refine CW.ret (hret .ret (.inr rfl) _ _ _ (res1 rfl rfl) ?_)
  exact ⟨s14, k14, rfl, by have e : catP [(s8, be32 rc.length), (t11, chkW n rc), (s, rc)] = layW n rc := (by simp [catP, layW]); rw [← e]; exact ow14, nx12, hm0⟩

theorem encode_ct (s : SV) (l : List (SV × Rec)) (w0 : World) (H0 : Heap)
    (hl : RdT H0 fP 1 s.v l) (hx : ∀ x ∈ l, RdT H0 fB 1 x.1.v x.2) (hrl : ∀ x ∈ l, x.2.length ≤ 1048576) (hel : (encN 0 (recs l)).length ≤ 1099510000000) :
    Ct Tryd.prog w0 11 #[s.v] H0 (fun r H2 => ∃ t : SV, ∃ k : Nat, r = t.v ∧ (Ow k 5 H2 fB 1 t.v (encW (recs l))) ∧ (Nx 0 H0.size k) ∧ Nw H0 H2) := by
  refine Ct.enter (args := [s.v]) Tryd.func11 rfl rfl rfl ?_
  intro Q0 hret
  have hm0 : Nw H0 H0 := Mo.refl _ _
  replace hl := hl.bnd
  have bf_hl := hl.bf
  replace hx := fun x hx0 => (hx x hx0).bnd
  have bf_hx : BF (fun b => True ∧ b < H0.size) H0.size := fun b h => h.2
  have hll := hl.len
  refine CW.seq (fun K1 hK1 hE1 => ?_)
  refine CW.region ?_
  refine LR.v (Y.assign rfl rfl) (Wd.u rfl) rfl rfl ?_
  refine LR.nil ?_
  refine hK1 _ _ ?_
  refine CW.seq (fun K2 hK2 hE2 => ?_)
  refine CW.region ?_
  refine LR.z (Z.litw _ (W8) rfl inf23 rfl rfl rfl (by decide) (by decide) fB_len fB_one (rfl)) (Wd.u rfl) rfl rfl (fun v6 H6 r6 => ?_)
  obtain ⟨ow, hs6, ob6, hH6⟩ := r6
  have hzs6 : H6.size = H0.size + 1 := by rw [hH6]; simp
  have df1 := (DF.new (bf_hl.mono hm0.size) : DF _ (H0.size + 1))
  have df2 := (DF.new (bf_hx.mono hm0.size) : DF _ (H0.size + 1))
  have nx3 : Nx 0 H0.size (H0.size + 1) := Nx.new hm0.size
  replace hl := hl.nw hs6
  replace hx := fun x hx0 => (hx x hx0).nw hs6
  replace hm0 := hm0.tr hs6
  have hz1 := hs6.size
  refine LR.z (Z.bconst ow (by decide) rfl Tryd.underlying23 Tryd.underlying5 rfl) (Wd.u rfl) rfl rfl (fun v7 H7 r7 => ?_)
  obtain ⟨rfl, ow, hs7⟩ := r7
  replace hs7 := hs7.md
  replace hl := hl.upL hs7 (DFL.cons df1 DFL.nil)
  replace hx := fun x hx0 => (hx x hx0).upL hs7 (DFL.cons df2 DFL.nil)
  replace hm0 := (Mo.trL (ks := []) (hm0.mdn []) hs7 (MIL.cons (MI.app MI.z (nx3) (Nat.le_refl _)) MIL.nil)).nil
  have hz2 := hs7.size
  refine LR.v (Y.assign rfl rfl) (Wd.u rfl) rfl rfl ?_
  refine LR.nil ?_
  refine hK2 _ _ ?_
  refine CW.seq (fun K3 hK3 hE3 => ?_)
  refine CW.seq (fun K4 hK4 hE4 => ?_)
  refine CW.region ?_
  refine LR.v (Y.move rfl rfl) (Wd.u rfl) rfl rfl ?_
  refine LR.v (Y.len hl rfl Tryd.runUnderlying22 rfl) (Wd.u rfl) rfl rfl ?_
  refine LR.v (Y.move rfl rfl) (Wd.u rfl) rfl rfl ?_
  refine LR.nil ?_
  refine hK4 _ _ ?_
  refine CW.block (fun K5 hK5 hX5 hE5 => ?_)
  refine CW.loop (fun (s_ : (Nat) × (Value) × (Nat)) => match s_ with | (i, vo, ko) => [(3, vo), (8, s.v), (9, .int .i64 (l.length : Int)), (10, .int .i64 (i : Int))])
    (fun (s_ : (Nat) × (Value) × (Nat)) (H : Heap) => match s_ with | (i, vo, ko) => (i ≤ l.length) ∧ (Ow ko 5 H fB 1 vo (W8 ++ encN 0 (recs (l.take i)))) ∧ (Nx (H0.size + 1) H7.size ko) ∧ Mo (Ms [(H0.size + 1)]) H7 H)
    (fun (s_ : (Nat) × (Value) × (Nat)) => match s_ with | (i, vo, ko) => l.length - i) (0, v7, (H0.size + 1)) ⟨rfl, rfl, rfl, rfl, trivial⟩ ?_ ?_
  ·
    exact ⟨(by omega), by simpa only [List.take_zero, recs, List.map_nil, encN, List.append_nil] using ow, Nx.refl _ _, Mo.refl _ _⟩
  rintro ⟨i, vo, ko⟩ HL1 hI1 K6 hN6 hE6
  obtain ⟨hi, ow, nxl_ow, hlm1⟩ := hI1
  have df4 := DF.app (df1) (bf_hl.mono hm0.size) nxl_ow
  have df5 := DF.app (df2) (bf_hx.mono hm0.size) nxl_ow
  have nx6 : Nx 0 H0.size ko := Nx.tr (nx3) nxl_ow hm0.size
  replace hl := hl.upL hlm1 (DFL.cons df1 DFL.nil)
  replace hx := fun x hx0 => (hx x hx0).upL hlm1 (DFL.cons df2 DFL.nil)
  replace hm0 := (Mo.trL (ks := []) (hm0.mdn []) hlm1 (MIL.cons (MI.app MI.z (nx3) (Nat.le_refl _)) MIL.nil)).nil
  have hz3 := hlm1.size
  have hle_ow := ow.le
  have nx7 := nxl_ow
  refine CW.seq (fun K7 hK7 hE7 => ?_)
  refine CW.region ?_
  refine LR.v (Y.lss rfl rfl rfl) (Wd.u rfl) rfl rfl ?_
  refine LR.nil ?_
  refine hK7 _ _ ?_
  refine CW.seq (fun K8 hK8 hE8 => ?_)
  refine CW.condp rfl (fun c11 => ?_) (fun c11 => ?_)
  ·
    refine CW.skip ?_
    refine hK8 _ _ ?_
    refine CW.seq (fun K9 hK9 hE9 => ?_)
    refine CW.block (fun K10 hK10 hX10 hE10 => ?_)
    refine CW.seq (fun K11 hK11 hE11 => ?_)
    refine CW.region ?_
    refine LR.v (Y.move rfl rfl) (Wd.u rfl) rfl rfl ?_
    have hil : i < l.length := by omega
    have hel2 := encN_take_le2 hil
    have hxi := hx l[i] (List.getElem_mem hil)
    have hri := hrl l[i] (List.getElem_mem hil)
    have h8 : W8.length = 8 := rfl
    have hwl := layW_len i l[i].2
    refine LR.e (g := fun ad => .pointer (some ad)) (Y.indexAddrF hl (i) rfl Tryd.runUnderlying22 Tryd.sizeOf23 rfl rfl (by first | rfl | omega) (by first | omega | (simp; omega) | (simp; done))) (Wd.u rfl) rfl rfl (fun ad13 pt13 => ?_)
    have bf_pt13 := bf_hl
    refine LR.v (Y.load1 pt13.pt rfl Tryd.isAgg23 rfl) (Wd.u rfl) rfl rfl ?_
    refine LR.v (Y.assign rfl rfl) (Wd.u rfl) rfl rfl ?_
    refine LR.v (Y.assign rfl rfl) (Wd.u rfl) rfl rfl ?_
    refine LR.nil ?_
    refine hK11 _ _ ?_
    refine CW.region ?_
    refine LR.v (Y.move rfl rfl) (Wd.u rfl) rfl rfl ?_
    refine LR.v (Y.move rfl rfl) (Wd.u rfl) rfl rfl ?_
    refine LR.v (Y.move rfl rfl) (Wd.u rfl) rfl rfl ?_
    -- call selvage/wal.lay
    refine LR.call rfl Tryd.call26 rfl (Wd.u rfl) rfl rfl (wlay_ct i l[i].1 l[i].2 w0 _ hxi.any (by omega)) (fun v18 H18 r18 => ?_)
    obtain ⟨t18, k18, rfl, ow18, hk18, hs18⟩ := r18
    have df8 := DF.app (DF.z) (bf_hl.mono hm0.size) hk18
    have df9 := DF.app (DF.z) (bf_hx.mono hm0.size) hk18
    have dj10 : Dj ko k18 := Dj.app (Dj.z) ow.le hk18
    have nx11 : Nx 0 H0.size k18 := Nx.tr (Nx.refl 0 _) hk18 hm0.size
    have nx12 : Nx 0 H7.size k18 := Nx.tr (Nx.refl 0 _) hk18 hlm1.size
    replace hl := hl.nw hs18
    replace hx := fun x hx0 => (hx x hx0).nw hs18
    replace ow := ow.nw hs18
    replace hm0 := hm0.tr hs18
    replace hlm1 := hlm1.trN hs18
    have hz4 := hs18.size
    have hle_ow18 := ow18.le
    refine LR.z (Z.apnd ow ow18.rd rfl inf23 rfl rfl (by simp only [List.length_append]; omega) (by simp only [List.length_append]; omega)) (Wd.u rfl) rfl rfl (fun v19 H19 r19 => ?_)
    obtain ⟨k19, ow, hk19, hs19⟩ := r19
    replace hk19 : Nx ko H18.size k19 := hk19
    replace hs19 := hs19.md
    have df13 := DF.app (df4) (bf_hl.mono hm0.size) hk19
    have df14 := DF.app (df5) (bf_hx.mono hm0.size) hk19
    have dj15 : Dj k18 k19 := Dj.app (dj10.symm) ow18.le hk19
    have nx16 : Nx 0 H0.size k19 := Nx.tr (nx6) hk19 hm0.size
    have nx17 : Nx (H0.size + 1) H7.size k19 := Nx.tr (nx7) hk19 hlm1.size
    replace hl := hl.upL hs19 (DFL.cons df4 DFL.nil)
    replace hx := fun x hx0 => (hx x hx0).upL hs19 (DFL.cons df5 DFL.nil)
    replace ow18 := ow18.upL hs19 (DL.cons dj10.symm DL.nil)
    replace hm0 := (Mo.trL (ks := []) (hm0.mdn []) hs19 (MIL.cons (MI.app MI.z (nx6) (Nat.le_refl _)) MIL.nil)).nil
    replace hlm1 := hlm1.trL hs19 (MIL.cons (MI.app (MI.root (by simp)) (nx7) (Nat.le_refl _)) MIL.nil)
    have hz5 := hs19.size
    have hle_ow := ow.le
    refine LR.z (Z.litw _ ([(67 : UInt8)]) rfl inf23 rfl rfl rfl (by decide) (by decide) fB_len fB_one (rfl)) (Wd.u rfl) rfl rfl (fun v20 H20 r20 => ?_)
    obtain ⟨ow20, hs20, ob20, hH20⟩ := r20
    have hzs20 : H20.size = H19.size + 1 := by rw [hH20]; simp
    have df18 := (DF.new (bf_hl.mono hm0.size) : DF _ (H19.size + 1))
    have df19 := (DF.new (bf_hx.mono hm0.size) : DF _ (H19.size + 1))
    have dj20 : Dj k19 (H19.size + 1) := Dj.new ow.le
    have dj21 : Dj k18 (H19.size + 1) := Dj.new ow18.le
    have nx22 : Nx 0 H0.size (H19.size + 1) := Nx.new hm0.size
    have nx23 : Nx 0 H7.size (H19.size + 1) := Nx.new hlm1.size
    replace hl := hl.nw hs20
    replace hx := fun x hx0 => (hx x hx0).nw hs20
    replace ow := ow.nw hs20
    replace ow18 := ow18.nw hs20
    replace hm0 := hm0.tr hs20
    replace hlm1 := hlm1.trN hs20
    have hz6 := hs20.size
    refine LR.z (Z.apnd ow ow20.rd rfl inf23 rfl rfl (by simp only [List.length_append, List.length_singleton]; omega) (by simp only [List.length_append, List.length_singleton]; omega)) (Wd.u rfl) rfl rfl (fun v21 H21 r21 => ?_)
    obtain ⟨k21, ow, hk21, hs21⟩ := r21
    replace hk21 : Nx k19 H20.size k21 := hk21
    replace hs21 := hs21.md
    have df24 := DF.app (df13) (bf_hl.mono hm0.size) hk21
    have df25 := DF.app (df14) (bf_hx.mono hm0.size) hk21
    have dj26 : Dj k18 k21 := Dj.app (dj15) ow18.le hk21
    have dj27 : Dj (H19.size + 1) k21 := Dj.app (dj20.symm) ow20.le hk21
    have nx28 : Nx 0 H0.size k21 := Nx.tr (nx16) hk21 hm0.size
    have nx29 : Nx (H0.size + 1) H7.size k21 := Nx.tr (nx17) hk21 hlm1.size
    replace hl := hl.upL hs21 (DFL.cons df13 DFL.nil)
    replace hx := fun x hx0 => (hx x hx0).upL hs21 (DFL.cons df14 DFL.nil)
    replace ow18 := ow18.upL hs21 (DL.cons dj15 DL.nil)
    replace ow20 := ow20.upL hs21 (DL.cons dj20.symm DL.nil)
    replace hm0 := (Mo.trL (ks := []) (hm0.mdn []) hs21 (MIL.cons (MI.app MI.z (nx16) (Nat.le_refl _)) MIL.nil)).nil
    replace hlm1 := hlm1.trL hs21 (MIL.cons (MI.app (MI.root (by simp)) (nx17) (Nat.le_refl _)) MIL.nil)
    have hz7 := hs21.size
    have hle_ow := ow.le
    refine LR.v (Y.assign rfl rfl) (Wd.u rfl) rfl rfl ?_
    refine LR.nil ?_
    refine hK10 _ _ ?_
    refine hK9 _ _ ?_
    refine CW.region ?_
    refine LR.v (Y.addi rfl rfl rfl (by omega)) (Wd.u rfl) rfl rfl ?_
    refine LR.v (Y.move rfl rfl) (Wd.u rfl) rfl rfl ?_
    refine LR.nil ?_
    refine QN.sub (hN6 (i + 1, v21, k21) _ ?_ ?_) ⟨rfl, rfl, (iv (by omega)), (iv (by omega)), trivial⟩
    · exact ⟨(by omega), by rw [encN_take hil, ← List.append_assoc]; unfold recW; rw [← List.append_assoc]; exact ow, nx29, hlm1⟩
    · first | omega | (simp only; omega) | (simp; omega)
  ·
    refine CW.exit (hE8 (.exit 0) nofun _ _ (hE6 (.exit 0) nofun _ _ (hX5 _ _ ?_)))
    refine hK3 _ _ ?_
    refine CW.seq (fun K12 hK12 hE12 => ?_)
    refine CW.region ?_
    refine LR.v (Y.move rfl rfl) (Wd.u rfl) rfl rfl ?_
    refine LR.v (Y.assign rfl rfl) (Wd.u rfl) rfl rfl ?_
    refine LR.nil ?_
    refine hK12 _ _ ?_
    refine CW.ret (hret .ret (.inr rfl) _ _ _ (res1 rfl rfl) ?_)
    have hil : i = l.length := by omega
    rw [hil, List.take_length] at ow
    obtain ⟨so, rfl⟩ : ∃ s : SV, vo = s.v := ⟨toSV vo, ow.sv.symm⟩
    exact ⟨so, ko, rfl, ow, nx6, hm0⟩

theorem equal_ct (s t : SV) (a b : List UInt8) (w0 : World) (H0 : Heap)
    (ha : RdT H0 fB 1 s.v a) (hb : RdT H0 fB 1 t.v b) :
    Ct Tryd.prog w0 21 #[s.v, t.v] H0 (fun r H2 => r = .bool (decide (a = b)) ∧ Nw H0 H2) := by
  refine Ct.enter (args := [s.v, t.v]) Tryd.func21 rfl rfl rfl ?_
  intro Q0 hret
  have hm0 : Nw H0 H0 := Mo.refl _ _
  replace ha := ha.bnd
  have bf_ha := ha.bf
  replace hb := hb.bnd
  have bf_hb := hb.bf
  refine CW.seq (fun K1 hK1 hE1 => ?_)
  refine CW.region ?_
  refine LR.v (Y.assign rfl rfl) (Wd.u rfl) rfl rfl ?_
  refine LR.nil ?_
  refine hK1 _ _ ?_
  refine CW.seq (fun K2 hK2 hE2 => ?_)
  refine CW.region ?_
  refine LR.v (Y.move rfl rfl) (Wd.u rfl) rfl rfl ?_
  refine LR.v (Y.bstr ha rfl Tryd.underlying23 Tryd.underlying9 Tryd.underlying5 rfl) (Wd.u rfl) rfl rfl ?_
  refine LR.v (Y.move rfl rfl) (Wd.u rfl) rfl rfl ?_
  refine LR.v (Y.bstr hb rfl Tryd.underlying23 Tryd.underlying9 Tryd.underlying5 rfl) (Wd.u rfl) rfl rfl ?_
  refine LR.v (Y.seql rfl rfl rfl) (Wd.u rfl) rfl rfl ?_
  refine LR.v (Y.assign rfl rfl) (Wd.u rfl) rfl rfl ?_
  refine LR.nil ?_
  refine hK2 _ _ ?_
  refine CW.ret (hret .ret (.inr rfl) _ _ _ (res1 rfl rfl) ?_)
  exact ⟨rfl, hm0⟩

end Go.Proofs.YtdliddjkacbggaaDoor.WalB
/-
  A journal's bytes: the contract of the function that reads them.
-/
namespace Go.Proofs.YtdliddjkacbggaaDoor.WalC
open Go.Proofs.YtdliddjkacbggaaDoor.E Go.RowKit Go.Proofs.YtdliddjkacbggaaDoor.SumB Go.Proofs.YtdliddjkacbggaaDoor.SumC Go.Proofs.YtdliddjkacbggaaDoor.SumD Go.Proofs.YtdliddjkacbggaaDoor.SumF Go.Proofs.YtdliddjkacbggaaDoor.SumG Go.Proofs.YtdliddjkacbggaaDoor.DelA Go.Proofs.YtdliddjkacbggaaDoor.SimA Go.Proofs.YtdliddjkacbggaaDoor.SimB Go.Proofs.YtdliddjkacbggaaDoor.WalA Go.Proofs.YtdliddjkacbggaaDoor.WalB
set_option maxRecDepth 20000
set_option linter.unusedVariables false
set_option linter.unusedSimpArgs false
set_option linter.unusedSectionVars false
set_option maxRecDepth 100000 in
theorem inf22 : Inf Tryd.prog 22 23 1 24 := ⟨Tryd.underlying22, _, _, rfl, rfl, rfl, rfl, rfl⟩
set_option maxRecDepth 100000 in
theorem inf23 : Inf Tryd.prog 23 5 1 1 := ⟨Tryd.underlying23, _, _, rfl, rfl, rfl, rfl, rfl⟩

theorem big_or {b : List UInt8} (h : 4 ≤ b.length) : ((b[0].toNat * 2 ^ 24 ||| b[1].toNat * 2 ^ 16) ||| b[2].toNat * 2 ^ 8) ||| b[3].toNat = big b := by
  match b, h with
  | a :: b :: c :: d :: t, _ =>
    have h1 := a.toNat_lt; have h2 := b.toNat_lt; have h3 := c.toNat_lt; have h4 := d.toNat_lt
    have e1 : a.toNat * 2 ^ 24 ||| b.toNat * 2 ^ 16 = (a.toNat * 256 + b.toNat) * 2 ^ 16 := by
      rw [show a.toNat * 2 ^ 24 = (a.toNat * 2 ^ 8) * 2 ^ 16 by omega, ← Nat.shiftLeft_eq _ 16, ← Nat.shiftLeft_eq b.toNat 16, ← Nat.shiftLeft_or_distrib, or256, Nat.shiftLeft_eq]
    have e2 : (a.toNat * 256 + b.toNat) * 2 ^ 16 ||| c.toNat * 2 ^ 8 = ((a.toNat * 256 + b.toNat) * 256 + c.toNat) * 2 ^ 8 := by
      rw [show (a.toNat * 256 + b.toNat) * 2 ^ 16 = ((a.toNat * 256 + b.toNat) * 2 ^ 8) * 2 ^ 8 by omega, ← Nat.shiftLeft_eq _ 8, ← Nat.shiftLeft_eq c.toNat 8, ← Nat.shiftLeft_or_distrib, or256, Nat.shiftLeft_eq]
    simp only [List.getElem_cons_zero, List.getElem_cons_succ]
    rw [e1, e2, or256]
    simp [big, bev]
/-- a journal read up to a place -/
structure PS (b : List UInt8) (l : List Rec) (at_ : Nat) : Prop where
  ln : at_ = (encW l).length
  eq : b = encW l ++ b.drop at_
  pp : parL b = l ++ parP l.length (b.drop at_)
  e : parE b = 0
theorem PS.le {b : List UInt8} {l : List Rec} {a : Nat} (h : PS b l a) : a ≤ b.length := by
  have h1 := congrArg List.length h.eq
  rw [List.length_append, ← h.ln] at h1; omega
theorem PS.start {b : List UInt8} (h : b.take 8 = W8) : PS b [] 8 :=
  ⟨rfl, by show b = (W8 ++ []) ++ b.drop 8; rw [List.append_nil, ← h, List.take_append_drop], by unfold parL; rw [if_pos h]; rfl, by unfold parE; rw [if_pos h]⟩
theorem PS.step {b : List UInt8} {l : List Rec} {a : Nat} {r : Rec} (h : PS b l a) (h1 : oneW l.length (b.drop a) = some r) : PS b (l ++ [r]) (a + (13 + r.length)) := by
  have h2 := oneW_some h1
  refine ⟨by rw [encW_snoc, List.length_append, recW_len, ← h.ln], ?_, ?_, h.e⟩
  · rw [encW_snoc, List.append_assoc, ← List.drop_drop, ← h2]; exact h.eq
  · rw [h.pp, parP_step h1, List.drop_drop, List.append_assoc]; simp
theorem PS.stop {b : List UInt8} {l : List Rec} {a : Nat} (h : PS b l a) (h1 : oneW l.length (b.drop a) = none) : l = parL b ∧ a = parS b := by
  have h2 : l = parL b := by rw [h.pp, parP_stop h1, List.append_nil]
  refine ⟨h2, ?_⟩
  have h8 : b.take 8 = W8 := by have := h.e; unfold parE at this; split at this; assumption; cases this
  unfold parS; rw [if_pos h8, ← h2]; exact h.ln
theorem oneW_short {n : Nat} {b : List UInt8} (h : b.length ≤ 12) : oneW n b = none := by unfold oneW; rw [if_pos (.inl h)]
theorem oneW_big {n : Nat} {b : List UInt8} (h : 1048576 < big b ∨ b.length ≤ 12 + big b) : oneW n b = none := by unfold oneW; rw [if_pos (by omega)]
theorem oneW_mark {n : Nat} {b : List UInt8} (h : b.getD (12 + big b) 0 ≠ 67) : oneW n b = none := by
  unfold oneW; split
  · rfl
  · rw [if_neg (fun h2 => h h2.1)]
theorem oneW_chk {n : Nat} {b : List UInt8} (h : (b.drop 4).take 8 ≠ chkW n ((b.drop 12).take (big b))) : oneW n b = none := by
  unfold oneW; split
  · rfl
  · rw [if_neg (fun h2 => h h2.2)]
theorem oneW_yes {n : Nat} {b : List UInt8} (h0 : ¬ b.length ≤ 12) (h1 : ¬ 1048576 < big b) (h2 : ¬ b.length ≤ 12 + big b) (h3 : b.getD (12 + big b) 0 = 67) (h4 : (b.drop 4).take 8 = chkW n ((b.drop 12).take (big b))) : oneW n b = some ((b.drop 12).take (big b)) := by
  unfold oneW; rw [if_neg (by omega), if_pos ⟨h3, h4⟩]
theorem take_drop' (b : List UInt8) (i n : Nat) : (b.take (i + n)).drop i = (b.drop i).take n := by rw [List.drop_take]; congr 1; omega
theorem u8_ne {x : UInt8} {n : Nat} (h : (x.toNat : Int) ≠ (n : Int)) (hn : n < 256) : x ≠ UInt8.ofNat n := fun e => h (by rw [e, UInt8.toNat_ofNat']; omega)
theorem u8_eq {x : UInt8} {n : Nat} (h : (x.toNat : Int) = (n : Int)) (hn : n < 256) : x = UInt8.ofNat n := UInt8.toNat.inj (by rw [UInt8.toNat_ofNat']; omega)
theorem getD_at {b : List UInt8} {i : Nat} (h : i < b.length) : b.getD i 0 = b[i] := by rw [List.getD_eq_getElem?_getD, List.getElem?_eq_getElem h]; rfl
theorem DF.or1 {G : Nat → Prop} {kB k : Nat} (h : DF G k) (hB : Dj k kB) : DF (fun b => G b ∨ b + 1 = kB) k := by
  rintro b (e | e) h2
  · exact h b e h2
  · exact hB b h2 e
theorem BF.or1 {G : Nat → Prop} {n kB : Nat} (h : BF G n) (h1 : kB ≤ n) : BF (fun b => G b ∨ b + 1 = kB) n := by
  rintro b (e | e)
  · exact h b e
  · omega
theorem or63 {a b : Nat} (h1 : a < 2 ^ 62) (h2 : b < 2 ^ 62) : a ||| b < 2 ^ 62 := Nat.or_lt_two_pow h1 h2
theorem encW_many (l : List Rec) : l.length ≤ (encW l).length := by
  rw [encW_len]
  have : ∀ l : List Rec, l.length ≤ (l.map (fun r => 13 + r.length)).sum := fun l => by
    induction l with
    | nil => simp
    | cons r l ih => simp only [List.length_cons, List.map_cons, List.sum_cons]; omega
  have := this l; omega
theorem snocP {α : Type} {F G : Nat → Prop} {H : Heap} {fb : α → SV × Rec} {l : List (SV × Rec)} {x : SV × Rec} (h : ∀ y ∈ l, Rd F H fB 1 y.1.v y.2) (hF : ∀ b, F b → G b) (hx : Rd G H fB 1 x.1.v x.2) : ∀ y ∈ l ++ [x], Rd G H fB 1 y.1.v y.2 := fun y hy => by
  rcases List.mem_append.1 hy with hy | hy
  · exact (h y hy).imp (fun b _ e => hF b e)
  · rw [List.mem_singleton.1 hy]; exact hx

theorem hasP_ct (s t : SV) (a p : List UInt8) (w0 : World) (H0 : Heap)
    (ha : RdT H0 fB 1 s.v a) (hb : RdT H0 fB 1 t.v p) :
    Ct Tryd.prog w0 20 #[s.v, t.v] H0 (fun r H2 => r = .bool (decide (a.take p.length = p)) ∧ Nw H0 H2) := by
  refine Ct.enter (args := [s.v, t.v]) Tryd.func20 rfl rfl rfl ?_
  intro Q0 hret
  have hm0 : Nw H0 H0 := Mo.refl _ _
  replace ha := ha.bnd
  have bf_ha := ha.bf
  replace hb := hb.bnd
  have bf_hb := hb.bf
  refine CW.seq (fun K1 hK1 hE1 => ?_)
  refine CW.region ?_
  refine LR.v (Y.assign rfl rfl) (Wd.u rfl) rfl rfl ?_
  refine LR.nil ?_
  refine hK1 _ _ ?_
  refine CW.seq (fun K2 hK2 hE2 => ?_)
  refine CW.region ?_
  refine LR.v (Y.move rfl rfl) (Wd.u rfl) rfl rfl ?_
  refine LR.v (Y.len ha rfl Tryd.runUnderlying23 rfl) (Wd.u rfl) rfl rfl ?_
  refine LR.v (Y.move rfl rfl) (Wd.u rfl) rfl rfl ?_
  refine LR.v (Y.len hb rfl Tryd.runUnderlying23 rfl) (Wd.u rfl) rfl rfl ?_
  refine LR.v (Y.geq rfl rfl rfl) (Wd.u rfl) rfl rfl ?_
  refine LR.v (Y.move rfl rfl) (Wd.u rfl) rfl rfl ?_
  refine LR.splitp (d := 10) rfl (fun g10 => ?_) (fun g10 => ?_)
  ·
    refine LR.v (Y.move rfl rfl) (Wd.g rfl rfl rfl) rfl rfl ?_
    refine LR.v (Y.move rfl rfl) (Wd.g rfl rfl rfl) rfl rfl ?_
    refine LR.v (Y.len hb rfl Tryd.runUnderlying23 rfl) (Wd.g rfl rfl rfl) rfl rfl ?_
    refine LR.e (g := fun v => v) (Y.slice ha (0) (p.length) rfl Tryd.runUnderlying23 Tryd.sizeOf5 rfl (.inl ⟨rfl, rfl⟩) (.inr ⟨_, _, _, rfl, rfl, by first | rfl | omega⟩) (by omega) (by omega)) (Wd.g rfl rfl rfl) rfl rfl (fun v14 rd14 => ?_)
    have bf_rd14 := bf_ha
    rw [List.drop_zero] at rd14
    obtain ⟨s14, rfl⟩ : ∃ s : SV, v14 = s.v := ⟨toSV v14, rd14.sv.symm⟩
    refine LR.v (Y.move rfl rfl) (Wd.g rfl rfl rfl) rfl rfl ?_
    -- call bytes.Equal
    refine LR.call rfl Tryd.call21 rfl (Wd.g rfl rfl rfl) rfl rfl (equal_ct s14 t (a.take p.length) p w0 _ rd14.any hb.any) (fun v16 H16 r16 => ?_)
    obtain ⟨rfl, hs16⟩ := r16
    replace ha := ha.nw hs16
    replace hb := hb.nw hs16
    replace rd14 := rd14.nw hs16
    replace hm0 := hm0.tr hs16
    have hz1 := hs16.size
    refine LR.v (Y.pick_t rfl rfl rfl) (Wd.u rfl) rfl rfl ?_
    refine LR.v (Y.assign rfl rfl) (Wd.u rfl) rfl rfl ?_
    refine LR.nil ?_
    refine hK2 _ _ ?_
    refine CW.ret (hret .ret (.inr rfl) _ _ _ (res1 rfl rfl) ?_)
    exact ⟨rfl, hm0⟩
  ·
    refine LR.gs rfl rfl rfl rfl rfl rfl ?_
    refine LR.gs rfl rfl rfl rfl rfl rfl ?_
    refine LR.gs rfl rfl rfl rfl rfl rfl ?_
    refine LR.gs rfl rfl rfl rfl rfl rfl ?_
    refine LR.gs rfl rfl rfl rfl rfl rfl ?_
    refine LR.gs rfl rfl rfl rfl rfl rfl ?_
    refine LR.v (Y.pick_f rfl rfl rfl) (Wd.u rfl) rfl rfl ?_
    refine LR.v (Y.assign rfl rfl) (Wd.u rfl) rfl rfl ?_
    refine LR.nil ?_
    refine hK2 _ _ ?_
    refine CW.ret (hret .ret (.inr rfl) _ _ _ (res1 rfl rfl) ?_)
    exact ⟨by rw [decide_eq_false (fun h => by have h2 := congrArg List.length h; rw [List.length_take] at h2; omega)], hm0⟩

set_option maxHeartbeats 2000000 in
theorem parse_ct (s : SV) (b : List UInt8) (w0 : World) (H0 : Heap)
    (hb : RdT H0 fB 1 s.v b) (hbl : b.length ≤ 1000000000) :
    Ct Tryd.prog w0 9 #[s.v] H0 (fun r H2 => ∃ t : SV, ∃ l : List (SV × Rec), r = .tuple #[t.v, .int .i64 (parS b : Int), .int .i64 (parE b : Int)] ∧ (recs l = parL b) ∧ (Rd (fun b => H0.size ≤ b) H2 fP 1 t.v l) ∧ (∀ x ∈ l, Rd (fun b => H0.size ≤ b) H2 fB 1 x.1.v x.2) ∧ Nw H0 H2) := by
  refine Ct.enter (args := [s.v]) Tryd.func9 rfl rfl rfl ?_
  intro Q0 hret
  have hm0 : Nw H0 H0 := Mo.refl _ _
  replace hb := hb.bnd
  have bf_hb := hb.bf
  refine CW.seq (fun K1 hK1 hE1 => ?_)
  refine CW.region ?_
  refine LR.v (Y.assign rfl rfl) (Wd.u rfl) rfl rfl ?_
  refine LR.v (Y.assign rfl rfl) (Wd.u rfl) rfl rfl ?_
  refine LR.v (Y.assign rfl rfl) (Wd.u rfl) rfl rfl ?_
  refine LR.nil ?_
  refine hK1 _ _ ?_
  refine CW.scope (fun K2 hK2 hE2 => ?_)
  refine CW.seq (fun K3 hK3 hE3 => ?_)
  refine CW.seq (fun K4 hK4 hE4 => ?_)
  refine CW.region ?_
  refine LR.v (Y.move rfl rfl) (Wd.u rfl) rfl rfl ?_
  refine LR.z (Z.litw _ (W8) rfl inf23 rfl rfl rfl (by decide) (by decide) fB_len fB_one (rfl)) (Wd.u rfl) rfl rfl (fun v11 H11 r11 => ?_)
  obtain ⟨ow11, hs11, ob11, hH11⟩ := r11
  have hzs11 : H11.size = H0.size + 1 := by rw [hH11]; simp
  have df1 := (DF.new (bf_hb.mono hm0.size) : DF _ (H0.size + 1))
  have nx2 : Nx 0 H0.size (H0.size + 1) := Nx.new hm0.size
  replace hb := hb.nw hs11
  replace hm0 := hm0.tr hs11
  have hz1 := hs11.size
  refine LR.z (Z.bconst ow11 (by decide) rfl Tryd.underlying23 Tryd.underlying5 rfl) (Wd.u rfl) rfl rfl (fun v12 H12 r12 => ?_)
  obtain ⟨rfl, ow11, hs12⟩ := r12
  replace hs12 := hs12.md
  replace hb := hb.upL hs12 (DFL.cons df1 DFL.nil)
  replace hm0 := (Mo.trL (ks := []) (hm0.mdn []) hs12 (MIL.cons (MI.app MI.z (nx2) (Nat.le_refl _)) MIL.nil)).nil
  have hz2 := hs12.size
  obtain ⟨s12, rfl⟩ : ∃ s : SV, v12 = s.v := ⟨toSV v12, ow11.sv.symm⟩
  -- call bytes.HasPrefix
  refine LR.call rfl Tryd.call20 rfl (Wd.u rfl) rfl rfl (hasP_ct s s12 b W8 w0 _ hb.any ow11.rd.any) (fun v13 H13 r13 => ?_)
  obtain ⟨rfl, hs13⟩ := r13
  replace hb := hb.nw hs13
  replace ow11 := ow11.nw hs13
  replace hm0 := hm0.tr hs13
  have hz3 := hs13.size
  refine LR.v (Y.notp rfl rfl) (Wd.u rfl) rfl rfl ?_
  refine LR.nil ?_
  refine hK4 _ _ ?_
  refine CW.condp rfl (fun c14 => ?_) (fun c14 => ?_)
  ·
    refine CW.seq (fun K5 hK5 hE5 => ?_)
    refine CW.region ?_
    refine LR.v (Y.assign rfl rfl) (Wd.u rfl) rfl rfl ?_
    refine LR.v (Y.assign rfl rfl) (Wd.u rfl) rfl rfl ?_
    refine LR.v (Y.assign rfl rfl) (Wd.u rfl) rfl rfl ?_
    refine LR.nil ?_
    refine hK5 _ _ ?_
    refine CW.ret (hE3 .ret nofun _ _ (hE2 .ret nofun nofun _ _ (hret .ret (.inr rfl) _ _ _ (res3 rfl rfl rfl rfl) ?_)))
    have h8 : ¬ b.take 8 = W8 := c14
    exact ⟨⟨none, 0, 0⟩, [], by unfold parS parE; rw [if_neg h8, if_neg h8]; rfl, by unfold parL; rw [if_neg h8]; rfl, Rd.nil _ _ _ _, (fun x h => by cases h), hm0⟩
  ·
    have h8 : b.take 8 = W8 := Decidable.byContradiction (fun h => c14 h)
    refine CW.skip ?_
    refine hK3 _ _ ?_
    refine CW.seq (fun K6 hK6 hE6 => ?_)
    refine CW.region ?_
    refine LR.v (Y.assign rfl rfl) (Wd.u rfl) rfl rfl ?_
    refine LR.nil ?_
    refine hK6 _ _ ?_
    refine CW.seq (fun K7 hK7 hE7 => ?_)
    refine CW.region ?_
    refine LR.v (Y.assign rfl rfl) (Wd.u rfl) rfl rfl ?_
    refine LR.nil ?_
    refine hK7 _ _ ?_
    refine CW.seq (fun K8 hK8 hE8 => ?_)
    refine CW.label ?_
    refine hK8 _ _ ?_
    refine CW.seq (fun K9 hK9 hE9 => ?_)
    refine CW.block (fun K10 hK10 hX10 hE10 => ?_)
    refine CW.loop (fun (s_ : (Nat) × (Value) × (Nat) × (List (SV × Rec)) × (Nat → Prop)) => match s_ with | (a, vo, ko, l, G) => [(0, s.v), (5, vo), (6, .int .i64 (a : Int))])
      (fun (s_ : (Nat) × (Value) × (Nat) × (List (SV × Rec)) × (Nat → Prop)) (H : Heap) => match s_ with | (a, vo, ko, l, G) => (PS b (recs l) a) ∧ (Ow ko 23 H fP 1 vo l) ∧ (∀ x ∈ l, Rd G H fB 1 x.1.v x.2) ∧ (BF G H.size) ∧ (DF G ko) ∧ (∀ c, G c → H0.size ≤ c) ∧ (Nx 0 H13.size ko) ∧ Nw H13 H)
      (fun (s_ : (Nat) × (Value) × (Nat) × (List (SV × Rec)) × (Nat → Prop)) => match s_ with | (a, vo, ko, l, G) => b.length - a) (8, .slice none 0 0, 0, [], fun _ => False) ⟨rfl, rfl, rfl, trivial⟩ ?_ ?_
    ·
      exact ⟨PS.start h8, Ow.nil fP_len fP_one, (fun x h => by cases h), (fun b e => e.elim), (fun b e => e.elim), (fun c e => e.elim), Nx.refl _ _, Mo.refl _ _⟩
    rintro ⟨a, vo, ko, l, G⟩ HL1 hI1 K11 hN11 hE11
    obtain ⟨hps, ow, hxa, bf_hxa, f1, hG, nxl_ow, hlm1⟩ := hI1
    have df3 := DF.app (DF.z) (bf_hb.mono hm0.size) nxl_ow
    have nx4 : Nx 0 H0.size ko := Nx.tr (Nx.refl 0 _) nxl_ow hm0.size
    replace hb := hb.nw hlm1
    replace hm0 := hm0.tr hlm1
    have hz4 := hlm1.size
    have hle_ow := ow.le
    have nx5 := nxl_ow
    have hal := hps.le
    have hrl : (b.drop a).length = b.length - a := List.length_drop
    have hln : (recs l).length = l.length := by simp [recs]
    have hll := hps.ln
    have hle8 : l.length ≤ (encW (recs l)).length := by rw [← hln]; exact encW_many _
    refine CW.block (fun K12 hK12 hX12 hE12 => ?_)
    refine CW.seq (fun K13 hK13 hE13 => ?_)
    refine CW.region ?_
    refine LR.v (Y.move rfl rfl) (Wd.u rfl) rfl rfl ?_
    refine LR.v (Y.move rfl rfl) (Wd.u rfl) rfl rfl ?_
    refine LR.e (g := fun v => v) (Y.slice hb (a) (_) rfl Tryd.runUnderlying23 Tryd.sizeOf5 rfl (.inr ⟨_, _, _, rfl, rfl, by first | rfl | omega⟩) (.inl ⟨rfl, rfl⟩) (by omega) (by omega)) (Wd.u rfl) rfl rfl (fun v17 rd17 => ?_)
    have bf_rd17 := bf_hb
    rw [List.take_length] at rd17
    refine LR.v (Y.assign rfl rfl) (Wd.u rfl) rfl rfl ?_
    refine LR.nil ?_
    refine hK13 _ _ ?_
    refine CW.seq (fun K14 hK14 hE14 => ?_)
    refine CW.seq (fun K15 hK15 hE15 => ?_)
    refine CW.region ?_
    refine LR.v (Y.move rfl rfl) (Wd.u rfl) rfl rfl ?_
    refine LR.v (Y.len rd17 rfl Tryd.runUnderlying23 rfl) (Wd.u rfl) rfl rfl ?_
    refine LR.v (Y.leq rfl rfl rfl) (Wd.u rfl) rfl rfl ?_
    refine LR.nil ?_
    refine hK15 _ _ ?_
    refine CW.condp rfl (fun c20 => ?_) (fun c20 => ?_)
    ·
      have hno : oneW (recs l).length (b.drop a) = none := oneW_short (by omega)
      refine CW.exit (hE14 (.exit 0) nofun _ _ (hE12 (.exit 0) nofun (by simp) _ _ (hE11 (.exit 0) nofun _ _ (hX10 _ _ ?_))))
      refine hK9 _ _ ?_
      refine CW.seq (fun K16 hK16 hE16 => ?_)
      refine CW.region ?_
      refine LR.v (Y.move rfl rfl) (Wd.u rfl) rfl rfl ?_
      refine LR.v (Y.move rfl rfl) (Wd.u rfl) rfl rfl ?_
      refine LR.v (Y.assign rfl rfl) (Wd.u rfl) rfl rfl ?_
      refine LR.v (Y.assign rfl rfl) (Wd.u rfl) rfl rfl ?_
      refine LR.v (Y.assign rfl rfl) (Wd.u rfl) rfl rfl ?_
      refine LR.nil ?_
      refine hK16 _ _ ?_
      refine CW.ret (hE2 .ret nofun nofun _ _ (hret .ret (.inr rfl) _ _ _ (res3 rfl rfl rfl rfl) ?_))
      obtain ⟨q1, q2⟩ := hps.stop hno
      obtain ⟨so, rfl⟩ : ∃ s : SV, vo = s.v := ⟨toSV vo, ow.sv.symm⟩
      exact ⟨so, l, by rw [hps.e, ← q2]; rfl, q1, (ow.rd.imp (fun c _ e => by have h9 := (nx4); unfold Nx at h9; omega)), (fun x h => (hxa x h).imp (fun c _ e => hG c e)), hm0⟩
    ·
      have hR : 12 < (b.drop a).length := by omega
      have hbo := big_or (b := b.drop a) (by omega)
      have hb4 : big (b.drop a) < 4294967296 := bev4 _ (by rw [List.length_take]; omega)
      refine CW.skip ?_
      refine hK14 _ _ ?_
      refine CW.seq (fun K17 hK17 hE17 => ?_)
      refine CW.region_draw rfl (by kernel_rfl) ?_
      refine LR.v (Y.move rfl rfl) (Wd.u rfl) rfl rfl ?_
      refine LR.e (g := fun ad => .pointer (some ad)) (Y.indexAddrF rd17 (0) rfl Tryd.runUnderlying23 Tryd.sizeOf5 rfl rfl (by first | rfl | omega) (by first | omega | (simp; omega) | (simp; done))) (Wd.u rfl) rfl rfl (fun ad22 pt22 => ?_)
      have bf_pt22 := bf_rd17
      refine LR.v (Y.load1 pt22.pt rfl Tryd.isAgg5 rfl) (Wd.u rfl) rfl rfl ?_
      refine LR.v (Y.conv8i rfl Tryd.runUnderlying5 Tryd.runUnderlying3 rfl) (Wd.u rfl) rfl rfl ?_
      refine LR.v (Y.shln (24) rfl rfl rfl (by first | rfl | omega) (by omega) (by have := ((b.drop a)[0]).toNat_lt; omega)) (Wd.u rfl) rfl rfl ?_
      refine LR.v (Y.move rfl rfl) (Wd.u rfl) rfl rfl ?_
      refine LR.e (g := fun ad => .pointer (some ad)) (Y.indexAddrF rd17 (1) rfl Tryd.runUnderlying23 Tryd.sizeOf5 rfl rfl (by first | rfl | omega) (by first | omega | (simp; omega) | (simp; done))) (Wd.u rfl) rfl rfl (fun ad27 pt27 => ?_)
      have bf_pt27 := bf_rd17
      refine LR.v (Y.load1 pt27.pt rfl Tryd.isAgg5 rfl) (Wd.u rfl) rfl rfl ?_
      refine LR.v (Y.conv8i rfl Tryd.runUnderlying5 Tryd.runUnderlying3 rfl) (Wd.u rfl) rfl rfl ?_
      refine LR.v (Y.shln (16) rfl rfl rfl (by first | rfl | omega) (by omega) (by have := ((b.drop a)[1]).toNat_lt; omega)) (Wd.u rfl) rfl rfl ?_
      refine LR.v (Y.orn rfl rfl rfl (by have h0 := (b.drop a)[0].toNat_lt; omega) (by have h0 := (b.drop a)[1].toNat_lt; omega)) (Wd.u rfl) rfl rfl ?_
      refine LR.v (Y.move rfl rfl) (Wd.u rfl) rfl rfl ?_
      refine LR.e (g := fun ad => .pointer (some ad)) (Y.indexAddrF rd17 (2) rfl Tryd.runUnderlying23 Tryd.sizeOf5 rfl rfl (by first | rfl | omega) (by first | omega | (simp; omega) | (simp; done))) (Wd.u rfl) rfl rfl (fun ad33 pt33 => ?_)
      have bf_pt33 := bf_rd17
      refine LR.v (Y.load1 pt33.pt rfl Tryd.isAgg5 rfl) (Wd.u rfl) rfl rfl ?_
      refine LR.v (Y.conv8i rfl Tryd.runUnderlying5 Tryd.runUnderlying3 rfl) (Wd.u rfl) rfl rfl ?_
      refine LR.v (Y.shln (8) rfl rfl rfl (by first | rfl | omega) (by omega) (by have := ((b.drop a)[2]).toNat_lt; omega)) (Wd.u rfl) rfl rfl ?_
      refine LR.v (Y.orn rfl rfl rfl (by have h0 := (b.drop a)[0].toNat_lt; have h1 := (b.drop a)[1].toNat_lt; exact Nat.le_trans (Nat.le_of_lt (or63 (by omega) (by omega))) (by decide)) (by have h0 := (b.drop a)[2].toNat_lt; omega)) (Wd.u rfl) rfl rfl ?_
      refine LR.v (Y.move rfl rfl) (Wd.u rfl) rfl rfl ?_
      refine LR.e (g := fun ad => .pointer (some ad)) (Y.indexAddrF rd17 (3) rfl Tryd.runUnderlying23 Tryd.sizeOf5 rfl rfl (by first | rfl | omega) (by first | omega | (simp; omega) | (simp; done))) (Wd.u rfl) rfl rfl (fun ad39 pt39 => ?_)
      have bf_pt39 := bf_rd17
      refine LR.v (Y.load1 pt39.pt rfl Tryd.isAgg5 rfl) (Wd.u rfl) rfl rfl ?_
      refine LR.v (Y.conv8i rfl Tryd.runUnderlying5 Tryd.runUnderlying3 rfl) (Wd.u rfl) rfl rfl ?_
      refine LR.v (Y.cast (v2 := .int .i64 (big (b.drop a) : Int)) (Y.orn rfl rfl rfl (by have h0 := (b.drop a)[0].toNat_lt; have h1 := (b.drop a)[1].toNat_lt; have h2 := (b.drop a)[2].toNat_lt; exact Nat.le_trans (Nat.le_of_lt (or63 (or63 (by omega) (by omega)) (by omega))) (by decide)) (by have h0 := (b.drop a)[3].toNat_lt; omega)) (by rw [hbo])) (Wd.u rfl) rfl rfl ?_
      refine LR.v (Y.assign rfl rfl) (Wd.u rfl) rfl rfl ?_
      refine LR.nil ?_
      refine hK17 _ _ ?_
      refine CW.seq (fun K18 hK18 hE18 => ?_)
      refine CW.seq (fun K19 hK19 hE19 => ?_)
      refine CW.region ?_
      refine LR.v (Y.move rfl rfl) (Wd.u rfl) rfl rfl ?_
      refine LR.v (Y.gtr rfl rfl rfl) (Wd.u rfl) rfl rfl ?_
      refine LR.v (Y.move rfl rfl) (Wd.u rfl) rfl rfl ?_
      refine LR.splitp (d := 45) rfl (fun g45 => ?_) (fun g45 => ?_)
      ·
        have hno : oneW (recs l).length (b.drop a) = none := oneW_big (.inl (by omega))
        refine LR.gs rfl rfl rfl rfl rfl rfl ?_
        refine LR.gs rfl rfl rfl rfl rfl rfl ?_
        refine LR.gs rfl rfl rfl rfl rfl rfl ?_
        refine LR.gs rfl rfl rfl rfl rfl rfl ?_
        refine LR.gs rfl rfl rfl rfl rfl rfl ?_
        refine LR.v (Y.pick_t rfl rfl rfl) (Wd.u rfl) rfl rfl ?_
        refine LR.nil ?_
        refine hK19 _ _ ?_
        refine CW.cond_t rfl ?_
        refine CW.exit (hE18 (.exit 0) nofun _ _ (hE12 (.exit 0) nofun (by simp) _ _ (hE11 (.exit 0) nofun _ _ (hX10 _ _ ?_))))
        refine hK9 _ _ ?_
        refine CW.seq (fun K20 hK20 hE20 => ?_)
        refine CW.region ?_
        refine LR.v (Y.move rfl rfl) (Wd.u rfl) rfl rfl ?_
        refine LR.v (Y.move rfl rfl) (Wd.u rfl) rfl rfl ?_
        refine LR.v (Y.assign rfl rfl) (Wd.u rfl) rfl rfl ?_
        refine LR.v (Y.assign rfl rfl) (Wd.u rfl) rfl rfl ?_
        refine LR.v (Y.assign rfl rfl) (Wd.u rfl) rfl rfl ?_
        refine LR.nil ?_
        refine hK20 _ _ ?_
        refine CW.ret (hE2 .ret nofun nofun _ _ (hret .ret (.inr rfl) _ _ _ (res3 rfl rfl rfl rfl) ?_))
        obtain ⟨q1, q2⟩ := hps.stop hno
        obtain ⟨so, rfl⟩ : ∃ s : SV, vo = s.v := ⟨toSV vo, ow.sv.symm⟩
        exact ⟨so, l, by rw [hps.e, ← q2]; rfl, q1, (ow.rd.imp (fun c _ e => by have h9 := (nx4); unfold Nx at h9; omega)), (fun x h => (hxa x h).imp (fun c _ e => hG c e)), hm0⟩
      ·
        refine LR.v (Y.move rfl rfl) (Wd.g rfl rfl rfl) rfl rfl ?_
        refine LR.v (Y.len rd17 rfl Tryd.runUnderlying23 rfl) (Wd.g rfl rfl rfl) rfl rfl ?_
        refine LR.v (Y.subi rfl rfl rfl (by omega)) (Wd.g rfl rfl rfl) rfl rfl ?_
        refine LR.v (Y.move rfl rfl) (Wd.g rfl rfl rfl) rfl rfl ?_
        refine LR.v (Y.leq rfl rfl rfl) (Wd.g rfl rfl rfl) rfl rfl ?_
        refine LR.v (Y.pick_f rfl rfl rfl) (Wd.u rfl) rfl rfl ?_
        refine LR.nil ?_
        refine hK19 _ _ ?_
        refine CW.condp rfl (fun c51 => ?_) (fun c51 => ?_)
        ·
          have hno : oneW (recs l).length (b.drop a) = none := oneW_big (.inr (by omega))
          refine CW.exit (hE18 (.exit 0) nofun _ _ (hE12 (.exit 0) nofun (by simp) _ _ (hE11 (.exit 0) nofun _ _ (hX10 _ _ ?_))))
          refine hK9 _ _ ?_
          refine CW.seq (fun K21 hK21 hE21 => ?_)
          refine CW.region ?_
          refine LR.v (Y.move rfl rfl) (Wd.u rfl) rfl rfl ?_
          refine LR.v (Y.move rfl rfl) (Wd.u rfl) rfl rfl ?_
          refine LR.v (Y.assign rfl rfl) (Wd.u rfl) rfl rfl ?_
          refine LR.v (Y.assign rfl rfl) (Wd.u rfl) rfl rfl ?_
          refine LR.v (Y.assign rfl rfl) (Wd.u rfl) rfl rfl ?_
          refine LR.nil ?_
          refine hK21 _ _ ?_
          refine CW.ret (hE2 .ret nofun nofun _ _ (hret .ret (.inr rfl) _ _ _ (res3 rfl rfl rfl rfl) ?_))
          obtain ⟨q1, q2⟩ := hps.stop hno
          obtain ⟨so, rfl⟩ : ∃ s : SV, vo = s.v := ⟨toSV vo, ow.sv.symm⟩
          exact ⟨so, l, by rw [hps.e, ← q2]; rfl, q1, (ow.rd.imp (fun c _ e => by have h9 := (nx4); unfold Nx at h9; omega)), (fun x h => (hxa x h).imp (fun c _ e => hG c e)), hm0⟩
        ·
          have hrcl : (((b.drop a).drop 12).take (big (b.drop a))).length = big (b.drop a) := by rw [List.length_take, List.length_drop]; omega
          refine CW.skip ?_
          refine hK18 _ _ ?_
          refine CW.seq (fun K22 hK22 hE22 => ?_)
          refine CW.region ?_
          refine LR.v (Y.move rfl rfl) (Wd.u rfl) rfl rfl ?_
          refine LR.v (Y.move rfl rfl) (Wd.u rfl) rfl rfl ?_
          refine LR.v (Y.addi rfl rfl rfl (by omega)) (Wd.u rfl) rfl rfl ?_
          refine LR.e (g := fun v => v) (Y.slice rd17 (12) (12 + big (b.drop a)) rfl Tryd.runUnderlying23 Tryd.sizeOf5 rfl (.inr ⟨_, _, _, rfl, rfl, by first | rfl | omega⟩) (.inr ⟨_, _, _, rfl, rfl, by first | rfl | omega⟩) (by omega) (by omega)) (Wd.u rfl) rfl rfl (fun v55 rd55 => ?_)
          have bf_rd55 := bf_rd17
          rw [take_drop'] at rd55
          obtain ⟨s55, rfl⟩ : ∃ s : SV, v55 = s.v := ⟨toSV v55, rd55.sv.symm⟩
          refine LR.v (Y.assign rfl rfl) (Wd.u rfl) rfl rfl ?_
          refine LR.nil ?_
          refine hK22 _ _ ?_
          refine CW.seq (fun K23 hK23 hE23 => ?_)
          refine CW.seq (fun K24 hK24 hE24 => ?_)
          refine CW.region_any (fun Hq => Nw HL1 Hq) [] rfl ?_
          have hqs := Nw.refl HL1
          refine LH.take 0 (by kernel_rfl) rfl (by kernel_rfl) (by kernel_rfl) (by kernel_rfl) (fun Hq hq => Y.move rfl rfl) (Wd.u rfl) rfl rfl hqs ?_
          refine LH.take 1 (by kernel_rfl) rfl (by kernel_rfl) (by kernel_rfl) (by kernel_rfl) (fun Hq hq => Y.move rfl rfl) (Wd.u rfl) rfl rfl hqs ?_
          refine LH.take 2 (by kernel_rfl) rfl (by kernel_rfl) (by kernel_rfl) (by kernel_rfl) (fun Hq hq => Y.addi rfl rfl rfl (by omega)) (Wd.u rfl) rfl rfl hqs ?_
          refine LH.e (g := fun ad => .pointer (some ad)) 3 (by kernel_rfl) rfl (by kernel_rfl) (by kernel_rfl) (by kernel_rfl) (Y.indexAddrF rd17 (12 + big (b.drop a)) rfl Tryd.runUnderlying23 Tryd.sizeOf5 rfl rfl (by first | rfl | omega) (by first | omega | (simp; omega) | (simp; done))) (Wd.u rfl) rfl rfl hqs (fun ad59 pt59 => ?_)
          have bf_pt59 := bf_rd17
          refine LH.take 4 (by kernel_rfl) rfl (by kernel_rfl) (by kernel_rfl) (by kernel_rfl) (fun Hq hq => Y.load1 (pt59.pt.nw hq) rfl Tryd.isAgg5 rfl) (Wd.u rfl) rfl rfl hqs ?_
          refine LH.take 5 (by kernel_rfl) rfl (by kernel_rfl) (by kernel_rfl) (by kernel_rfl) (fun Hq hq => Y.neq rfl rfl rfl) (Wd.u rfl) rfl rfl hqs ?_
          refine LH.take 6 (by kernel_rfl) rfl (by kernel_rfl) (by kernel_rfl) (by kernel_rfl) (fun Hq hq => Y.move rfl rfl) (Wd.u rfl) rfl rfl hqs ?_
          refine LH.splitp (d := 62) rfl (fun g62 => ?_) (fun g62 => ?_)
          ·
            have hno : oneW (recs l).length (b.drop a) = none := oneW_mark (by rw [getD_at (by omega)]; exact u8_ne g62 (by decide))
            refine LH.gs 7 (by kernel_rfl) rfl (by kernel_rfl) (by kernel_rfl) (by kernel_rfl) rfl rfl rfl rfl rfl rfl hqs ?_
            refine LH.gs 8 (by kernel_rfl) rfl (by kernel_rfl) (by kernel_rfl) (by kernel_rfl) rfl rfl rfl rfl rfl rfl hqs ?_
            refine LH.gs 9 (by kernel_rfl) rfl (by kernel_rfl) (by kernel_rfl) (by kernel_rfl) rfl rfl rfl rfl rfl rfl hqs ?_
            refine LH.gs 10 (by kernel_rfl) rfl (by kernel_rfl) (by kernel_rfl) (by kernel_rfl) rfl rfl rfl rfl rfl rfl hqs ?_
            refine LH.gs 11 (by kernel_rfl) rfl (by kernel_rfl) (by kernel_rfl) (by kernel_rfl) rfl rfl rfl rfl rfl rfl hqs ?_
            refine LH.gs 12 (by kernel_rfl) rfl (by kernel_rfl) (by kernel_rfl) (by kernel_rfl) rfl rfl rfl rfl rfl rfl hqs ?_
            refine LH.gs 13 (by kernel_rfl) rfl (by kernel_rfl) (by kernel_rfl) (by kernel_rfl) rfl rfl rfl rfl rfl rfl hqs ?_
            refine LH.gs 14 (by kernel_rfl) rfl (by kernel_rfl) (by kernel_rfl) (by kernel_rfl) rfl rfl rfl rfl rfl rfl hqs ?_
            refine LH.take 15 (by kernel_rfl) rfl (by kernel_rfl) (by kernel_rfl) (by kernel_rfl) (fun Hq hq => Y.pick_t rfl rfl rfl) (Wd.u rfl) rfl rfl hqs ?_
            refine LH.done (by kernel_rfl) ?_
            have hqe := hqs
            refine hK24 _ _ ?_
            refine CW.cond_t rfl ?_
            refine CW.exit (hE23 (.exit 0) nofun _ _ (hE12 (.exit 0) nofun (by simp) _ _ (hE11 (.exit 0) nofun _ _ (hX10 _ _ ?_))))
            refine hK9 _ _ ?_
            refine CW.seq (fun K25 hK25 hE25 => ?_)
            refine CW.region ?_
            refine LR.v (Y.move rfl rfl) (Wd.u rfl) rfl rfl ?_
            refine LR.v (Y.move rfl rfl) (Wd.u rfl) rfl rfl ?_
            refine LR.v (Y.assign rfl rfl) (Wd.u rfl) rfl rfl ?_
            refine LR.v (Y.assign rfl rfl) (Wd.u rfl) rfl rfl ?_
            refine LR.v (Y.assign rfl rfl) (Wd.u rfl) rfl rfl ?_
            refine LR.nil ?_
            refine hK25 _ _ ?_
            refine CW.ret (hE2 .ret nofun nofun _ _ (hret .ret (.inr rfl) _ _ _ (res3 rfl rfl rfl rfl) ?_))
            obtain ⟨q1, q2⟩ := hps.stop hno
            obtain ⟨so, rfl⟩ : ∃ s : SV, vo = s.v := ⟨toSV vo, ow.sv.symm⟩
            exact ⟨so, l, by rw [hps.e, ← q2]; rfl, q1, (ow.rd.imp (fun c _ e => by have h9 := (nx4); unfold Nx at h9; omega)), (fun x h => (hxa x h).imp (fun c _ e => hG c e)), hm0⟩
          ·
            have hmk : (b.drop a).getD (12 + big (b.drop a)) 0 = 67 := by rw [getD_at (by omega)]; exact u8_eq (Decidable.byContradiction g62) (by decide)
            refine LH.take 7 (by kernel_rfl) rfl (by kernel_rfl) (by kernel_rfl) (by kernel_rfl) (fun Hq hq => Y.move rfl rfl) (Wd.g rfl rfl rfl) rfl rfl hqs ?_
            refine LH.e (g := fun v => v) 8 (by kernel_rfl) rfl (by kernel_rfl) (by kernel_rfl) (by kernel_rfl) (Y.slice rd17 (4) (12) rfl Tryd.runUnderlying23 Tryd.sizeOf5 rfl (.inr ⟨_, _, _, rfl, rfl, by first | rfl | omega⟩) (.inr ⟨_, _, _, rfl, rfl, by first | rfl | omega⟩) (by omega) (by omega)) (Wd.g rfl rfl rfl) rfl rfl hqs (fun v64 rd64 => ?_)
            have bf_rd64 := bf_rd17
            rw [show (12 : Nat) = 4 + 8 from rfl, take_drop'] at rd64
            obtain ⟨s64, rfl⟩ : ∃ s : SV, v64 = s.v := ⟨toSV v64, rd64.sv.symm⟩
            refine LH.take 9 (by kernel_rfl) rfl (by kernel_rfl) (by kernel_rfl) (by kernel_rfl) (fun Hq hq => Y.move rfl rfl) (Wd.g rfl rfl rfl) rfl rfl hqs ?_
            refine LH.take 10 (by kernel_rfl) rfl (by kernel_rfl) (by kernel_rfl) (by kernel_rfl) (fun Hq hq => Y.cast (v2 := .int .i64 (l.length : Int)) (Y.len (ow.rd.nw hq) rfl Tryd.runUnderlying22 rfl) (rfl)) (Wd.g rfl rfl rfl) rfl rfl hqs ?_
            refine LH.take 11 (by kernel_rfl) rfl (by kernel_rfl) (by kernel_rfl) (by kernel_rfl) (fun Hq hq => Y.move rfl rfl) (Wd.g rfl rfl rfl) rfl rfl hqs ?_
            refine LH.one (i := 12) (by kernel_rfl) ?_
            -- call selvage/wal.check
            refine LO.call rfl rfl Tryd.call22 rfl (Wd.g rfl rfl rfl) rfl rfl (check_ct l.length s55 (((b.drop a).drop 12).take (big (b.drop a))) w0 _ rd55.any (by omega)) (fun v68 H68 r68 => ?_)
            obtain ⟨t68, rfl, hw68, hs68⟩ := r68
            replace hb := hb.nw hs68
            replace ow := ow.nw hs68
            replace hxa := fun x hxa_ => (hxa x hxa_).nw hs68
            replace rd17 := rd17.nw hs68
            replace rd55 := rd55.nw hs68
            replace pt59 := pt59.nw hs68
            replace rd64 := rd64.nw hs68
            replace hm0 := hm0.tr hs68
            replace hlm1 := hlm1.tr hs68
            have hz5 := hs68.size
            replace hw68 := hw68.bnd
            have bf_hw68 := hw68.bf
            have df6 : DF (fun b => HL1.size ≤ b ∧ b < H68.size) ko := DF.above (fun b h => h.1) (by first | exact hle_ow | exact hlt_ow | omega)
            have hq68 := hqs.tr hs68
            refine ⟨.inr hq68, LH.narrow (SH2 := fun Hq => Nw H68 Hq) (fun Hq hq => hq68.tr hq) ?_⟩
            have hqn68 := Nw.refl H68
            refine LH.one (i := 13) (by kernel_rfl) ?_
            -- call bytes.Equal
            refine LO.call rfl rfl Tryd.call21 rfl (Wd.g rfl rfl rfl) rfl rfl (equal_ct s64 t68 _ _ w0 _ rd64.any hw68.any) (fun v69 H69 r69 => ?_)
            obtain ⟨rfl, hs69⟩ := r69
            replace hb := hb.nw hs69
            replace ow := ow.nw hs69
            replace hxa := fun x hxa_ => (hxa x hxa_).nw hs69
            replace rd17 := rd17.nw hs69
            replace rd55 := rd55.nw hs69
            replace pt59 := pt59.nw hs69
            replace rd64 := rd64.nw hs69
            replace hw68 := hw68.nw hs69
            replace hm0 := hm0.tr hs69
            replace hlm1 := hlm1.tr hs69
            have hz6 := hs69.size
            have hq69 := hqn68.tr hs69
            refine ⟨.inr hq69, LH.narrow (SH2 := fun Hq => Nw H69 Hq) (fun Hq hq => hq69.tr hq) ?_⟩
            have hqn69 := Nw.refl H69
            refine LH.take 14 (by kernel_rfl) rfl (by kernel_rfl) (by kernel_rfl) (by kernel_rfl) (fun Hq hq => Y.notp rfl rfl) (Wd.g rfl rfl rfl) rfl rfl hqn69 ?_
            refine LH.take 15 (by kernel_rfl) rfl (by kernel_rfl) (by kernel_rfl) (by kernel_rfl) (fun Hq hq => Y.pick_f rfl rfl rfl) (Wd.u rfl) rfl rfl hqn69 ?_
            refine LH.done (by kernel_rfl) ?_
            have hqe := hqn69
            refine hK24 _ _ ?_
            refine CW.condp rfl (fun c71 => ?_) (fun c71 => ?_)
            ·
              have hno : oneW (recs l).length (b.drop a) = none := by rw [hln]; exact oneW_chk c71
              refine CW.exit (hE23 (.exit 0) nofun _ _ (hE12 (.exit 0) nofun (by simp) _ _ (hE11 (.exit 0) nofun _ _ (hX10 _ _ ?_))))
              refine hK9 _ _ ?_
              refine CW.seq (fun K26 hK26 hE26 => ?_)
              refine CW.region ?_
              refine LR.v (Y.move rfl rfl) (Wd.u rfl) rfl rfl ?_
              refine LR.v (Y.move rfl rfl) (Wd.u rfl) rfl rfl ?_
              refine LR.v (Y.assign rfl rfl) (Wd.u rfl) rfl rfl ?_
              refine LR.v (Y.assign rfl rfl) (Wd.u rfl) rfl rfl ?_
              refine LR.v (Y.assign rfl rfl) (Wd.u rfl) rfl rfl ?_
              refine LR.nil ?_
              refine hK26 _ _ ?_
              refine CW.ret (hE2 .ret nofun nofun _ _ (hret .ret (.inr rfl) _ _ _ (res3 rfl rfl rfl rfl) ?_))
              obtain ⟨q1, q2⟩ := hps.stop hno
              obtain ⟨so, rfl⟩ : ∃ s : SV, vo = s.v := ⟨toSV vo, ow.sv.symm⟩
              exact ⟨so, l, by rw [hps.e, ← q2]; rfl, q1, (ow.rd.imp (fun c _ e => by have h9 := (nx4); unfold Nx at h9; omega)), (fun x h => (hxa x h).imp (fun c _ e => hG c e)), hm0⟩
            ·
              have hyes : oneW (recs l).length (b.drop a) = some (((b.drop a).drop 12).take (big (b.drop a))) := by rw [hln]; exact oneW_yes (by omega) (by omega) (by omega) hmk (Decidable.byContradiction (fun h => c71 h))
              refine CW.skip ?_
              refine hK23 _ _ ?_
              refine CW.seq (fun K27 hK27 hE27 => ?_)
              refine CW.region ?_
              refine LR.v (Y.move rfl rfl) (Wd.u rfl) rfl rfl ?_
              refine LR.v (Y.move rfl rfl) (Wd.u rfl) rfl rfl ?_
              -- call slices.Clone[[]byte,byte]
              refine LR.call rfl Tryd.call23 rfl (Wd.u rfl) rfl rfl (bclone_ct _ (((b.drop a).drop 12).take (big (b.drop a))) w0 _ rd55.any (by omega)) (fun v74 H74 r74 => ?_)
              obtain ⟨s74, k74, rfl, nd, hk74, hs74⟩ := r74
              have df7 := DF.app (DF.z) (bf_hb.mono hm0.size) hk74
              have dj8 : Dj ko k74 := Dj.app (Dj.z) ow.le hk74
              have df9 := DF.app (DF.z) (bf_hxa.mono (by omega)) hk74
              have df10 := DF.app (DF.z) (bf_rd55.mono hm0.size) hk74
              have nx11 : Nx 0 H0.size k74 := Nx.tr (Nx.refl 0 _) hk74 hm0.size
              have nx12 : Nx 0 H13.size k74 := Nx.tr (Nx.refl 0 _) hk74 hlm1.size
              replace hb := hb.nw hs74
              replace ow := ow.nw hs74
              replace hxa := fun x hxa_ => (hxa x hxa_).nw hs74
              replace rd55 := rd55.nw hs74
              replace hm0 := hm0.tr hs74
              replace hlm1 := hlm1.tr hs74
              have hz7 := hs74.size
              have hle_nd := nd.le
              refine LR.z (Z.litw _ ([(s74, ((b.drop a).drop 12).take (big (b.drop a)))]) rfl inf22 rfl rfl rfl (by decide) (by decide) fP_len fP_one (rfl)) (Wd.u rfl) rfl rfl (fun v75 H75 r75 => ?_)
              obtain ⟨nw75, hs75, ob75, hH75⟩ := r75
              have hzs75 : H75.size = H74.size + 1 := by rw [hH75]; simp
              have df13 := (DF.new (bf_hb.mono hm0.size) : DF _ (H74.size + 1))
              have dj14 : Dj ko (H74.size + 1) := Dj.new ow.le
              have df15 := (DF.new (bf_hxa.mono (by omega)) : DF _ (H74.size + 1))
              have df16 := (DF.new (bf_rd55.mono hm0.size) : DF _ (H74.size + 1))
              have dj17 : Dj k74 (H74.size + 1) := Dj.new nd.le
              have nx18 : Nx 0 H0.size (H74.size + 1) := Nx.new hm0.size
              have nx19 : Nx 0 H13.size (H74.size + 1) := Nx.new hlm1.size
              replace hb := hb.nw hs75
              replace ow := ow.nw hs75
              replace hxa := fun x hxa_ => (hxa x hxa_).nw hs75
              replace rd55 := rd55.nw hs75
              replace nd := nd.nw hs75
              replace hm0 := hm0.tr hs75
              replace hlm1 := hlm1.tr hs75
              have hz8 := hs75.size
              refine LR.z (Z.apnd ow nw75.rd rfl inf22 rfl rfl (by simp only [List.length_singleton]; omega) (by simp only [List.length_singleton]; omega)) (Wd.u rfl) rfl rfl (fun v76 H76 r76 => ?_)
              obtain ⟨k76, ow, hk76, hs76⟩ := r76
              replace hk76 : Nx ko H75.size k76 := hk76
              replace hs76 := hs76.md
              have df20 := DF.app (df3) (bf_hb.mono hm0.size) hk76
              have df21 := DF.app (f1) (bf_hxa.mono (by omega)) hk76
              have df22 := DF.app (df3) (bf_rd55.mono hm0.size) hk76
              have dj23 : Dj k74 k76 := Dj.app (dj8.symm) nd.le hk76
              have dj24 : Dj (H74.size + 1) k76 := Dj.app (dj14.symm) nw75.le hk76
              have nx25 : Nx 0 H0.size k76 := Nx.tr (nx4) hk76 hm0.size
              have nx26 : Nx 0 H13.size k76 := Nx.tr (nx5) hk76 hlm1.size
              replace hb := hb.upL hs76 (DFL.cons df3 DFL.nil)
              replace hxa := fun x hxa_ => (hxa x hxa_).upL hs76 (DFL.cons f1 DFL.nil)
              replace rd55 := rd55.upL hs76 (DFL.cons df3 DFL.nil)
              replace nd := nd.upL hs76 (DL.cons dj8.symm DL.nil)
              replace nw75 := nw75.upL hs76 (DL.cons dj14.symm DL.nil)
              replace hm0 := (Mo.trL (ks := []) (hm0.mdn []) hs76 (MIL.cons (MI.app MI.z (nx4) (Nat.le_refl _)) MIL.nil)).nil
              replace hlm1 := (Mo.trL (ks := []) (hlm1.mdn []) hs76 (MIL.cons (MI.app MI.z (nx5) (Nat.le_refl _)) MIL.nil)).nil
              have hz9 := hs76.size
              have hle_ow := ow.le
              refine LR.v (Y.assign rfl rfl) (Wd.u rfl) rfl rfl ?_
              refine LR.nil ?_
              refine hK27 _ _ ?_
              refine CW.region ?_
              refine LR.v (Y.move rfl rfl) (Wd.u rfl) rfl rfl ?_
              refine LR.v (Y.move rfl rfl) (Wd.u rfl) rfl rfl ?_
              refine LR.v (Y.addi rfl rfl rfl (by omega)) (Wd.u rfl) rfl rfl ?_
              refine LR.v (Y.addi rfl rfl rfl (by omega)) (Wd.u rfl) rfl rfl ?_
              refine LR.v (Y.cast (v2 := .int .i64 ((a + (13 + (((b.drop a).drop 12).take (big (b.drop a))).length) : Nat) : Int)) (Y.addi rfl rfl rfl (by omega)) (ivv (by omega))) (Wd.u rfl) rfl rfl ?_
              refine LR.v (Y.assign rfl rfl) (Wd.u rfl) rfl rfl ?_
              refine LR.nil ?_
              refine hK12 _ _ ?_
              refine QN.sub (hN11 (a + (13 + (((b.drop a).drop 12).take (big (b.drop a))).length), v76, k76, l ++ [(s74, ((b.drop a).drop 12).take (big (b.drop a)))], fun c => G c ∨ c + 1 = k74) _ ?_ ?_) ⟨rfl, rfl, (iv (by omega)), trivial⟩
              · exact ⟨by unfold recs; rw [List.map_append]; exact hps.step hyes, ow, snocP (α := Unit) (fb := fun _ => (s74, [])) hxa (fun c e => .inl e) (nd.rd.imp (fun c _ e => .inr e)), BF.or1 (bf_hxa.mono (by omega)) nd.le, DF.or1 (df21) (dj23.symm), fun c e => by rcases e with e | e; exact hG c e; exact (by have h9 := (nx11); unfold Nx at h9; omega), nx26, hlm1⟩
              · show b.length - (a + (13 + _)) < b.length - a; omega

theorem count_ct (lb : Nat) (v p : Value) (n : Int) (br : Bool) (w0 : World) (H0 : Heap)
    (hv : Var 65 H0 lb [v, p, .int .i64 n, .bool br]) :
    Ct Tryd.prog w0 18 #[.pointer (some ⟨lb, 0, none⟩)] H0 (fun r H2 => r = .int .i64 n ∧ Nw H0 H2) := by
  refine Ct.enter (args := [.pointer (some ⟨lb, 0, none⟩)]) Tryd.func18 rfl rfl rfl ?_
  intro Q0 hret
  have hm0 : Nw H0 H0 := Mo.refl _ _
  have nx_hm0_hv := Nx.refl (lb + 1) H0.size
  have hlt_hv := hv.lt
  refine CW.seq (fun K1 hK1 hE1 => ?_)
  refine CW.region ?_
  refine LR.v (Y.assign rfl rfl) (Wd.u rfl) rfl rfl ?_
  refine LR.nil ?_
  refine hK1 _ _ ?_
  refine CW.seq (fun K2 hK2 hE2 => ?_)
  refine CW.region ?_
  refine LR.v (Y.move rfl rfl) (Wd.u rfl) rfl rfl ?_
  refine LR.v (Y.nilCheck rfl rfl) (Wd.u rfl) rfl rfl ?_
  refine LR.v (Y.fieldAddr hv.pt rfl Tryd.runUnderlying65 rfl rfl Tryd.sizeOf3 (by decide) rfl) (Wd.u rfl) rfl rfl ?_
  refine LR.v (Y.load1 (hv.pt.drop 2) rfl Tryd.isAgg3 rfl) (Wd.u rfl) rfl rfl ?_
  refine LR.v (Y.assign rfl rfl) (Wd.u rfl) rfl rfl ?_
  refine LR.nil ?_
  refine hK2 _ _ ?_
  refine CW.ret (hret .ret (.inr rfl) _ _ _ (res1 rfl rfl) ?_)
  exact ⟨rfl, hm0⟩

end Go.Proofs.YtdliddjkacbggaaDoor.WalC
/-
  Numbers that are read and raised at once: no condition.
-/
namespace Go.Proofs.YtdliddjkacbggaaDoor.E
set_option linter.unusedVariables false
set_option linter.unusedSimpArgs false
section
variable {P : Program} {w0 : World} {n : Nat} {l : FL} {H : Heap} {o : Oper}
theorem Z.ext {f : FuncId} {fn : Func} {e : Array Value → Sem Value} {args : List Operand} {ats : Array TypeId} {vs : List Value} {R : Value → Heap → Prop} (ho : o.op = .call { callee := .value (.func f), args := args.toArray, argTypes := ats }) (hf : P.funcs[f]? = some fn)
    (hname : (fn.name == "runtime.NumGoroutine") = false) (hb : fn.body.isNone = true) (hn : Extern.findNext fn = none) (he : Extern.find fn = some e) (hv : opvs l args = some vs) (hr : ∀ w, At w0 H w → ∃ v H' w', (e vs.toArray).run P w = .ok v w' ∧ At w0 H' w' ∧ R v H') : Z P w0 n l H o R := by
  intro a w hfr ha
  have h1 : a.eval (.func f) = .func (.func f) #[] #[] := rfl
  have h2 := hfr.evals hv
  have h3 := run_callFunc_extern (P := P) hf hname hb hn he vs.toArray w
  obtain ⟨v, H', w', q1, q2, q3⟩ := hr w ha
  rw [q1] at h3
  simp only [Result.andThen] at h3
  exact ⟨v, H', w', by simp [execOp, ho, resolve, Deferred.ofValue, h1, invoke, h2, h3], q2, q3⟩
theorem Var.cell {e : TypeId} {b : Nat} {cs : List Value} (h : Var e H b cs) {w : World} (ha : At w0 H w) {i : Nat} {c : Value} (hc : cs[i]? = some c) : w.cell? ⟨b, i, none⟩ = some c ∧ w.frozen? ⟨b, i, none⟩ = false ∧ ∃ fz, w.heap[b]? = some (.cells cs.toArray e fz) := by
  obtain ⟨fz, h1, h2⟩ := id h.row
  have hi := (List.getElem?_eq_some_iff.1 hc).1
  have h1' : w.heap[b]? = some (.cells cs.toArray e fz) := by rw [ha.heap]; exact h1
  refine ⟨by simp [World.cell?, h1', hc], ?_, fz, h1'⟩
  obtain ⟨lo, hi'⟩ := fz
  have := h2.2 i (by simpa using hi)
  simp only at this
  simp [World.frozen?, h1']; omega
theorem Z.add64 {f : FuncId} {fn : Func} {args : List Operand} {ats : Array TypeId} {e : TypeId} {b i : Nat} {cs : List Value} {x y : Int} (h : Var e H b cs) (hc : cs[i]? = some (.int .i64 x)) (ho : o.op = .call { callee := .value (.func f), args := args.toArray, argTypes := ats }) (hf : P.funcs[f]? = some fn)
    (hname : (fn.name == "runtime.NumGoroutine") = false) (hb : fn.body.isNone = true) (hn : Extern.findNext fn = none) (he : Extern.find fn = some (Extern.Atomic.update (Op.intArith .add) .i64 true)) (hv : opvs l args = some [.pointer (some ⟨b, i, none⟩), .int .i64 y]) (hxy : -9223372036854775808 ≤ x + y ∧ x + y ≤ 9223372036854775807) :
    Z P w0 n l H o (fun r H' => r = .int .i64 (x + y) ∧ Var e H' b (cs.set i (.int .i64 (x + y))) ∧ Mo (fun c => c = b) H H') := by
  refine Z.ext ho hf hname hb hn he hv (fun w ha => ?_)
  obtain ⟨h1, h2, fz, h3⟩ := h.cell ha hc
  have hw : IntKind.i64.wrap (x + y) = x + y := by rw [IntKind.wrap_i64]; omega
  have hi := (List.getElem?_eq_some_iff.1 hc).1
  refine ⟨.int .i64 (x + y), _, w.setRow b (cs.toArray.setIfInBounds i (.int .i64 (x + y))), ?_, ha.row _ _, rfl, ?_, setRow_mo ha _ _⟩
  · have hs : (store ⟨b, i, none⟩ (.int .i64 (x + y)) .atomic).run P w = .ok () (w.setRow b (cs.toArray.setIfInBounds i (.int .i64 (x + y)))) := by
      rw [Go.run_store P w _ _ _ rfl, h1]
      simp only [h2, Bool.false_eq_true, if_false]
      rw [setCell_eq_setRow w b i cs.toArray e fz _ h3]
    have e1 : Extern.Atomic.update (Op.intArith .add) .i64 true #[.pointer (some ⟨b, i, none⟩), .int .i64 y] = (asAddr (.pointer (some ⟨b, i, none⟩)) >>= fun a => Extern.Atomic.read (.int .i64) a >>= fun old => asInt old >>= fun p => asInt (.int .i64 y) >>= fun q => Op.intArith .add .i64 p q >>= fun new => store a new .atomic >>= fun _ => pure (if true then new else old)) := rfl
    show (Extern.Atomic.update (Op.intArith .add) .i64 true #[.pointer (some ⟨b, i, none⟩), .int .i64 y]).run P w = _
    rw [e1]
    simp [Extern.Atomic.read, asAddr, h1, asInt, asIntOf, Op.intArith, hw, hs]
  · have := setRow_row ha h.row (c := cs.toArray.setIfInBounds i (.int .i64 (x + y))) (by simp)
    exact ⟨by simpa using this⟩
end
end Go.Proofs.YtdliddjkacbggaaDoor.E
