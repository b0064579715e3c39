/-
  How a disk lies in memory: which block is what, and what each holds.
-/
import Derived.Test.YtfbfjhppppoilaaDoorSimB
import Derived.Test.YtfbfjhppppoilaaDoorAt
namespace Go.Proofs.YtfbfjhppppoilaaDoor.SimC
open Go.Proofs.YtfbfjhppppoilaaDoor.E Go.RowKit Go.Proofs.YtfbfjhppppoilaaDoor.SimA Go.Proofs.YtfbfjhppppoilaaDoor.SimB
set_option maxRecDepth 20000
set_option linter.unusedVariables false
set_option linter.unusedSimpArgs false
set_option linter.unusedSectionVars false

inductive Role | out | fs | dirs | dir (p : Pth) | now (p : Pth) | sty (p : Pth) | chg (p : Pth) | fil (i : Nat) | wrs (i : Nat) | frz
abbrev ptr (b : Nat) : Value := .pointer (some ⟨b, 0, none⟩)
/-- the file with the number i -/
abbrev fvl (fb : List Nat) (i : Nat) : Value := ptr (fb.getD i 0)
/-- where a file lies, if there is one -/
abbrev fpt (fb : List Nat) (o : Option Nat) : Option Addr := o.map (fun i => ⟨fb.getD i 0, 0, none⟩)
abbrev fC (fb : List Nat) (c : Chg) : List Value := [Str c.g, Str c.n, .pointer (fpt fb c.f)]
theorem fC_len (fb : List Nat) (c : Chg) : (fC fb c).length = 3 := rfl
theorem fC_one (fb : List Nat) (c : Chg) : ∀ u ∈ fC fb c, u.oneCell' = true := by
  intro u hu; simp only [List.mem_cons, List.not_mem_nil, or_false] at hu
  rcases hu with rfl | rfl | rfl <;> rfl
theorem own_congr {α : Type} {G : Nat → Prop} {e : TypeId} {H : Heap} {f g : α → List Value} {sz : Nat} {v : Value} {l : List α} (h : Own G e H f sz v l) (hc : ∀ x, (g x).length = sz) (h1 : ∀ x, ∀ u ∈ g x, u.oneCell' = true) (hfg : ∀ x ∈ l, f x = g x) : Own G e H g sz v l := by
  refine ⟨hc, h1, ?_⟩
  rcases h.ex with h | ⟨b, cap, cur, e1, e2, e3, e4, e5, e6, e7⟩
  · exact .inl h
  · refine .inr ⟨b, cap, cur, e1, e2, e3, e4, e5, e6, ?_⟩
    rw [e7, List.flatMap_def, List.flatMap_def, List.map_congr_left hfg]
theorem ow_congr {α : Type} {k : Nat} {e : TypeId} {H : Heap} {f g : α → List Value} {sz : Nat} {v : Value} {l : List α} (h : Ow k e H f sz v l) (hc : ∀ x, (g x).length = sz) (h1 : ∀ x, ∀ u ∈ g x, u.oneCell' = true) (hfg : ∀ x ∈ l, f x = g x) : Ow k e H g sz v l := ⟨own_congr h.own hc h1 hfg, h.le⟩
theorem mp_congr {κ β : Type} {H : Heap} {fk : κ → Value} {f g : β → Value} {b : Nat} {m : List (κ × β)} (h : Mp H fk f b m) (hfg : ∀ x ∈ m, f x.2 = g x.2) : Mp H fk g b m := by
  obtain ⟨r, es, clock, h1, h2, h3, h4, h5⟩ := h.mo.ex
  exact ⟨⟨r, es, clock, h1, h2, h3, h4, by rw [h5]; exact List.map_congr_left (fun x hx => by rw [hfg x hx])⟩⟩
section
variable {ρ ρ' : Nat → Role} {fb : List Nat} {H H' : Heap} {D D' : Dk} {p : Pth} {db nb sb k i b : Nat} {sv nv wv : SV} {nm sm : Nms} {x : Fdt} {l : List Wx} {S : Nat → Prop}
/-- a directory -/
structure DirO (ρ : Nat → Role) (fb : List Nat) (H : Heap) (D : Dk) (p : Pth) (db nb sb k : Nat) (sv : SV) (nm sm : Nms) : Prop where
  rd : ρ db = .dir p
  vd : Var 84 H db [.map (some nb), .map (some sb), sv.v]
  rn : ρ nb = .now p
  hn : Mp H Str (fvl fb) nb nm
  rs : ρ sb = .sty p
  hs : Mp H Str (fvl fb) sb sm
  en : ∀ q, mget nm q = if dirP q = p then mget D.now q else none
  es : ∀ q, mget sm q = if dirP q = p then mget D.stays q else none
  hc : Ow k 96 H (fC fb) 3 sv.v (D.chgs p)
  rc : ∀ c, c + 1 = k → ρ c = .chg p
/-- a file -/
structure FilO (ρ : Nat → Role) (H : Heap) (i b : Nat) (x : Fdt) (nv sv wv : SV) (k : Nat) (l : List Wx) : Prop where
  rf : ρ b = .fil i
  vf : Var 76 H b [nv.v, sv.v, wv.v]
  hn : Rd (fun c => ρ c = .frz) H fB 1 nv.v x.now
  hs : Rd (fun c => ρ c = .frz) H fB 1 sv.v x.stays
  hw : Ow k 67 H fW 2 wv.v l
  lw : l.map (·.1) = x.w
  hd : ∀ y ∈ l, Rd (fun c => ρ c = .frz) H fB 1 y.2.v y.1.d
  rk : ∀ c, c + 1 = k → ρ c = .wrs i
/-- what had a part has it still -/
def Ext (ρ ρ' : Nat → Role) : Prop := ∀ c, ρ c ≠ .out → ρ' c = ρ c
theorem Ext.refl (ρ : Nat → Role) : Ext ρ ρ := fun _ _ => rfl
theorem Ext.of (h : Ext ρ ρ') {c : Nat} {r : Role} (e : ρ c = r) (hr : r ≠ .out) : ρ' c = r := by rw [h c (by rw [e]; exact hr)]; exact e
theorem rd_frz {α : Type} {f : α → List Value} {sz : Nat} {v : Value} {l : List α} (h : Rd (fun c => ρ c = .frz) H f sz v l) (hx : Ext ρ ρ') (s : Mo S H H') (hS : ∀ c, S c → ρ c ≠ .frz) : Rd (fun c => ρ' c = .frz) H' f sz v l :=
  (h.up s (fun b _ e hs => hS b hs e)).imp (fun b _ e => hx.of e (by simp))
theorem DirO.tr (h : DirO ρ fb H D p db nb sb k sv nm sm) (hx : Ext ρ ρ') (s : Mo S H H') (hS : ∀ c, S c → ρ c ≠ .dir p ∧ ρ c ≠ .now p ∧ ρ c ≠ .sty p ∧ ρ c ≠ .chg p)
    (hn : ∀ q, dirP q = p → mget D'.now q = mget D.now q) (hs : ∀ q, dirP q = p → mget D'.stays q = mget D.stays q) (hc : D'.chgs p = D.chgs p) : DirO ρ' fb H' D' p db nb sb k sv nm sm where
  rd := hx.of h.rd (by simp)
  vd := h.vd.up s (fun e => (hS _ e).1 h.rd)
  rn := hx.of h.rn (by simp)
  hn := h.hn.up s (fun e => (hS _ e).2.1 h.rn)
  rs := hx.of h.rs (by simp)
  hs := h.hs.up s (fun e => (hS _ e).2.2.1 h.rs)
  en := fun q => by rw [h.en]; split
                    · rename_i e; rw [hn q e]
                    · rfl
  es := fun q => by rw [h.es]; split
                    · rename_i e; rw [hs q e]
                    · rfl
  hc := by rw [hc]; exact h.hc.up s (fun b _ e hb => (hS b hb).2.2.2 (h.rc b e))
  rc := fun c e => hx.of (h.rc c e) (by simp)
theorem FilO.tr (h : FilO ρ H i b x nv sv wv k l) (hx : Ext ρ ρ') (s : Mo S H H') (hS : ∀ c, S c → ρ c ≠ .fil i ∧ ρ c ≠ .wrs i ∧ ρ c ≠ .frz) : FilO ρ' H' i b x nv sv wv k l where
  rf := hx.of h.rf (by simp)
  vf := h.vf.up s (fun e => (hS _ e).1 h.rf)
  hn := rd_frz h.hn hx s (fun c e => (hS c e).2.2)
  hs := rd_frz h.hs hx s (fun c e => (hS c e).2.2)
  hw := h.hw.up s (fun b _ e hb => (hS b hb).2.1 (h.rk b e))
  lw := h.lw
  hd := fun y hy => rd_frz (h.hd y hy) hx s (fun c e => (hS c e).2.2)
  rk := fun c e => hx.of (h.rk c e) (by simp)
/-- what the disk's blocks are -/
structure Gh where
  ρ : Nat → Role
  fb : List Nat
  mb : Nat
  dm : List (Pth × Nat)
  lv : Nat
structure PDk (K : List Nat) (g : Gh) (H : Heap) (b : Nat) (D : Dk) : Prop where
  hK : ∀ c, c + 1 ∈ K ↔ g.ρ c ≠ .out
  lt : ∀ c, g.ρ c ≠ .out → c < H.size
  rb : g.ρ b = .fs
  vb : Var 64 H b [.int .i64 D.cap, .int .i64 D.most, .map (some g.mb), .int .i64 D.ops, .int .i64 g.lv, .bool D.dead]
  lvD : D.dead = false → g.lv = D.left
  lvB : g.lv ≤ 9223372036854775807
  capB : D.cap ≤ 9223372036854775807
  mostB : D.most ≤ 9223372036854775807
  rm : g.ρ g.mb = .dirs
  hm : Mp H Str ptr g.mb g.dm
  dirs : ∀ p db, mget g.dm p = some db → ∃ nb sb k sv nm sm, DirO g.ρ g.fb H D p db nb sb k sv nm sm
  abs : ∀ p, mget g.dm p = none → (∀ q, dirP q = p → mget D.now q = none ∧ mget D.stays q = none) ∧ D.chgs p = []
  len : g.fb.length = D.fs.length
  fil : ∀ i, i < D.fs.length → ∃ nv sv wv k l, FilO g.ρ H i (g.fb.getD i 0) (fget D.fs i) nv sv wv k l
  ids : (∀ p i, mget D.now p = some i → i < D.fs.length) ∧ (∀ p i, mget D.stays p = some i → i < D.fs.length) ∧ (∀ c ∈ D.log, ∀ i, c.f = some i → i < D.fs.length)
  dml : g.dm.length ≤ D.ops
variable {K K' : List Nat} {g : Gh} {ks : List Nat}
theorem PDk.bk (h : PDk K g H b D) : BK K H.size := fun k hk => by
  rcases Nat.eq_zero_or_pos k with e | this
  · omega
  · have h2 := h.lt (k - 1) ((h.hK (k - 1)).1 (by rw [Nat.sub_add_cancel this]; exact hk))
    omega
theorem PDk.up (h : PDk K g H b D) (s : Mo S H H') (hS : ∀ c, S c → g.ρ c = .out) : PDk K g H' b D where
  hK := h.hK
  lt := fun c e => Nat.lt_of_lt_of_le (h.lt c e) s.size
  rb := h.rb
  vb := h.vb.up s (fun e => by have := hS _ e; rw [h.rb] at this; cases this)
  lvD := h.lvD
  lvB := h.lvB
  capB := h.capB
  mostB := h.mostB
  rm := h.rm
  hm := h.hm.up s (fun e => by have := hS _ e; rw [h.rm] at this; cases this)
  dirs := fun p db e => by
    obtain ⟨nb, sb, k, sv, nm, sm, hd⟩ := h.dirs p db e
    exact ⟨nb, sb, k, sv, nm, sm, hd.tr (Ext.refl _) s (fun c hc => by rw [hS c hc]; simp) (fun _ _ => rfl) (fun _ _ => rfl) rfl⟩
  abs := h.abs
  len := h.len
  fil := fun i hi => by
    obtain ⟨nv, sv, wv, k, l, hf⟩ := h.fil i hi
    exact ⟨nv, sv, wv, k, l, hf.tr (Ext.refl _) s (fun c hc => by rw [hS c hc]; simp)⟩
  ids := h.ids
  dml := h.dml
theorem PDk.nw (h : PDk K g H b D) (s : Nw H H') : PDk K g H' b D := h.up s (fun c e => e.elim)
theorem PDk.role (h : PDk K g H b D) {c : Nat} (hc : c + 1 ∉ K) : g.ρ c = .out := Classical.byContradiction (fun e => hc ((h.hK c).2 e))
theorem PDk.upL (h : PDk K g H b D) (s : Mo (Ms ks) H H') (d : DKL K ks) : PDk K g H' b D := h.up s (fun c e => h.role (fun hk => d (c + 1) hk (c + 1) e c rfl rfl))
instance : Hp (PDk K g H b D) H H' (PDk K g H' b D) := ⟨fun s h => h.nw s⟩
instance : Hv (PDk K g H b D) H H' (PDk K g H' b D) (Kj K) := ⟨fun s h d => h.upL s (DKL.cons d DKL.nil)⟩
theorem PDk.upA {m : Nat} (h : PDk K g H b D) (s : Mo (fun c => m ≤ c) H H') (d : BK K m) : PDk K g H' b D := h.up s (fun c e => h.role (fun hk => by have := d _ hk; omega))
theorem PDk.mem (h : PDk K g H b D) {c : Nat} {r : Role} (e : g.ρ c = r) (hr : r ≠ .out) : c + 1 ∈ K := (h.hK c).2 (by rw [e]; exact hr)
theorem PDk.km {r : Role} (h : PDk K g H b D) (hk : ∀ c, c + 1 = k → g.ρ c = r) (hr : r ≠ .out) : KM K k := fun c e => h.mem (hk c e) hr
theorem PDk.km1 {c : Nat} {r : Role} (h : PDk K g H b D) (e : g.ρ c = r) (hr : r ≠ .out) : KM K (c + 1) := KM.of (h.mem e hr)
theorem PDk.ms (h : PDk K g H b D) (s : Mo S H H') (hS : ∀ c, S c → g.ρ c ≠ .out) : Mo (Ms K) H H' := s.weaken (fun c _ e => (h.hK c).2 (hS c e))
/-- the disk's own cells -/
theorem PDk.setFs {g' : Gh} (h : PDk K g H b D) (s : Mo (Ms [b + 1]) H H') (hg : g'.ρ = g.ρ ∧ g'.fb = g.fb ∧ g'.mb = g.mb ∧ g'.dm = g.dm)
    (hv : Var 64 H' b [.int .i64 D.cap, .int .i64 D.most, .map (some g.mb), .int .i64 D'.ops, .int .i64 g'.lv, .bool D'.dead]) (hl : D'.dead = false → g'.lv = D'.left) (hlb : g'.lv ≤ 9223372036854775807)
    (hD : D'.cap = D.cap ∧ D'.most = D.most ∧ D'.fs = D.fs ∧ D'.now = D.now ∧ D'.stays = D.stays ∧ D'.log = D.log) (ho : D.ops ≤ D'.ops) : PDk K g' H' b D' := by
  obtain ⟨r, fb, mb, dm, lv⟩ := g'
  obtain ⟨rfl, rfl, rfl, rfl⟩ := hg
  obtain ⟨cap, most, fs, now, stays, log, ops, left, dead⟩ := D'
  obtain ⟨rfl, rfl, rfl, rfl, rfl, rfl⟩ := hD
  have hS : ∀ c, Ms [b + 1] c → g.ρ c = .fs := fun c e => by
    have : c = b := by simpa [Ms] using e
    rw [this]; exact h.rb
  exact {
    hK := h.hK, lt := fun c e => Nat.lt_of_lt_of_le (h.lt c e) s.size, rb := h.rb, vb := hv, lvD := hl, lvB := hlb, capB := h.capB, mostB := h.mostB, rm := h.rm
    hm := h.hm.up s (fun e => by have := hS _ e; rw [h.rm] at this; cases this)
    dirs := fun p db e => by
      obtain ⟨nb, sb, k, sv, nm, sm, hd⟩ := h.dirs p db e
      exact ⟨nb, sb, k, sv, nm, sm, hd.tr (Ext.refl _) s (fun c hc => by rw [hS c hc]; simp) (fun _ _ => rfl) (fun _ _ => rfl) rfl⟩
    abs := h.abs, len := h.len
    fil := fun i hi => by
      obtain ⟨nv, sv, wv, k, l, hf⟩ := h.fil i hi
      exact ⟨nv, sv, wv, k, l, hf.tr (Ext.refl _) s (fun c hc => by rw [hS c hc]; simp)⟩
    ids := h.ids, dml := Nat.le_trans h.dml ho }
/-- one directory is otherwise now -/
theorem PDk.setDir (h : PDk K g H b D) (s : Mo S H H') (hS : ∀ c, S c → g.ρ c = .dir p ∨ g.ρ c = .now p ∨ g.ρ c = .sty p ∨ g.ρ c = .chg p ∨ g.ρ c = .out) (hx : Ext g.ρ ρ') (hK : ∀ c, c + 1 ∈ K' ↔ ρ' c ≠ .out) (lt : ∀ c, ρ' c ≠ .out → c < H'.size)
    (hp : mget g.dm p = some db) (hd : ∃ nb sb k sv nm sm, DirO ρ' g.fb H' D' p db nb sb k sv nm sm)
    (hD : D'.cap = D.cap ∧ D'.most = D.most ∧ D'.fs = D.fs ∧ D'.ops = D.ops ∧ D'.left = D.left ∧ D'.dead = D.dead)
    (hn : ∀ q, dirP q ≠ p → mget D'.now q = mget D.now q) (hs : ∀ q, dirP q ≠ p → mget D'.stays q = mget D.stays q) (hc : ∀ n, n ≠ p → D'.chgs n = D.chgs n)
    (ids : (∀ p i, mget D'.now p = some i → i < D'.fs.length) ∧ (∀ p i, mget D'.stays p = some i → i < D'.fs.length) ∧ (∀ c ∈ D'.log, ∀ i, c.f = some i → i < D'.fs.length)) : PDk K' { g with ρ := ρ' } H' b D' := by
  obtain ⟨cap, most, fs, now, stays, log, ops, left, dead⟩ := D'
  obtain ⟨rfl, rfl, rfl, rfl, rfl, rfl⟩ := hD
  exact {
    hK := hK, lt := lt, rb := hx.of h.rb (by simp)
    vb := h.vb.up s (fun e => by have := hS _ e; rw [h.rb] at this; simp at this)
    lvD := h.lvD, lvB := h.lvB, capB := h.capB, mostB := h.mostB, rm := hx.of h.rm (by simp)
    hm := h.hm.up s (fun e => by have := hS _ e; rw [h.rm] at this; simp at this)
    dirs := fun q db2 e => by
      by_cases hq : q = p
      · subst hq
        have : db2 = db := Option.some.inj (e.symm.trans hp)
        subst this; exact hd
      · obtain ⟨nb, sb, k, sv, nm, sm, hd⟩ := h.dirs q db2 e
        refine ⟨nb, sb, k, sv, nm, sm, hd.tr hx s (fun c hc => ?_) (fun r hr => hn r (by rw [hr]; exact hq)) (fun r hr => hs r (by rw [hr]; exact hq)) (hc q hq)⟩
        rcases hS c hc with e | e | e | e | e <;> (rw [e]; simp [Ne.symm hq])
    abs := fun q e => by
      have hq : q ≠ p := fun e2 => by subst e2; rw [hp] at e; cases e
      obtain ⟨h1, h2⟩ := h.abs q e
      exact ⟨fun r hr => by rw [hn r (by rw [hr]; exact hq), hs r (by rw [hr]; exact hq)]; exact h1 r hr, by rw [hc q hq]; exact h2⟩
    len := h.len
    fil := fun i hi => by
      obtain ⟨nv, sv, wv, k, l, hf⟩ := h.fil i hi
      refine ⟨nv, sv, wv, k, l, hf.tr hx s (fun c hc => ?_)⟩
      rcases hS c hc with e | e | e | e | e <;> (rw [e]; simp)
    ids := ids, dml := h.dml }
/-- one file is otherwise now -/
theorem PDk.setFil {y : Fdt} (h : PDk K g H b D) (hi : i < D.fs.length) (s : Mo S H H') (hS : ∀ c, S c → g.ρ c = .fil i ∨ g.ρ c = .wrs i ∨ g.ρ c = .out) (hx : Ext g.ρ ρ') (hK : ∀ c, c + 1 ∈ K' ↔ ρ' c ≠ .out) (lt : ∀ c, ρ' c ≠ .out → c < H'.size)
    (hf : ∃ nv sv wv k l, FilO ρ' H' i (g.fb.getD i 0) y nv sv wv k l) : PDk K' { g with ρ := ρ' } H' b (D.putF i y) := by
  have hfl : (D.putF i y).fs.length = D.fs.length := by simp [Dk.putF]
  exact {
    hK := hK, lt := lt, rb := hx.of h.rb (by simp)
    vb := h.vb.up s (fun e => by have := hS _ e; rw [h.rb] at this; simp at this)
    lvD := h.lvD, lvB := h.lvB, capB := h.capB, mostB := h.mostB, rm := hx.of h.rm (by simp)
    hm := h.hm.up s (fun e => by have := hS _ e; rw [h.rm] at this; simp at this)
    dirs := fun q db2 e => by
      obtain ⟨nb, sb, k, sv, nm, sm, hd⟩ := h.dirs q db2 e
      refine ⟨nb, sb, k, sv, nm, sm, hd.tr hx s (fun c hc => ?_) (fun _ _ => rfl) (fun _ _ => rfl) rfl⟩
      rcases hS c hc with e | e | e <;> (rw [e]; simp)
    abs := h.abs, len := by rw [hfl]; exact h.len
    fil := fun j hj => by
      rw [hfl] at hj
      by_cases hji : j = i
      · subst hji
        have e : fget (D.putF j y).fs j = y := by simp [fget, Dk.putF, List.getD, hi]
        rw [e]; exact hf
      · have e : fget (D.putF i y).fs j = fget D.fs j := by simp [fget, Dk.putF, List.getD, List.getElem?_set, Ne.symm hji]
        rw [e]
        obtain ⟨nv, sv, wv, k, l, hf⟩ := h.fil j hj
        refine ⟨nv, sv, wv, k, l, hf.tr hx s (fun c hc => ?_)⟩
        rcases hS c hc with e | e | e <;> (rw [e]; simp [Ne.symm hji])
    ids := by rw [hfl]; exact h.ids
    dml := h.dml }
/-- roles of one block more -/
def upr (ρ : Nat → Role) (x : Nat) (r : Role) : Nat → Role := fun c => if c = x then r else ρ c
theorem upr_self {x : Nat} {r : Role} : upr ρ x r x = r := if_pos rfl
theorem upr_ne {x c : Nat} {r : Role} (h : c ≠ x) : upr ρ x r c = ρ c := if_neg h
theorem Ext.upr {x : Nat} {r : Role} (h : ρ x = .out) : Ext ρ (upr ρ x r) := fun c hc => by
  by_cases e : c = x
  · subst e; exact absurd h hc
  · exact upr_ne e
theorem Ext.trans {ρ2 : Nat → Role} (h : Ext ρ ρ') (h2 : Ext ρ' ρ2) : Ext ρ ρ2 := fun c hc => by
  have e := h c hc
  rw [h2 c (by rw [e]; exact hc), e]
theorem hK_upr {x : Nat} {r : Role} (hK : ∀ c, c + 1 ∈ K ↔ ρ c ≠ .out) (hr : r ≠ .out) : ∀ c, c + 1 ∈ (x + 1) :: K ↔ upr ρ x r c ≠ .out := fun c => by
  unfold upr
  rw [List.mem_cons]
  by_cases e : c = x
  · rw [if_pos e]; simp [e, hr]
  · rw [if_neg e, ← hK]
    constructor
    · rintro (h | h)
      · omega
      · exact h
    · exact .inr
theorem lt_upr {x : Nat} {r : Role} (lt : ∀ c, ρ c ≠ .out → c < H.size) (hs : H.size ≤ H'.size) (hx : x < H'.size) : ∀ c, upr ρ x r c ≠ .out → c < H'.size := fun c hc => by
  unfold upr at hc
  split at hc
  · rename_i e; rw [e]; exact hx
  · exact Nat.lt_of_lt_of_le (lt c hc) hs
/-- a role for a number, if it is one -/
def uprk (ρ : Nat → Role) (k : Nat) (r : Role) : Nat → Role := fun c => if c + 1 = k then r else ρ c
theorem uprk_self {c : Nat} {r : Role} (h : c + 1 = k) : uprk ρ k r c = r := if_pos h
theorem uprk_ne {c : Nat} {r : Role} (h : c + 1 ≠ k) : uprk ρ k r c = ρ c := if_neg h
theorem Ext.uprk {r : Role} (h : ∀ c, c + 1 = k → ρ c = .out ∨ ρ c = r) : Ext ρ (uprk ρ k r) := fun c hc => by
  unfold SimC.uprk
  split
  · rename_i e; rcases h c e with e2 | e2
    · exact absurd e2 hc
    · exact e2.symm
  · rfl
theorem hK_uprk {r : Role} (hK : ∀ c, c + 1 ∈ K ↔ ρ c ≠ .out) (hr : r ≠ .out) : ∀ c, c + 1 ∈ k :: K ↔ uprk ρ k r c ≠ .out := fun c => by
  unfold uprk
  rw [List.mem_cons]
  by_cases e : c + 1 = k
  · rw [if_pos e]; simp [e, hr]
  · rw [if_neg e, ← hK]; simp [e]
theorem lt_uprk {r : Role} (lt : ∀ c, ρ c ≠ .out → c < H.size) (hs : H.size ≤ H'.size) (hx : k ≤ H'.size) : ∀ c, uprk ρ k r c ≠ .out → c < H'.size := fun c hc => by
  unfold uprk at hc
  split at hc
  · omega
  · exact Nat.lt_of_lt_of_le (lt c hc) hs
theorem PDk.newk (h : PDk K g H b D) (hk : DL k K) : ∀ c, c + 1 = k → g.ρ c = .out := fun c e => h.role (fun hm => hk (c + 1) hm c e rfl)
theorem PDk.nxk {k2 : Nat} (h : PDk K g H b D) (hk : Nx k H.size k2) {r : Role} (hr : ∀ c, c + 1 = k → g.ρ c = r) : ∀ c, c + 1 = k2 → g.ρ c = .out ∨ g.ρ c = r := fun c e => by
  rcases hk with e2 | e2 | e2
  · omega
  · exact .inr (hr c (by omega))
  · exact .inl (Classical.byContradiction (fun hq => by have := h.lt c hq; omega))
/-- a file more -/
theorem PDk.newFil {x : Nat} (h : PDk K g H b D) (hv : Var 76 H x [.slice none 0 0, .slice none 0 0, .slice none 0 0]) (hx : DL (x + 1) K) :
    PDk ((x + 1) :: K) { g with ρ := upr g.ρ x (.fil D.fs.length), fb := g.fb ++ [x] } H b { D with fs := D.fs ++ [⟨[], [], []⟩] } := by
  have ho : g.ρ x = .out := h.role (fun hk => hx (x + 1) hk x rfl rfl)
  have he : Ext g.ρ (upr g.ρ x (.fil D.fs.length)) := Ext.upr ho
  have hg : ∀ i, i < D.fs.length → (g.fb ++ [x]).getD i 0 = g.fb.getD i 0 := fun i hi => by simp [List.getD, List.getElem?_append_left (show i < g.fb.length by rw [h.len]; exact hi)]
  have hS : ∀ c, (fun _ => False) c → g.ρ c = .out := fun _ e => e.elim
  exact {
    hK := hK_upr h.hK (by simp), lt := lt_upr h.lt (Nat.le_refl _) hv.lt, rb := he.of h.rb (by simp), vb := h.vb
    lvD := h.lvD, lvB := h.lvB, capB := h.capB, mostB := h.mostB, rm := he.of h.rm (by simp), hm := h.hm
    dirs := fun q db2 e => by
      obtain ⟨nb, sb, k, sv, nm, sm, hd⟩ := h.dirs q db2 e
      have hd2 := hd.tr (D' := D) he (Mo.refl (fun _ => False) H) (fun c hc => hc.elim) (fun _ _ => rfl) (fun _ _ => rfl) rfl
      refine ⟨nb, sb, k, sv, nm, sm, { hd2 with hn := mp_congr hd2.hn (fun y hy => ?_), hs := mp_congr hd2.hs (fun y hy => ?_), hc := ow_congr hd2.hc (fC_len _) (fC_one _) (fun c hc => ?_) }⟩
      · have := h.ids.1 y.1 y.2 (by
          have e2 := mget_of_mem hd.hn.mo.nodup (show (y.1, y.2) ∈ nm from hy)
          rw [hd.en] at e2
          split at e2
          · exact e2
          · cases e2)
        rw [fvl, fvl, hg _ this]
      · have := h.ids.2.1 y.1 y.2 (by
          have e2 := mget_of_mem hd.hs.mo.nodup (show (y.1, y.2) ∈ sm from hy)
          rw [hd.es] at e2
          split at e2
          · exact e2
          · cases e2)
        rw [fvl, fvl, hg _ this]
      · have := h.ids.2.2 c (List.mem_filter.1 hc).1
        unfold fC fpt
        cases hcf : c.f with
        | none => rfl
        | some i => simp only [Option.map_some]; rw [hg i (this i hcf)]
    abs := h.abs
    len := by simp [h.len]
    fil := fun j hj => by
      by_cases hj2 : j < D.fs.length
      · obtain ⟨nv, sv, wv, k, l, hf⟩ := h.fil j hj2
        have e : fget (D.fs ++ [⟨[], [], []⟩]) j = fget D.fs j := by simp [fget, List.getD, List.getElem?_append_left hj2]
        rw [hg j hj2]
        refine ⟨nv, sv, wv, k, l, ?_⟩
        show FilO _ H j _ (fget (D.fs ++ [⟨[], [], []⟩]) j) _ _ _ _ _
        rw [e]
        exact hf.tr he (Mo.refl (fun _ => False) H) (fun c hc => hc.elim)
      · have hj3 : j = D.fs.length := by simp at hj; omega
        subst hj3
        have e : fget (D.fs ++ [⟨[], [], []⟩]) D.fs.length = ⟨[], [], []⟩ := by simp [fget, List.getD]
        have e2 : (g.fb ++ [x]).getD D.fs.length 0 = x := by rw [← h.len]; simp [List.getD]
        refine ⟨⟨none, 0, 0⟩, ⟨none, 0, 0⟩, ⟨none, 0, 0⟩, 0, [], ?_⟩
        show FilO _ H _ ((g.fb ++ [x]).getD D.fs.length 0) (fget (D.fs ++ [⟨[], [], []⟩]) D.fs.length) _ _ _ _ _
        rw [e, e2]
        exact { rf := upr_self, vf := hv, hn := Rd.nil _ _ _ _, hs := Rd.nil _ _ _ _, hw := Ow.nil fW_len fW_one, lw := rfl, hd := fun y hy => (by cases hy), rk := fun c e => (by omega) }
    ids := by
      have hl : ({ D with fs := D.fs ++ [⟨[], [], []⟩] } : Dk).fs.length = D.fs.length + 1 := by simp
      rw [hl]
      exact ⟨fun p i e => Nat.lt_succ_of_lt (h.ids.1 p i e), fun p i e => Nat.lt_succ_of_lt (h.ids.2.1 p i e), fun c hc i e => Nat.lt_succ_of_lt (h.ids.2.2 c hc i e)⟩
    dml := h.dml }
/-- a directory more -/
theorem PDk.newDir {db nb sb : Nat} (h : PDk K g H b D) (hp : mget g.dm p = none) (hvd : Var 84 H db [.map (some nb), .map (some sb), .slice none 0 0]) (hn : Mp H Str (fvl g.fb) nb ([] : Nms)) (hs : Mp H Str (fvl g.fb) sb ([] : Nms))
    (hxd : DL (db + 1) K) (hxn : DL (nb + 1) K) (hxs : DL (sb + 1) K) (hdn : db ≠ nb) (hds : db ≠ sb) (hns : nb ≠ sb) (s : Mo (Ms [g.mb + 1]) H H') (hm : Mp H' Str ptr g.mb (mput g.dm p db)) (hl : g.dm.length + 1 ≤ D.ops) :
    PDk ((db + 1) :: (sb + 1) :: (nb + 1) :: K) { g with ρ := upr (upr (upr g.ρ nb (.now p)) sb (.sty p)) db (.dir p), dm := mput g.dm p db } H' b D := by
  have on : g.ρ nb = .out := h.role (fun hk => hxn (nb + 1) hk nb rfl rfl)
  have os : g.ρ sb = .out := h.role (fun hk => hxs (sb + 1) hk sb rfl rfl)
  have od : g.ρ db = .out := h.role (fun hk => hxd (db + 1) hk db rfl rfl)
  have he : Ext g.ρ (upr (upr (upr g.ρ nb (.now p)) sb (.sty p)) db (.dir p)) := by
    refine (Ext.upr on).trans ((Ext.upr ?_).trans (Ext.upr ?_))
    · rw [upr_ne (Ne.symm hns)]; exact os
    · rw [upr_ne hds, upr_ne hdn]; exact od
  have hS : ∀ c, Ms [g.mb + 1] c → g.ρ c = .dirs := fun c e => by
    have : c = g.mb := by simpa [Ms] using e
    rw [this]; exact h.rm
  have hlt : ∀ c, g.ρ c = .out → c ≠ g.mb := fun c e e2 => by rw [e2, h.rm] at e; cases e
  obtain ⟨ab1, ab2⟩ := h.abs p hp
  exact {
    hK := hK_upr (hK_upr (hK_upr h.hK (by simp)) (by simp)) (by simp)
    lt := lt_upr (lt_upr (lt_upr h.lt (Nat.le_refl _) hn.lt) (Nat.le_refl _) hs.lt) s.size (Nat.lt_of_lt_of_le hvd.lt s.size), rb := he.of h.rb (by simp)
    vb := h.vb.up s (fun e => by have := hS _ e; rw [h.rb] at this; simp at this)
    lvD := h.lvD, lvB := h.lvB, capB := h.capB, mostB := h.mostB, rm := he.of h.rm (by simp), hm := hm
    dirs := fun q db2 e => by
      rw [mget_put] at e
      by_cases hq : q = p
      · rw [if_pos hq] at e
        have e := Option.some.inj e
        subst e; subst hq
        refine ⟨nb, sb, 0, ⟨none, 0, 0⟩, [], [], ?_⟩
        have hup : ∀ c, g.ρ c = .out → ¬ Ms [g.mb + 1] c := fun c e e2 => by have := hS c e2; rw [e] at this; cases this
        exact { rd := upr_self, vd := hvd.up s (hup _ od), rn := by show upr (upr (upr g.ρ nb _) sb _) db _ nb = _; rw [upr_ne (Ne.symm hdn), upr_ne hns, upr_self], hn := hn.up s (hup _ on), rs := by show upr (upr (upr g.ρ nb _) sb _) db _ sb = _; rw [upr_ne (Ne.symm hds), upr_self], hs := hs.up s (hup _ os)
                en := fun r => by
                  rw [mget]; split
                  · rename_i hr; rw [(ab1 r hr).1]
                  · rfl
                es := fun r => by
                  rw [mget]; split
                  · rename_i hr; rw [(ab1 r hr).2]
                  · rfl
                hc := by rw [ab2]; exact Ow.nil (fC_len _) (fC_one _), rc := fun c e => (by omega) }
      · rw [if_neg hq] at e
        obtain ⟨nb, sb, k, sv, nm, sm, hd⟩ := h.dirs q db2 e
        exact ⟨nb, sb, k, sv, nm, sm, hd.tr he s (fun c hc => by rw [hS c hc]; simp) (fun _ _ => rfl) (fun _ _ => rfl) rfl⟩
    abs := fun q e => by
      rw [mget_put] at e
      by_cases hq : q = p
      · rw [if_pos hq] at e; cases e
      · rw [if_neg hq] at e; exact h.abs q e
    len := h.len
    fil := fun i hi => by
      obtain ⟨nv, sv, wv, k, l, hf⟩ := h.fil i hi
      exact ⟨nv, sv, wv, k, l, hf.tr he s (fun c hc => by rw [hS c hc]; simp)⟩
    ids := h.ids
    dml := by
      have : (mput g.dm p db).length = g.dm.length + 1 := by simp [mput, hp]
      show (mput g.dm p db).length ≤ _
      omega }
/-- the change that a directory's names underwent -/
theorem PDk.put {c : Chg} {m' : Nms} (h : PDk K g H b D) (hp : mget g.dm p = some db) (hd : DirO g.ρ g.fb H D p db nb sb k sv nm sm) (s : Mo (Ms [nb + 1]) H H') (hm : Mp H' Str (fvl g.fb) nb m') (hm' : ∀ q, mget m' q = c.at q (mget nm q))
    (hcn : ∀ i, c.f = some i → dirP c.n = p ∧ i < D.fs.length) (hcg : c.g ≠ [] → dirP c.g = p) : PDk K g H' b { D with now := c.ap D.now } ∧ Mo (Ms K) H H' := by
  have hS : ∀ x, Ms [nb + 1] x → g.ρ x = .now p := fun x e => by
    have : x = nb := by simpa [Ms] using e
    rw [this]; exact hd.rn
  have hat : ∀ q o, dirP q ≠ p → c.at q o = o := fun q o hq => by
    unfold Chg.at
    cases hcf : c.f with
    | none =>
      simp only
      rw [if_neg (fun e => hq (by rw [e.2]; exact hcg e.1))]
    | some i =>
      simp only
      rw [if_neg (fun e => hq (by rw [e]; exact (hcn i hcf).1)), if_neg (fun e => hq (by rw [e.2]; exact hcg e.1))]
  refine ⟨?_, h.ms s (fun x e => by rw [hS x e]; simp)⟩
  have hup : ∀ x, g.ρ x ≠ .now p → ¬ Ms [nb + 1] x := fun x hx e => hx (hS x e)
  refine h.setDir (ρ' := g.ρ) s (fun x e => .inr (.inl (hS x e))) (Ext.refl _) h.hK (fun x e => Nat.lt_of_lt_of_le (h.lt x e) s.size) hp ⟨nb, sb, k, sv, m', sm, ?_⟩ ⟨rfl, rfl, rfl, rfl, rfl, rfl⟩ (fun q hq => ?_) (fun q hq => rfl) (fun n hn => rfl) ⟨fun q i e => ?_, h.ids.2.1, h.ids.2.2⟩
  · exact { rd := hd.rd, vd := hd.vd.up s (hup _ (by rw [hd.rd]; simp)), rn := hd.rn, hn := hm, rs := hd.rs, hs := hd.hs.up s (hup _ (by rw [hd.rs]; simp))
            en := fun q => by
              show _ = if dirP q = p then mget (c.ap D.now) q else none
              rw [hm', hd.en, mget_ap]
              split
              · rfl
              · rename_i hq; exact hat q none hq
            es := hd.es, hc := hd.hc.up s (fun x _ e => hup x (by rw [hd.rc x e]; simp)), rc := hd.rc }
  · show mget (c.ap D.now) q = mget D.now q
    rw [mget_ap]; exact hat q _ hq
  · have e : mget (c.ap D.now) q = some i := e
    rw [mget_ap] at e
    unfold Chg.at at e
    cases hcf : c.f with
    | none =>
      rw [hcf] at e; simp only at e
      split at e
      · cases e
      · exact h.ids.1 q i e
    | some j =>
      rw [hcf] at e; simp only at e
      split at e
      · cases e; exact (hcn _ hcf).2
      · split at e
        · cases e
        · exact h.ids.1 q i e
/-- the change is noted -/
theorem PDk.note {c : Chg} {k2 : Nat} {sv2 : SV} (h : PDk K g H b D) (hp : mget g.dm p = some db) (hd : DirO g.ρ g.fb H D p db nb sb k sv nm sm) (s : Mo (Ms [db + 1, k]) H H') (hv : Var 84 H' db [.map (some nb), .map (some sb), sv2.v]) (hc : Ow k2 96 H' (fC g.fb) 3 sv2.v (D.chgs p ++ [c])) (hk : Nx k H.size k2)
    (hcd : c.dir = p) (hcf : ∀ i, c.f = some i → i < D.fs.length) : PDk (k2 :: K) { g with ρ := uprk g.ρ k2 (.chg p) } H' b { D with log := D.log ++ [c] } := by
  have hS : ∀ x, Ms [db + 1, k] x → g.ρ x = .dir p ∨ g.ρ x = .chg p := fun x e => by
    have : x + 1 = db + 1 ∨ x + 1 = k := by simpa [Ms] using e
    rcases this with e | e
    · exact .inl (by rw [show x = db by omega]; exact hd.rd)
    · exact .inr (hd.rc x e)
  have hx : Ext g.ρ (uprk g.ρ k2 (.chg p)) := Ext.uprk (h.nxk hk hd.rc)
  have hup : ∀ x, g.ρ x ≠ .dir p → g.ρ x ≠ .chg p → ¬ Ms [db + 1, k] x := fun x h1 h2 e => (hS x e).elim h1 h2
  have hch : ({ D with log := D.log ++ [c] } : Dk).chgs p = D.chgs p ++ [c] := by simp [Dk.chgs, hcd]
  refine h.setDir s (fun x e => (hS x e).elim .inl (fun e => .inr (.inr (.inr (.inl e))))) hx (hK_uprk h.hK (by simp)) (lt_uprk h.lt s.size hc.le) hp ⟨nb, sb, k2, sv2, nm, sm, ?_⟩ ⟨rfl, rfl, rfl, rfl, rfl, rfl⟩ (fun q hq => rfl) (fun q hq => rfl) (fun n hn => ?_) ⟨h.ids.1, h.ids.2.1, fun x hxm i e => ?_⟩
  · exact { rd := hx.of hd.rd (by simp), vd := hv, rn := hx.of hd.rn (by simp), hn := hd.hn.up s (hup _ (by rw [hd.rn]; simp) (by rw [hd.rn]; simp)), rs := hx.of hd.rs (by simp), hs := hd.hs.up s (hup _ (by rw [hd.rs]; simp) (by rw [hd.rs]; simp))
            en := hd.en, es := hd.es, hc := by rw [hch]; exact hc, rc := fun x e => uprk_self e }
  · simp [Dk.chgs, hcd, Ne.symm hn]
  · rcases List.mem_append.1 hxm with hm | hm
    · exact h.ids.2.2 x hm i e
    · rw [List.mem_singleton.1 hm] at e; exact hcf i e
/-- a file's bytes are others now -/
theorem PDk.fnow {nw : List UInt8} {kn : Nat} {nv2 : SV} {bi : Nat} (h : PDk K g H b D) (hi : i < D.fs.length) (hf : FilO g.ρ H i (g.fb.getD i 0) (fget D.fs i) nv sv wv k l) (e : g.fb.getD i 0 = bi) (s : Mo (Ms [bi + 1]) H H') (hv : Var 76 H' bi [nv2.v, sv.v, wv.v]) (hn : Ow kn 5 H' fB 1 nv2.v nw) (hk : DL kn K) :
    PDk (kn :: K) { g with ρ := uprk g.ρ kn .frz } H' b (D.putF i ⟨nw, (fget D.fs i).stays, (fget D.fs i).w⟩) := by
  subst e
  have hS : ∀ x, Ms [g.fb.getD i 0 + 1] x → g.ρ x = .fil i := fun x e => by
    have : x = g.fb.getD i 0 := by simpa [Ms] using e
    rw [this]; exact hf.rf
  have hx : Ext g.ρ (uprk g.ρ kn .frz) := Ext.uprk (fun c e => .inl (h.newk hk c e))
  have hfz : ∀ c, Ms [g.fb.getD i 0 + 1] c → g.ρ c ≠ .frz := fun c e => by rw [hS c e]; simp
  refine h.setFil hi s (fun x e => .inl (hS x e)) hx (hK_uprk h.hK (by simp)) (lt_uprk h.lt s.size hn.le) ⟨nv2, sv, wv, k, l, ?_⟩
  exact { rf := hx.of hf.rf (by simp), vf := hv, hn := hn.rd.imp (fun c _ e => uprk_self e), hs := rd_frz hf.hs hx s hfz
          hw := hf.hw.up s (fun c _ e hc => by have := hS c hc; rw [hf.rk c e] at this; cases this), lw := hf.lw, hd := fun y hy => rd_frz (hf.hd y hy) hx s hfz, rk := fun c e => hx.of (hf.rk c e) (by simp) }
/-- a write is noted -/
theorem PDk.fwr {w : Wr} {sd wv2 : SV} {kd k2 bi : Nat} (h : PDk K g H b D) (hi : i < D.fs.length) (hf : FilO g.ρ H i (g.fb.getD i 0) (fget D.fs i) nv sv wv k l) (e : g.fb.getD i 0 = bi) (s : Mo (Ms [bi + 1, k]) H H') (hv : Var 76 H' bi [nv.v, sv.v, wv2.v]) (hw : Ow k2 67 H' fW 2 wv2.v (l ++ [(w, sd)])) (hk2 : Nx k H.size k2)
    (hd : Ow kd 5 H' fB 1 sd.v w.d) (hk : DL kd (k2 :: K)) :
    PDk (kd :: k2 :: K) { g with ρ := uprk (uprk g.ρ k2 (.wrs i)) kd .frz } H' b (D.putF i ⟨(fget D.fs i).now, (fget D.fs i).stays, (fget D.fs i).w ++ [w]⟩) := by
  subst e
  have hS : ∀ x, Ms [g.fb.getD i 0 + 1, k] x → g.ρ x = .fil i ∨ g.ρ x = .wrs i := fun x e => by
    have : x + 1 = g.fb.getD i 0 + 1 ∨ x + 1 = k := by simpa [Ms] using e
    rcases this with e | e
    · exact .inl (by rw [show x = g.fb.getD i 0 by omega]; exact hf.rf)
    · exact .inr (hf.rk x e)
  have hx1 : Ext g.ρ (uprk g.ρ k2 (.wrs i)) := Ext.uprk (h.nxk hk2 hf.rk)
  have hkd : ∀ c, c + 1 = kd → c + 1 ≠ k2 ∧ g.ρ c = .out := fun c e => by
    have h1 : c + 1 ≠ k2 := fun e2 => hk k2 List.mem_cons_self c e e2
    exact ⟨h1, h.newk (fun k hk2 => hk k (List.mem_cons_of_mem _ hk2)) c e⟩
  have hx2 : Ext (uprk g.ρ k2 (.wrs i)) (uprk (uprk g.ρ k2 (.wrs i)) kd .frz) := Ext.uprk (fun c e => .inl (by rw [uprk_ne (hkd c e).1]; exact (hkd c e).2))
  have hx := hx1.trans hx2
  have hfz : ∀ c, Ms [g.fb.getD i 0 + 1, k] c → g.ρ c ≠ .frz := fun c e => by rcases hS c e with e | e <;> (rw [e]; simp)
  refine h.setFil hi s (fun x e => (hS x e).elim .inl (fun e => .inr (.inl e))) hx (hK_uprk (hK_uprk h.hK (by simp)) (by simp)) (lt_uprk (lt_uprk h.lt s.size hw.le) (Nat.le_refl _) hd.le) ⟨nv, sv, wv2, k2, l ++ [(w, sd)], ?_⟩
  exact { rf := hx.of hf.rf (by simp), vf := hv, hn := rd_frz hf.hn hx s hfz, hs := rd_frz hf.hs hx s hfz, hw := hw, lw := by rw [List.map_append, hf.lw]; rfl
          hd := fun y hy => by
            rcases List.mem_append.1 hy with hy | hy
            · exact rd_frz (hf.hd y hy) hx s hfz
            · rw [List.mem_singleton.1 hy]; exact hd.rd.imp (fun c _ e => uprk_self e)
          rk := fun c e => by rw [uprk_ne (fun e2 => (hkd c e2).1 e)]; exact uprk_self e }
/-- its bytes stay -/
theorem PDk.fsync {bi : Nat} (h : PDk K g H b D) (hi : i < D.fs.length) (hf : FilO g.ρ H i (g.fb.getD i 0) (fget D.fs i) nv sv wv k l) (e : g.fb.getD i 0 = bi) (s : Mo (Ms [bi + 1]) H H') (hv : Var 76 H' bi [nv.v, nv.v, .slice none 0 0]) : PDk K g H' b (D.syncF i) := by
  subst e
  have hS : ∀ x, Ms [g.fb.getD i 0 + 1] x → g.ρ x = .fil i := fun x e => by
    have : x = g.fb.getD i 0 := by simpa [Ms] using e
    rw [this]; exact hf.rf
  have hfz : ∀ c, Ms [g.fb.getD i 0 + 1] c → g.ρ c ≠ .frz := fun c e => by rw [hS c e]; simp
  refine h.setFil (ρ' := g.ρ) hi s (fun x e => .inl (hS x e)) (Ext.refl _) h.hK (fun c e => Nat.lt_of_lt_of_le (h.lt c e) s.size) ⟨nv, nv, ⟨none, 0, 0⟩, 0, [], ?_⟩
  exact { rf := hf.rf, vf := hv, hn := rd_frz hf.hn (Ext.refl _) s hfz, hs := rd_frz hf.hn (Ext.refl _) s hfz, hw := Ow.nil fW_len fW_one, lw := rfl, hd := fun y hy => (by cases hy), rk := fun c e => (by omega) }
/-- what a crash left of it -/
theorem PDk.flose {bl : List UInt8} {kn bi : Nat} {nv2 : SV} (h : PDk K g H b D) (hi : i < D.fs.length) (hf : FilO g.ρ H i (g.fb.getD i 0) (fget D.fs i) nv sv wv k l) (e : g.fb.getD i 0 = bi) (s : Mo (Ms [bi + 1]) H H') (hv : Var 76 H' bi [nv2.v, nv2.v, .slice none 0 0]) (hn : Qr kn H' fB 1 nv2.v bl) (hk : ∀ c, c + 1 = kn → g.ρ c = .frz ∨ g.ρ c = .out) :
    PDk (kn :: K) { g with ρ := uprk g.ρ kn .frz } H' b (D.putF i ⟨bl, bl, []⟩) := by
  subst e
  have hS : ∀ x, Ms [g.fb.getD i 0 + 1] x → g.ρ x = .fil i := fun x e => by
    have : x = g.fb.getD i 0 := by simpa [Ms] using e
    rw [this]; exact hf.rf
  have hx : Ext g.ρ (uprk g.ρ kn .frz) := Ext.uprk (fun c e => (hk c e).symm)
  have hr : Rd (fun c => uprk g.ρ kn .frz c = .frz) H' fB 1 nv2.v bl := hn.rd.imp (fun c _ e => uprk_self e)
  refine h.setFil hi s (fun x e => .inl (hS x e)) hx (hK_uprk h.hK (by simp)) (lt_uprk h.lt s.size hn.le) ⟨nv2, nv2, ⟨none, 0, 0⟩, 0, [], ?_⟩
  exact { rf := hx.of hf.rf (by simp), vf := hv, hn := hr, hs := hr, hw := Ow.nil fW_len fW_one, lw := rfl, hd := fun y hy => (by cases hy), rk := fun c e => (by omega) }
theorem FilO.atb {b0 bi : Nat} (h : FilO ρ H i b0 x nv sv wv k l) (e : b0 = bi) : Var 76 H bi [nv.v, sv.v, wv.v] := e ▸ h.vf
theorem PDk.kmf {b0 bi : Nat} (h : PDk K g H b D) (hf : FilO g.ρ H i b0 x nv sv wv k l) (e : b0 = bi) : KM K (bi + 1) := e ▸ h.km1 hf.rf (by simp)
theorem FilO.ne {b0 bi : Nat} (h : FilO ρ H i b0 x nv sv wv k l) (e : b0 = bi) : Dj (bi + 1) k := fun c h1 h2 => by
  have h3 := h.rk c h2
  rw [show c = b0 by omega, h.rf] at h3; cases h3
theorem rd_q {α : Type} {F : Nat → Prop} {f : α → List Value} {sz : Nat} {v : Value} {l : List α} (h : Rd F H f sz v l) : ∃ k, Qr k H f sz v l ∧ ∀ c, c + 1 = k → F c := by
  obtain ⟨a, cap, h1, h2, h3, h4⟩ := h.ex
  by_cases hl : l = []
  · exact ⟨0, ⟨⟨a, cap, h1, h2, h3, fun h => absurd hl h⟩, Nat.zero_le _⟩, fun c e => (by omega)⟩
  · obtain ⟨ad, e1, e2, e3, e4, e5⟩ := h4 hl
    exact ⟨ad.block + 1, ⟨⟨a, cap, h1, h2, h3, fun _ => ⟨ad, e1, e2, rfl, e4, e5⟩⟩, e4⟩, fun c e => by rw [show c = ad.block by omega]; exact e3⟩
/-- one directory's names stay -/
theorem PDk.dsync {s2 : Nat} {sm2 : Nms} (h : PDk K g H b D) (hA : Asc D.now) (hp : mget g.dm p = some db) (hd : DirO g.ρ g.fb H D p db nb sb k sv nm sm) (s : Mo (Ms [db + 1]) H H') (hv : Var 84 H' db [.map (some nb), .map (some s2), .slice none 0 0]) (hm : Mp H' Str (fvl g.fb) s2 sm2) (hm2 : ∀ q, mget sm2 q = mget nm q) (hk : DL (s2 + 1) K) :
    PDk ((s2 + 1) :: K) { g with ρ := uprk g.ρ (s2 + 1) (.sty p) } H' b (D.stayD p) := by
  have hS : ∀ x, Ms [db + 1] x → g.ρ x = .dir p := fun x e => by
    have : x = db := by simpa [Ms] using e
    rw [this]; exact hd.rd
  have hx : Ext g.ρ (uprk g.ρ (s2 + 1) (.sty p)) := Ext.uprk (fun c e => .inl (h.newk hk c e))
  have hup : ∀ x, g.ρ x ≠ .dir p → ¬ Ms [db + 1] x := fun x hx e => hx (hS x e)
  have hst : ∀ q, mget (D.stayD p).stays q = if dirP q = p then mget D.now q else mget D.stays q := fun q => mget_merge hA p q
  refine h.setDir s (fun x e => .inl (hS x e)) hx (hK_uprk h.hK (by simp)) (lt_uprk h.lt s.size hm.lt) hp ⟨nb, s2, 0, ⟨none, 0, 0⟩, nm, sm2, ?_⟩ ⟨rfl, rfl, rfl, rfl, rfl, rfl⟩ (fun q hq => rfl) (fun q hq => by rw [hst, if_neg hq]) (fun n hn => ?_) ⟨h.ids.1, fun q i e => ?_, fun c hc i e => h.ids.2.2 c (List.mem_filter.1 hc).1 i e⟩
  · exact { rd := hx.of hd.rd (by simp), vd := hv, rn := hx.of hd.rn (by simp), hn := hd.hn.up s (hup _ (by rw [hd.rn]; simp)), rs := uprk_self rfl, hs := hm, en := hd.en
            es := fun q => by
              rw [hm2, hd.en, hst]
              split <;> rfl
            hc := by
              have : (D.stayD p).chgs p = [] := by unfold Dk.stayD Dk.chgs; rw [List.filter_filter, List.filter_eq_nil_iff]; intro c _; simp
              rw [this]; exact Ow.nil (fC_len _) (fC_one _)
            rc := fun c e => (by omega) }
  · unfold Dk.stayD Dk.chgs
    rw [List.filter_filter]
    refine List.filter_congr (fun c _ => ?_)
    by_cases e : c.dir = n
    · simp [e, hn]
    · simp [e]
  · rw [hst] at e
    split at e
    · exact h.ids.1 q i e
    · exact h.ids.2.1 q i e
end

end Go.Proofs.YtfbfjhppppoilaaDoor.SimC
