/-
  Contracts of functions of the program, and plain laws: put together of several texts.
-/
import Derived.Test.YtfbfjhppppoilaaGreatDoorGa
import Derived.Sort.Walk0
import Derived.RangeFuncLeaves
import Derived.RangeFuncRecord
import Derived.RangeFuncSeq
set_option linter.unusedVariables false
set_option linter.unusedSimpArgs false
set_option linter.unusedSectionVars false
set_option linter.defProp false

namespace Go.Proofs.YtfbfjhppppoilaaGreatDoor.E
section
variable {P : Program} {w0 : World} {n : Nat} {l : FL} {H : Heap} {o : Oper}
theorem Z.ext {f : FuncId} {fn : Func} {e : Array Value → Sem Value} {args : List Operand} {ats : Array TypeId} {vs : List Value} {R : Value → Heap → Prop} (ho : o.op = .call { callee := .value (.func f), args := args.toArray, argTypes := ats }) (hf : P.funcs[f]? = some fn)
 (hname : (fn.name == "runtime.NumGoroutine") = false) (hb : fn.body.isNone = true) (hn : Extern.findNext fn = none) (he : Extern.find fn = some e) (hv : opvs l args = some vs) (hr : ∀ w, At w0 H w → ∃ v H' w', (e vs.toArray).run P w = .ok v w' ∧ At w0 H' w' ∧ R v H') : Z P w0 n l H o R := by
 intro a w hfr ha; have h1 : a.eval (.func f) = .func (.func f) #[] #[] := rfl; have h2 := hfr.evals hv; have h3 := run_callFunc_extern (P := P) hf hname hb hn he vs.toArray w; obtain ⟨v, H', w', q1, q2, q3⟩ := hr w ha; rw [q1] at h3; simp only [Result.andThen] at h3; exact ⟨v, H', w', by simp [execOp, ho, resolve, Deferred.ofValue, h1, invoke, h2, h3], q2, q3⟩
theorem Var.cell {e : TypeId} {b : Nat} {cs : List Value} (h : Var e H b cs) {w : World} (ha : At w0 H w) {i : Nat} {c : Value} (hc : cs[i]? = some c) : w.cell? ⟨b, i, none⟩ = some c ∧ w.frozen? ⟨b, i, none⟩ = false ∧ ∃ fz, w.heap[b]? = some (.cells cs.toArray e fz) := by
 obtain ⟨fz, h1, h2⟩ := id h.row; have hi := (List.getElem?_eq_some_iff.1 hc).1; have h1' : w.heap[b]? = some (.cells cs.toArray e fz) := by rw [ha.heap]; exact h1
 refine ⟨by simp [World.cell?, h1', hc], ?_, fz, h1'⟩; obtain ⟨lo, hi'⟩ := fz; have := h2.2 i (by simpa using hi); simp only at this; simp [World.frozen?, h1']; omega
theorem Z.add64 {f : FuncId} {fn : Func} {args : List Operand} {ats : Array TypeId} {e : TypeId} {b i : Nat} {cs : List Value} {x y : Int} (h : Var e H b cs) (hc : cs[i]? = some (.int .i64 x)) (ho : o.op = .call { callee := .value (.func f), args := args.toArray, argTypes := ats }) (hf : P.funcs[f]? = some fn)
 (hname : (fn.name == "runtime.NumGoroutine") = false) (hb : fn.body.isNone = true) (hn : Extern.findNext fn = none) (he : Extern.find fn = some (Extern.Atomic.update (Op.intArith .add) .i64 true)) (hv : opvs l args = some [.pointer (some ⟨b, i, none⟩), .int .i64 y]) (hxy : -9223372036854775808 ≤ x + y ∧ x + y ≤ 9223372036854775807) :
 Z P w0 n l H o (fun r H' => r = .int .i64 (x + y) ∧ Var e H' b (cs.set i (.int .i64 (x + y))) ∧ Mo (fun c => c = b) H H') := by
 refine Z.ext ho hf hname hb hn he hv (fun w ha => ?_); obtain ⟨h1, h2, fz, h3⟩ := h.cell ha hc; have hw : IntKind.i64.wrap (x + y) = x + y := by rw [IntKind.wrap_i64]; omega
 have hi := (List.getElem?_eq_some_iff.1 hc).1; refine ⟨.int .i64 (x + y), _, w.setRow b (cs.toArray.setIfInBounds i (.int .i64 (x + y))), ?_, ha.row _ _, rfl, ?_, setRow_mo ha _ _⟩
 · have hs : (store ⟨b, i, none⟩ (.int .i64 (x + y)) .atomic).run P w = .ok () (w.setRow b (cs.toArray.setIfInBounds i (.int .i64 (x + y)))) := by
    rw [Go.run_store P w _ _ _ rfl, h1]; simp only [h2, Bool.false_eq_true, if_false]; rw [setCell_eq_setRow w b i cs.toArray e fz _ h3]
   have e1 : Extern.Atomic.update (Op.intArith .add) .i64 true #[.pointer (some ⟨b, i, none⟩), .int .i64 y] = (asAddr (.pointer (some ⟨b, i, none⟩)) >>= fun a => Extern.Atomic.read (.int .i64) a >>= fun old => asInt old >>= fun p => asInt (.int .i64 y) >>= fun q => Op.intArith .add .i64 p q >>= fun new => store a new .atomic >>= fun _ => pure (if true then new else old)) := rfl; show (Extern.Atomic.update (Op.intArith .add) .i64 true #[.pointer (some ⟨b, i, none⟩), .int .i64 y]).run P w = _; rw [e1]; simp [Extern.Atomic.read, asAddr, h1, asInt, asIntOf, Op.intArith, hw, hs]
 · have := setRow_row ha h.row (c := cs.toArray.setIfInBounds i (.int .i64 (x + y))) (by simp)
   exact ⟨by simpa using this⟩
theorem Y.load64 {f : FuncId} {fn : Func} {args : List Operand} {ats : Array TypeId} {e : TypeId} {b i : Nat} {cs : List Value} {x : Int} (h : Var e H b cs) (hc : cs[i]? = some (.int .i64 x)) (ho : o.op = .call { callee := .value (.func f), args := args.toArray, argTypes := ats }) (hf : P.funcs[f]? = some fn)
 (hname : (fn.name == "runtime.NumGoroutine") = false) (hb : fn.body.isNone = true) (hn : Extern.findNext fn = none) (he : Extern.find fn = some (Extern.Atomic.loadT (.int .i64))) (hv : opvs l args = some [.pointer (some ⟨b, i, none⟩)]) : Y P w0 n l H o (.int .i64 x) := by
 refine Y.ext ho hf hname hb hn he hv (fun w ha => ?_); obtain ⟨h1, _⟩ := h.cell ha hc; have e1 : Extern.Atomic.loadT (.int .i64) #[.pointer (some ⟨b, i, none⟩)] = (asAddr (.pointer (some ⟨b, i, none⟩)) >>= fun a => Extern.Atomic.read (.int .i64) a) := rfl; show (Extern.Atomic.loadT (.int .i64) #[.pointer (some ⟨b, i, none⟩)]).run P w = _; rw [e1]; simp [Extern.Atomic.read, asAddr, h1]
end
end Go.Proofs.YtfbfjhppppoilaaGreatDoor.E

namespace Go.Proofs.YtfbfjhppppoilaaGreatDoor.SimC
open E Go.RowKit SimA SimB
set_option maxRecDepth 20000
inductive Role | out | fs | dirs | dir (p : Pth) | now (p : Pth) | sty (p : Pth) | chg (p : Pth) | fil (i : Nat) | wrs (i : Nat) | frz
abbrev ptr (b : Nat) : Value := .pointer (some ⟨b, 0, none⟩)
abbrev fvl (fb : List Nat) (i : Nat) : Value := ptr (fb.getD i 0)
abbrev fpt (fb : List Nat) (o : Option Nat) : Option Addr := o.map (fun i => ⟨fb.getD i 0, 0, none⟩)
abbrev fC (fb : List Nat) (c : Chg) : List Value := [Str c.g, Str c.n, .pointer (fpt fb c.f)]
theorem fC_len (fb : List Nat) (c : Chg) : (fC fb c).length = 3 := rfl
theorem fC_one (fb : List Nat) (c : Chg) : ∀ u ∈ fC fb c, u.oneCell' = true := by
 intro u hu; simp only [List.mem_cons, List.not_mem_nil, or_false] at hu; rcases hu with rfl | rfl | rfl <;> rfl
theorem own_congr {α : Type} {G : Nat → Prop} {e : TypeId} {H : Heap} {f g : α → List Value} {sz : Nat} {v : Value} {l : List α} (h : Own G e H f sz v l) (hc : ∀ x, (g x).length = sz) (h1 : ∀ x, ∀ u ∈ g x, u.oneCell' = true) (hfg : ∀ x ∈ l, f x = g x) : Own G e H g sz v l := by
 refine ⟨hc, h1, ?_⟩; rcases h.ex with h | ⟨b, cap, cur, e1, e2, e3, e4, e5, e6, e7⟩
 · exact .inl h
 · refine .inr ⟨b, cap, cur, e1, e2, e3, e4, e5, e6, ?_⟩
   rw [e7, List.flatMap_def, List.flatMap_def, List.map_congr_left hfg]
theorem ow_congr {α : Type} {k : Nat} {e : TypeId} {H : Heap} {f g : α → List Value} {sz : Nat} {v : Value} {l : List α} (h : Ow k e H f sz v l) (hc : ∀ x, (g x).length = sz) (h1 : ∀ x, ∀ u ∈ g x, u.oneCell' = true) (hfg : ∀ x ∈ l, f x = g x) : Ow k e H g sz v l := ⟨own_congr h.own hc h1 hfg, h.le⟩
theorem mp_congr {κ β : Type} {H : Heap} {fk : κ → Value} {f g : β → Value} {b : Nat} {m : List (κ × β)} (h : Mp H fk f b m) (hfg : ∀ x ∈ m, f x.2 = g x.2) : Mp H fk g b m := by
 obtain ⟨r, es, clock, h1, h2, h3, h4, h5⟩ := h.mo.ex; exact ⟨⟨r, es, clock, h1, h2, h3, h4, by rw [h5]; exact List.map_congr_left (fun x hx => by rw [hfg x hx])⟩⟩
section
variable {ρ ρ' : Nat → Role} {fb : List Nat} {H H' : Heap} {D D' : Dk} {p : Pth} {db nb sb k i b : Nat} {sv nv wv : SV} {nm sm : Nms} {x : Fdt} {l : List Wx} {S : Nat → Prop}
structure DirO (ρ : Nat → Role) (fb : List Nat) (H : Heap) (D : Dk) (p : Pth) (db nb sb k : Nat) (sv : SV) (nm sm : Nms) : Prop where
 rd : ρ db = .dir p
 vd : Var 88 H db [.map (some nb), .map (some sb), sv.v]
 rn : ρ nb = .now p
 hn : Mp H Str (fvl fb) nb nm
 rs : ρ sb = .sty p
 hs : Mp H Str (fvl fb) sb sm
 en : ∀ q, mget nm q = if dirP q = p then mget D.now q else none
 es : ∀ q, mget sm q = if dirP q = p then mget D.stays q else none
 hc : Ow k 98 H (fC fb) 3 sv.v (D.chgs p)
 rc : ∀ c, c + 1 = k → ρ c = .chg p
structure FilO (ρ : Nat → Role) (H : Heap) (i b : Nat) (x : Fdt) (nv sv wv : SV) (k : Nat) (l : List Wx) : Prop where
 rf : ρ b = .fil i
 vf : Var 106 H b [nv.v, sv.v, wv.v]
 hn : Rd (fun c => ρ c = .frz) H fB 1 nv.v x.now
 hs : Rd (fun c => ρ c = .frz) H fB 1 sv.v x.stays
 hw : Ow k 76 H fW 2 wv.v l
 lw : l.map (·.1) = x.w
 hd : ∀ y ∈ l, Rd (fun c => ρ c = .frz) H fB 1 y.2.v y.1.d
 rk : ∀ c, c + 1 = k → ρ c = .wrs i
def Ext (ρ ρ' : Nat → Role) : Prop := ∀ c, ρ c ≠ .out → ρ' c = ρ c
theorem Ext.refl (ρ : Nat → Role) : Ext ρ ρ := fun _ _ => rfl
theorem Ext.of (h : Ext ρ ρ') {c : Nat} {r : Role} (e : ρ c = r) (hr : r ≠ .out) : ρ' c = r := by rw [h c (by rw [e]; exact hr)]; exact e
theorem rd_frz {α : Type} {f : α → List Value} {sz : Nat} {v : Value} {l : List α} (h : Rd (fun c => ρ c = .frz) H f sz v l) (hx : Ext ρ ρ') (s : Mo S H H') (hS : ∀ c, S c → ρ c ≠ .frz) : Rd (fun c => ρ' c = .frz) H' f sz v l :=
 (h.up s (fun b _ e hs => hS b hs e)).imp (fun b _ e => hx.of e (by simp))
theorem DirO.tr (h : DirO ρ fb H D p db nb sb k sv nm sm) (hx : Ext ρ ρ') (s : Mo S H H') (hS : ∀ c, S c → ρ c ≠ .dir p ∧ ρ c ≠ .now p ∧ ρ c ≠ .sty p ∧ ρ c ≠ .chg p)
 (hn : ∀ q, dirP q = p → mget D'.now q = mget D.now q) (hs : ∀ q, dirP q = p → mget D'.stays q = mget D.stays q) (hc : D'.chgs p = D.chgs p) : DirO ρ' fb H' D' p db nb sb k sv nm sm where
 rd := hx.of h.rd (by simp)
 vd := h.vd.up s (fun e => (hS _ e).1 h.rd)
 rn := hx.of h.rn (by simp)
 hn := h.hn.up s (fun e => (hS _ e).2.1 h.rn)
 rs := hx.of h.rs (by simp)
 hs := h.hs.up s (fun e => (hS _ e).2.2.1 h.rs)
 en := fun q => by rw [h.en]; split
                   · rename_i e; rw [hn q e]
                   · rfl
 es := fun q => by rw [h.es]; split
                   · rename_i e; rw [hs q e]
                   · rfl
 hc := by rw [hc]; exact h.hc.up s (fun b _ e hb => (hS b hb).2.2.2 (h.rc b e))
 rc := fun c e => hx.of (h.rc c e) (by simp)
theorem FilO.tr (h : FilO ρ H i b x nv sv wv k l) (hx : Ext ρ ρ') (s : Mo S H H') (hS : ∀ c, S c → ρ c ≠ .fil i ∧ ρ c ≠ .wrs i ∧ ρ c ≠ .frz) : FilO ρ' H' i b x nv sv wv k l where
 rf := hx.of h.rf (by simp)
 vf := h.vf.up s (fun e => (hS _ e).1 h.rf)
 hn := rd_frz h.hn hx s (fun c e => (hS c e).2.2)
 hs := rd_frz h.hs hx s (fun c e => (hS c e).2.2)
 hw := h.hw.up s (fun b _ e hb => (hS b hb).2.1 (h.rk b e))
 lw := h.lw
 hd := fun y hy => rd_frz (h.hd y hy) hx s (fun c e => (hS c e).2.2)
 rk := fun c e => hx.of (h.rk c e) (by simp)
structure Gh where
 ρ : Nat → Role
 fb : List Nat
 mb : Nat
 dm : List (Pth × Nat)
 lv : Nat
structure PDk (K : List Nat) (g : Gh) (H : Heap) (b : Nat) (D : Dk) : Prop where
 hK : ∀ c, c + 1 ∈ K ↔ g.ρ c ≠ .out
 lt : ∀ c, g.ρ c ≠ .out → c < H.size
 rb : g.ρ b = .fs
 vb : Var 50 H b [.int .i64 D.cap, .int .i64 D.most, .map (some g.mb), .int .i64 D.ops, .int .i64 g.lv, .bool D.dead]
 lvD : D.dead = false → g.lv = D.left
 lvB : g.lv ≤ 9223372036854775807
 capB : D.cap ≤ 9223372036854775807
 mostB : D.most ≤ 9223372036854775807
 rm : g.ρ g.mb = .dirs
 hm : Mp H Str ptr g.mb g.dm
 dirs : ∀ p db, mget g.dm p = some db → ∃ nb sb k sv nm sm, DirO g.ρ g.fb H D p db nb sb k sv nm sm
 abs : ∀ p, mget g.dm p = none → (∀ q, dirP q = p → mget D.now q = none ∧ mget D.stays q = none) ∧ D.chgs p = []
 len : g.fb.length = D.fs.length
 fil : ∀ i, i < D.fs.length → ∃ nv sv wv k l, FilO g.ρ H i (g.fb.getD i 0) (fget D.fs i) nv sv wv k l
 ids : (∀ p i, mget D.now p = some i → i < D.fs.length) ∧ (∀ p i, mget D.stays p = some i → i < D.fs.length) ∧ (∀ c ∈ D.log, ∀ i, c.f = some i → i < D.fs.length)
 dml : g.dm.length ≤ D.ops
variable {K K' : List Nat} {g : Gh} {ks : List Nat}
theorem PDk.bk (h : PDk K g H b D) : BK K H.size := fun k hk => by
 rcases Nat.eq_zero_or_pos k with e | this
 · omega
 · have h2 := h.lt (k - 1) ((h.hK (k - 1)).1 (by rw [Nat.sub_add_cancel this]; exact hk))
   omega
theorem PDk.up (h : PDk K g H b D) (s : Mo S H H') (hS : ∀ c, S c → g.ρ c = .out) : PDk K g H' b D where
 hK := h.hK
 lt := fun c e => Nat.lt_of_lt_of_le (h.lt c e) s.size
 rb := h.rb
 vb := h.vb.up s (fun e => by have := hS _ e; rw [h.rb] at this; cases this)
 lvD := h.lvD
 lvB := h.lvB
 capB := h.capB
 mostB := h.mostB
 rm := h.rm
 hm := h.hm.up s (fun e => by have := hS _ e; rw [h.rm] at this; cases this)
 dirs := fun p db e => by
  obtain ⟨nb, sb, k, sv, nm, sm, hd⟩ := h.dirs p db e; exact ⟨nb, sb, k, sv, nm, sm, hd.tr (Ext.refl _) s (fun c hc => by rw [hS c hc]; simp) (fun _ _ => rfl) (fun _ _ => rfl) rfl⟩
 abs := h.abs
 len := h.len
 fil := fun i hi => by
  obtain ⟨nv, sv, wv, k, l, hf⟩ := h.fil i hi; exact ⟨nv, sv, wv, k, l, hf.tr (Ext.refl _) s (fun c hc => by rw [hS c hc]; simp)⟩
 ids := h.ids
 dml := h.dml
theorem PDk.nw (h : PDk K g H b D) (s : Nw H H') : PDk K g H' b D := h.up s (fun c e => e.elim)
theorem PDk.role (h : PDk K g H b D) {c : Nat} (hc : c + 1 ∉ K) : g.ρ c = .out := Classical.byContradiction (fun e => hc ((h.hK c).2 e))
theorem PDk.upL (h : PDk K g H b D) (s : Mo (Ms ks) H H') (d : DKL K ks) : PDk K g H' b D := h.up s (fun c e => h.role (fun hk => d (c + 1) hk (c + 1) e c rfl rfl))
theorem PDk.mem (h : PDk K g H b D) {c : Nat} {r : Role} (e : g.ρ c = r) (hr : r ≠ .out) : c + 1 ∈ K := (h.hK c).2 (by rw [e]; exact hr)
theorem PDk.km {r : Role} (h : PDk K g H b D) (hk : ∀ c, c + 1 = k → g.ρ c = r) (hr : r ≠ .out) : KM K k := fun c e => h.mem (hk c e) hr
theorem PDk.km1 {c : Nat} {r : Role} (h : PDk K g H b D) (e : g.ρ c = r) (hr : r ≠ .out) : KM K (c + 1) := KM.of (h.mem e hr)
theorem PDk.ms (h : PDk K g H b D) (s : Mo S H H') (hS : ∀ c, S c → g.ρ c ≠ .out) : Mo (Ms K) H H' := s.weaken (fun c _ e => (h.hK c).2 (hS c e))
theorem PDk.setFs {g' : Gh} (h : PDk K g H b D) (s : Mo (Ms [b + 1]) H H') (hg : g'.ρ = g.ρ ∧ g'.fb = g.fb ∧ g'.mb = g.mb ∧ g'.dm = g.dm)
 (hv : Var 50 H' b [.int .i64 D.cap, .int .i64 D.most, .map (some g.mb), .int .i64 D'.ops, .int .i64 g'.lv, .bool D'.dead]) (hl : D'.dead = false → g'.lv = D'.left) (hlb : g'.lv ≤ 9223372036854775807)
 (hD : D'.cap = D.cap ∧ D'.most = D.most ∧ D'.fs = D.fs ∧ D'.now = D.now ∧ D'.stays = D.stays ∧ D'.log = D.log) (ho : D.ops ≤ D'.ops) : PDk K g' H' b D' := by
 obtain ⟨r, fb, mb, dm, lv⟩ := g'; obtain ⟨rfl, rfl, rfl, rfl⟩ := hg; obtain ⟨cap, most, fs, now, stays, log, ops, left, dead⟩ := D'; obtain ⟨rfl, rfl, rfl, rfl, rfl, rfl⟩ := hD
 have hS : ∀ c, Ms [b + 1] c → g.ρ c = .fs := fun c e => by
  have : c = b := by simpa [Ms] using e
  rw [this]; exact h.rb
 exact {
  hK := h.hK, lt := fun c e => Nat.lt_of_lt_of_le (h.lt c e) s.size, rb := h.rb, vb := hv, lvD := hl, lvB := hlb, capB := h.capB, mostB := h.mostB, rm := h.rm
  hm := h.hm.up s (fun e => by have := hS _ e; rw [h.rm] at this; cases this)
  dirs := fun p db e => by
   obtain ⟨nb, sb, k, sv, nm, sm, hd⟩ := h.dirs p db e; exact ⟨nb, sb, k, sv, nm, sm, hd.tr (Ext.refl _) s (fun c hc => by rw [hS c hc]; simp) (fun _ _ => rfl) (fun _ _ => rfl) rfl⟩
  abs := h.abs, len := h.len
  fil := fun i hi => by
   obtain ⟨nv, sv, wv, k, l, hf⟩ := h.fil i hi; exact ⟨nv, sv, wv, k, l, hf.tr (Ext.refl _) s (fun c hc => by rw [hS c hc]; simp)⟩
  ids := h.ids, dml := Nat.le_trans h.dml ho }
theorem PDk.setDir (h : PDk K g H b D) (s : Mo S H H') (hS : ∀ c, S c → g.ρ c = .dir p ∨ g.ρ c = .now p ∨ g.ρ c = .sty p ∨ g.ρ c = .chg p ∨ g.ρ c = .out) (hx : Ext g.ρ ρ') (hK : ∀ c, c + 1 ∈ K' ↔ ρ' c ≠ .out) (lt : ∀ c, ρ' c ≠ .out → c < H'.size)
 (hp : mget g.dm p = some db) (hd : ∃ nb sb k sv nm sm, DirO ρ' g.fb H' D' p db nb sb k sv nm sm)
 (hD : D'.cap = D.cap ∧ D'.most = D.most ∧ D'.fs = D.fs ∧ D'.ops = D.ops ∧ D'.left = D.left ∧ D'.dead = D.dead)
 (hn : ∀ q, dirP q ≠ p → mget D'.now q = mget D.now q) (hs : ∀ q, dirP q ≠ p → mget D'.stays q = mget D.stays q) (hc : ∀ n, n ≠ p → D'.chgs n = D.chgs n)
 (ids : (∀ p i, mget D'.now p = some i → i < D'.fs.length) ∧ (∀ p i, mget D'.stays p = some i → i < D'.fs.length) ∧ (∀ c ∈ D'.log, ∀ i, c.f = some i → i < D'.fs.length)) : PDk K' { g with ρ := ρ' } H' b D' := by
 obtain ⟨cap, most, fs, now, stays, log, ops, left, dead⟩ := D'; obtain ⟨rfl, rfl, rfl, rfl, rfl, rfl⟩ := hD
 exact {
  hK := hK, lt := lt, rb := hx.of h.rb (by simp)
  vb := h.vb.up s (fun e => by have := hS _ e; rw [h.rb] at this; simp at this)
  lvD := h.lvD, lvB := h.lvB, capB := h.capB, mostB := h.mostB, rm := hx.of h.rm (by simp)
  hm := h.hm.up s (fun e => by have := hS _ e; rw [h.rm] at this; simp at this)
  dirs := fun q db2 e => by
   by_cases hq : q = p
   · subst hq
     have : db2 = db := Option.some.inj (e.symm.trans hp); subst this; exact hd
   · obtain ⟨nb, sb, k, sv, nm, sm, hd⟩ := h.dirs q db2 e
     refine ⟨nb, sb, k, sv, nm, sm, hd.tr hx s (fun c hc => ?_) (fun r hr => hn r (by rw [hr]; exact hq)) (fun r hr => hs r (by rw [hr]; exact hq)) (hc q hq)⟩; rcases hS c hc with e | e | e | e | e <;> (rw [e]; simp [Ne.symm hq])
  abs := fun q e => by
   have hq : q ≠ p := fun e2 => by subst e2; rw [hp] at e; cases e
   obtain ⟨h1, h2⟩ := h.abs q e; exact ⟨fun r hr => by rw [hn r (by rw [hr]; exact hq), hs r (by rw [hr]; exact hq)]; exact h1 r hr, by rw [hc q hq]; exact h2⟩
  len := h.len
  fil := fun i hi => by
   obtain ⟨nv, sv, wv, k, l, hf⟩ := h.fil i hi; refine ⟨nv, sv, wv, k, l, hf.tr hx s (fun c hc => ?_)⟩; rcases hS c hc with e | e | e | e | e <;> (rw [e]; simp)
  ids := ids, dml := h.dml }
theorem PDk.setFil {y : Fdt} (h : PDk K g H b D) (hi : i < D.fs.length) (s : Mo S H H') (hS : ∀ c, S c → g.ρ c = .fil i ∨ g.ρ c = .wrs i ∨ g.ρ c = .out) (hx : Ext g.ρ ρ') (hK : ∀ c, c + 1 ∈ K' ↔ ρ' c ≠ .out) (lt : ∀ c, ρ' c ≠ .out → c < H'.size)
 (hf : ∃ nv sv wv k l, FilO ρ' H' i (g.fb.getD i 0) y nv sv wv k l) : PDk K' { g with ρ := ρ' } H' b (D.putF i y) := by
 have hfl : (D.putF i y).fs.length = D.fs.length := by simp [Dk.putF]
 exact {
  hK := hK, lt := lt, rb := hx.of h.rb (by simp)
  vb := h.vb.up s (fun e => by have := hS _ e; rw [h.rb] at this; simp at this)
  lvD := h.lvD, lvB := h.lvB, capB := h.capB, mostB := h.mostB, rm := hx.of h.rm (by simp)
  hm := h.hm.up s (fun e => by have := hS _ e; rw [h.rm] at this; simp at this)
  dirs := fun q db2 e => by
   obtain ⟨nb, sb, k, sv, nm, sm, hd⟩ := h.dirs q db2 e; refine ⟨nb, sb, k, sv, nm, sm, hd.tr hx s (fun c hc => ?_) (fun _ _ => rfl) (fun _ _ => rfl) rfl⟩; rcases hS c hc with e | e | e <;> (rw [e]; simp)
  abs := h.abs, len := by rw [hfl]; exact h.len
  fil := fun j hj => by
   rw [hfl] at hj; by_cases hji : j = i
   · subst hji
     have e : fget (D.putF j y).fs j = y := by simp [fget, Dk.putF, List.getD, hi]
     rw [e]; exact hf
   · have e : fget (D.putF i y).fs j = fget D.fs j := by simp [fget, Dk.putF, List.getD, List.getElem?_set, Ne.symm hji]
     rw [e]; obtain ⟨nv, sv, wv, k, l, hf⟩ := h.fil j hj; refine ⟨nv, sv, wv, k, l, hf.tr hx s (fun c hc => ?_)⟩; rcases hS c hc with e | e | e <;> (rw [e]; simp [Ne.symm hji])
  ids := by rw [hfl]; exact h.ids
  dml := h.dml }
def upr (ρ : Nat → Role) (x : Nat) (r : Role) : Nat → Role := fun c => if c = x then r else ρ c
theorem upr_self {x : Nat} {r : Role} : upr ρ x r x = r := if_pos rfl
theorem upr_ne {x c : Nat} {r : Role} (h : c ≠ x) : upr ρ x r c = ρ c := if_neg h
theorem Ext.upr {x : Nat} {r : Role} (h : ρ x = .out) : Ext ρ (upr ρ x r) := fun c hc => by
 by_cases e : c = x
 · subst e; exact absurd h hc
 · exact upr_ne e
theorem Ext.trans {ρ2 : Nat → Role} (h : Ext ρ ρ') (h2 : Ext ρ' ρ2) : Ext ρ ρ2 := fun c hc => by
 have e := h c hc; rw [h2 c (by rw [e]; exact hc), e]
theorem hK_upr {x : Nat} {r : Role} (hK : ∀ c, c + 1 ∈ K ↔ ρ c ≠ .out) (hr : r ≠ .out) : ∀ c, c + 1 ∈ (x + 1) :: K ↔ upr ρ x r c ≠ .out := fun c => by
 unfold upr; rw [List.mem_cons]; by_cases e : c = x
 · rw [if_pos e]; simp [e, hr]
 · rw [if_neg e, ← hK]
   constructor
   · rintro (h | h)
     · omega
     · exact h
   · exact .inr
theorem lt_upr {x : Nat} {r : Role} (lt : ∀ c, ρ c ≠ .out → c < H.size) (hs : H.size ≤ H'.size) (hx : x < H'.size) : ∀ c, upr ρ x r c ≠ .out → c < H'.size := fun c hc => by
 unfold upr at hc; split at hc
 · rename_i e; rw [e]; exact hx
 · exact Nat.lt_of_lt_of_le (lt c hc) hs
def uprk (ρ : Nat → Role) (k : Nat) (r : Role) : Nat → Role := fun c => if c + 1 = k then r else ρ c
theorem uprk_self {c : Nat} {r : Role} (h : c + 1 = k) : uprk ρ k r c = r := if_pos h
theorem uprk_ne {c : Nat} {r : Role} (h : c + 1 ≠ k) : uprk ρ k r c = ρ c := if_neg h
theorem Ext.uprk {r : Role} (h : ∀ c, c + 1 = k → ρ c = .out ∨ ρ c = r) : Ext ρ (uprk ρ k r) := fun c hc => by
 unfold SimC.uprk; split
 · rename_i e; rcases h c e with e2 | e2
   · exact absurd e2 hc
   · exact e2.symm
 · rfl
theorem hK_uprk {r : Role} (hK : ∀ c, c + 1 ∈ K ↔ ρ c ≠ .out) (hr : r ≠ .out) : ∀ c, c + 1 ∈ k :: K ↔ uprk ρ k r c ≠ .out := fun c => by
 unfold uprk; rw [List.mem_cons]; by_cases e : c + 1 = k
 · rw [if_pos e]; simp [e, hr]
 · rw [if_neg e, ← hK]; simp [e]
theorem lt_uprk {r : Role} (lt : ∀ c, ρ c ≠ .out → c < H.size) (hs : H.size ≤ H'.size) (hx : k ≤ H'.size) : ∀ c, uprk ρ k r c ≠ .out → c < H'.size := fun c hc => by
 unfold uprk at hc; split at hc
 · omega
 · exact Nat.lt_of_lt_of_le (lt c hc) hs
theorem PDk.newk (h : PDk K g H b D) (hk : DL k K) : ∀ c, c + 1 = k → g.ρ c = .out := fun c e => h.role (fun hm => hk (c + 1) hm c e rfl)
theorem PDk.nxk {k2 : Nat} (h : PDk K g H b D) (hk : Nx k H.size k2) {r : Role} (hr : ∀ c, c + 1 = k → g.ρ c = r) : ∀ c, c + 1 = k2 → g.ρ c = .out ∨ g.ρ c = r := fun c e => by
 rcases hk with e2 | e2 | e2
 · omega
 · exact .inr (hr c (by omega))
 · exact .inl (Classical.byContradiction (fun hq => by have := h.lt c hq; omega))
theorem PDk.newFil {x : Nat} (h : PDk K g H b D) (hv : Var 106 H x [.slice none 0 0, .slice none 0 0, .slice none 0 0]) (hx : DL (x + 1) K) :
 PDk ((x + 1) :: K) { g with ρ := upr g.ρ x (.fil D.fs.length), fb := g.fb ++ [x] } H b { D with fs := D.fs ++ [⟨[], [], []⟩] } := by
 have ho : g.ρ x = .out := h.role (fun hk => hx (x + 1) hk x rfl rfl); have he : Ext g.ρ (upr g.ρ x (.fil D.fs.length)) := Ext.upr ho; have hg : ∀ i, i < D.fs.length → (g.fb ++ [x]).getD i 0 = g.fb.getD i 0 := fun i hi => by simp [List.getD, List.getElem?_append_left (show i < g.fb.length by rw [h.len]; exact hi)]
 have hS : ∀ c, (fun _ => False) c → g.ρ c = .out := fun _ e => e.elim
 exact {
  hK := hK_upr h.hK (by simp), lt := lt_upr h.lt (Nat.le_refl _) hv.lt, rb := he.of h.rb (by simp), vb := h.vb
  lvD := h.lvD, lvB := h.lvB, capB := h.capB, mostB := h.mostB, rm := he.of h.rm (by simp), hm := h.hm
  dirs := fun q db2 e => by
   obtain ⟨nb, sb, k, sv, nm, sm, hd⟩ := h.dirs q db2 e; have hd2 := hd.tr (D' := D) he (Mo.refl (fun _ => False) H) (fun c hc => hc.elim) (fun _ _ => rfl) (fun _ _ => rfl) rfl; refine ⟨nb, sb, k, sv, nm, sm, { hd2 with hn := mp_congr hd2.hn (fun y hy => ?_), hs := mp_congr hd2.hs (fun y hy => ?_), hc := ow_congr hd2.hc (fC_len _) (fC_one _) (fun c hc => ?_) }⟩
   · have := h.ids.1 y.1 y.2 (by
      have e2 := mget_of_mem hd.hn.mo.nodup (show (y.1, y.2) ∈ nm from hy); rw [hd.en] at e2; split at e2
      · exact e2
      · cases e2)
     rw [fvl, fvl, hg _ this]
   · have := h.ids.2.1 y.1 y.2 (by
      have e2 := mget_of_mem hd.hs.mo.nodup (show (y.1, y.2) ∈ sm from hy); rw [hd.es] at e2; split at e2
      · exact e2
      · cases e2)
     rw [fvl, fvl, hg _ this]
   · have := h.ids.2.2 c (List.mem_filter.1 hc).1
     unfold fC fpt
     cases hcf : c.f with
     | none => rfl
     | some i => simp only [Option.map_some]; rw [hg i (this i hcf)]
  abs := h.abs
  len := by simp [h.len]
  fil := fun j hj => by
   by_cases hj2 : j < D.fs.length
   · obtain ⟨nv, sv, wv, k, l, hf⟩ := h.fil j hj2
     have e : fget (D.fs ++ [⟨[], [], []⟩]) j = fget D.fs j := by simp [fget, List.getD, List.getElem?_append_left hj2]
     rw [hg j hj2]; refine ⟨nv, sv, wv, k, l, ?_⟩; show FilO _ H j _ (fget (D.fs ++ [⟨[], [], []⟩]) j) _ _ _ _ _; rw [e]; exact hf.tr he (Mo.refl (fun _ => False) H) (fun c hc => hc.elim)
   · have hj3 : j = D.fs.length := by simp at hj; omega
     subst hj3; have e : fget (D.fs ++ [⟨[], [], []⟩]) D.fs.length = ⟨[], [], []⟩ := by simp [fget, List.getD]
     have e2 : (g.fb ++ [x]).getD D.fs.length 0 = x := by rw [← h.len]; simp [List.getD]
     refine ⟨⟨none, 0, 0⟩, ⟨none, 0, 0⟩, ⟨none, 0, 0⟩, 0, [], ?_⟩; show FilO _ H _ ((g.fb ++ [x]).getD D.fs.length 0) (fget (D.fs ++ [⟨[], [], []⟩]) D.fs.length) _ _ _ _ _; rw [e, e2]; exact { rf := upr_self, vf := hv, hn := Rd.nil _ _ _ _, hs := Rd.nil _ _ _ _, hw := Ow.nil fW_len fW_one, lw := rfl, hd := fun y hy => (by cases hy), rk := fun c e => (by omega) }
  ids := by
   have hl : ({ D with fs := D.fs ++ [⟨[], [], []⟩] } : Dk).fs.length = D.fs.length + 1 := by simp
   rw [hl]; exact ⟨fun p i e => Nat.lt_succ_of_lt (h.ids.1 p i e), fun p i e => Nat.lt_succ_of_lt (h.ids.2.1 p i e), fun c hc i e => Nat.lt_succ_of_lt (h.ids.2.2 c hc i e)⟩
  dml := h.dml }
theorem PDk.newDir {db nb sb : Nat} (h : PDk K g H b D) (hp : mget g.dm p = none) (hvd : Var 88 H db [.map (some nb), .map (some sb), .slice none 0 0]) (hn : Mp H Str (fvl g.fb) nb ([] : Nms)) (hs : Mp H Str (fvl g.fb) sb ([] : Nms))
 (hxd : DL (db + 1) K) (hxn : DL (nb + 1) K) (hxs : DL (sb + 1) K) (hdn : db ≠ nb) (hds : db ≠ sb) (hns : nb ≠ sb) (s : Mo (Ms [g.mb + 1]) H H') (hm : Mp H' Str ptr g.mb (mput g.dm p db)) (hl : g.dm.length + 1 ≤ D.ops) :
 PDk ((db + 1) :: (sb + 1) :: (nb + 1) :: K) { g with ρ := upr (upr (upr g.ρ nb (.now p)) sb (.sty p)) db (.dir p), dm := mput g.dm p db } H' b D := by
 have on : g.ρ nb = .out := h.role (fun hk => hxn (nb + 1) hk nb rfl rfl); have os : g.ρ sb = .out := h.role (fun hk => hxs (sb + 1) hk sb rfl rfl); have od : g.ρ db = .out := h.role (fun hk => hxd (db + 1) hk db rfl rfl)
 have he : Ext g.ρ (upr (upr (upr g.ρ nb (.now p)) sb (.sty p)) db (.dir p)) := by
  refine (Ext.upr on).trans ((Ext.upr ?_).trans (Ext.upr ?_))
  · rw [upr_ne (Ne.symm hns)]; exact os
  · rw [upr_ne hds, upr_ne hdn]; exact od
 have hS : ∀ c, Ms [g.mb + 1] c → g.ρ c = .dirs := fun c e => by
  have : c = g.mb := by simpa [Ms] using e
  rw [this]; exact h.rm
 have hlt : ∀ c, g.ρ c = .out → c ≠ g.mb := fun c e e2 => by rw [e2, h.rm] at e; cases e
 obtain ⟨ab1, ab2⟩ := h.abs p hp
 exact {
  hK := hK_upr (hK_upr (hK_upr h.hK (by simp)) (by simp)) (by simp)
  lt := lt_upr (lt_upr (lt_upr h.lt (Nat.le_refl _) hn.lt) (Nat.le_refl _) hs.lt) s.size (Nat.lt_of_lt_of_le hvd.lt s.size), rb := he.of h.rb (by simp)
  vb := h.vb.up s (fun e => by have := hS _ e; rw [h.rb] at this; simp at this)
  lvD := h.lvD, lvB := h.lvB, capB := h.capB, mostB := h.mostB, rm := he.of h.rm (by simp), hm := hm
  dirs := fun q db2 e => by
   rw [mget_put] at e; by_cases hq : q = p
   · rw [if_pos hq] at e
     have e := Option.some.inj e; subst e; subst hq; refine ⟨nb, sb, 0, ⟨none, 0, 0⟩, [], [], ?_⟩; have hup : ∀ c, g.ρ c = .out → ¬ Ms [g.mb + 1] c := fun c e e2 => by have := hS c e2; rw [e] at this; cases this
     exact { rd := upr_self, vd := hvd.up s (hup _ od), rn := by show upr (upr (upr g.ρ nb _) sb _) db _ nb = _; rw [upr_ne (Ne.symm hdn), upr_ne hns, upr_self], hn := hn.up s (hup _ on), rs := by show upr (upr (upr g.ρ nb _) sb _) db _ sb = _; rw [upr_ne (Ne.symm hds), upr_self], hs := hs.up s (hup _ os)
             en := fun r => by
              rw [mget]; split
              · rename_i hr; rw [(ab1 r hr).1]
              · rfl
             es := fun r => by
              rw [mget]; split
              · rename_i hr; rw [(ab1 r hr).2]
              · rfl
             hc := by rw [ab2]; exact Ow.nil (fC_len _) (fC_one _), rc := fun c e => (by omega) }
   · rw [if_neg hq] at e
     obtain ⟨nb, sb, k, sv, nm, sm, hd⟩ := h.dirs q db2 e; exact ⟨nb, sb, k, sv, nm, sm, hd.tr he s (fun c hc => by rw [hS c hc]; simp) (fun _ _ => rfl) (fun _ _ => rfl) rfl⟩
  abs := fun q e => by
   rw [mget_put] at e; by_cases hq : q = p
   · rw [if_pos hq] at e; cases e
   · rw [if_neg hq] at e; exact h.abs q e
  len := h.len
  fil := fun i hi => by
   obtain ⟨nv, sv, wv, k, l, hf⟩ := h.fil i hi; exact ⟨nv, sv, wv, k, l, hf.tr he s (fun c hc => by rw [hS c hc]; simp)⟩
  ids := h.ids
  dml := by
   have : (mput g.dm p db).length = g.dm.length + 1 := by simp [mput, hp]
   show (mput g.dm p db).length ≤ _; omega }
theorem PDk.put {c : Chg} {m' : Nms} (h : PDk K g H b D) (hp : mget g.dm p = some db) (hd : DirO g.ρ g.fb H D p db nb sb k sv nm sm) (s : Mo (Ms [nb + 1]) H H') (hm : Mp H' Str (fvl g.fb) nb m') (hm' : ∀ q, mget m' q = c.at q (mget nm q))
 (hcn : ∀ i, c.f = some i → dirP c.n = p ∧ i < D.fs.length) (hcg : c.g ≠ [] → dirP c.g = p) : PDk K g H' b { D with now := c.ap D.now } ∧ Mo (Ms K) H H' := by
 have hS : ∀ x, Ms [nb + 1] x → g.ρ x = .now p := fun x e => by
  have : x = nb := by simpa [Ms] using e
  rw [this]; exact hd.rn
 have hat : ∀ q o, dirP q ≠ p → c.at q o = o := fun q o hq => by
  unfold Chg.at
  cases hcf : c.f with
  | none =>
    simp only
    rw [if_neg (fun e => hq (by rw [e.2]; exact hcg e.1))]
  | some i =>
    simp only; rw [if_neg (fun e => hq (by rw [e]; exact (hcn i hcf).1)), if_neg (fun e => hq (by rw [e.2]; exact hcg e.1))]
 refine ⟨?_, h.ms s (fun x e => by rw [hS x e]; simp)⟩; have hup : ∀ x, g.ρ x ≠ .now p → ¬ Ms [nb + 1] x := fun x hx e => hx (hS x e); refine h.setDir (ρ' := g.ρ) s (fun x e => .inr (.inl (hS x e))) (Ext.refl _) h.hK (fun x e => Nat.lt_of_lt_of_le (h.lt x e) s.size) hp ⟨nb, sb, k, sv, m', sm, ?_⟩ ⟨rfl, rfl, rfl, rfl, rfl, rfl⟩ (fun q hq => ?_) (fun q hq => rfl) (fun n hn => rfl) ⟨fun q i e => ?_, h.ids.2.1, h.ids.2.2⟩
 · exact { rd := hd.rd, vd := hd.vd.up s (hup _ (by rw [hd.rd]; simp)), rn := hd.rn, hn := hm, rs := hd.rs, hs := hd.hs.up s (hup _ (by rw [hd.rs]; simp))
           en := fun q => by
            show _ = if dirP q = p then mget (c.ap D.now) q else none; rw [hm', hd.en, mget_ap]; split
            · rfl
            · rename_i hq; exact hat q none hq
           es := hd.es, hc := hd.hc.up s (fun x _ e => hup x (by rw [hd.rc x e]; simp)), rc := hd.rc }
 · show mget (c.ap D.now) q = mget D.now q
   rw [mget_ap]; exact hat q _ hq
 · have e : mget (c.ap D.now) q = some i := e
   rw [mget_ap] at e; unfold Chg.at at e
   cases hcf : c.f with
   | none =>
     rw [hcf] at e; simp only at e; split at e
     · cases e
     · exact h.ids.1 q i e
   | some j =>
     rw [hcf] at e; simp only at e; split at e
     · cases e; exact (hcn _ hcf).2
     · split at e
       · cases e
       · exact h.ids.1 q i e
theorem PDk.note {c : Chg} {k2 : Nat} {sv2 : SV} (h : PDk K g H b D) (hp : mget g.dm p = some db) (hd : DirO g.ρ g.fb H D p db nb sb k sv nm sm) (s : Mo (Ms [db + 1, k]) H H') (hv : Var 88 H' db [.map (some nb), .map (some sb), sv2.v]) (hc : Ow k2 98 H' (fC g.fb) 3 sv2.v (D.chgs p ++ [c])) (hk : Nx k H.size k2)
 (hcd : c.dir = p) (hcf : ∀ i, c.f = some i → i < D.fs.length) : PDk (k2 :: K) { g with ρ := uprk g.ρ k2 (.chg p) } H' b { D with log := D.log ++ [c] } := by
 have hS : ∀ x, Ms [db + 1, k] x → g.ρ x = .dir p ∨ g.ρ x = .chg p := fun x e => by
  have : x + 1 = db + 1 ∨ x + 1 = k := by simpa [Ms] using e
  rcases this with e | e
  · exact .inl (by rw [show x = db by omega]; exact hd.rd)
  · exact .inr (hd.rc x e)
 have hx : Ext g.ρ (uprk g.ρ k2 (.chg p)) := Ext.uprk (h.nxk hk hd.rc); have hup : ∀ x, g.ρ x ≠ .dir p → g.ρ x ≠ .chg p → ¬ Ms [db + 1, k] x := fun x h1 h2 e => (hS x e).elim h1 h2; have hch : ({ D with log := D.log ++ [c] } : Dk).chgs p = D.chgs p ++ [c] := by simp [Dk.chgs, hcd]
 refine h.setDir s (fun x e => (hS x e).elim .inl (fun e => .inr (.inr (.inr (.inl e))))) hx (hK_uprk h.hK (by simp)) (lt_uprk h.lt s.size hc.le) hp ⟨nb, sb, k2, sv2, nm, sm, ?_⟩ ⟨rfl, rfl, rfl, rfl, rfl, rfl⟩ (fun q hq => rfl) (fun q hq => rfl) (fun n hn => ?_) ⟨h.ids.1, h.ids.2.1, fun x hxm i e => ?_⟩
 · exact { rd := hx.of hd.rd (by simp), vd := hv, rn := hx.of hd.rn (by simp), hn := hd.hn.up s (hup _ (by rw [hd.rn]; simp) (by rw [hd.rn]; simp)), rs := hx.of hd.rs (by simp), hs := hd.hs.up s (hup _ (by rw [hd.rs]; simp) (by rw [hd.rs]; simp))
           en := hd.en, es := hd.es, hc := by rw [hch]; exact hc, rc := fun x e => uprk_self e }
 · simp [Dk.chgs, hcd, Ne.symm hn]
 · rcases List.mem_append.1 hxm with hm | hm
   · exact h.ids.2.2 x hm i e
   · rw [List.mem_singleton.1 hm] at e; exact hcf i e
theorem PDk.fnow {nw : List UInt8} {kn : Nat} {nv2 : SV} {bi : Nat} (h : PDk K g H b D) (hi : i < D.fs.length) (hf : FilO g.ρ H i (g.fb.getD i 0) (fget D.fs i) nv sv wv k l) (e : g.fb.getD i 0 = bi) (s : Mo (Ms [bi + 1]) H H') (hv : Var 106 H' bi [nv2.v, sv.v, wv.v]) (hn : Ow kn 5 H' fB 1 nv2.v nw) (hk : DL kn K) :
 PDk (kn :: K) { g with ρ := uprk g.ρ kn .frz } H' b (D.putF i ⟨nw, (fget D.fs i).stays, (fget D.fs i).w⟩) := by
 subst e
 have hS : ∀ x, Ms [g.fb.getD i 0 + 1] x → g.ρ x = .fil i := fun x e => by
  have : x = g.fb.getD i 0 := by simpa [Ms] using e
  rw [this]; exact hf.rf
 have hx : Ext g.ρ (uprk g.ρ kn .frz) := Ext.uprk (fun c e => .inl (h.newk hk c e)); have hfz : ∀ c, Ms [g.fb.getD i 0 + 1] c → g.ρ c ≠ .frz := fun c e => by rw [hS c e]; simp
 refine h.setFil hi s (fun x e => .inl (hS x e)) hx (hK_uprk h.hK (by simp)) (lt_uprk h.lt s.size hn.le) ⟨nv2, sv, wv, k, l, ?_⟩
 exact { rf := hx.of hf.rf (by simp), vf := hv, hn := hn.rd.imp (fun c _ e => uprk_self e), hs := rd_frz hf.hs hx s hfz
         hw := hf.hw.up s (fun c _ e hc => by have := hS c hc; rw [hf.rk c e] at this; cases this), lw := hf.lw, hd := fun y hy => rd_frz (hf.hd y hy) hx s hfz, rk := fun c e => hx.of (hf.rk c e) (by simp) }
theorem PDk.fwr {w : Wr} {sd wv2 : SV} {kd k2 bi : Nat} (h : PDk K g H b D) (hi : i < D.fs.length) (hf : FilO g.ρ H i (g.fb.getD i 0) (fget D.fs i) nv sv wv k l) (e : g.fb.getD i 0 = bi) (s : Mo (Ms [bi + 1, k]) H H') (hv : Var 106 H' bi [nv.v, sv.v, wv2.v]) (hw : Ow k2 76 H' fW 2 wv2.v (l ++ [(w, sd)])) (hk2 : Nx k H.size k2)
 (hd : Ow kd 5 H' fB 1 sd.v w.d) (hk : DL kd (k2 :: K)) :
 PDk (kd :: k2 :: K) { g with ρ := uprk (uprk g.ρ k2 (.wrs i)) kd .frz } H' b (D.putF i ⟨(fget D.fs i).now, (fget D.fs i).stays, (fget D.fs i).w ++ [w]⟩) := by
 subst e
 have hS : ∀ x, Ms [g.fb.getD i 0 + 1, k] x → g.ρ x = .fil i ∨ g.ρ x = .wrs i := fun x e => by
  have : x + 1 = g.fb.getD i 0 + 1 ∨ x + 1 = k := by simpa [Ms] using e
  rcases this with e | e
  · exact .inl (by rw [show x = g.fb.getD i 0 by omega]; exact hf.rf)
  · exact .inr (hf.rk x e)
 have hx1 : Ext g.ρ (uprk g.ρ k2 (.wrs i)) := Ext.uprk (h.nxk hk2 hf.rk)
 have hkd : ∀ c, c + 1 = kd → c + 1 ≠ k2 ∧ g.ρ c = .out := fun c e => by
  have h1 : c + 1 ≠ k2 := fun e2 => hk k2 List.mem_cons_self c e e2; exact ⟨h1, h.newk (fun k hk2 => hk k (List.mem_cons_of_mem _ hk2)) c e⟩
 have hx2 : Ext (uprk g.ρ k2 (.wrs i)) (uprk (uprk g.ρ k2 (.wrs i)) kd .frz) := Ext.uprk (fun c e => .inl (by rw [uprk_ne (hkd c e).1]; exact (hkd c e).2)); have hx := hx1.trans hx2; have hfz : ∀ c, Ms [g.fb.getD i 0 + 1, k] c → g.ρ c ≠ .frz := fun c e => by rcases hS c e with e | e <;> (rw [e]; simp)
 refine h.setFil hi s (fun x e => (hS x e).elim .inl (fun e => .inr (.inl e))) hx (hK_uprk (hK_uprk h.hK (by simp)) (by simp)) (lt_uprk (lt_uprk h.lt s.size hw.le) (Nat.le_refl _) hd.le) ⟨nv, sv, wv2, k2, l ++ [(w, sd)], ?_⟩
 exact { rf := hx.of hf.rf (by simp), vf := hv, hn := rd_frz hf.hn hx s hfz, hs := rd_frz hf.hs hx s hfz, hw := hw, lw := by rw [List.map_append, hf.lw]; rfl
         hd := fun y hy => by
          rcases List.mem_append.1 hy with hy | hy
          · exact rd_frz (hf.hd y hy) hx s hfz
          · rw [List.mem_singleton.1 hy]; exact hd.rd.imp (fun c _ e => uprk_self e)
         rk := fun c e => by rw [uprk_ne (fun e2 => (hkd c e2).1 e)]; exact uprk_self e }
theorem PDk.fsync {bi : Nat} (h : PDk K g H b D) (hi : i < D.fs.length) (hf : FilO g.ρ H i (g.fb.getD i 0) (fget D.fs i) nv sv wv k l) (e : g.fb.getD i 0 = bi) (s : Mo (Ms [bi + 1]) H H') (hv : Var 106 H' bi [nv.v, nv.v, .slice none 0 0]) : PDk K g H' b (D.syncF i) := by
 subst e
 have hS : ∀ x, Ms [g.fb.getD i 0 + 1] x → g.ρ x = .fil i := fun x e => by
  have : x = g.fb.getD i 0 := by simpa [Ms] using e
  rw [this]; exact hf.rf
 have hfz : ∀ c, Ms [g.fb.getD i 0 + 1] c → g.ρ c ≠ .frz := fun c e => by rw [hS c e]; simp
 refine h.setFil (ρ' := g.ρ) hi s (fun x e => .inl (hS x e)) (Ext.refl _) h.hK (fun c e => Nat.lt_of_lt_of_le (h.lt c e) s.size) ⟨nv, nv, ⟨none, 0, 0⟩, 0, [], ?_⟩; exact { rf := hf.rf, vf := hv, hn := rd_frz hf.hn (Ext.refl _) s hfz, hs := rd_frz hf.hn (Ext.refl _) s hfz, hw := Ow.nil fW_len fW_one, lw := rfl, hd := fun y hy => (by cases hy), rk := fun c e => (by omega) }
theorem PDk.flose {bl : List UInt8} {kn bi : Nat} {nv2 : SV} (h : PDk K g H b D) (hi : i < D.fs.length) (hf : FilO g.ρ H i (g.fb.getD i 0) (fget D.fs i) nv sv wv k l) (e : g.fb.getD i 0 = bi) (s : Mo (Ms [bi + 1]) H H') (hv : Var 106 H' bi [nv2.v, nv2.v, .slice none 0 0]) (hn : Qr kn H' fB 1 nv2.v bl) (hk : ∀ c, c + 1 = kn → g.ρ c = .frz ∨ g.ρ c = .out) :
 PDk (kn :: K) { g with ρ := uprk g.ρ kn .frz } H' b (D.putF i ⟨bl, bl, []⟩) := by
 subst e
 have hS : ∀ x, Ms [g.fb.getD i 0 + 1] x → g.ρ x = .fil i := fun x e => by
  have : x = g.fb.getD i 0 := by simpa [Ms] using e
  rw [this]; exact hf.rf
 have hx : Ext g.ρ (uprk g.ρ kn .frz) := Ext.uprk (fun c e => (hk c e).symm); have hr : Rd (fun c => uprk g.ρ kn .frz c = .frz) H' fB 1 nv2.v bl := hn.rd.imp (fun c _ e => uprk_self e); refine h.setFil hi s (fun x e => .inl (hS x e)) hx (hK_uprk h.hK (by simp)) (lt_uprk h.lt s.size hn.le) ⟨nv2, nv2, ⟨none, 0, 0⟩, 0, [], ?_⟩; exact { rf := hx.of hf.rf (by simp), vf := hv, hn := hr, hs := hr, hw := Ow.nil fW_len fW_one, lw := rfl, hd := fun y hy => (by cases hy), rk := fun c e => (by omega) }
theorem FilO.atb {b0 bi : Nat} (h : FilO ρ H i b0 x nv sv wv k l) (e : b0 = bi) : Var 106 H bi [nv.v, sv.v, wv.v] := e ▸ h.vf
theorem PDk.kmf {b0 bi : Nat} (h : PDk K g H b D) (hf : FilO g.ρ H i b0 x nv sv wv k l) (e : b0 = bi) : KM K (bi + 1) := e ▸ h.km1 hf.rf (by simp)
theorem FilO.ne {b0 bi : Nat} (h : FilO ρ H i b0 x nv sv wv k l) (e : b0 = bi) : Dj (bi + 1) k := fun c h1 h2 => by
 have h3 := h.rk c h2; rw [show c = b0 by omega, h.rf] at h3; cases h3
theorem rd_q {α : Type} {F : Nat → Prop} {f : α → List Value} {sz : Nat} {v : Value} {l : List α} (h : Rd F H f sz v l) : ∃ k, Qr k H f sz v l ∧ ∀ c, c + 1 = k → F c := by
 obtain ⟨a, cap, h1, h2, h3, h4⟩ := h.ex; by_cases hl : l = []
 · exact ⟨0, ⟨⟨a, cap, h1, h2, h3, fun h => absurd hl h⟩, Nat.zero_le _⟩, fun c e => (by omega)⟩
 · obtain ⟨ad, e1, e2, e3, e4, e5⟩ := h4 hl
   exact ⟨ad.block + 1, ⟨⟨a, cap, h1, h2, h3, fun _ => ⟨ad, e1, e2, rfl, e4, e5⟩⟩, e4⟩, fun c e => by rw [show c = ad.block by omega]; exact e3⟩
theorem PDk.dsync {s2 : Nat} {sm2 : Nms} (h : PDk K g H b D) (hA : Asc D.now) (hp : mget g.dm p = some db) (hd : DirO g.ρ g.fb H D p db nb sb k sv nm sm) (s : Mo (Ms [db + 1]) H H') (hv : Var 88 H' db [.map (some nb), .map (some s2), .slice none 0 0]) (hm : Mp H' Str (fvl g.fb) s2 sm2) (hm2 : ∀ q, mget sm2 q = mget nm q) (hk : DL (s2 + 1) K) :
 PDk ((s2 + 1) :: K) { g with ρ := uprk g.ρ (s2 + 1) (.sty p) } H' b (D.stayD p) := by
 have hS : ∀ x, Ms [db + 1] x → g.ρ x = .dir p := fun x e => by
  have : x = db := by simpa [Ms] using e
  rw [this]; exact hd.rd
 have hx : Ext g.ρ (uprk g.ρ (s2 + 1) (.sty p)) := Ext.uprk (fun c e => .inl (h.newk hk c e)); have hup : ∀ x, g.ρ x ≠ .dir p → ¬ Ms [db + 1] x := fun x hx e => hx (hS x e); have hst : ∀ q, mget (D.stayD p).stays q = if dirP q = p then mget D.now q else mget D.stays q := fun q => mget_merge hA p q; refine h.setDir s (fun x e => .inl (hS x e)) hx (hK_uprk h.hK (by simp)) (lt_uprk h.lt s.size hm.lt) hp ⟨nb, s2, 0, ⟨none, 0, 0⟩, nm, sm2, ?_⟩ ⟨rfl, rfl, rfl, rfl, rfl, rfl⟩ (fun q hq => rfl) (fun q hq => by rw [hst, if_neg hq]) (fun n hn => ?_) ⟨h.ids.1, fun q i e => ?_, fun c hc i e => h.ids.2.2 c (List.mem_filter.1 hc).1 i e⟩
 · exact { rd := hx.of hd.rd (by simp), vd := hv, rn := hx.of hd.rn (by simp), hn := hd.hn.up s (hup _ (by rw [hd.rn]; simp)), rs := uprk_self rfl, hs := hm, en := hd.en
           es := fun q => by
            rw [hm2, hd.en, hst]; split <;> rfl
           hc := by
            have : (D.stayD p).chgs p = [] := by unfold Dk.stayD Dk.chgs; rw [List.filter_filter, List.filter_eq_nil_iff]; intro c _; simp
            rw [this]; exact Ow.nil (fC_len _) (fC_one _)
           rc := fun c e => (by omega) }
 · unfold Dk.stayD Dk.chgs
   rw [List.filter_filter]; refine List.filter_congr (fun c _ => ?_); by_cases e : c.dir = n
   · simp [e, hn]
   · simp [e]
 · rw [hst] at e
   split at e
   · exact h.ids.1 q i e
   · exact h.ids.2.1 q i e
end
end Go.Proofs.YtfbfjhppppoilaaGreatDoor.SimC

namespace Go.Proofs.YtfbfjhppppoilaaGreatDoor.SimD
open E Go.RowKit SimA SimB SimC
set_option maxRecDepth 20000
def Chg.apM (c : Chg) (m : Nms) : Nms :=
 let m1 := if c.g = [] then m else mdel m c.g
 match c.f with
 | none => m1
 | some i => mput m1 c.n i
theorem mget_apM (c : Chg) (l : Nms) (q : Pth) : mget (Chg.apM c l) q = c.at q (mget l q) := by
 unfold Chg.apM Chg.at
 cases c.f with
 | none =>
   simp only; by_cases hg : c.g = []
   · simp [hg]
   · rw [if_neg hg, mget_del]; simp [hg]
 | some i =>
   simp only; rw [mget_put]; by_cases hg : c.g = []
   · simp [hg]
   · rw [if_neg hg, mget_del]; simp [hg]
theorem put_ct (fb : List Nat) (nb : Nat) (m : Nms) (c : Chg) (w0 : World) (H0 : Heap)
 (hm : Mp H0 Str (fvl fb) nb m) :
 Ct Tryz.prog w0 41 #[.map (some nb), .agg (fC fb c).toArray] H0 (fun r H2 => (Mp H2 Str (fvl fb) nb (Chg.apM c m)) ∧ Mo (Ms [(nb + 1)]) H0 H2) := by
 refine Ct.enter (args := [.map (some nb), .agg (fC fb c).toArray]) Tryz.func41 rfl rfl rfl ?_; intro Q0 hret; have hm0 : Mo (Ms [(nb + 1)]) H0 H0 := Mo.refl _ _; have nx_hm0_hm := Nx.refl (nb + 1) H0.size; have hlt_hm := hm.lt; refine CW.s1 (fun hK1 => CW.region ?_); refine LR.z1 (Z.boxv rfl rfl) ?_; rintro v3 H3 ⟨rfl, vc, hs3, ob3, hH3⟩; have hzs3 : H3.size = H0.size + 1 := by rw [hH3]; simp
 have dj1 : Dj (nb + 1) (H0.size + 1) := Dj.new hm.lt; replace hm := hm.nw hs3; replace hm0 := hm0.trN hs3; have hz1 := hs3.size; replace vc : Var 98 H3 H0.size (fC fb c) := vc; refine LR.nil (hK1 _ _ ?_)
 refine CW.cut (fun (m1 : (Nms)) => [(0, .map (some nb)), (3, .pointer (some ⟨H0.size, 0, none⟩))])
  (fun (m1 : (Nms)) (H : Heap) => (Mp H Str (fvl fb) nb m1) ∧ (m1 = if c.g = [] then m else mdel m c.g) ∧ Mo (Ms [(nb + 1)]) H3 H) (fun _ hK2 _ => ?_) ?_
 ·
  have hcm2 : Mo (Ms [(nb + 1)]) H3 H3 := Mo.refl _ _; have nx_hcm2_hm := Nx.refl (nb + 1) H3.size; refine CW.s1 (fun hK3 => CW.region ?_); refine LR.v1 (Y.FA vc.pt rfl u'98 rfl s'9) ?_; refine LR.v1 (Y.load1 vc.pt rfl a'9 rfl) ?_; refine LR.v1 (Y.sneq rfl rfl rfl) (LR.nil (hK3 _ _ ?_)); refine CW.condp rfl (fun c6 => ?_) (fun c6 => ?_)
  ·
   refine CW.region ?_; refine LR.m1 ?_; refine LR.v1 (Y.FA vc.pt rfl u'98 rfl s'9) ?_; refine LR.v1 (Y.load1 vc.pt rfl a'9 rfl) ?_; refine LR.zn (Z.delS hm keyStr rfl u'81 Tryz.underlying9 rfl rfl) (Wd.u rfl) rfl ?_; rintro v2_3 H2_3 ⟨rfl, hm, hs2_3⟩; replace hs2_3 := hs2_3.md1; replace hcm2 := hcm2.trL hs2_3 (MIL.o (MI.r nx_hcm2_hm)); have hz2 := hs2_3.size; refine LR.nil ?_; refine QN.sub (hK2 (mdel m c.g) _ ?_) ⟨rfl, rfl, trivial⟩; exact ⟨hm, by rw [if_neg (by simpa using c6)], hcm2⟩
  ·
   refine CW.skip ?_; refine QN.sub (hK2 m _ ?_) ⟨rfl, rfl, trivial⟩; exact ⟨hm, by rw [if_pos (by simpa using c6)], hcm2⟩
 ·
  intro m1 Hcutc6 hIcutc6; obtain ⟨hm, hm1, hlmcutc6⟩ := hIcutc6; replace vc := vc.upL hlmcutc6 (DL.o dj1.symm); replace hm0 := hm0.trL hlmcutc6 (MIL.o (MI.r nx_hm0_hm)); refine CW.s1 (fun hK4 => CW.region ?_); refine LR.v1 (Y.FA vc.pt rfl u'98 rfl s'83) ?_; refine LR.v1 (Y.load1 (vc.pt.drop 2) rfl a'83 rfl) ?_; refine LR.v1 (Y.pne rfl (by kernel_rfl) (by kernel_rfl) rfl rfl) (LR.nil (hK4 _ _ ?_)); refine CW.cond rfl (fun c12 => ?_) (fun c12 => ?_)
  ·
   obtain ⟨i, hci⟩ : ∃ i, c.f = some i := by
    cases hcf : c.f with
    | none => rw [hcf] at c12; cases c12
    | some i => exact ⟨i, rfl⟩
   refine CW.region ?_; refine LR.m1 ?_; refine LR.v1 (Y.FA vc.pt rfl u'98 rfl s'9) ?_; refine LR.v1 (Y.load1 (vc.pt.drop 1) rfl a'9 rfl) ?_; refine LR.v1 (Y.FA vc.pt rfl u'98 rfl s'83) ?_; refine LR.v1 (Y.cast (v2 := fvl fb i) (Y.load1 (vc.pt.drop 2) rfl a'83 rfl) (by rw [hci]; rfl)) ?_; refine LR.s1 (S.putMp (i) hm keyStr rfl u'81 Tryz.underlying9 rfl rfl rfl) ?_; rintro H4_5 ⟨hm, hs4_5⟩; replace hs4_5 := hs4_5.md1; replace hm0 := hm0.trL hs4_5 (MIL.o (MI.r nx_hm0_hm)); refine LR.nil ?_; refine hret .normal (.inl rfl) _ _ _ (res0 rfl) ?_; exact ⟨by rw [Chg.apM, ← hm1, hci]; exact hm, hm0⟩
  ·
   refine CW.skip ?_; refine hret .normal (.inl rfl) _ _ _ (res0 rfl) ?_
   exact ⟨by
    have h9 : c.f = none := by
     cases hcf : c.f with
     | none => rfl
     | some i => rw [hcf] at c12; cases c12
    rw [Chg.apM, ← hm1, h9]; exact hm, hm0⟩
theorem add_ct (e : TypeId) (b : Nat) (cs : List Value) (x y : Int) (w0 : World) (H0 : Heap)
 (hv : Var e H0 b cs) (hc : cs[3]? = some (.int .i64 x)) (hxy : -9223372036854775808 ≤ x + y ∧ x + y ≤ 9223372036854775807) :
 Ct Tryz.prog w0 64 #[.pointer (some ⟨b, 3, none⟩), .int .i64 y] H0 (fun r H2 => r = .int .i64 (x + y) ∧ (Var e H2 b (cs.set 3 (.int .i64 (x + y)))) ∧ Mo (Ms [(b + 1)]) H0 H2) := by
 refine Ct.enter (args := [.pointer (some ⟨b, 3, none⟩), .int .i64 y]) Tryz.func64 rfl rfl rfl ?_; intro Q0 hret; have hm0 : Mo (Ms [(b + 1)]) H0 H0 := Mo.refl _ _; have nx_hm0_hv := Nx.refl (b + 1) H0.size; refine CW.s1 (fun hK1 => CW.region ?_); refine LR.a1 (LR.nil (hK1 _ _ ?_)); refine CW.s1 (fun hK2 => CW.region ?_); refine LR.m1 ?_; refine LR.v1 (Y.nilCheck rfl rfl) ?_; refine LR.v1 (Y.FA (hv.pt.drop 3) rfl u'48 rfl s'2) ?_; refine LR.m1 ?_; refine LR.z1 (Z.add64 hv hc rfl Tryz.func78 (by kernel_rfl) (by kernel_rfl) (by kernel_rfl) (by kernel_rfl) rfl hxy) ?_; rintro v9 H9 ⟨rfl, hv, hs9⟩; replace hs9 := hs9.md1; replace hm0 := hm0.trL hs9 (MIL.o (MI.r nx_hm0_hv)); refine LR.a1 (LR.nil (hK2 _ _ ?_)); refine CW.ret (hret .ret (.inr rfl) _ _ _ (res1 rfl rfl) ?_); exact ⟨rfl, hv, hm0⟩
theorem load_ct (e : TypeId) (b : Nat) (cs : List Value) (x : Int) (w0 : World) (H0 : Heap)
 (hv : Var e H0 b cs) (hc : cs[3]? = some (.int .i64 x)) :
 Ct Tryz.prog w0 62 #[.pointer (some ⟨b, 3, none⟩)] H0 (fun r H2 => r = .int .i64 x ∧ Nw H0 H2) := by
 refine Ct.enter (args := [.pointer (some ⟨b, 3, none⟩)]) Tryz.func62 rfl rfl rfl ?_; intro Q0 hret; have hm0 : Nw H0 H0 := Mo.refl _ _; refine CW.s1 (fun hK1 => CW.region ?_); refine LR.a1 (LR.nil (hK1 _ _ ?_)); refine CW.s1 (fun hK2 => CW.region ?_); refine LR.m1 ?_; refine LR.v1 (Y.nilCheck rfl rfl) ?_; refine LR.v1 (Y.FA (hv.pt.drop 3) rfl u'48 rfl s'2) ?_; refine LR.v1 (Y.load64 hv hc rfl Tryz.func76 (by kernel_rfl) (by kernel_rfl) (by kernel_rfl) (by kernel_rfl) rfl) ?_; refine LR.a1 (LR.nil (hK2 _ _ ?_)); refine CW.ret (hret .ret (.inr rfl) _ _ _ (res1 rfl rfl) ?_); exact ⟨rfl, hm0⟩
section
variable {w0 : World} {n : Nat} {l : FL} {H : Heap} {o : Oper} {K : List Nat} {g : Gh} {b lv : Nat} {D : Dk} {x y : Operand} {t : TypeId}
theorem pd_left (h : PDk K g H b D) (lv : Nat) (ho : o.op = .store t x y) (hx : opv l x = some (.pointer (some ⟨b, 4, none⟩))) (hy : opv l y = some (.int .i64 (lv : Int))) (hs : ∀ w, (sizeOf t).run Tryz.prog w = .ok 1 w) (hl : lv ≤ 9223372036854775807) :
 S Tryz.prog w0 n l H o (fun H' => PDk K { g with lv := lv } H' b { D with left := lv } ∧ Mo (Ms K) H H') :=
 (S.var1 h.vb 4 _ ho hx hy rfl hs (by simp) rfl).mono fun H' ⟨h1, h2⟩ => ⟨h.setFs h2.md1 ⟨rfl, rfl, rfl, rfl⟩ h1 (fun _ => rfl) hl ⟨rfl, rfl, rfl, rfl, rfl, rfl⟩ (Nat.le_refl _), h.ms h2 (fun c e => by rw [e, h.rb]; simp)⟩
theorem pd_dead (h : PDk K g H b D) (dd : Bool) (hdd : dd = false → D.dead = false) (ho : o.op = .store t x y) (hx : opv l x = some (.pointer (some ⟨b, 5, none⟩))) (hy : opv l y = some (.bool dd)) (hs : ∀ w, (sizeOf t).run Tryz.prog w = .ok 1 w) :
 S Tryz.prog w0 n l H o (fun H' => PDk K g H' b { D with dead := dd } ∧ Mo (Ms K) H H') :=
 (S.var1 h.vb 5 _ ho hx hy rfl hs (by simp) rfl).mono fun H' ⟨h1, h2⟩ => ⟨h.setFs h2.md1 ⟨rfl, rfl, rfl, rfl⟩ h1 (fun e => h.lvD (hdd e)) h.lvB ⟨rfl, rfl, rfl, rfl, rfl, rfl⟩ (Nat.le_refl _), h.ms h2 (fun c e => by rw [e, h.rb]; simp)⟩
theorem pd_leftany (h : PDk K g H b D) (hd : D.dead = true) (x : Nat) : PDk K g H b { D with left := x } :=
 { h with
   lvD := fun e => (by rw [show ({ D with left := x } : Dk).dead = D.dead from rfl, hd] at e; cases e)
   dirs := fun p db e => (by
    obtain ⟨nb, sb, k, sv, nm, sm, q⟩ := h.dirs p db e; exact ⟨nb, sb, k, sv, nm, sm, { q with en := q.en, es := q.es, hc := q.hc }⟩) }
theorem begin_F {dd : Bool} {x : Nat} (hl : D.dead = false → lv = D.left) (h : PDk K g H b { D with left := x, dead := dd }) (hdd : dd = true) (hcase : D.dead = true ∨ (D.dead = false ∧ lv = 1 ∧ x = 0)) : PDk K g H b D.begin.2 ∧ .bool false = Value.bool D.begin.1 := by
 subst hdd; rcases hcase with hd | ⟨hd, h1, h2⟩
 · have e : D.begin = (false, D) := by unfold Dk.begin; rw [if_pos hd]
   rw [e]; refine ⟨?_, rfl⟩; have := pd_leftany h rfl D.left; obtain ⟨cap, most, fs, now, stays, log, ops, left, dead⟩ := D; simp only at hd; subst hd; exact this
 · have := hl hd
   have e : D.begin = (false, { D with left := 0, dead := true }) := by unfold Dk.begin; rw [if_neg (by simp [hd]), if_pos (by omega)]
   rw [e]; subst h2; exact ⟨h, rfl⟩
theorem begin_T {dd : Bool} {x : Nat} (h : PDk K g H b { D with left := x, dead := dd, ops := D.ops + 1 }) (hdd : dd = false) (hd : D.dead = false) (h1 : D.left ≠ 1) (hx : x = D.left - 1) : PDk K g H b D.begin.2 ∧ .bool true = Value.bool D.begin.1 := by
 subst hdd; subst hx; have e : D.begin = (true, { D with left := D.left - 1, ops := D.ops + 1 }) := by unfold Dk.begin; rw [if_neg (by simp [hd]), if_neg h1]
 rw [e]; obtain ⟨cap, most, fs, now, stays, log, ops, left, dead⟩ := D; simp only at hd; subst hd; exact ⟨h, rfl⟩
end
theorem addD_ct {K : List Nat} {g : Gh} {b : Nat} {D : Dk} (w0 : World) (H0 : Heap) (h : PDk K g H0 b D) (ho : D.ops ≤ 1099511627776) : Ct Tryz.prog w0 64 #[.pointer (some ⟨b, 3, none⟩), .int .i64 1] H0 (fun r H2 => r = .int .i64 ((D.ops : Int) + 1) ∧ PDk K g H2 b { D with ops := D.ops + 1 } ∧ Mo (Ms K) H0 H2) :=
 (add_ct _ b _ (D.ops : Int) 1 w0 H0 h.vb rfl (by omega)).mono fun r H2 ⟨h1, h2, h3⟩ => ⟨h1, h.setFs h3 ⟨rfl, rfl, rfl, rfl⟩ h2 h.lvD h.lvB ⟨rfl, rfl, rfl, rfl, rfl, rfl⟩ (Nat.le_succ _), h.ms h3 (fun c e => by
  have : c = b := by simpa [Ms] using e
  rw [this, h.rb]; simp)⟩
theorem begin_ct (K : List Nat) (g : Gh) (b : Nat) (D : Dk) (w0 : World) (H0 : Heap)
 (hf : PDk K g H0 b D) (ho : D.ops ≤ 1099511627776) :
 Ct Tryz.prog w0 34 #[ptr b] H0 (fun r H2 => ∃ g2 : Gh, r = .bool D.begin.1 ∧ (PDk K g2 H2 b D.begin.2) ∧ (g2.ρ = g.ρ ∧ g2.fb = g.fb ∧ g2.mb = g.mb ∧ g2.dm = g.dm) ∧ Mo (Ms K) H0 H2) := by
 refine Ct.enter (args := [ptr b]) Tryz.func34 rfl rfl rfl ?_; intro Q0 hret; have hm0 : Mo (Ms K) H0 H0 := Mo.refl _ _; have nx_hm0_hf := NxK.refl K H0.size; have hbk_hf := hf.bk; have hlb := hf.lvB; have hld := hf.lvD; refine CW.s1 (fun hK1 => CW.region ?_); refine LR.a1 (LR.nil (hK1 _ _ ?_)); refine CW.s1 (fun hK2 => CW.s1 (fun hK3 => CW.region ?_)); refine LR.m1 ?_; refine LR.v1 (Y.nilCheck rfl rfl) ?_; refine LR.v1 (Y.FA hf.vb.pt rfl u'50 rfl s'3) ?_; refine LR.v1 (Y.load1 (hf.vb.pt.drop 4) rfl a'3 rfl) ?_; refine LR.v1 (Y.gtr rfl rfl rfl) (LR.nil (hK3 _ _ ?_)); refine CW.condp rfl (fun c7 => ?_) (fun c7 => ?_)
 ·
  refine CW.s1 (fun hK4 => CW.region ?_); refine LR.m1 ?_; refine LR.v1 (Y.nilCheck rfl rfl) ?_; refine LR.v1 (Y.FA hf.vb.pt rfl u'50 rfl s'3) ?_; refine LR.v1 (Y.load1 (hf.vb.pt.drop 4) rfl a'3 rfl) ?_; refine LR.v1 (Y.cast (v2 := .int .i64 ((g.lv - 1 : Nat) : Int)) (Y.subi rfl rfl rfl (by omega)) (ivv (by omega))) ?_; refine LR.v1 (Y.nilCheck rfl rfl) ?_; refine LR.v1 (Y.FA hf.vb.pt rfl u'50 rfl s'3) ?_; refine LR.s1 (pd_left hf (g.lv - 1) rfl rfl rfl s'3 (by omega)) ?_; rintro H2_7 ⟨hf, hs2_7⟩; replace hm0 := hm0.trL hs2_7 (MIL.ofK (nx_hm0_hf) (by intro k hk; simp [hk])); have hz1 := hs2_7.size; have hbk_hf := hf.bk; refine LR.nil (hK4 _ _ (CW.region ?_)); refine LR.m1 ?_; refine LR.m1 ?_; refine LR.v1 (Y.nilCheck rfl rfl) ?_; refine LR.v1 (Y.FA hf.vb.pt rfl u'50 rfl s'4) ?_; refine LR.v1 (Y.load1 (hf.vb.pt.drop 5) rfl a'4 rfl) ?_; refine LR.m1 ?_; refine LR.split (d := 20) rfl (fun g20 => ?_) (fun g20 => ?_)
  ·
   refine LR.g1 ?_; refine LR.g1 ?_; refine LR.g1 ?_; refine LR.g1 ?_; refine LR.g1 ?_; refine LR.v1 (Y.pick_t rfl rfl rfl) ?_; refine LR.v1 (Y.nilCheck rfl rfl) ?_; refine LR.v1 (Y.FA hf.vb.pt rfl u'50 rfl s'4) ?_; refine LR.s1 (pd_dead hf _ (by intro h; first | exact g20 | cases h) rfl rfl rfl s'4) ?_; rintro H3_14 ⟨hf, hs3_14⟩; replace hm0 := hm0.trL hs3_14 (MIL.ofK (nx_hm0_hf) (by intro k hk; simp [hk])); have hz2 := hs3_14.size; have hbk_hf := hf.bk; refine LR.nil (hK2 _ _ (CW.s2 (fun hK5 hE5 => CW.s1 (fun hK6 => CW.region ?_)))); refine LR.m1 ?_; refine LR.v1 (Y.nilCheck rfl rfl) ?_; refine LR.v1 (Y.FA hf.vb.pt rfl u'50 rfl s'4) ?_; refine LR.v1 (Y.load1 (hf.vb.pt.drop 5) rfl a'4 rfl) (LR.nil (hK6 _ _ ?_)); refine CW.cond rfl (fun c32 => ?_) (fun c32 => ?_)
   ·
    first
    | (simp at c32; done)
    | skip
      refine CW.s1 (fun hK7 => CW.region ?_); refine LR.a1 (LR.nil (hK7 _ _ ?_)); refine CW.ret (hE5 .ret nofun _ _ (hret .ret (.inr rfl) _ _ _ (res1 rfl rfl) ?_)); have hq := begin_F hld hf (by first | rfl | exact c32) (by first | exact .inl g20 | exact .inr ⟨g20, by simp at c32; omega, by simp at c32; omega⟩); exact ⟨_, hq.2, hq.1, ⟨rfl, rfl, rfl, rfl⟩, hm0⟩
   ·
    first
    | (simp at c32; done)
    | skip
      refine CW.skip (hK5 _ _ (CW.s1 (fun hK8 => CW.region ?_))); refine LR.m1 ?_; refine LR.v1 (Y.nilCheck rfl rfl) ?_; refine LR.v1 (Y.FA hf.vb.pt rfl u'50 rfl s'48) ?_; refine LR.call rfl c'64 rfl (Wd.u rfl) rfl rfl (addD_ct w0 _ hf ho) ?_; rintro v36 H36 ⟨rfl, hf, hs36⟩; replace hm0 := hm0.trL hs36 (MIL.ofK (nx_hm0_hf) (by intro k hk; simp [hk])); have hz3 := hs36.size; refine LR.nil (hK8 _ _ (CW.s1 (fun hK9 => CW.region ?_))); refine LR.a1 (LR.nil (hK9 _ _ ?_)); refine CW.ret (hret .ret (.inr rfl) _ _ _ (res1 rfl rfl) ?_)
      obtain ⟨g2, hq⟩ : ∃ g2 : Gh, (PDk K g2 H36 b D.begin.2 ∧ .bool true = Value.bool D.begin.1) ∧ (g2.ρ = g.ρ ∧ g2.fb = g.fb ∧ g2.mb = g.mb ∧ g2.dm = g.dm) := by
       first
       | exact ⟨_, begin_T (x := g.lv - 1) hf (by simpa using c32) g20 (by have := hld g20; simp at c32; omega) (by have := hld g20; omega), rfl, rfl, rfl, rfl⟩
       | exact ⟨_, begin_T (x := D.left) (dd := D.dead) hf (by simpa using c32) (by simpa using c32) (by have := hld (by simpa using c32); omega) (by have := hld (by simpa using c32); omega), rfl, rfl, rfl, rfl⟩
      exact ⟨g2, hq.1.2, hq.1.1, hq.2, hm0⟩
  ·
   refine LR.w1 (Y.move rfl rfl) ?_; refine LR.w1 (Y.nilCheck rfl rfl) ?_; refine LR.w1 (Y.FA hf.vb.pt rfl u'50 rfl s'3) ?_; refine LR.w1 (Y.load1 (hf.vb.pt.drop 4) rfl a'3 rfl) ?_; refine LR.w1 (Y.eql rfl rfl rfl) ?_; refine LR.v1 (Y.pick_f rfl rfl rfl) ?_; refine LR.v1 (Y.nilCheck rfl rfl) ?_; refine LR.v1 (Y.FA hf.vb.pt rfl u'50 rfl s'4) ?_; refine LR.s1 (pd_dead hf _ (by intro h; first | exact g20 | cases h) rfl rfl rfl s'4) ?_; rintro H3_14 ⟨hf, hs3_14⟩; replace hm0 := hm0.trL hs3_14 (MIL.ofK (nx_hm0_hf) (by intro k hk; simp [hk])); have hz4 := hs3_14.size; have hbk_hf := hf.bk; refine LR.nil (hK2 _ _ (CW.s2 (fun hK10 hE10 => CW.s1 (fun hK11 => CW.region ?_)))); refine LR.m1 ?_; refine LR.v1 (Y.nilCheck rfl rfl) ?_; refine LR.v1 (Y.FA hf.vb.pt rfl u'50 rfl s'4) ?_; refine LR.v1 (Y.load1 (hf.vb.pt.drop 5) rfl a'4 rfl) (LR.nil (hK11 _ _ ?_)); refine CW.cond rfl (fun c32 => ?_) (fun c32 => ?_)
   ·
    first
    | (simp at c32; done)
    | skip
      refine CW.s1 (fun hK12 => CW.region ?_); refine LR.a1 (LR.nil (hK12 _ _ ?_)); refine CW.ret (hE10 .ret nofun _ _ (hret .ret (.inr rfl) _ _ _ (res1 rfl rfl) ?_)); have hq := begin_F hld hf (by first | rfl | exact c32) (by first | exact .inl g20 | exact .inr ⟨g20, by simp at c32; omega, by simp at c32; omega⟩); exact ⟨_, hq.2, hq.1, ⟨rfl, rfl, rfl, rfl⟩, hm0⟩
   ·
    first
    | (simp at c32; done)
    | skip
      refine CW.skip (hK10 _ _ (CW.s1 (fun hK13 => CW.region ?_))); refine LR.m1 ?_; refine LR.v1 (Y.nilCheck rfl rfl) ?_; refine LR.v1 (Y.FA hf.vb.pt rfl u'50 rfl s'48) ?_; refine LR.call rfl c'64 rfl (Wd.u rfl) rfl rfl (addD_ct w0 _ hf ho) ?_; rintro v36 H36 ⟨rfl, hf, hs36⟩; replace hm0 := hm0.trL hs36 (MIL.ofK (nx_hm0_hf) (by intro k hk; simp [hk])); have hz5 := hs36.size; refine LR.nil (hK13 _ _ (CW.s1 (fun hK14 => CW.region ?_))); refine LR.a1 (LR.nil (hK14 _ _ ?_)); refine CW.ret (hret .ret (.inr rfl) _ _ _ (res1 rfl rfl) ?_)
      obtain ⟨g2, hq⟩ : ∃ g2 : Gh, (PDk K g2 H36 b D.begin.2 ∧ .bool true = Value.bool D.begin.1) ∧ (g2.ρ = g.ρ ∧ g2.fb = g.fb ∧ g2.mb = g.mb ∧ g2.dm = g.dm) := by
       first
       | exact ⟨_, begin_T (x := g.lv - 1) hf (by simpa using c32) g20 (by have := hld g20; simp at c32; omega) (by have := hld g20; omega), rfl, rfl, rfl, rfl⟩
       | exact ⟨_, begin_T (x := D.left) (dd := D.dead) hf (by simpa using c32) (by simpa using c32) (by have := hld (by simpa using c32); omega) (by have := hld (by simpa using c32); omega), rfl, rfl, rfl, rfl⟩
      exact ⟨g2, hq.1.2, hq.1.1, hq.2, hm0⟩
 ·
  refine CW.skip (hK2 _ _ (CW.s2 (fun hK15 hE15 => CW.s1 (fun hK16 => CW.region ?_)))); refine LR.m1 ?_; refine LR.v1 (Y.nilCheck rfl rfl) ?_; refine LR.v1 (Y.FA hf.vb.pt rfl u'50 rfl s'4) ?_; refine LR.v1 (Y.load1 (hf.vb.pt.drop 5) rfl a'4 rfl) (LR.nil (hK16 _ _ ?_)); refine CW.cond rfl (fun c32 => ?_) (fun c32 => ?_)
  ·
   first
   | (simp at c32; done)
   | skip
     refine CW.s1 (fun hK17 => CW.region ?_); refine LR.a1 (LR.nil (hK17 _ _ ?_)); refine CW.ret (hE15 .ret nofun _ _ (hret .ret (.inr rfl) _ _ _ (res1 rfl rfl) ?_)); have hq := begin_F (x := D.left) (dd := D.dead) hld hf (by simpa using c32) (.inl (by simpa using c32)); exact ⟨_, hq.2, hq.1, ⟨rfl, rfl, rfl, rfl⟩, hm0⟩
  ·
   first
   | (simp at c32; done)
   | skip
     refine CW.skip (hK15 _ _ (CW.s1 (fun hK18 => CW.region ?_))); refine LR.m1 ?_; refine LR.v1 (Y.nilCheck rfl rfl) ?_; refine LR.v1 (Y.FA hf.vb.pt rfl u'50 rfl s'48) ?_; refine LR.call rfl c'64 rfl (Wd.u rfl) rfl rfl (addD_ct w0 _ hf ho) ?_; rintro v36 H36 ⟨rfl, hf, hs36⟩; replace hm0 := hm0.trL hs36 (MIL.ofK (nx_hm0_hf) (by intro k hk; simp [hk])); have hz6 := hs36.size; refine LR.nil (hK18 _ _ (CW.s1 (fun hK19 => CW.region ?_))); refine LR.a1 (LR.nil (hK19 _ _ ?_)); refine CW.ret (hret .ret (.inr rfl) _ _ _ (res1 rfl rfl) ?_)
     obtain ⟨g2, hq⟩ : ∃ g2 : Gh, (PDk K g2 H36 b D.begin.2 ∧ .bool true = Value.bool D.begin.1) ∧ (g2.ρ = g.ρ ∧ g2.fb = g.fb ∧ g2.mb = g.mb ∧ g2.dm = g.dm) := by
      first
      | exact ⟨_, begin_T (x := g.lv - 1) hf (by simpa using c32) g20 (by have := hld g20; simp at c32; omega) (by have := hld g20; omega), rfl, rfl, rfl, rfl⟩
      | exact ⟨_, begin_T (x := D.left) (dd := D.dead) hf (by simpa using c32) (by simpa using c32) (by have := hld (by simpa using c32); omega) (by have := hld (by simpa using c32); omega), rfl, rfl, rfl, rfl⟩
     exact ⟨g2, hq.1.2, hq.1.1, hq.2, hm0⟩
section
open Go.MapKept
variable {P : Program} {w0 : World} {n : Nat} {l : FL} {H : Heap} {o : Oper} {κ β : Type} [DecidableEq κ] {G : Nat → Prop} {fk : κ → Value} {fv : β → Value} {v : Value} {m : List (κ × β)} {d : TypeDesc}
theorem look_p {t kt et : TypeId} {x i : Operand} {k : κ} (ad : β → Addr) (h : MapOf G H fk fv v m) (hfv : ∀ b, fv b = .pointer (some (ad b))) (hfk : KeyFn d fk) (ho : o.op = .lookup t x i false) (hm : ∀ w, (underlying t).run P w = .ok (.map kt et) w) (hk : P.underlying kt = some d) (hz : ∀ w, (zeroValue et).run P w = .ok (.pointer none) w)
 (hx : opv l x = some v) (hi : opv l i = some (fk k)) : Y P w0 n l H o (.pointer ((mget m k).map ad)) := by
 intro a w hf ha; have h1 := run_lookup (ok := false) (k := k) h hfk ha hm hk hz; simp only [Bool.false_eq_true, if_false] at h1
 have h2 : (Instr.lookup t v (fk k) false).run P w = .ok (.pointer ((mget m k).map ad)) w := by
  rw [h1]
  cases mget m k with
  | none => rfl
  | some b => simp [hfv]
 simp [execOp, ho, hf.eval hx, hf.eval hi, h2]
end
abbrev adO (b : Nat) : Addr := ⟨b, 0, none⟩
theorem find_ct (mx_ : Int) (K : List Nat) (g : Gh) (b : Nat) (D : Dk) (p : Pth) (w0 : World) (H0 : Heap)
 (mx : MX mx_ H0) (bf_mx : BF (fun b => b = 0) H0.size) (hf : PDk K g H0 b D) (hl : p.length ≤ 4294967280) :
 Ct Tryz.prog w0 45 #[ptr b, Str p] H0 (fun r H2 => r = .tuple #[.pointer (fpt g.fb (if D.look p = 0 then mget D.now p else none)), .int .i64 (D.look p : Int)] ∧ Nw H0 H2) := by
 refine Ct.enter (args := [ptr b, Str p]) Tryz.func45 rfl rfl rfl ?_; intro Q0 hret; have hm0 : Nw H0 H0 := Mo.refl _ _; have hbk_hf := hf.bk; refine CW.s1 (fun hK1 => CW.region ?_); refine LR.a1 ?_; refine LR.a1 (LR.nil (hK1 _ _ ?_)); refine CW.s2 (fun hK2 hE2 => CW.s1 (fun hK3 => CW.region ?_)); refine LR.m1 ?_; refine LR.call rfl c'35 rfl (Wd.u rfl) rfl rfl (name_ct mx_ p w0 _ mx (bf_mx.mono (by omega)) hl) ?_; rintro v9 H9 ⟨rfl, hs9⟩; replace mx := mx.nw hs9; replace hf := hf.nw hs9; replace hm0 := hm0.tr hs9; have hz1 := hs9.size; refine LR.v1 (Y.not rfl rfl) (LR.nil (hK3 _ _ ?_)); refine CW.cond rfl (fun c10 => ?_) (fun c10 => ?_)
 ·
  refine CW.s1 (fun hK4 => CW.region ?_); refine LR.a1 ?_; refine LR.a1 (LR.nil (hK4 _ _ ?_)); refine CW.ret (hE2 .ret nofun _ _ (hret .ret (.inr rfl) _ _ _ (res2 rfl rfl rfl) ?_))
  have hk : D.look p = 7 := by
   unfold Dk.look; rw [if_neg (by simpa using c10)]
  exact ⟨by rw [hk]; rfl, hm0⟩
 ·
  refine CW.skip (hK2 _ _ (CW.s2 (fun hK5 hE5 => CW.s1 (fun hK6 => ?_)))); refine CW.region_any (fun Hq => Nw H9 Hq) [] rfl ?_; have hqs := Nw.refl H9; refine LH.m1 0 rfl hqs ?_; refine LH.t1 1 rfl (fun Hq hq => Y.nilCheck rfl rfl) hqs ?_; refine LH.t1 2 rfl (fun Hq hq => Y.FA (hf.vb.pt.nw hq) rfl u'50 rfl s'43) hqs ?_; refine LH.t1 3 rfl (fun Hq hq => Y.load1 ((hf.vb.pt.drop 2).nw hq) rfl a'43 rfl) hqs ?_; refine LH.m1 4 rfl hqs ?_; refine LH.o1 5 ?_; refine LO.call rfl rfl c'51 rfl (Wd.u rfl) rfl rfl (dir_ct mx_ p w0 _ mx (bf_mx.mono (by omega)) hl) ?_; rintro v16 H16 ⟨rfl, hs16⟩; replace hf := hf.nw hs16; replace hm0 := hm0.tr hs16; have hq16 := hqs.tr hs16; refine ⟨.inr hq16, LH.narrow (SH2 := fun Hq => Nw H16 Hq) (fun Hq hq => hq16.tr hq) ?_⟩; have hqn16 := Nw.refl H16; refine LH.t1 6 rfl (fun Hq hq => look_p adO (hf.hm.mo.nw hq) (fun _ => rfl) keyStr rfl u'43 Tryz.underlying9 z'78 rfl rfl) hqn16 ?_; refine LH.t1 7 rfl (fun Hq hq => Y.assign rfl rfl) hqn16 ?_; refine LH.done (by kernel_rfl) ?_; have hqe := hqn16; refine hK6 _ _ (CW.s1 (fun hK7 => CW.region ?_)); refine LR.m1 ?_; refine LR.v1 (Y.pne rfl (by kernel_rfl) (by kernel_rfl) rfl rfl) (LR.nil (hK7 _ _ ?_)); refine CW.cond rfl (fun c19 => ?_) (fun c19 => ?_)
  ·
   obtain ⟨db, hdb⟩ : ∃ db, mget g.dm (dirP p) = some db := by
    cases hq : mget g.dm (dirP p) with
    | none => rw [hq] at c19; cases c19
    | some db => exact ⟨db, rfl⟩
   obtain ⟨nb, sb, kc, sv, nm, sm, hd⟩ := hf.dirs _ db hdb; refine CW.s1 (fun hK8 => CW.region ?_); refine LR.v1 (Y.cast (v2 := ptr db) (Y.move rfl rfl) (by rw [hdb]; rfl)) ?_; refine LR.v1 (Y.nilCheck rfl rfl) ?_; refine LR.v1 (Y.FA hd.vd.pt rfl u'88 rfl s'85) ?_; refine LR.v1 (Y.FA (hd.vd.pt.drop 0) rfl u'85 rfl s'81) ?_; refine LR.v1 (Y.load1 ((hd.vd.pt.drop 0).drop 0) rfl a'81 rfl) ?_; refine LR.m1 ?_; refine LR.v1 (Y.cast (v2 := .pointer (fpt g.fb (mget D.now p))) (look_p (fun i => ⟨g.fb.getD i 0, 0, none⟩) hd.hn.mo (fun _ => rfl) keyStr rfl u'81 Tryz.underlying9 z'83 rfl rfl) (by rw [hd.en p, if_pos rfl])) ?_; refine LR.a1 (LR.nil (hK8 _ _ ?_)); refine CW.s1 (fun hK9 => CW.region ?_); refine LR.m1 ?_; refine LR.v1 (Y.pne rfl (by kernel_rfl) (by kernel_rfl) rfl rfl) (LR.nil (hK9 _ _ ?_)); refine CW.cond rfl (fun c28 => ?_) (fun c28 => ?_)
   ·
    refine CW.s1 (fun hK10 => CW.region ?_); refine LR.m1 ?_; refine LR.a1 ?_; refine LR.a1 (LR.nil (hK10 _ _ ?_)); refine CW.ret (hE5 .ret nofun _ _ (hret .ret (.inr rfl) _ _ _ (res2 rfl rfl rfl) ?_))
    have hk : D.look p = 0 := by
     unfold Dk.look
     rw [if_pos (by simpa using c10), if_pos (by cases hq : mget D.now p with
      | none => rw [hq] at c28; cases c28
      | some i => rfl)]
    exact ⟨by rw [hk, if_pos rfl]; rfl, hm0⟩
   ·
    refine CW.skip (hK5 _ _ (CW.s1 (fun hK11 => CW.region ?_))); refine LR.a1 ?_; refine LR.a1 (LR.nil (hK11 _ _ ?_)); refine CW.ret (hret .ret (.inr rfl) _ _ _ (res2 rfl rfl rfl) ?_)
    have hk : D.look p = 2 := by
     unfold Dk.look; rw [if_pos (by simpa using c10), if_neg]
     first
     | (cases hq : mget D.now p with
       | none => simp
       | some i => rw [hq] at c28; cases c28)
     | (have hnd : mget g.dm (dirP p) = none := (by cases hq : mget g.dm (dirP p) with
        | none => rfl
        | some db => rw [hq] at c19; cases c19)
        rw [((hf.abs _ hnd).1 p rfl).1]; simp)
    exact ⟨by rw [hk]; rfl, hm0⟩
  ·
   refine CW.skip (hK5 _ _ (CW.s1 (fun hK12 => CW.region ?_))); refine LR.a1 ?_; refine LR.a1 (LR.nil (hK12 _ _ ?_)); refine CW.ret (hret .ret (.inr rfl) _ _ _ (res2 rfl rfl rfl) ?_)
   have hk : D.look p = 2 := by
    unfold Dk.look; rw [if_pos (by simpa using c10), if_neg]
    first
    | (cases hq : mget D.now p with
      | none => simp
      | some i => rw [hq] at c28; cases c28)
    | (have hnd : mget g.dm (dirP p) = none := (by cases hq : mget g.dm (dirP p) with
       | none => rfl
       | some db => rw [hq] at c19; cases c19)
       rw [((hf.abs _ hnd).1 p rfl).1]; simp)
   exact ⟨by rw [hk]; rfl, hm0⟩
end Go.Proofs.YtfbfjhppppoilaaGreatDoor.SimD

namespace Go.Proofs.YtfbfjhppppoilaaGreatDoor.SimE
open E Go.RowKit SimA SimB SimC SimD
set_option maxRecDepth 20000
section
variable {H : Heap} {b mb : Nat}
theorem PDk.new (cap most : Nat) (hv : Var 50 H b [.int .i64 cap, .int .i64 most, .map (some mb), .int .i64 0, .int .i64 0, .bool false]) (hm : Mp H Str ptr mb ([] : List (Pth × Nat))) (hc : cap ≤ 9223372036854775807) (hk : most ≤ 9223372036854775807) (hne : b ≠ mb) :
 PDk [b + 1, mb + 1] ⟨upr (upr (fun _ => .out) mb .dirs) b .fs, [], mb, [], 0⟩ H b (Dk.empty cap most) where
 hK := hK_upr (hK_upr (K := []) (ρ := fun _ => .out) (fun c => by simp) (by simp)) (by simp)
 lt := lt_upr (lt_upr (H := H) (fun c h => absurd rfl h) (Nat.le_refl _) hm.lt) (Nat.le_refl _) hv.lt
 rb := upr_self
 vb := hv
 lvD := fun _ => rfl
 lvB := by simp
 capB := hc
 mostB := hk
 rm := by show upr (upr (fun _ => .out) mb .dirs) b .fs mb = _; rw [upr_ne (Ne.symm hne), upr_self]
 hm := hm
 dirs := fun p db e => (by cases e)
 abs := fun p _ => ⟨fun q _ => ⟨rfl, rfl⟩, rfl⟩
 len := rfl
 fil := fun i hi => (by simp [Dk.empty] at hi)
 ids := ⟨fun p i e => (by cases e), fun p i e => (by cases e), fun c hc => (by cases hc)⟩
 dml := Nat.le_refl _
end
theorem new_ct (cap most : Nat) (w0 : World) (H0 : Heap)
 (hc : cap ≤ 9223372036854775807) (hk : most ≤ 9223372036854775807) :
 Ct Tryz.prog w0 5 #[.int .i64 (cap : Int), .int .i64 (most : Int)] H0 (fun r H2 => ∃ K : List Nat, ∃ g : Gh, ∃ b : Nat, r = .tuple #[ptr b, .int .i64 0] ∧ (PDk K g H2 b (Dk.empty cap most)) ∧ (NxK [] H0.size K) ∧ Nw H0 H2) := by
 refine Ct.enter (args := [.int .i64 (cap : Int), .int .i64 (most : Int)]) Tryz.func5 rfl rfl rfl ?_; intro Q0 hret; have hm0 : Nw H0 H0 := Mo.refl _ _; refine CW.s1 (fun hK1 => CW.region ?_); refine LR.a1 ?_; refine LR.a1 (LR.nil (hK1 _ _ ?_)); refine CW.s1 (fun hK2 => CW.s1 (fun hK3 => CW.region ?_)); refine LR.m1 ?_; refine LR.v1 ((Y.lss rfl rfl rfl).isF (by omega)) ?_; refine LR.m1 ?_; refine LR.w1 (Y.move rfl rfl) ?_; refine LR.w1 ((Y.lss rfl rfl rfl).isF (by omega)) ?_; refine LR.v1 (Y.pick_f rfl rfl rfl) (LR.nil (hK3 _ _ ?_)); refine CW.cond_f rfl ?_; refine CW.skip (hK2 _ _ (CW.s1 (fun hK4 => CW.region ?_))); refine LR.m1 ?_; refine LR.m1 ?_; refine LR.z1 (Z.makeMp Str ptr rfl) ?_; rintro v14 H14 ⟨rfl, hmp, hs14, ob14, hH14⟩; have hzs14 : H14.size = H0.size + 1 := by rw [hH14]; simp
 have nx1 : Nx 0 H0.size (H0.size + 1) := Nx.new hm0.size; replace hm0 := hm0.tr hs14; have hz1 := hs14.size; have hlt_hmp := hmp.lt; refine LR.v1 (Y.build (v := .agg #[.int .i64 cap, .int .i64 most, .map (some H0.size), .int .i64 0, .int .i64 0, .bool false]) rfl rfl (by intro w; kernel_rfl)) ?_; refine LR.z1 (Z.boxv rfl rfl) ?_; rintro v16 H16 ⟨rfl, hvb, hs16, ob16, hH16⟩; have hzs16 : H16.size = H14.size + 1 := by rw [hH16]; simp
 have nx3 : Nx 0 H0.size (H14.size + 1) := Nx.new hm0.size; replace hmp := hmp.nw hs16; replace hm0 := hm0.tr hs16; have hz2 := hs16.size; replace hvb : Var 50 H16 H14.size ([.int .i64 cap, .int .i64 most, .map (some H0.size), .int .i64 0, .int .i64 0, .bool false]) := hvb; have nx5 := NxK.cons (nx1) (NxK.refl [] _); have nx6 := NxK.cons (nx3) (nx5); have hf := PDk.new cap most hvb hmp hc hk (by omega); refine LR.a1 ?_; refine LR.a1 (LR.nil (hK4 _ _ ?_)); refine CW.ret (hret .ret (.inr rfl) _ _ _ (res2 rfl rfl rfl) ?_); exact ⟨_, _, _, rfl, hf, nx6, hm0⟩
theorem newN_ct (a m : Int) (w0 : World) (H0 : Heap)
 (hn : a < 0 ∨ m < 0) :
 Ct Tryz.prog w0 5 #[.int .i64 a, .int .i64 m] H0 (fun r H2 => r = .tuple #[.pointer none, .int .i64 1] ∧ Nw H0 H2) := by
 refine Ct.enter (args := [.int .i64 a, .int .i64 m]) Tryz.func5 rfl rfl rfl ?_; intro Q0 hret; have hm0 : Nw H0 H0 := Mo.refl _ _; refine CW.s1 (fun hK1 => CW.region ?_); refine LR.a1 ?_; refine LR.a1 (LR.nil (hK1 _ _ ?_)); refine CW.s2 (fun _ hE2 => CW.s1 (fun hK3 => CW.region ?_)); refine LR.m1 ?_; refine LR.v1 (Y.lss rfl rfl rfl) ?_; refine LR.m1 ?_; refine LR.splitp (d := 8) rfl (fun g8 => ?_) (fun g8 => ?_)
 ·
  refine LR.g1 ?_; refine LR.g1 ?_; refine LR.v1 (Y.cast (v2 := .bool true) (Y.pick_t rfl rfl rfl) (by first | rfl | (congr 1; simp; omega))) (LR.nil (hK3 _ _ ?_)); refine CW.cond_t rfl ?_; refine CW.s1 (fun hK4 => CW.region ?_); refine LR.a1 ?_; refine LR.a1 (LR.nil (hK4 _ _ ?_)); refine CW.ret (hE2 .ret nofun _ _ (hret .ret (.inr rfl) _ _ _ (res2 rfl rfl rfl) ?_)); exact ⟨rfl, hm0⟩
 ·
  refine LR.w1 (Y.move rfl rfl) ?_; refine LR.w1 (Y.lss rfl rfl rfl) ?_; refine LR.v1 (Y.cast (v2 := .bool true) (Y.pick_f rfl rfl rfl) (by first | rfl | (congr 1; simp; omega))) (LR.nil (hK3 _ _ ?_)); refine CW.cond_t rfl ?_; refine CW.s1 (fun hK5 => CW.region ?_); refine LR.a1 ?_; refine LR.a1 (LR.nil (hK5 _ _ ?_)); refine CW.ret (hE2 .ret nofun _ _ (hret .ret (.inr rfl) _ _ _ (res2 rfl rfl rfl) ?_)); exact ⟨rfl, hm0⟩
theorem read_ct (mx_ : Int) (K : List Nat) (g : Gh) (b : Nat) (D : Dk) (p : Pth) (w0 : World) (H0 : Heap)
 (mx : MX mx_ H0) (bf_mx : BF (fun b => b = 0) H0.size) (hf : PDk K g H0 b D) (hl : p.length ≤ 4294967280) (hB : ∀ i, (fget D.fs i).now.length ≤ 1099511627776) :
 Ct Tryz.prog w0 12 #[ptr b, Str p] H0 (fun r H2 => ∃ s : SV, ∃ k : Nat, r = .tuple #[s.v, .int .i64 (D.readE p : Int)] ∧ (Ow k 5 H2 fB 1 s.v (D.readL p)) ∧ (Nx 0 H0.size k) ∧ Nw H0 H2) := by
 refine Ct.enter (args := [ptr b, Str p]) Tryz.func12 rfl rfl rfl ?_; intro Q0 hret; have hm0 : Nw H0 H0 := Mo.refl _ _; have hbk_hf := hf.bk; refine CW.s1 (fun hK1 => CW.region ?_); refine LR.a1 ?_; refine LR.a1 (LR.nil (hK1 _ _ ?_)); refine CW.s2 (fun hK2 hE2 => CW.s1 (fun hK3 => CW.region ?_)); refine LR.m1 ?_; refine LR.v1 (Y.nilCheck rfl rfl) ?_; refine LR.v1 (Y.FA hf.vb.pt rfl u'50 rfl s'4) ?_; refine LR.v1 (Y.load1 (hf.vb.pt.drop 5) rfl a'4 rfl) (LR.nil (hK3 _ _ ?_)); refine CW.cond rfl (fun c11 => ?_) (fun c11 => ?_)
 ·
  refine CW.s1 (fun hK4 => CW.region ?_); refine LR.a1 ?_; refine LR.a1 (LR.nil (hK4 _ _ ?_)); refine CW.ret (hE2 .ret nofun _ _ (hret .ret (.inr rfl) _ _ _ (res2 rfl rfl rfl) ?_)); have hE : D.readE p = 11 := by unfold Dk.readE; rw [if_pos c11]
  have hL : D.readL p = [] := by unfold Dk.readL; rw [if_neg (by rw [hE]; omega)]
  exact ⟨⟨none, 0, 0⟩, 0, by rw [hE]; rfl, by rw [hL]; exact Ow.nil fB_len fB_one, Nx.refl _ _, hm0⟩
 ·
  refine CW.skip (hK2 _ _ (CW.s1 (fun hK5 => CW.region ?_))); refine LR.m1 ?_; refine LR.m1 ?_; refine LR.call rfl c'45 rfl (Wd.u rfl) rfl rfl (find_ct mx_ K g b D p w0 _ mx (bf_mx.mono (by omega)) hf hl) ?_; rintro v15 H15 ⟨rfl, hs15⟩; replace hf := hf.nw hs15; replace hm0 := hm0.tr hs15; have hz1 := hs15.size; refine LR.m1 ?_; refine LR.v1 (Y.extract rfl rfl rfl) ?_; refine LR.v1 (Y.extract rfl rfl rfl) ?_; refine LR.a1 ?_; refine LR.a1 (LR.nil (hK5 _ _ ?_)); refine CW.s2 (fun hK6 hE6 => CW.s1 (fun hK7 => CW.region ?_)); refine LR.m1 ?_; refine LR.v1 (Y.neq rfl rfl rfl) (LR.nil (hK7 _ _ ?_)); refine CW.condp rfl (fun c19 => ?_) (fun c19 => ?_)
  ·
   refine CW.s1 (fun hK8 => CW.region ?_); refine LR.m1 ?_; refine LR.a1 ?_; refine LR.a1 (LR.nil (hK8 _ _ ?_)); refine CW.ret (hE6 .ret nofun _ _ (hret .ret (.inr rfl) _ _ _ (res2 rfl rfl rfl) ?_)); have hE : D.readE p = D.look p := by unfold Dk.readE; rw [if_neg (by simpa using c11)]
   have hL : D.readL p = [] := by unfold Dk.readL; rw [if_neg (by rw [hE]; omega)]
   exact ⟨⟨none, 0, 0⟩, 0, by rw [hE]; rfl, by rw [hL]; exact Ow.nil fB_len fB_one, Nx.refl _ _, hm0⟩
  ·
   have hk0 : D.look p = 0 := by omega
   obtain ⟨i, hi⟩ : ∃ i, mget D.now p = some i := by
    cases hq : mget D.now p with
    | some i => exact ⟨i, rfl⟩
    | none => exfalso; unfold Dk.look at hk0; rw [hq] at hk0; by_cases hn : nameB p = true <;> simp [hn] at hk0
   obtain ⟨nv, sv, wv, kw, lw, hfi⟩ := hf.fil i (hf.ids.1 p i hi); refine CW.skip (hK6 _ _ (CW.s1 (fun hK9 => CW.region ?_))); refine LR.v1 (Y.cast (v2 := fvl g.fb i) (Y.move rfl rfl) (by rw [if_pos hk0, hi]; rfl)) ?_; refine LR.v1 (Y.nilCheck rfl rfl) ?_; refine LR.v1 (Y.FA hfi.vf.pt rfl u'106 rfl s'103) ?_; refine LR.v1 (Y.FA (hfi.vf.pt.drop 0) rfl u'103 rfl s'31) ?_; refine LR.v1 (Y.load1 ((hfi.vf.pt.drop 0).drop 0) rfl a'31 rfl) ?_; refine LR.call rfl c'46 rfl (Wd.u rfl) rfl rfl (bclone_ct _ (fget D.fs i).now w0 _ hfi.hn.any (by have := hB i; omega)) ?_; rintro v26 H26 ⟨s26, k26, rfl, ow26, hk26, hs26⟩; have nx3 : Nx 0 H0.size k26 := Nx.tr (Nx.refl 0 _) hk26 hm0.size; replace hm0 := hm0.tr hs26; refine LR.a1 ?_; refine LR.a1 (LR.nil (hK9 _ _ ?_)); refine CW.ret (hret .ret (.inr rfl) _ _ _ (res2 rfl rfl rfl) ?_); have hE : D.readE p = 0 := by unfold Dk.readE; rw [if_neg (by simpa using c11)]; exact hk0
   have hL : D.readL p = (fget D.fs i).now := by unfold Dk.readL Dk.wasL; rw [if_pos hE, hi]
   exact ⟨s26, k26, by rw [hE]; rfl, by rw [hL]; exact ow26, nx3, hm0⟩
theorem ops_ct (K : List Nat) (g : Gh) (b : Nat) (D : Dk) (w0 : World) (H0 : Heap)
 (hf : PDk K g H0 b D) :
 Ct Tryz.prog w0 32 #[ptr b] H0 (fun r H2 => r = .int .i64 (D.ops : Int) ∧ Nw H0 H2) := by
 refine Ct.enter (args := [ptr b]) Tryz.func32 rfl rfl rfl ?_; intro Q0 hret; have hm0 : Nw H0 H0 := Mo.refl _ _; refine CW.s1 (fun hK1 => CW.region ?_); refine LR.a1 (LR.nil (hK1 _ _ ?_)); refine CW.s1 (fun hK2 => CW.region ?_); refine LR.m1 ?_; refine LR.v1 (Y.nilCheck rfl rfl) ?_; refine LR.v1 (Y.FA hf.vb.pt rfl u'50 rfl s'48) ?_; refine LR.call rfl c'62 rfl (Wd.u rfl) rfl rfl (load_ct _ b _ (D.ops : Int) w0 _ hf.vb rfl) ?_; rintro v6 H6 ⟨rfl, hs6⟩; replace hm0 := hm0.tr hs6; refine LR.a1 (LR.nil (hK2 _ _ ?_)); refine CW.ret (hret .ret (.inr rfl) _ _ _ (res1 rfl rfl) ?_); exact ⟨rfl, hm0⟩
theorem stop_ct (K : List Nat) (g : Gh) (b : Nat) (D : Dk) (n : Int) (w0 : World) (H0 : Heap)
 (hf : PDk K g H0 b D) (hn : n ≤ 9223372036854775807) :
 Ct Tryz.prog w0 27 #[ptr b, .int .i64 n] H0 (fun r H2 => ∃ g2 : Gh, r = .tuple #[] ∧ (PDk K g2 H2 b (D.stop n.toNat)) ∧ (g2.ρ = g.ρ ∧ g2.fb = g.fb ∧ g2.mb = g.mb ∧ g2.dm = g.dm) ∧ Mo (Ms K) H0 H2) := by
 refine Ct.enter (args := [ptr b, .int .i64 n]) Tryz.func27 rfl rfl rfl ?_; intro Q0 hret; have hm0 : Mo (Ms K) H0 H0 := Mo.refl _ _; have nx_hm0_hf := NxK.refl K H0.size; have hbk_hf := hf.bk; refine CW.region ?_; refine LR.m1 ?_; refine LR.m1 ?_; refine LR.v1 (Y.cast (v2 := .int .i64 (n.toNat : Int)) (Y.maxi rfl rfl rfl) (ivv (by omega))) ?_; refine LR.v1 (Y.nilCheck rfl rfl) ?_; refine LR.v1 (Y.FA hf.vb.pt rfl u'50 rfl s'3) ?_; refine LR.s1 (pd_left hf n.toNat rfl rfl rfl s'3 (by omega)) ?_; rintro H0_5 ⟨hf, hs0_5⟩; replace hm0 := hm0.trL hs0_5 (MIL.ofK (nx_hm0_hf) (by intro k hk; simp [hk])); refine LR.nil ?_; refine hret .normal (.inl rfl) _ _ _ (res0 rfl) ?_; exact ⟨_, rfl, hf, ⟨rfl, rfl, rfl, rfl⟩, hm0⟩
end Go.Proofs.YtfbfjhppppoilaaGreatDoor.SimE

namespace Go.Proofs.YtfbfjhppppoilaaGreatDoor.SimF
open E Go.RowKit SimA SimB SimC SimD SimE
set_option maxRecDepth 20000
def rst (ks dn : List Pth) (w : Pth → Nat) : Nat := ((ks.filter (fun k => !decide (k ∈ dn))).map w).sum
theorem rst_nil (ks : List Pth) (w : Pth → Nat) : rst ks [] w = (ks.map w).sum := by
 unfold rst; rw [List.filter_eq_self.2 (fun k _ => by simp)]
theorem rst_end {ks dn : List Pth} {w : Pth → Nat} (h : ∀ k ∈ ks, k ∈ dn) : rst ks dn w = 0 := by
 unfold rst; rw [List.filter_eq_nil_iff.2 (fun k hk => by simp [h k hk])]; rfl
theorem rst_step {w : Pth → Nat} {k : Pth} {dn : List Pth} (hd : k ∉ dn) : ∀ {ks : List Pth}, ks.Nodup → k ∈ ks → rst ks dn w = w k + rst ks (dn ++ [k]) w
 | [], _, h => by cases h
 | x :: ks, hn, h => by
   rw [List.nodup_cons] at hn; unfold rst; by_cases hx : x = k
   · subst hx
     have e : (x :: ks).filter (fun q => !decide (q ∈ dn ++ [x])) = ks.filter (fun q => !decide (q ∈ dn)) := by
      rw [List.filter_cons_of_neg (by simp)]; refine List.filter_congr (fun q hq => ?_); have : q ≠ x := fun e => hn.1 (by rw [← e]; exact hq); simp [this]
     rw [e, List.filter_cons_of_pos (by simp [hd]), List.map_cons, List.sum_cons]
   · have hk : k ∈ ks := by
      rcases List.mem_cons.1 h with e | h
      · exact absurd e.symm hx
      · exact h
     have ih := rst_step (w := w) (dn := dn) hd hn.2 hk; unfold rst at ih; by_cases hxd : x ∈ dn
     · rw [List.filter_cons_of_neg (by simp [hxd]), List.filter_cons_of_neg (by simp [hxd])]; exact ih
     · rw [List.filter_cons_of_pos (by simp [hxd]), List.filter_cons_of_pos (by simp [hxd, hx]), List.map_cons, List.map_cons, List.sum_cons, List.sum_cons, ih]; omega
def dirS (D : Dk) (d : Pth) : Nat := usedL D.fs (D.now.filter (fun x => dirP x.1 = d))
theorem sum_if (ks : List Pth) (hn : ks.Nodup) (d : Pth) (a : Nat) : d ∈ ks → (ks.map (fun k => if d = k then a else 0)).sum = a := by
 induction ks with
 | nil => intro h; cases h
 | cons x ks ih =>
   intro h; rw [List.nodup_cons] at hn; rw [List.map_cons, List.sum_cons]; by_cases hx : d = x
   · subst hx
     rw [if_pos rfl]
     have : (ks.map (fun k => if d = k then a else 0)).sum = 0 := by
      have : ks.map (fun k => if d = k then a else 0) = ks.map (fun _ => 0) := List.map_congr_left (fun k hk => if_neg (fun e => hn.1 (by rw [e]; exact hk))); rw [this]; clear this ih hn h
      induction ks with
      | nil => rfl
      | cons x ks ih => rw [List.map_cons, List.sum_cons, ih]
     omega
   · rw [if_neg hx, ih hn.2 (by
      rcases List.mem_cons.1 h with e | h
      · exact absurd e hx
      · exact h)]; omega
theorem sum_add (ks : List Pth) (f g : Pth → Nat) : (ks.map (fun k => f k + g k)).sum = (ks.map f).sum + (ks.map g).sum := by
 induction ks with
 | nil => rfl
 | cons x ks ih => simp only [List.map_cons, List.sum_cons, ih]; omega
theorem dirS_all (fs : List Fdt) (ks : List Pth) (hn : ks.Nodup) : ∀ l : Nms, (∀ x ∈ l, dirP x.1 ∈ ks) → (ks.map (fun d => usedL fs (l.filter (fun x => dirP x.1 = d)))).sum = usedL fs l
 | [], _ => by
   have : ks.map (fun d => usedL fs (([] : Nms).filter (fun x => dirP x.1 = d))) = ks.map (fun _ => 0) := List.map_congr_left (fun k _ => rfl); rw [this]; clear this hn; rename_i hh; clear hh
   induction ks with
   | nil => rfl
   | cons x ks ih => rw [List.map_cons, List.sum_cons, ih]; rfl
 | x :: l, h => by
   have ih := dirS_all fs ks hn l (fun y hy => h y (List.mem_cons_of_mem _ hy))
   have e : ks.map (fun d => usedL fs ((x :: l).filter (fun x => dirP x.1 = d))) = ks.map (fun d => (if dirP x.1 = d then (fget fs x.2).now.length else 0) + usedL fs (l.filter (fun x => dirP x.1 = d))) := by
    refine List.map_congr_left (fun k _ => ?_); by_cases hx : dirP x.1 = k
    · rw [List.filter_cons_of_pos (by simpa using hx), if_pos hx]; simp [usedL]
    · rw [List.filter_cons_of_neg (by simpa using hx), if_neg hx]; simp
   rw [e, sum_add, sum_if ks hn _ _ (h x List.mem_cons_self), ih]; simp [usedL]
theorem names_sum {D : Dk} {nm : Nms} {d : Pth} (hA : Asc D.now) (hn : (nm.map (·.1)).Nodup) (he : ∀ q, mget nm q = if dirP q = d then mget D.now q else none) : ((nm.map (·.1)).map (fun q => (D.wasL q).length)).sum = dirS D d := by
 have hF : Asc (D.now.filter (fun x => decide (dirP x.1 = d))) := hA.filter _
 have hp : (nm.map (·.1)).Perm ((D.now.filter (fun x => decide (dirP x.1 = d))).map (·.1)) := (List.perm_ext_iff_of_nodup hn hF.nodup).2 (fun q => by
  rw [← isSome_iff_key, ← isSome_iff_key, he, mget_filter (f := fun p => decide (dirP p = d))]; by_cases h : dirP q = d <;> simp [h])
 rw [(hp.map _).sum_nat]; unfold dirS usedL; rw [List.map_map]; congr 1; refine List.map_congr_left (fun x hx => ?_); have := mget_of_mem hA.nodup (show (x.1, x.2) ∈ D.now from (List.mem_filter.1 hx).1); simp only [Function.comp, Dk.wasL, this]
theorem used_all {K : List Nat} {g : Gh} {H : Heap} {b : Nat} {D : Dk} (hf : PDk K g H b D) (hA : Asc D.now) : ((g.dm.map (·.1)).map (dirS D)).sum = D.used :=
 dirS_all D.fs _ hf.hm.mo.nodup D.now (fun x hx => by
  have h1 := mget_of_mem hA.nodup (show (x.1, x.2) ∈ D.now from hx); rw [← isSome_iff_key]
  cases hq : mget g.dm (dirP x.1) with
  | some _ => rfl
  | none => rw [((hf.abs _ hq).1 x.1 rfl).1] at h1; cases h1)
theorem nodup_le {α : Type} [DecidableEq α] : ∀ {a b : List α}, a.Nodup → (∀ k ∈ a, k ∈ b) → a.length ≤ b.length
 | [], b, _, _ => Nat.zero_le _
 | x :: a, b, hn, hs => by
   rw [List.nodup_cons] at hn; have h := nodup_le (b := b.erase x) hn.2 (fun k hk => (List.mem_erase_of_ne (fun e => hn.1 (by rw [← e]; exact hk))).2 (hs k (List.mem_cons_of_mem _ hk))); have hx := hs x List.mem_cons_self; rw [List.length_erase_of_mem hx] at h; have := List.length_pos_of_mem hx; simp only [List.length_cons]; omega
set_option maxHeartbeats 2000000 in
theorem used_ct (K : List Nat) (g : Gh) (b : Nat) (D : Dk) (w0 : World) (H0 : Heap)
 (hf : PDk K g H0 b D) (hA : Asc D.now) (hU : D.used ≤ 4611686018427387904) :
 Ct Tryz.prog w0 30 #[ptr b] H0 (fun r H2 => r = .int .i64 (D.used : Int) ∧ Nw H0 H2) := by
 refine Ct.enter (args := [ptr b]) Tryz.func30 rfl rfl rfl ?_; intro Q0 hret; have hm0 : Nw H0 H0 := Mo.refl _ _; have hbk_hf := hf.bk; refine CW.s1 (fun hK1 => CW.region ?_); refine LR.a1 (LR.nil (hK1 _ _ ?_)); refine CW.s1 (fun hK2 => CW.region ?_); refine LR.a1 (LR.nil (hK2 _ _ ?_)); refine CW.s1 (fun hK3 => CW.s1 (fun hK4 => CW.region ?_)); refine LR.m1 ?_; refine LR.v1 (Y.nilCheck rfl rfl) ?_; refine LR.v1 (Y.FA hf.vb.pt rfl u'50 rfl s'43) ?_; refine LR.v1 (Y.load1 (hf.vb.pt.drop 2) rfl a'43 rfl) ?_; have hmo := hf.hm; have hlt_hmo := hmo.lt; obtain ⟨es, ck, hmo⟩ := hmo.raw; refine LR.z1 (Z.rangeA hmo rfl u'43 rfl) ?_; rintro v12 H12 ⟨rfl, it, hs12, ob12, hH12⟩; have hzs12 : H12.size = H0.size + 1 := by rw [hH12]; simp
 have dj1 : DL (H0.size + 1) K := DL.newK hf.bk; have dj2 : Dj (g.mb + 1) (H0.size + 1) := Dj.new hmo.lt; have nx3 : Nx 0 H0.size (H0.size + 1) := Nx.new hm0.size; replace hf := hf.nw hs12; replace hmo := hmo.nw hs12; replace hm0 := hm0.tr hs12; have hz1 := hs12.size; have hlt_it := it.lt; refine LR.nil (hK4 _ _ (CW.block (fun _ _ hX5 _ => ?_)))
 refine CW.loop (fun (s_ : (List Pth) × (Nat)) => match s_ with | (da, n) => [(3, .int .i64 (n : Int)), (12, .pointer (some ⟨H0.size, 0, none⟩))])
  (fun (s_ : (List Pth) × (Nat)) (H : Heap) => match s_ with | (da, n) => (Itr H H0.size g.mb Str es ck da) ∧ (da.Nodup ∧ ∀ k ∈ da, k ∈ g.dm.map (·.1)) ∧ (n + rst (g.dm.map (·.1)) da (dirS D) = D.used) ∧ Mo (Ms [(H0.size + 1)]) H12 H)
  (fun (s_ : (List Pth) × (Nat)) => match s_ with | (da, n) => g.dm.length - da.length) ([], 0) ⟨rfl, rfl, trivial⟩ ?_ ?_
 ·
  exact ⟨it, ⟨List.nodup_nil, by simp⟩, by rw [rst_nil, used_all hf hA]; omega, Mo.refl _ _⟩
 rintro ⟨da, n⟩ HL1 hI1 K6 hN6 hE6; obtain ⟨it, hda, hsum, hlm1⟩ := hI1; replace hf := hf.upL hlm1 (DKL.cons dj1 DKL.nil); replace hmo := hmo.upL hlm1 (DL.o dj2); replace hm0 := hm0.tq hlm1 (MIL.o (MI.q nx3)); have hz2 := hlm1.size; have nx_hlm1_it := Nx.refl (H0.size + 1) H12.size; have hdl := nodup_le hda.1 hda.2; rw [List.length_map] at hdl; refine CW.s1 (fun hK7 => CW.region ?_); refine LR.z1 (Z.nextA it hmo keyStr.inj rfl rfl) ?_; rintro v13 H13 ⟨qb, d, db, dn1, rfl, it, hT13, hF13, hs13⟩; replace hs13 := hs13.md1; replace hf := hf.upL hs13 (DKL.cons dj1 DKL.nil); replace hmo := hmo.upL hs13 (DL.o dj2); replace hm0 := hm0.tq hs13 (MIL.o (MI.q nx3)); replace hlm1 := hlm1.trL hs13 (MIL.o (MI.r nx_hlm1_it)); have hz3 := hs13.size; refine LR.v1 (Y.ext0 rfl rfl) (LR.nil (hK7 _ _ ?_)); refine CW.s2 (fun hK8 hE8 => ?_); refine CW.cond rfl (fun c14 => ?_) (fun c14 => ?_)
 ·
  obtain ⟨hxy, hnd, hdq⟩ := hT13 c14; rw [hdq] at it; have hdb := mget_of_mem hmo.mo.nodup hxy; obtain ⟨nb, sb, kc, sv, nm, sm, hd⟩ := hf.dirs _ db hdb; have hxd := hxy; have hndd := hnd; have hrs : rst (g.dm.map (·.1)) da (dirS D) = dirS D d + rst (g.dm.map (·.1)) (da ++ [d]) (dirS D) := rst_step (w := dirS D) hnd hmo.mo.nodup (List.mem_map.2 ⟨_, hxy, rfl⟩); refine CW.skip (hK8 _ _ (CW.block (fun _ hK9 _ _ => CW.s1 (fun hK10 => CW.region ?_)))); refine LR.v1 (Y.entryA it hmo keyStr.inj hxy rfl rfl) ?_; refine LR.v1 (Y.extract rfl rfl rfl) ?_; refine LR.a1 (LR.nil (hK10 _ _ ?_)); refine CW.s1 (fun hK11 => CW.region ?_); refine LR.m1 ?_; refine LR.v1 (Y.nilCheck rfl rfl) ?_; refine LR.v1 (Y.FA hd.vd.pt rfl u'88 rfl s'85) ?_; refine LR.v1 (Y.FA (hd.vd.pt.drop 0) rfl u'85 rfl s'81) ?_; refine LR.v1 (Y.load1 ((hd.vd.pt.drop 0).drop 0) rfl a'81 rfl) ?_; have hmn := hd.hn; have hlt_hmn := hmn.lt; obtain ⟨es2, ck2, hmn⟩ := hmn.raw; refine LR.z1 (Z.rangeA hmn rfl u'81 rfl) ?_; rintro v22 H22 ⟨rfl, it2, hs22, ob22, hH22⟩; have hzs22 : H22.size = H13.size + 1 := by rw [hH22]; simp
  have dj4 : DL (H13.size + 1) K := DL.newK hf.bk; have dj6 : Dj (H0.size + 1) (H13.size + 1) := Dj.new it.lt; have dj7 : Dj (nb + 1) (H13.size + 1) := Dj.new hmn.lt; have nx9 : Nx 0 H12.size (H13.size + 1) := Nx.new hlm1.size; replace hf := hf.nw hs22; replace it := it.nw hs22; replace hmn := hmn.nw hs22; replace hlm1 := hlm1.trN hs22; have hz4 := hs22.size; have hlt_it2 := it2.lt; refine LR.nil (hK11 _ _ (CW.block (fun _ _ hX12 _ => ?_)))
  refine CW.loop (fun (s_ : (List Pth) × (Nat)) => match s_ with | (dn, m) => [(3, .int .i64 (m : Int)), (12, .pointer (some ⟨H0.size, 0, none⟩)), (22, .pointer (some ⟨H13.size, 0, none⟩))])
   (fun (s_ : (List Pth) × (Nat)) (H : Heap) => match s_ with | (dn, m) => (Itr H H13.size nb Str es2 ck2 dn) ∧ (dn.Nodup ∧ ∀ k ∈ dn, k ∈ nm.map (·.1)) ∧ (m + rst (nm.map (·.1)) dn (fun q => (D.wasL q).length) + rst (g.dm.map (·.1)) (da ++ [d]) (dirS D) = D.used) ∧ Mo (Ms [(H13.size + 1)]) H22 H)
   (fun (s_ : (List Pth) × (Nat)) => match s_ with | (dn, m) => nm.length - dn.length) ([], n) ⟨rfl, rfl, rfl, trivial⟩ ?_ ?_
  ·
   exact ⟨it2, ⟨List.nodup_nil, by simp⟩, by rw [rst_nil, names_sum hA hmn.mo.nodup hd.en]; omega, Mo.refl _ _⟩
  rintro ⟨dn, m⟩ HL2 hI2 K13 hN13 hE13; obtain ⟨it2, hdn, hsum2, hlm2⟩ := hI2; replace hf := hf.upL hlm2 (DKL.cons dj4 DKL.nil); replace it := it.upL hlm2 (DL.o dj6); replace hmn := hmn.upL hlm2 (DL.o dj7); replace hlm1 := hlm1.trL hlm2 (MIL.o (MI.q nx9)); have hz5 := hlm2.size; have nx_hlm2_it2 := Nx.refl (H13.size + 1) H22.size; have hdl := nodup_le hdn.1 hdn.2; rw [List.length_map] at hdl; refine CW.s1 (fun hK14 => CW.region ?_); refine LR.z1 (Z.nextA it2 hmn keyStr.inj rfl rfl) ?_; rintro v23 H23 ⟨qc, q, i, dn2, rfl, it2, hT23, hF23, hs23⟩; replace hs23 := hs23.md1; replace hf := hf.upL hs23 (DKL.cons dj4 DKL.nil); replace it := it.upL hs23 (DL.o dj6); replace hmn := hmn.upL hs23 (DL.o dj7); replace hlm1 := hlm1.trL hs23 (MIL.o (MI.q nx9)); replace hlm2 := hlm2.trL hs23 (MIL.o (MI.r nx_hlm2_it2)); have hz6 := hs23.size; refine LR.v1 (Y.ext0 rfl rfl) (LR.nil (hK14 _ _ ?_)); refine CW.s2 (fun hK15 hE15 => ?_); refine CW.cond rfl (fun c24 => ?_) (fun c24 => ?_)
  ·
   obtain ⟨hxy, hnd, hdq⟩ := hT23 c24; rw [hdq] at it2; have hqi := mget_of_mem hmn.mo.nodup hxy; rw [hd.en] at hqi
   have hqi : mget D.now q = some i := by
    split at hqi
    · exact hqi
    · cases hqi
   obtain ⟨nv, sv2, wv, kw, lw, hfi⟩ := hf.fil i (hf.ids.1 q i hqi); have hrs2 : rst (nm.map (·.1)) dn (fun q => (D.wasL q).length) = (D.wasL q).length + rst (nm.map (·.1)) (dn ++ [q]) (fun q => (D.wasL q).length) := rst_step (w := fun q => (D.wasL q).length) hnd hmn.mo.nodup (List.mem_map.2 ⟨_, hxy, rfl⟩); have hwl : D.wasL q = (fget D.fs i).now := by unfold Dk.wasL; rw [hqi]
   refine CW.skip (hK15 _ _ (CW.block (fun _ hK16 _ _ => CW.s1 (fun hK17 => CW.region ?_)))); refine LR.v1 (Y.entryA it2 hmn keyStr.inj hxy rfl rfl) ?_; refine LR.v1 (Y.extract rfl rfl rfl) ?_; refine LR.a1 (LR.nil (hK17 _ _ ?_)); refine CW.region ?_; refine LR.m1 ?_; refine LR.m1 ?_; refine LR.v1 (Y.nilCheck rfl rfl) ?_; refine LR.v1 (Y.FA hfi.vf.pt rfl u'106 rfl s'103) ?_; refine LR.v1 (Y.FA (hfi.vf.pt.drop 0) rfl u'103 rfl s'31) ?_; refine LR.v1 (Y.load1 ((hfi.vf.pt.drop 0).drop 0) rfl a'31 rfl) ?_; refine LR.v1 (Y.len hfi.hn rfl u'31 rfl) ?_; refine LR.v1 (Y.cast (v2 := .int .i64 ((m + (D.wasL q).length : Nat) : Int)) (Y.addi rfl rfl rfl (by rw [hwl] at hrs2; omega)) (ivv (by rw [hwl]; omega))) ?_; refine LR.a1 (LR.nil (hK16 _ _ ?_))
   have hdn2 : (dn ++ [q]).Nodup ∧ ∀ k ∈ dn ++ [q], k ∈ nm.map (·.1) := by
    refine ⟨?_, fun k hk => ?_⟩
    · rw [List.nodup_append]
      exact ⟨hdn.1, by simp, fun a ha b hb e => by simp only [List.mem_singleton] at hb; subst hb; subst e; exact hnd ha⟩
    · rcases List.mem_append.1 hk with h | h
      · exact hdn.2 k h
      · rw [List.mem_singleton.1 h]; exact List.mem_map.2 ⟨_, hxy, rfl⟩
   have hdl2 := nodup_le hdn2.1 hdn2.2; rw [List.length_append, List.length_singleton, List.length_map] at hdl2; refine QN.sub (hN13 (dn ++ [q], m + (D.wasL q).length) _ ?_ ?_) ⟨(iv (by omega)), rfl, rfl, trivial⟩
   · exact ⟨it2, hdn2, by rw [hrs2, ← Nat.add_assoc] at hsum2; exact hsum2, hlm2⟩
   · simp only [List.length_append, List.length_singleton]; omega
  ·
   obtain ⟨hall, _⟩ := hF23 c24; have hre : rst (nm.map (·.1)) dn (fun q => (D.wasL q).length) = 0 := rst_end (fun k hk => by obtain ⟨p, hp, rfl⟩ := List.mem_map.1 hk; exact hall p hp); refine CW.exit (hE15 (.exit 2) nofun _ _ (hE13 (.exit 2) nofun _ _ (hX12 _ _ ?_))); refine hK9 _ _ ?_
   have hda2 : (da ++ [d]).Nodup ∧ ∀ k ∈ da ++ [d], k ∈ g.dm.map (·.1) := by
    refine ⟨?_, fun k hk => ?_⟩
    · rw [List.nodup_append]
      exact ⟨hda.1, by simp, fun a ha b hb e => by simp only [List.mem_singleton] at hb; subst hb; subst e; exact hndd ha⟩
    · rcases List.mem_append.1 hk with h | h
      · exact hda.2 k h
      · rw [List.mem_singleton.1 h]; exact List.mem_map.2 ⟨_, hxd, rfl⟩
   have hdl2 := nodup_le hda2.1 hda2.2; rw [List.length_append, List.length_singleton, List.length_map] at hdl2; refine QN.sub (hN6 (da ++ [d], m) _ ?_ ?_) ⟨(iv (by omega)), rfl, trivial⟩
   · exact ⟨it, hda2, by rw [hre, Nat.add_zero] at hsum2; exact hsum2, hlm1⟩
   · simp only [List.length_append, List.length_singleton]; omega
 ·
  obtain ⟨hall, _⟩ := hF13 c14; have hre : rst (g.dm.map (·.1)) da (dirS D) = 0 := rst_end (fun k hk => by obtain ⟨p, hp, rfl⟩ := List.mem_map.1 hk; exact hall p hp); refine CW.exit (hE8 (.exit 0) nofun _ _ (hE6 (.exit 0) nofun _ _ (hX5 _ _ ?_))); refine hK3 _ _ (CW.s1 (fun hK18 => CW.region ?_)); refine LR.m1 ?_; refine LR.a1 (LR.nil (hK18 _ _ ?_)); refine CW.ret (hret .ret (.inr rfl) _ _ _ (res1 rfl rfl) ?_); exact ⟨by rw [show n = D.used by omega], hm0⟩
end Go.Proofs.YtfbfjhppppoilaaGreatDoor.SimF

namespace Go.Proofs.YtfbfjhppppoilaaGreatDoor.SimG
open E Go.RowKit SimA SimB SimC SimD SimE SimF
set_option maxRecDepth 20000
set_option maxRecDepth 100000 in
theorem inf86 : Inf Tryz.prog 86 98 3 40 := ⟨Tryz.underlying86, _, _, rfl, rfl, rfl, rfl, rfl⟩
theorem mkdir_ct (K : List Nat) (g : Gh) (b : Nat) (D : Dk) (p : Pth) (w0 : World) (H0 : Heap)
 (hf : PDk K g H0 b D) (hdl : g.dm.length + 1 ≤ D.ops) :
 Ct Tryz.prog w0 36 #[ptr b, Str p] H0 (fun r H2 => ∃ K2 : List Nat, ∃ g2 : Gh, ∃ db : Nat, r = ptr db ∧ (PDk K2 g2 H2 b D) ∧ (NxK K H0.size K2) ∧ (mget g2.dm p = some db) ∧ (g2.fb = g.fb) ∧ Mo (Ms K) H0 H2) := by
 refine Ct.enter (args := [ptr b, Str p]) Tryz.func36 rfl rfl rfl ?_; intro Q0 hret; have hm0 : Mo (Ms K) H0 H0 := Mo.refl _ _; have nx_hm0_hf := NxK.refl K H0.size; have hbk_hf := hf.bk; refine CW.s1 (fun hK1 => CW.region ?_); refine LR.a1 (LR.nil (hK1 _ _ ?_)); refine CW.seq (fun K2 hK2 _ => CW.region ?_); refine LR.m1 ?_; refine LR.v1 (Y.nilCheck rfl rfl) ?_; refine LR.v1 (Y.FA hf.vb.pt rfl u'50 rfl s'43) ?_; refine LR.v1 (Y.load1 (hf.vb.pt.drop 2) rfl a'43 rfl) ?_; refine LR.m1 ?_; refine LR.v1 (look_p adO hf.hm.mo (fun _ => rfl) keyStr rfl u'43 Tryz.underlying9 z'78 rfl rfl) ?_; refine LR.a1 (LR.nil (hK2 _ _ ?_)); refine CW.s1 (fun hK3 => CW.s1 (fun hK4 => CW.region ?_)); refine LR.m1 ?_; refine LR.v1 (Y.peq rfl (by kernel_rfl) (by kernel_rfl) rfl rfl) (LR.nil (hK4 _ _ ?_)); refine CW.cond rfl (fun c13 => ?_) (fun c13 => ?_)
 ·
  have hnd : mget g.dm p = none := by
   cases hq : mget g.dm p with
   | none => rfl
   | some db => rw [hq] at c13; cases c13
  refine CW.s1 (fun hK5 => CW.region ?_); refine LR.z1 (Z.makeMp Str (fvl g.fb) rfl) ?_; rintro v14 H14 ⟨rfl, hn, hs14, ob14, hH14⟩; have hzs14 : H14.size = H0.size + 1 := by rw [hH14]; simp
  have dj1 : DL (H0.size + 1) K := DL.newK hf.bk; have nx2 : Nx 0 H0.size (H0.size + 1) := Nx.new hm0.size; replace hf := hf.nw hs14; replace hm0 := hm0.trN hs14; have hz1 := hs14.size; have hlt_hn := hn.lt; refine LR.z1 (Z.makeMp Str (fvl g.fb) rfl) ?_; rintro v15 H15 ⟨rfl, hs, hs15, ob15, hH15⟩; have hzs15 : H15.size = H14.size + 1 := by rw [hH15]; simp
  have dj3 : DL (H14.size + 1) K := DL.newK hf.bk; have nx5 : Nx 0 H0.size (H14.size + 1) := Nx.new hm0.size; replace hf := hf.nw hs15; replace hn := hn.nw hs15; replace hm0 := hm0.trN hs15; have hz2 := hs15.size; have hlt_hs := hs.lt; refine LR.v1 (Y.build (v := .agg #[.map (some H0.size), .map (some H14.size)]) rfl rfl (by intro w; kernel_rfl)) ?_; refine LR.v1 (Y.build (v := .agg #[.map (some H0.size), .map (some H14.size), .slice none 0 0]) rfl rfl (by intro w; kernel_rfl)) ?_; refine LR.z1 (Z.boxv rfl rfl) ?_; rintro v18 H18 ⟨rfl, hvd, hs18, ob18, hH18⟩; have hzs18 : H18.size = H15.size + 1 := by rw [hH18]; simp
  have dj6 : DL (H15.size + 1) K := DL.newK hf.bk; have nx9 : Nx 0 H0.size (H15.size + 1) := Nx.new hm0.size; replace hf := hf.nw hs18; replace hn := hn.nw hs18; replace hs := hs.nw hs18; replace hm0 := hm0.trN hs18; have hz3 := hs18.size; replace hvd : Var 88 H18 H15.size ([.map (some H0.size), .map (some H14.size), .slice none 0 0]) := hvd; refine LR.a1 (LR.nil (hK5 _ _ ?_)); refine CW.region ?_; refine LR.m1 ?_; refine LR.v1 (Y.nilCheck rfl rfl) ?_; refine LR.v1 (Y.FA hf.vb.pt rfl u'50 rfl s'43) ?_; refine LR.v1 (Y.load1 (hf.vb.pt.drop 2) rfl a'43 rfl) ?_; refine LR.m1 ?_; refine LR.m1 ?_; refine LR.s1 (S.putMp H15.size hf.hm keyStr rfl u'43 Tryz.underlying9 rfl rfl rfl) ?_; rintro H4_6 ⟨hmp, hw4_6⟩; have hs4_6 := hf.ms hw4_6 (fun c e => by rw [e, hf.rm]; simp); replace hm0 := hm0.trL hs4_6 (MIL.ofK (nx_hm0_hf) (by intro k hk; simp [hk])); have hz4 := hs4_6.size; have nx12 := NxK.cons (nx2) (nx_hm0_hf); have nx14 := NxK.cons (nx5) (nx12); have nx15 := NxK.cons (nx9) (nx14); replace hf := hf.newDir hnd hvd hn hs (dj6) (dj1) (dj3) (by omega) (by omega) (by omega) hw4_6.md1 hmp hdl; refine LR.nil (hK3 _ _ (CW.s1 (fun hK6 => CW.region ?_))); refine LR.m1 ?_; refine LR.a1 (LR.nil (hK6 _ _ ?_)); refine CW.ret (hret .ret (.inr rfl) _ _ _ (res1 rfl rfl) ?_); exact ⟨_, _, _, rfl, hf, nx15, by show mget (mput g.dm p _) p = _; rw [mget_put, if_pos rfl], rfl, hm0⟩
 ·
  obtain ⟨db, hdb⟩ : ∃ db, mget g.dm p = some db := by
   cases hq : mget g.dm p with
   | none => rw [hq] at c13; cases c13
   | some db => exact ⟨db, rfl⟩
  refine CW.skip (hK3 _ _ (CW.s1 (fun hK7 => CW.region ?_))); refine LR.m1 ?_; refine LR.a1 (LR.nil (hK7 _ _ ?_)); refine CW.ret (hret .ret (.inr rfl) _ _ _ (res1 rfl rfl) ?_); exact ⟨K, g, db, by rw [hdb]; rfl, hf, nx_hm0_hf, hdb, rfl, hm0⟩
set_option maxHeartbeats 2000000 in
theorem change_ct (K : List Nat) (g : Gh) (b : Nat) (D : Dk) (p : Pth) (c : Chg) (w0 : World) (H0 : Heap)
 (hf : PDk K g H0 b D) (hdl : g.dm.length + 1 ≤ D.ops) (hcd : c.dir = p) (hcn : ∀ i, c.f = some i → dirP c.n = p ∧ i < D.fs.length) (hcg : c.g ≠ [] → dirP c.g = p) (hll : D.log.length ≤ 1099511627776) :
 Ct Tryz.prog w0 52 #[ptr b, Str p, .agg (fC g.fb c).toArray] H0 (fun r H2 => ∃ K2 : List Nat, ∃ g2 : Gh, r = .tuple #[] ∧ (PDk K2 g2 H2 b (D.change c)) ∧ (NxK K H0.size K2) ∧ (g2.fb = g.fb) ∧ Mo (Ms K) H0 H2) := by
 refine Ct.enter (args := [ptr b, Str p, .agg (fC g.fb c).toArray]) Tryz.func52 rfl rfl rfl ?_; intro Q0 hret; have hm0 : Mo (Ms K) H0 H0 := Mo.refl _ _; have nx_hm0_hf := NxK.refl K H0.size; have hbk_hf := hf.bk; refine CW.s1 (fun hK1 => CW.region ?_); refine LR.z1 (Z.boxv rfl rfl) ?_; rintro v5 H5 ⟨rfl, vc, hs5, ob5, hH5⟩; have hzs5 : H5.size = H0.size + 1 := by rw [hH5]; simp
 have dj1 : DL (H0.size + 1) K := DL.newK hf.bk; replace hf := hf.nw hs5; replace hm0 := hm0.trN hs5; have hz1 := hs5.size; replace vc : Var 98 H5 H0.size (fC g.fb c) := vc; refine LR.nil (hK1 _ _ (CW.seq (fun K2 hK2 _ => CW.region ?_))); refine LR.m1 ?_; refine LR.m1 ?_; refine LR.call rfl c'36 rfl (Wd.u rfl) rfl rfl (mkdir_ct K g b D p w0 _ hf hdl) (fun v9 H9 r9 => ?_); have ql4 := vc.lt; obtain ⟨K9, g9, db, rfl, hf, hkd9, hdb, hg9, hs9⟩ := r9; have dj5 : DL (H0.size + 1) K9 := DL.appK (dj1) ql4 hkd9; have nx6 : NxK K H0.size K9 := NxK.tr (nx_hm0_hf) hkd9 hm0.size; replace vc := vc.upL hs9 (dj1); replace hm0 := hm0.trL hs9 (MIL.ofK (nx_hm0_hf) (by intro k hk; simp [hk])); have hz2 := hs9.size; have hbk_hf := hf.bk; rw [← hg9] at vc; refine LR.a1 (LR.nil (hK2 _ _ ?_)); refine CW.s1 (fun hK3 => ?_); obtain ⟨nbA, sbA, kcA, svA, nmA, smA, hdA⟩ := hf.dirs _ db hdb; refine CW.region_tail 6 rfl (by kernel_rfl) (fun T2 hT2 => ?_); refine LR.m1 ?_; refine LR.v1 (Y.nilCheck rfl rfl) ?_; refine LR.v1 (Y.FA hdA.vd.pt rfl u'88 rfl s'85) ?_; refine LR.v1 (Y.FA (hdA.vd.pt.drop 0) rfl u'85 rfl s'81) ?_; refine LR.v1 (Y.load1 ((hdA.vd.pt.drop 0).drop 0) rfl a'81 rfl) ?_; refine LR.v1 (Y.loadN vc.pt rfl a'98 s'98 (rfl) rfl) ?_; refine LR.nil (hT2 _ ?_); refine LR.call rfl c'41 rfl (Wd.u rfl) rfl rfl ((put_ct g9.fb nbA nmA c w0 _ hdA.hn).mono (fun r H2 h => hf.put hdb hdA h.2 h.1 (mget_apM c nmA) (fun i hi => ⟨(hcn i hi).1, (hcn i hi).2⟩) hcg)) ?_; rintro v16 H16 ⟨hf, hs16⟩; replace vc := vc.upL hs16 (dj5); replace hm0 := hm0.trL hs16 (MIL.ofK (nx6) (by intro k hk; simp [hk])); have hz3 := hs16.size; have hbk_hf := hf.bk; refine LR.nil (hK3 _ _ ?_); obtain ⟨nbB, sbB, kcB, svB, nmB, smB, hdB⟩ := hf.dirs _ db hdb; have hll2 : (D.chgs p).length ≤ D.log.length := List.length_filter_le _ _; have hop : Mo (Ms [(db + 1), kcB]) H16 H16 := Mo.refl _ _; have km7 : KM K9 (db + 1) := (hf.km1 hdB.rd (by simp)); have vd := hdB.vd; have hlt_vd := vd.lt; have nx9 : MI K H0.size (db + 1) := MIL.at (MIL.ofK (nx6) (by intro k hk; simp [hk])) km7; have nx10 := Nx.refl (db + 1) H16.size; have km11 : KM K9 kcB := (hf.km hdB.rc (by simp)); have hc := (show Ow kcB 98 _ (fC g9.fb) 3 svB.v (D.chgs p) from hdB.hc); have hle_hc := hc.le; have dj12 : Dj (H0.size + 1) kcB := DL.at (dj5) km11; have nx13 : MI K H0.size kcB := MIL.at (MIL.ofK (nx6) (by intro k hk; simp [hk])) km11; have nx14 := Nx.refl kcB H16.size; have dj15 : Dj (db + 1) kcB := fun x h1 h2 => by have h3 := hdB.rc x h2; rw [show x = db by omega, hdB.rd] at h3; cases h3
 refine CW.region_any (fun Hq => Mo (Ms [kcB]) H16 Hq) [8, 9, 10] rfl ?_; have hq3 : Mo (Ms [kcB]) H16 H16 := Mo.refl _ _; have nx16 := Nx.refl kcB H16.size; refine LH.m1 0 rfl hq3 ?_; refine LH.m1 1 rfl hq3 ?_; refine LH.t1 2 rfl (fun Hq hq => Y.nilCheck rfl rfl) hq3 ?_; refine LH.t1 3 rfl (fun Hq hq => Y.fieldAddr (vd.upL hq (DL.o dj15)).pt rfl u'88 rfl rfl s'86 (by decide) rfl) hq3 ?_; refine LH.t1 4 rfl (fun Hq hq => Y.load1 ((vd.upL hq (DL.o dj15)).pt.drop 2) rfl a'86 rfl) hq3 ?_; refine LH.t1 5 rfl (fun Hq hq => Y.loadN (vc.upL hq (DL.o dj12)).pt rfl a'98 s'98 (rfl) rfl) hq3 ?_; refine LH.o1 6 ?_; refine LO.z rfl (Z.litw _ ([c]) rfl inf86 rfl rfl rfl (by decide) (by decide) (fC_len _) (fC_one _) (rfl)) (Wd.u rfl) rfl rfl ?_; rintro v23 H23 ⟨ow23, hs23, ob23, hH23⟩; have hzs23 : H23.size = H16.size + 1 := by rw [hH23]; simp
 have nx22 : Nx 0 H16.size (H16.size + 1) := Nx.new hq3.size; replace vd := vd.nw hs23; replace hc := hc.nw hs23; replace hm0 := hm0.trN hs23; replace hop := hop.trN hs23; replace hq3 := hq3.trN hs23; have hz4 := hs23.size; refine ⟨.inr hq3, LH.narrow (SH2 := fun Hq => Mo (Ms [kcB, (H16.size + 1)]) H23 Hq) (fun Hq hq => hq3.trL hq (MIL.cons (MI.r nx16) (MIL.o (MI.q nx22)))) ?_⟩; have hq3 : Mo (Ms [kcB, (H16.size + 1)]) H23 H23 := Mo.refl _ _; have nx23 := Nx.refl kcB H23.size; have nx24 := Nx.refl (H16.size + 1) H23.size; refine LH.o1 7 ?_; refine LO.z rfl (Z.apnd hc ow23.rd rfl inf86 rfl rfl (by first | omega | (simp; omega)) (by first | omega | (simp; omega))) (Wd.u rfl) rfl rfl ?_; rintro v24 H24 ⟨kc2, hc, hk24, hs24⟩; replace hk24 : Nx kcB H23.size kc2 := hk24; replace hs24 := hs24.md; have dj26 : Dj (db + 1) kc2 := Dj.app (dj15) vd.lt hk24; have nx29 : Nx kcB H16.size kc2 := Nx.tr (nx14) hk24 hop.size; have nx30 : Nx kcB H23.size kc2 := Nx.tr (nx23) hk24 hq3.size; replace vd := vd.upL hs24 (DL.o dj15); replace hm0 := hm0.trL hs24 (MIL.cons (nx13) MIL.nil); replace hop := hop.trL hs24 (MIL.o (MI.r nx14)); replace hq3 := hq3.trL hs24 (MIL.o (MI.r nx23)); have hz5 := hs24.size; have hle_hc := hc.le; refine ⟨.inr hq3, LH.narrow (SH2 := fun Hq => Mo (Ms [kc2, (H16.size + 1)]) H24 Hq) (fun Hq hq => hq3.trL hq (MIL.cons (MI.r nx30) (MIL.o (MI.r nx24)))) ?_⟩; refine LH.o1 8 ?_; refine LO.v rfl (Y.nilCheck rfl rfl) (Wd.u rfl) rfl rfl (.inl rfl) ?_; refine LH.o1 9 ?_; refine LO.v rfl (Y.FA vd.pt rfl u'88 rfl s'86) (Wd.u rfl) rfl rfl (.inl rfl) ?_; refine LH.o1 10 ?_; refine LO.s rfl (S.var1 vd 2 ([.map (some nbB), .map (some sbB), v24]) rfl rfl rfl (hc.rd.oneCell) s'86 (by simp) (rfl)) (Wd.u rfl) rfl ?_; rintro H3_10 ⟨vd, hs3_10⟩; replace hs3_10 := hs3_10.md1; replace hc := hc.upL hs3_10 (DL.o dj26.symm); replace hm0 := hm0.trL hs3_10 (MIL.cons (nx9) MIL.nil); replace hop := hop.trL hs3_10 (MIL.o (MI.r nx10)); have hz6 := hs3_10.size; refine ⟨.inl rfl, ?_⟩; refine LH.done (by kernel_rfl) ?_; obtain ⟨sv2, rfl⟩ : ∃ s : SV, v24 = s.v := ⟨toSV v24, hc.sv.symm⟩; have nx34 : NxK K H0.size (kc2 :: K9) := (NxK.app (nx6) (km11) (nx29) (by omega)); replace hf := hf.note hdb hdB hop vd hc (nx29) hcd (fun i hi => (hcn i hi).2); refine hret .normal (.inl rfl) _ _ _ (res0 rfl) ?_; exact ⟨_, _, rfl, hf, nx34, hg9, hm0⟩
end Go.Proofs.YtfbfjhppppoilaaGreatDoor.SimG

namespace Go.Proofs.YtfbfjhppppoilaaGreatDoor.SimH
open E Go.RowKit SimA SimB SimC SimD SimE SimF SimG
set_option maxRecDepth 20000
set_option maxRecDepth 100000 in
theorem inf104 : Inf Tryz.prog 104 76 2 32 := ⟨Tryz.underlying104, _, _, rfl, rfl, rfl, rfl, rfl⟩
structure Bd (n : Nat) (D : Dk) : Prop where
 an : Asc D.now
 ast : Asc D.stays
 us : D.used ≤ 2305843009213693952
 lg : D.log.length ≤ n
 op : D.ops ≤ n
 nw : ∀ i, (fget D.fs i).now.length ≤ n
 sy : ∀ i, (fget D.fs i).stays.length ≤ n
 w : ∀ i, (fget D.fs i).w.length ≤ n
 wd : ∀ i, ∀ y ∈ (fget D.fs i).w, y.d.length ≤ n
 nl : D.now.length ≤ n
 sl : D.stays.length ≤ n
 fl : D.fs.length ≤ n
 pf : ∀ i j, (onAll ((fget D.fs i).w.take j) (fget D.fs i).stays).length ≤ n
 ld : ∀ c ∈ D.log, ∀ i, c.f = some i → dirP c.n = c.dir
theorem begin_same (D : Dk) : D.begin.2.cap = D.cap ∧ D.begin.2.most = D.most ∧ D.begin.2.fs = D.fs ∧ D.begin.2.now = D.now ∧ D.begin.2.stays = D.stays ∧ D.begin.2.log = D.log ∧ D.begin.2.ops ≤ D.ops + 1 := by
 unfold Dk.begin; split
 · exact ⟨rfl, rfl, rfl, rfl, rfl, rfl, Nat.le_succ _⟩
 · split
   · exact ⟨rfl, rfl, rfl, rfl, rfl, rfl, Nat.le_succ _⟩
   · exact ⟨rfl, rfl, rfl, rfl, rfl, rfl, Nat.le_refl _⟩
theorem begin_true {D : Dk} (h : D.begin.1 = true) : D.begin.2.ops = D.ops + 1 ∧ D.begin.2.dead = false := by
 unfold Dk.begin at h ⊢; split at h
 · cases h
 · rename_i h1
   split at h
   · cases h
   · rename_i h2
     rw [if_neg h1, if_neg h2]; exact ⟨rfl, by simpa using h1⟩
theorem Bd.mono {n m : Nat} {D : Dk} (h : Bd n D) (hm : n ≤ m) : Bd m D := ⟨h.an, h.ast, h.us, Nat.le_trans h.lg hm, Nat.le_trans h.op hm, fun i => Nat.le_trans (h.nw i) hm, fun i => Nat.le_trans (h.sy i) hm, fun i => Nat.le_trans (h.w i) hm, fun i y hy => Nat.le_trans (h.wd i y hy) hm, Nat.le_trans h.nl hm, Nat.le_trans h.sl hm, Nat.le_trans h.fl hm, fun i j => Nat.le_trans (h.pf i j) hm, h.ld⟩
theorem Bd.begin {n : Nat} {D : Dk} (h : Bd n D) : Bd (n + 1) D.begin.2 := by
 obtain ⟨e1, e2, e3, e4, e5, e6, e7⟩ := begin_same D; have h := h.mono (Nat.le_succ n); exact ⟨by rw [e4]; exact h.an, by rw [e5]; exact h.ast, by unfold Dk.used; rw [e3, e4]; exact h.us, by rw [e6]; exact h.lg, by have := Bd.op ‹Bd n D›; omega, by rw [e3]; exact h.nw, by rw [e3]; exact h.sy, by rw [e3]; exact h.w, by rw [e3]; exact h.wd, by rw [e4]; exact h.nl, by rw [e5]; exact h.sl, by rw [e3]; exact h.fl, by rw [e3]; exact h.pf, by rw [e6]; exact h.ld⟩
theorem look_0 {D : Dk} {p : Pth} (h : D.look p = 0) : nameB p = true ∧ ∃ i, mget D.now p = some i := by
 unfold Dk.look at h
 cases hn : nameB p with
 | false => rw [hn] at h; simp at h
 | true =>
   rw [hn] at h
   cases hq : mget D.now p with
   | none => rw [hq] at h; simp at h
   | some i => exact ⟨rfl, i, rfl⟩
theorem look_2 {D : Dk} {p : Pth} (h : D.look p = 2) : nameB p = true ∧ mget D.now p = none := by
 unfold Dk.look at h
 cases hn : nameB p with
 | false => rw [hn] at h; simp at h
 | true =>
   rw [hn] at h
   cases hq : mget D.now p with
   | none => exact ⟨rfl, rfl⟩
   | some i => rw [hq] at h; simp at h
theorem look_7 {D : Dk} {p : Pth} (h : D.look p = 7) : nameB p = false := by
 unfold Dk.look at h
 cases hn : nameB p with
 | false => rfl
 | true =>
   rw [hn] at h
   cases hq : mget D.now p with
   | none => rw [hq] at h; simp at h
   | some i => rw [hq] at h; simp at h
theorem look_or (D : Dk) (p : Pth) : D.look p = 0 ∨ D.look p = 2 ∨ D.look p = 7 := by
 unfold Dk.look; split
 · split
   · exact .inl rfl
   · exact .inr (.inl rfl)
 · exact .inr (.inr rfl)
theorem on_len (w : Wr) (b : List UInt8) : (w.on b w.d.length).length = (if w.b = true then b.length else 0) + w.d.length := by
 unfold Wr.on; rw [List.length_append, List.length_take, Nat.min_self]; split <;> rfl
theorem fget_put {D : Dk} {i : Nat} {x : Fdt} (h : i < D.fs.length) : fget (D.putF i x).fs i = x := by simp [fget, Dk.putF, List.getD, h]
theorem fl_put {D : Dk} {i : Nat} {x : Fdt} : (D.putF i x).fs.length = D.fs.length := by simp [Dk.putF]
theorem put_put {D : Dk} {i : Nat} {x y : Fdt} : (D.putF i x).putF i y = D.putF i y := by simp [Dk.putF]
theorem lay_dead {D : Dk} {p : Pth} {w : Wr} (h : D.begin.1 = false) : D.lay p w = (11, D.begin.2) := by unfold Dk.lay; simp [h]
theorem lay_go {D : Dk} {p : Pth} {w : Wr} (h : D.begin.1 = true) : D.lay p w = (D.begin.2.layE p w, if D.begin.2.layE p w = 0 then D.begin.2.write p w else D.begin.2) := by unfold Dk.lay; simp [h]
theorem layE_7 {D : Dk} {p : Pth} {w : Wr} (h : nameB p = false) : D.layE p w = 7 := by unfold Dk.layE; rw [if_pos h]
theorem layE_5 {D : Dk} {p : Pth} {w : Wr} (h : nameB p = true) (h2 : D.most < (w.on (D.wasL p) w.d.length).length) : D.layE p w = 5 := by unfold Dk.layE; rw [if_neg (by simp [h]), if_pos h2]
theorem layE_12 {D : Dk} {p : Pth} {w : Wr} (h : nameB p = true) (h2 : ¬ D.most < (w.on (D.wasL p) w.d.length).length) (h3 : D.cap + (D.wasL p).length < D.used + (w.on (D.wasL p) w.d.length).length) : D.layE p w = 12 := by unfold Dk.layE; rw [if_neg (by simp [h]), if_neg h2, if_pos h3]
theorem layE_0 {D : Dk} {p : Pth} {w : Wr} (h : nameB p = true) (h2 : ¬ D.most < (w.on (D.wasL p) w.d.length).length) (h3 : ¬ D.cap + (D.wasL p).length < D.used + (w.on (D.wasL p) w.d.length).length) : D.layE p w = 0 := by unfold Dk.layE; rw [if_neg (by simp [h]), if_neg h2, if_neg h3]
theorem was_some {D : Dk} {p : Pth} {i : Nat} (h : mget D.now p = some i) : D.wasL p = (fget D.fs i).now := by unfold Dk.wasL; rw [h]
theorem was_none {D : Dk} {p : Pth} (h : mget D.now p = none) : D.wasL p = [] := by unfold Dk.wasL; rw [h]
theorem write_some {D : Dk} {p : Pth} {i : Nat} {w : Wr} (h : mget D.now p = some i) (hi : i < D.fs.length) :
 (D.putF i ⟨w.on (D.wasL p) w.d.length, (fget D.fs i).stays, (fget D.fs i).w⟩).putF i ⟨(fget (D.putF i ⟨w.on (D.wasL p) w.d.length, (fget D.fs i).stays, (fget D.fs i).w⟩).fs i).now, (fget (D.putF i ⟨w.on (D.wasL p) w.d.length, (fget D.fs i).stays, (fget D.fs i).w⟩).fs i).stays, (fget (D.putF i ⟨w.on (D.wasL p) w.d.length, (fget D.fs i).stays, (fget D.fs i).w⟩).fs i).w ++ [w]⟩ = D.write p w := by
 rw [fget_put hi, put_put, was_some h]; unfold Dk.write Dk.make; rw [h]
def mk1 (D : Dk) (p : Pth) : Dk := ({ D with fs := D.fs ++ [⟨[], [], []⟩] } : Dk).change ⟨[], p, some D.fs.length⟩
theorem mk1_get (D : Dk) (p : Pth) : fget (mk1 D p).fs D.fs.length = ⟨[], [], []⟩ := by simp [mk1, Dk.change, fget, List.getD]
theorem mk1_len (D : Dk) (p : Pth) : D.fs.length < (mk1 D p).fs.length := by simp [mk1, Dk.change]
theorem write_none {D : Dk} {p : Pth} {w : Wr} (h : mget D.now p = none) :
 ((mk1 D p).putF D.fs.length ⟨w.on (fget (mk1 D p).fs D.fs.length).now w.d.length, (fget (mk1 D p).fs D.fs.length).stays, (fget (mk1 D p).fs D.fs.length).w⟩).putF D.fs.length ⟨(fget ((mk1 D p).putF D.fs.length ⟨w.on (fget (mk1 D p).fs D.fs.length).now w.d.length, (fget (mk1 D p).fs D.fs.length).stays, (fget (mk1 D p).fs D.fs.length).w⟩).fs D.fs.length).now, (fget ((mk1 D p).putF D.fs.length ⟨w.on (fget (mk1 D p).fs D.fs.length).now w.d.length, (fget (mk1 D p).fs D.fs.length).stays, (fget (mk1 D p).fs D.fs.length).w⟩).fs D.fs.length).stays, (fget ((mk1 D p).putF D.fs.length ⟨w.on (fget (mk1 D p).fs D.fs.length).now w.d.length, (fget (mk1 D p).fs D.fs.length).stays, (fget (mk1 D p).fs D.fs.length).w⟩).fs D.fs.length).w ++ [w]⟩ = D.write p w := by
 rw [fget_put (mk1_len D p), put_put]; unfold Dk.write Dk.make; rw [h]; rfl
set_option maxHeartbeats 1000000 in
theorem lay_ct (mx_ : Int) (K : List Nat) (g : Gh) (b : Nat) (D : Dk) (p : Pth) (x : Wx) (F : Nat → Prop) (w0 : World) (H0 : Heap)
 (hf : PDk K g H0 b D) (mx : MX mx_ H0) (bf_mx : BF (fun b => b = 0) H0.size) (dmx : DFL (fun b => b = 0) K) (hd : Rd F H0 fB 1 x.2.v x.1.d) (bf_hd : BF F H0.size) (dfd : DFL F K) (hl : p.length ≤ 4294967280) (hB : Bd 274877906944 D) (hdl : x.1.d.length ≤ 274877906944) :
 Ct Tryz.prog w0 33 #[ptr b, Str p, wV x] H0 (fun r H2 => ∃ K2 : List Nat, ∃ g2 : Gh, r = .int .i64 ((D.lay p x.1).1 : Int) ∧ (PDk K2 g2 H2 b (D.lay p x.1).2) ∧ (NxK K H0.size K2) ∧ Mo (Ms K) H0 H2) := by
 refine Ct.enter (args := [ptr b, Str p, wV x]) Tryz.func33 rfl rfl rfl ?_; intro Q0 hret; have hm0 : Mo (Ms K) H0 H0 := Mo.refl _ _; have nx_hm0_hf := NxK.refl K H0.size; have hbk_hf := hf.bk; have hop0 := hB.op; have hdm0 := hf.dml; obtain ⟨D1, hD1⟩ : ∃ D1, D1 = D.begin.2 := ⟨_, rfl⟩; have hB1 := hB.begin; rw [← hD1] at hB1; refine CW.s1 (fun hK1 => CW.region ?_); refine LR.z1 (Z.boxv rfl rfl) ?_; rintro v5 H5 ⟨rfl, vw, hs5, ob5, hH5⟩; have hzs5 : H5.size = H0.size + 1 := by rw [hH5]; simp
 have dj1 : DL (H0.size + 1) K := DL.newK hf.bk; have nx4 : Nx 0 H0.size (H0.size + 1) := Nx.new hm0.size; replace hf := hf.nw hs5; replace mx := mx.nw hs5; replace hd := hd.nw hs5; replace hm0 := hm0.trN hs5; have hz1 := hs5.size; replace vw : Var 76 H5 H0.size (fW x) := vw; refine LR.a1 (LR.nil (hK1 _ _ ?_)); refine CW.seq (fun K2 hK2 hE2 => CW.s1 (fun hK3 => CW.region ?_)); refine LR.m1 ?_; refine LR.call rfl c'34 rfl (Wd.u rfl) rfl rfl (begin_ct K g b D w0 _ hf (by omega)) ?_; rintro v12 H12 ⟨g1, rfl, hf, hg1, hs12⟩; replace mx := mx.upL hs12 (dmx); replace hd := hd.upL hs12 (dfd); replace vw := vw.upL hs12 (dj1); replace hm0 := hm0.trL hs12 (MIL.ofK (nx_hm0_hf) (by intro k hk; simp [hk])); have hz2 := hs12.size; rw [← hD1] at hf; refine LR.v1 (Y.not rfl rfl) (LR.nil (hK3 _ _ ?_)); refine CW.cond rfl (fun c13 => ?_) (fun c13 => ?_)
 ·
  refine CW.s1 (fun hK4 => CW.region ?_); refine LR.a1 (LR.nil (hK4 _ _ ?_)); refine CW.ret (hE2 .ret nofun _ _ (hret .ret (.inr rfl) _ _ _ (res1 rfl rfl) ?_)); have hdd := lay_dead (p := p) (w := x.1) (show D.begin.1 = false by simpa using c13); exact ⟨_, _, by rw [hdd]; rfl, by rw [hdd]; rw [hD1] at hf; exact hf, nx_hm0_hf, hm0⟩
 ·
  have hgo : D.begin.1 = true := by simpa using c13
  have hops := (begin_true hgo).1; rw [← hD1] at hops; have hlo := look_or D1 p; have hlay := lay_go (p := p) (w := x.1) hgo; rw [← hD1] at hlay; refine CW.skip (hK2 _ _ (CW.s1 (fun hK5 => CW.region ?_))); refine LR.m1 ?_; refine LR.m1 ?_; refine LR.call rfl c'45 rfl (Wd.u rfl) rfl rfl (find_ct mx_ K g1 b D1 p w0 _ mx (bf_mx.mono (by omega)) hf hl) ?_; rintro v17 H17 ⟨rfl, hs17⟩; replace hf := hf.nw hs17; replace mx := mx.nw hs17; replace hd := hd.nw hs17; replace vw := vw.nw hs17; replace hm0 := hm0.trN hs17; have hz3 := hs17.size; refine LR.m1 ?_; refine LR.v1 (Y.extract rfl rfl rfl) ?_; refine LR.v1 (Y.extract rfl rfl rfl) ?_; refine LR.a1 ?_; refine LR.a1 (LR.nil (hK5 _ _ ?_)); refine CW.s2 (fun hK6 hE6 => CW.s1 (fun hK7 => CW.region ?_)); refine LR.m1 ?_; refine LR.v1 (Y.eql rfl rfl rfl) (LR.nil (hK7 _ _ ?_)); refine CW.condp rfl (fun c21 => ?_) (fun c21 => ?_)
  ·
   refine CW.s1 (fun hK8 => CW.region ?_); refine LR.m1 ?_; refine LR.a1 (LR.nil (hK8 _ _ ?_)); refine CW.ret (hE6 .ret nofun _ _ (hret .ret (.inr rfl) _ _ _ (res1 rfl rfl) ?_)); have hE : D1.layE p x.1 = 7 := layE_7 (look_7 (D := D1) (by omega)); exact ⟨_, _, by rw [hlay, hE]; rw [show D1.look p = 7 by omega]; rfl, by rw [hlay]; simp only [hE]; exact hf, nx_hm0_hf, hm0⟩
  ·
   refine CW.skip (hK6 _ _ (CW.s1 (fun hK9 => CW.region ?_))); refine LR.a1 (LR.nil (hK9 _ _ ?_)); refine CW.s1 (fun hK10 => CW.s1 (fun hK11 => CW.region ?_)); refine LR.m1 ?_; refine LR.v1 (Y.peq rfl (by kernel_rfl) (by kernel_rfl) rfl rfl) (LR.nil (hK11 _ _ ?_)); refine CW.cond rfl (fun c24 => ?_) (fun c24 => ?_)
   ·
    have hlk : D1.look p = 2 := by
     rcases hlo with h | h | h
     · obtain ⟨_, i, hi⟩ := look_0 h
       rw [if_pos h, hi] at c24; cases c24
     · exact h
     · omega
    obtain ⟨hnm, hnow⟩ := look_2 hlk; have hwas := was_none hnow; have hwas0 : (D1.wasL p).length = 0 := by rw [hwas]; rfl
    refine CW.region ?_; refine LR.v1 (Y.build (v := .agg #[.slice none 0 0, .slice none 0 0, .slice none 0 0]) rfl rfl (by intro w; kernel_rfl)) ?_; refine LR.z1 (Z.boxv rfl rfl) ?_; rintro v26 H26 ⟨rfl, vf, hs26, ob26, hH26⟩; have hzs26 : H26.size = H17.size + 1 := by rw [hH26]; simp
    have dj5 : DL (H17.size + 1) K := DL.newK hf.bk; have df7 := (DF.new (bf_hd.mono hm0.size) : DF _ (H17.size + 1)); have dj8 : Dj (H0.size + 1) (H17.size + 1) := Dj.new vw.lt; have nx9 : Nx 0 H0.size (H17.size + 1) := Nx.new hm0.size; replace hf := hf.nw hs26; replace mx := mx.nw hs26; replace hd := hd.nw hs26; replace vw := vw.nw hs26; replace hm0 := hm0.trN hs26; have hz4 := hs26.size; replace vf : Var 106 H26 H17.size ([.slice none 0 0, .slice none 0 0, .slice none 0 0]) := vf; refine LR.a1 (LR.nil (hK10 _ _ ?_)); refine CW.s1 (fun hK12 => CW.region ?_); refine LR.v1 (Y.FA vw.pt rfl u'76 rfl s'31) ?_; refine LR.v1 (Y.load1 (vw.pt.drop 1) rfl a'31 rfl) ?_; refine LR.v1 (Y.len hd rfl u'31 rfl) ?_; refine LR.a1 (LR.nil (hK12 _ _ ?_))
    refine CW.cut (fun (sz : (Nat)) => [(0, ptr b), (1, Str p), (5, .pointer (some ⟨H0.size, 0, none⟩)), (7, ptr H17.size), (8, .int .i64 (D1.look p : Int)), (9, .int .i64 (0)), (10, .int .i64 (sz : Int))])
     (fun (sz : (Nat)) (H : Heap) => (sz = (x.1.on (D1.wasL p) x.1.d.length).length) ∧ ((D1.wasL p).length ≤ 274877906945) ∧ Nw H26 H) (fun _ hK13 _ => ?_) ?_
    ·
     have hcm13 : Nw H26 H26 := Mo.refl _ _; refine CW.s1 (fun hK14 => CW.region ?_); refine LR.v1 (Y.FA vw.pt rfl u'76 rfl s'4) ?_; refine LR.v1 (Y.load1 vw.pt rfl a'4 rfl) (LR.nil (hK14 _ _ ?_)); refine CW.cond rfl (fun c37 => ?_) (fun c37 => ?_)
     ·
      refine CW.region ?_; refine LR.m1 ?_; refine LR.m1 ?_; refine LR.v1 (Y.addi rfl rfl rfl (by omega)) ?_; refine LR.a1 (LR.nil ?_); refine QN.sub (hK13 ((D1.wasL p).length + x.1.d.length) _ ?_) ⟨rfl, rfl, rfl, rfl, (iv (by omega)), (iv (by omega)), (iv (by omega)), trivial⟩; exact ⟨by rw [on_len, if_pos c37], by first | (rw [hwas]; omega) | (rw [hwas]; simp), hcm13⟩
     ·
      refine CW.skip ?_; refine QN.sub (hK13 x.1.d.length _ ?_) ⟨rfl, rfl, rfl, rfl, (iv (by omega)), (iv (by omega)), (iv (by omega)), trivial⟩; exact ⟨by rw [on_len, if_neg (by simpa using c37)]; omega, by first | (rw [hwas]; omega) | (rw [hwas]; simp), hcm13⟩
    ·
     intro sz Hcutc37 hIcutc37; obtain ⟨hsz, hwl, hlmcutc37⟩ := hIcutc37; replace hf := hf.nw hlmcutc37; replace mx := mx.nw hlmcutc37; replace hd := hd.nw hlmcutc37; replace vw := vw.nw hlmcutc37; replace vf := vf.nw hlmcutc37; replace hm0 := hm0.trN hlmcutc37; have hz5 := hlmcutc37.size; have hus := hB1.us; have hszl : sz ≤ 274877906945 + 274877906944 := by rw [hsz, on_len]; split <;> omega
     refine CW.s2 (fun hK15 hE15 => CW.block (fun _ hK16 _ hE16 => CW.s1 (fun hK17 => CW.region ?_))); refine LR.m1 ?_; refine LR.m1 ?_; refine LR.v1 (Y.nilCheck rfl rfl) ?_; refine LR.v1 (Y.FA hf.vb.pt rfl u'50 rfl s'3) ?_; refine LR.v1 (Y.load1 (hf.vb.pt.drop 1) rfl a'3 rfl) ?_; refine LR.v1 (Y.gtr rfl rfl rfl) ?_; refine LR.a1 (LR.nil (hK17 _ _ ?_)); refine CW.condp rfl (fun c41 => ?_) (fun c41 => ?_)
     ·
      refine CW.s1 (fun hK18 => CW.region ?_); refine LR.a1 (LR.nil (hK18 _ _ ?_)); refine CW.ret (hE16 .ret nofun (by simp) _ _ (hE15 .ret nofun _ _ (hret .ret (.inr rfl) _ _ _ (res1 rfl rfl) ?_))); have hE : D1.layE p x.1 = 5 := layE_5 hnm (by omega); exact ⟨_, _, by rw [hlay, hE]; rfl, by rw [hlay]; simp only [hE]; exact hf, nx_hm0_hf, hm0⟩
     ·
      refine CW.s1 (fun hK19 => ?_); refine CW.region_any (fun Hq => Nw Hcutc37 Hq) [] rfl ?_; have hqs := Nw.refl Hcutc37; refine LH.m1 0 rfl hqs ?_; refine LH.m1 2 rfl hqs ?_; refine LH.m1 4 rfl hqs ?_; refine LH.m1 6 rfl hqs ?_; refine LH.t1 7 rfl (fun Hq hq => Y.nilCheck rfl rfl) hqs ?_; refine LH.t1 8 rfl (fun Hq hq => Y.FA (hf.vb.pt.nw hq) rfl u'50 rfl s'3) hqs ?_; refine LH.t1 9 rfl (fun Hq hq => Y.load1 ((hf.vb.pt.drop 0).nw hq) rfl a'3 rfl) hqs ?_; refine LH.o1 1 ?_; refine LO.call rfl rfl c'30 rfl (Wd.u rfl) rfl rfl (used_ct _ _ b D1 w0 _ hf hB1.an (by omega)) ?_; rintro v50 H50 ⟨rfl, hs50⟩; replace hf := hf.nw hs50; replace mx := mx.nw hs50; replace hd := hd.nw hs50; replace vw := vw.nw hs50; replace vf := vf.nw hs50; replace hm0 := hm0.trN hs50; have hz6 := hs50.size; have hq50 := hqs.tr hs50; refine ⟨.inr hq50, LH.narrow (SH2 := fun Hq => Nw H50 Hq) (fun Hq hq => hq50.tr hq) ?_⟩; have hqn50 := Nw.refl H50; refine LH.t1 3 rfl (fun Hq hq => Y.subi rfl rfl rfl (by omega)) hqn50 ?_; refine LH.t1 5 rfl (fun Hq hq => Y.addi rfl rfl rfl (by omega)) hqn50 ?_; refine LH.t1 10 rfl (fun Hq hq => Y.gtr rfl rfl rfl) hqn50 ?_; refine LH.t1 11 rfl (fun Hq hq => Y.assign rfl rfl) hqn50 ?_; refine LH.done (by kernel_rfl) ?_; have hqe := hqn50; refine hK19 _ _ ?_; refine CW.condp rfl (fun c48 => ?_) (fun c48 => ?_)
      ·
       refine CW.s1 (fun hK20 => CW.region ?_); refine LR.a1 (LR.nil (hK20 _ _ ?_)); refine CW.ret (hE16 .ret nofun (by simp) _ _ (hE15 .ret nofun _ _ (hret .ret (.inr rfl) _ _ _ (res1 rfl rfl) ?_))); have hE : D1.layE p x.1 = 12 := layE_12 hnm (by omega) (by omega); exact ⟨_, _, by rw [hlay, hE]; rfl, by rw [hlay]; simp only [hE]; exact hf, nx_hm0_hf, hm0⟩
      ·
       refine CW.skip (hK16 _ _ (hK15 _ _ (CW.s1 (fun hK21 => CW.s1 (fun hK22 => CW.region ?_))))); refine LR.m1 ?_; refine LR.v1 (Y.eql rfl rfl rfl) (LR.nil (hK22 _ _ ?_)); refine CW.condp rfl (fun c61 => ?_) (fun c61 => ?_)
       ·
        have hlen1 := hf.len; refine CW.region ?_; refine LR.m1 ?_; refine LR.m1 ?_; refine LR.call rfl c'51 rfl (Wd.u rfl) rfl rfl (dir_ct mx_ p w0 _ mx (bf_mx.mono (by omega)) hl) ?_; rintro v64 H64 ⟨rfl, hs64⟩; replace hf := hf.nw hs64; replace hd := hd.nw hs64; replace vw := vw.nw hs64; replace vf := vf.nw hs64; replace hm0 := hm0.trN hs64; have hz7 := hs64.size; refine LR.m1 ?_; refine LR.m1 ?_; refine LR.v1 (Y.cast (v2 := .agg (fC (g1.fb ++ [H17.size]) ⟨[], p, some D1.fs.length⟩).toArray) (Y.build (v := .agg #[Str [], Str p, ptr H17.size]) rfl rfl (by intro w; kernel_rfl)) (by simp [fC, fpt, List.getD, ← hf.len])) ?_; have df11 := DFL.cons (df7) (dfd); have dj12 : DL (H0.size + 1) ((H17.size + 1) :: K) := DL.cons (dj8) (dj1); have nx13 := NxK.cons (nx9) (nx_hm0_hf); replace hf := hf.newFil vf (dj5); have hbk_hf := hf.bk; refine LR.call rfl c'52 rfl (Wd.u rfl) rfl rfl (change_ct ((H17.size + 1) :: K) { g1 with ρ := upr g1.ρ H17.size (.fil D1.fs.length), fb := g1.fb ++ [H17.size] } b { D1 with fs := D1.fs ++ [⟨[], [], []⟩] } (dirP p) ⟨[], p, some D1.fs.length⟩ w0 _ hf (by show g1.dm.length + 1 ≤ D1.ops; rw [hg1.2.2.2]; omega) (by simp [Chg.dir]) (fun i hi => by cases hi; exact ⟨rfl, by simp⟩) (fun h => absurd rfl h) (by have := hB1.lg; show D1.log.length ≤ _; omega)) (fun v68 H68 r68 => ?_); have ql15 := vw.lt; obtain ⟨K68, g68, rfl, hf, hkd68, hg68, hs68⟩ := r68; have dj18 : DL (H0.size + 1) K68 := DL.appK (dj12) ql15 hkd68; have nx19 : NxK K H0.size K68 := NxK.tr (nx13) hkd68 hm0.size; replace hd := hd.upL hs68 (df11); replace vw := vw.upL hs68 (dj12); replace hm0 := hm0.trL hs68 (MIL.ofK (nx13) (by intro k hk; simp [hk])); have hz8 := hs68.size; have hbk_hf := hf.bk; obtain ⟨i, hie⟩ : ∃ i, i = D1.fs.length := ⟨_, rfl⟩; have hil : i < (mk1 D1 p).fs.length := by rw [hie]; exact mk1_len D1 p
        have hbi0 : g68.fb.getD i 0 = H17.size := by rw [hg68, hie]; simp [List.getD, ← hlen1]
        obtain ⟨bi, hbi, hbv⟩ : ∃ bi, g68.fb.getD i 0 = bi ∧ ptr H17.size = ptr bi := ⟨_, hbi0, rfl⟩; have hnow2 : (fget (mk1 D1 p).fs i).now = D1.wasL p := by rw [hie, mk1_get, hwas]
        have hwi : (fget (mk1 D1 p).fs i).w.length ≤ 274877906945 := by rw [hie, mk1_get]; simp
        replace hf : PDk K68 g68 H68 b (mk1 D1 p) := hf; refine LR.nil (hK21 _ _ (CW.s1 (fun hK23 => CW.region ?_))); refine LR.v1 (Y.FA vw.pt rfl u'76 rfl s'31) ?_; refine LR.v1 (Y.load1 (vw.pt.drop 1) rfl a'31 rfl) ?_; refine LR.call rfl c'46 rfl (Wd.u rfl) rfl rfl (bclone_ct _ x.1.d w0 _ hd.any (by omega)) ?_; rintro v71 H71 ⟨s71, k71, rfl, ow71, hk71, hs71⟩; have dj20 : DL k71 K68 := DL.app2 (DL.zK) hf.bk hk71; have dj23 : Dj (H0.size + 1) k71 := Dj.app (Dj.z) vw.lt hk71; have nx24 : Nx 0 H0.size k71 := Nx.tr (Nx.refl 0 _) hk71 hm0.size; replace hf := hf.nw hs71; replace vw := vw.nw hs71; replace hm0 := hm0.trN hs71; have hz9 := hs71.size; have hle_ow71 := ow71.le; refine LR.v1 (Y.FA vw.pt rfl u'76 rfl s'31) ?_; refine LR.s1 (S.var1 vw 1 ([.bool x.1.b, s71.v]) rfl rfl rfl (rfl) s'31 (by simp) (rfl)) ?_; rintro H19_4 ⟨vw, hs19_4⟩; replace hs19_4 := hs19_4.md1; replace hf := hf.upL hs19_4 (DKL.cons dj18 DKL.nil); replace ow71 := ow71.upL hs19_4 (DL.o dj23.symm); replace hm0 := hm0.trL hs19_4 (MIL.o (MI.q nx4)); have hz10 := hs19_4.size; refine LR.nil (hK23 _ _ (CW.s1 (fun hK24 => ?_))); obtain ⟨nvB, svB, wvB, kwB, lwB, hfiB⟩ := hf.fil i hil; have hop : Mo (Ms [(bi + 1)]) H19_4 H19_4 := Mo.refl _ _; have km25 : KM K68 (bi + 1) := (hf.kmf hfiB hbi); have vf2 := hfiB.atb hbi; have hlt_vf2 := vf2.lt; have dj28 : Dj (H0.size + 1) (bi + 1) := DL.at (dj18) km25; have dj29 : Dj k71 (bi + 1) := DL.at (dj20) km25; have nx30 : MI K H0.size (bi + 1) := MIL.at (MIL.ofK (nx19) (by intro k hk; simp [hk])) km25; have nx31 := Nx.refl (bi + 1) H19_4.size; refine CW.region_any (fun Hq => Nw H19_4 Hq) [11, 12, 13, 14] rfl ?_; have hq20 : Nw H19_4 H19_4 := Mo.refl _ _; refine LH.t1 0 rfl (fun Hq hq => Y.cast (v2 := ptr bi) (Y.move rfl rfl) (hbv)) hq20 ?_; refine LH.t1 1 rfl (fun Hq hq => Y.loadN (vw.pt.nw hq) rfl a'76 s'76 (rfl) rfl) hq20 ?_; refine LH.t1 2 rfl (fun Hq hq => Y.cast (v2 := ptr bi) (Y.move rfl rfl) (hbv)) hq20 ?_; refine LH.t1 3 rfl (fun Hq hq => Y.nilCheck rfl rfl) hq20 ?_; refine LH.t1 4 rfl (fun Hq hq => Y.FA (vf2.pt.nw hq) rfl u'106 rfl s'103) hq20 ?_; refine LH.t1 5 rfl (fun Hq hq => Y.FA (vf2.pt.nw hq) rfl u'103 rfl s'31) hq20 ?_; refine LH.t1 6 rfl (fun Hq hq => Y.load1 (vf2.pt.nw hq) rfl a'31 rfl) hq20 ?_; refine LH.t1 7 rfl (fun Hq hq => Y.FA (vw.pt.nw hq) rfl u'76 rfl s'31) hq20 ?_; refine LH.t1 8 rfl (fun Hq hq => Y.load1 ((vw.pt.drop 1).nw hq) rfl a'31 rfl) hq20 ?_; refine LH.t1 9 rfl (fun Hq hq => Y.len (ow71.rd.nw hq) rfl u'31 rfl) hq20 ?_; refine LH.o1 10 ?_; refine LO.call rfl rfl c'63 rfl (Wd.u rfl) rfl rfl (on_ct (x.1, s71) nvB _ x.1.d.length w0 _ ow71.rd.any hfiB.hn.any (Nat.le_refl _) (by rw [hnow2]; omega)) ?_; rintro v83 H83 ⟨s83, k83, rfl, ow83, hk83, hs83⟩; have dj34 : Dj (H0.size + 1) k83 := Dj.app (Dj.z) vw.lt hk83; have dj35 : Dj k71 k83 := Dj.app (Dj.z) ow71.le hk83; have dj36 : Dj (bi + 1) k83 := Dj.app (Dj.z) vf2.lt hk83; have nx37 : Nx 0 H0.size k83 := Nx.tr (Nx.refl 0 _) hk83 hm0.size; have nx38 : Nx 0 H19_4.size k83 := Nx.tr (Nx.refl 0 _) hk83 hop.size; have nx39 : Nx 0 H19_4.size k83 := Nx.tr (Nx.refl 0 _) hk83 hq20.size; replace vw := vw.nw hs83; replace ow71 := ow71.nw hs83; replace vf2 := vf2.nw hs83; replace hm0 := hm0.trN hs83; replace hop := hop.trN hs83; replace hq20 := hq20.tr hs83; have hz11 := hs83.size; have hle_ow83 := ow83.le; refine ⟨.inr hq20, LH.narrow (SH2 := fun Hq => Mo (Ms [k83]) H83 Hq) (fun Hq hq => (Mo.trL (ks := []) (hq20.mdn []) hq (MIL.o (MI.q nx39))).nil) ?_⟩; refine LH.o1 11 ?_; refine LO.v rfl (Y.nilCheck rfl rfl) (Wd.u rfl) rfl rfl (.inl rfl) ?_; refine LH.o1 12 ?_; refine LO.v rfl (Y.FA vf2.pt rfl u'106 rfl s'103) (Wd.u rfl) rfl rfl (.inl rfl) ?_; refine LH.o1 13 ?_; refine LO.v rfl (Y.FA vf2.pt rfl u'103 rfl s'31) (Wd.u rfl) rfl rfl (.inl rfl) ?_; refine LH.o1 14 ?_; refine LO.s rfl (S.var1 vf2 0 ([s83.v, svB.v, wvB.v]) rfl rfl rfl (rfl) s'31 (by simp) (rfl)) (Wd.u rfl) rfl ?_; rintro H20_14 ⟨vf2, hs20_14⟩; replace hs20_14 := hs20_14.md1; replace vw := vw.upL hs20_14 (DL.o dj28); replace ow71 := ow71.upL hs20_14 (DL.o dj29); replace ow83 := ow83.upL hs20_14 (DL.o dj36.symm); replace hm0 := hm0.trL hs20_14 (MIL.cons (nx30) MIL.nil); replace hop := hop.trL hs20_14 (MIL.o (MI.r nx31)); have hz12 := hs20_14.size; refine ⟨.inl rfl, ?_⟩; refine LH.done (by kernel_rfl) ?_; have dj41 : DL (H0.size + 1) (k83 :: K68) := (DL.cons (dj34) (dj18)); have dj42 : DL k71 (k83 :: K68) := (DL.cons (dj35) (dj20)); have nx45 : NxK K H0.size (k83 :: K68) := (NxK.cons (nx37) (nx19)); replace hf := hf.fnow hil hfiB hbi hop vf2 ow83 (DL.nxK hf.bk (nx38)); have hbk_hf := hf.bk; refine hK24 _ _ (CW.s1 (fun hK25 => ?_)); have hil2 := hil; rw [← fl_put] at hil2; obtain ⟨nvC, svC, wvC, kwC, lwC, hfiC⟩ := hf.fil i hil2; have hlw : lwC.length ≤ 274877906945 := by have h9 := congrArg List.length hfiC.lw; rw [List.length_map, fget_put hil] at h9; rw [h9]; exact hwi
        have hop : Mo (Ms [(bi + 1), kwC]) H20_14 H20_14 := Mo.refl _ _; have km46 : KM (k83 :: K68) (bi + 1) := (hf.kmf hfiC hbi); have vf2 := hfiC.atb hbi; have hlt_vf2 := vf2.lt; have dj50 : Dj k71 (bi + 1) := DL.at (dj42) km46; have nx51 : MI K H0.size (bi + 1) := MIL.at (MIL.ofK (nx45) (by intro k hk; simp [hk])) km46; have nx52 := Nx.refl (bi + 1) H20_14.size; have km53 : KM (k83 :: K68) kwC := (hf.km hfiC.rk (by simp)); have hw := hfiC.hw; have hle_hw := hw.le; have dj56 : Dj (H0.size + 1) kwC := DL.at (dj41) km53; have dj57 : Dj k71 kwC := DL.at (dj42) km53; have nx58 : MI K H0.size kwC := MIL.at (MIL.ofK (nx45) (by intro k hk; simp [hk])) km53; have nx59 := Nx.refl kwC H20_14.size; have dj60 : Dj (bi + 1) kwC := hfiC.ne hbi; refine CW.region_any (fun Hq => Mo (Ms [kwC]) H20_14 Hq) [8, 9, 10] rfl ?_; have hq21 : Mo (Ms [kwC]) H20_14 H20_14 := Mo.refl _ _; have nx61 := Nx.refl kwC H20_14.size; refine LH.t1 0 rfl (fun Hq hq => Y.cast (v2 := ptr bi) (Y.move rfl rfl) (hbv)) hq21 ?_; refine LH.t1 1 rfl (fun Hq hq => Y.cast (v2 := ptr bi) (Y.move rfl rfl) (hbv)) hq21 ?_; refine LH.t1 2 rfl (fun Hq hq => Y.nilCheck rfl rfl) hq21 ?_; refine LH.t1 3 rfl (fun Hq hq => Y.fieldAddr (vf2.upL hq (DL.o dj60)).pt rfl u'106 rfl rfl s'104 (by decide) rfl) hq21 ?_; refine LH.t1 4 rfl (fun Hq hq => Y.load1 ((vf2.upL hq (DL.o dj60)).pt.drop 2) rfl a'104 rfl) hq21 ?_; refine LH.t1 5 rfl (fun Hq hq => Y.loadN (vw.upL hq (DL.o dj56)).pt rfl a'76 s'76 (rfl) rfl) hq21 ?_; refine LH.o1 6 ?_; refine LO.z rfl (Z.litw _ ([(x.1, s71)]) rfl inf104 rfl rfl rfl (by decide) (by decide) fW_len fW_one (rfl)) (Wd.u rfl) rfl rfl ?_; rintro v93 H93 ⟨ow93, hs93, ob93, hH93⟩; have hzs93 : H93.size = H20_14.size + 1 := by rw [hH93]; simp
        have nx70 : Nx 0 H20_14.size (H20_14.size + 1) := Nx.new hq21.size; replace ow71 := ow71.nw hs93; replace vf2 := vf2.nw hs93; replace hw := hw.nw hs93; replace hm0 := hm0.trN hs93; replace hop := hop.trN hs93; replace hq21 := hq21.trN hs93; have hz13 := hs93.size; refine ⟨.inr hq21, LH.narrow (SH2 := fun Hq => Mo (Ms [kwC, (H20_14.size + 1)]) H93 Hq) (fun Hq hq => hq21.trL hq (MIL.cons (MI.r nx61) (MIL.o (MI.q nx70)))) ?_⟩; have hq21 : Mo (Ms [kwC, (H20_14.size + 1)]) H93 H93 := Mo.refl _ _; have nx71 := Nx.refl kwC H93.size; have nx72 := Nx.refl (H20_14.size + 1) H93.size; refine LH.o1 7 ?_; refine LO.z rfl (Z.apnd hw ow93.rd rfl inf104 rfl rfl (by first | omega | (simp; omega)) (by first | omega | (simp; omega))) (Wd.u rfl) rfl rfl ?_; rintro v94 H94 ⟨kw2, hw, hk94, hs94⟩; replace hk94 : Nx kwC H93.size kw2 := hk94; replace hs94 := hs94.md; have dj76 : Dj k71 kw2 := Dj.app (dj57) ow71.le hk94; have dj77 : Dj (bi + 1) kw2 := Dj.app (dj60) vf2.lt hk94; have nx80 : Nx kwC H20_14.size kw2 := Nx.tr (nx59) hk94 hop.size; have nx81 : Nx kwC H93.size kw2 := Nx.tr (nx71) hk94 hq21.size; replace ow71 := ow71.upL hs94 (DL.o dj57); replace vf2 := vf2.upL hs94 (DL.o dj60); replace hm0 := hm0.trL hs94 (MIL.cons (nx58) MIL.nil); replace hop := hop.trL hs94 (MIL.o (MI.r nx59)); replace hq21 := hq21.trL hs94 (MIL.o (MI.r nx71)); have hz14 := hs94.size; have hle_hw := hw.le; refine ⟨.inr hq21, LH.narrow (SH2 := fun Hq => Mo (Ms [kw2, (H20_14.size + 1)]) H94 Hq) (fun Hq hq => hq21.trL hq (MIL.cons (MI.r nx81) (MIL.o (MI.r nx72)))) ?_⟩; refine LH.o1 8 ?_; refine LO.v rfl (Y.nilCheck rfl rfl) (Wd.u rfl) rfl rfl (.inl rfl) ?_; refine LH.o1 9 ?_; refine LO.v rfl (Y.FA vf2.pt rfl u'106 rfl s'104) (Wd.u rfl) rfl rfl (.inl rfl) ?_; refine LH.o1 10 ?_; refine LO.s rfl (S.var1 vf2 2 ([nvC.v, svC.v, v94]) rfl rfl rfl (hw.rd.oneCell) s'104 (by simp) (rfl)) (Wd.u rfl) rfl ?_; rintro H21_10 ⟨vf2, hs21_10⟩; replace hs21_10 := hs21_10.md1; replace ow71 := ow71.upL hs21_10 (DL.o dj50); replace hw := hw.upL hs21_10 (DL.o dj77.symm); replace hm0 := hm0.trL hs21_10 (MIL.cons (nx51) MIL.nil); replace hop := hop.trL hs21_10 (MIL.o (MI.r nx52)); have hz15 := hs21_10.size; refine ⟨.inl rfl, ?_⟩; refine LH.done (by kernel_rfl) ?_; obtain ⟨wv2, rfl⟩ : ∃ s : SV, v94 = s.v := ⟨toSV v94, hw.sv.symm⟩; have nx87 : NxK K H0.size (k71 :: (kw2 :: (k83 :: K68))) := (NxK.cons (nx24) ((NxK.app (nx45) (km53) (nx80) (by omega)))); replace hf := hf.fwr hil2 hfiC hbi hop vf2 hw (nx80) ow71 (DL.cons (dj76) (dj42)); have hbk_hf := hf.bk; refine hK25 _ _ (CW.s1 (fun hK26 => CW.region ?_)); refine LR.a1 (LR.nil (hK26 _ _ ?_)); refine CW.ret (hret .ret (.inr rfl) _ _ _ (res1 rfl rfl) ?_); have hE0 : D1.layE p x.1 = 0 := layE_0 hnm (by omega) (by omega); exact ⟨_, _, by rw [hlay, hE0]; rfl, by rw [hlay]; simp only [hE0, if_true]; first | (rw [← write_some hnow hil]; rw [← hwas] at hf; exact hf) | (rw [← write_none hnow]; subst hie; exact hf), nx87, hm0⟩
       ·
        exfalso; omega
   ·
    have hlk : D1.look p = 0 := by
     rcases hlo with h | h | h
     · exact h
     · rw [if_neg (by omega)] at c24; cases c24
     · omega
    obtain ⟨hnm, i, hnow⟩ := look_0 hlk; have hil := hf.ids.1 p i hnow; have hwas := was_some hnow; obtain ⟨bi, hbi, hbv⟩ : ∃ bi, g1.fb.getD i 0 = bi ∧ .pointer (fpt g1.fb (if D1.look p = 0 then mget D1.now p else none)) = ptr bi := ⟨_, rfl, by rw [if_pos hlk, hnow]; rfl⟩; have hnow2 := hwas.symm; have hnwi := hB1.nw i; have hwasl : (D1.wasL p).length ≤ 274877906945 := by rw [hwas]; exact hnwi
    have hwi := hB1.w i; obtain ⟨nvA, svA, wvA, kwA, lwA, hfiA⟩ := hf.fil i hil; refine CW.region ?_; refine LR.v1 (Y.cast (v2 := fvl g1.fb i) (Y.move rfl rfl) (by rw [if_pos hlk, hnow]; rfl)) ?_; refine LR.v1 (Y.nilCheck rfl rfl) ?_; refine LR.v1 (Y.FA hfiA.vf.pt rfl u'106 rfl s'103) ?_; refine LR.v1 (Y.FA (hfiA.vf.pt.drop 0) rfl u'103 rfl s'31) ?_; refine LR.v1 (Y.load1 ((hfiA.vf.pt.drop 0).drop 0) rfl a'31 rfl) ?_; refine LR.v1 (Y.cast (v2 := .int .i64 ((D1.wasL p).length : Int)) (Y.len hfiA.hn rfl u'31 rfl) (by rw [hwas])) ?_; refine LR.a1 (LR.nil (hK10 _ _ ?_)); refine CW.s1 (fun hK27 => CW.region ?_); refine LR.v1 (Y.FA vw.pt rfl u'76 rfl s'31) ?_; refine LR.v1 (Y.load1 (vw.pt.drop 1) rfl a'31 rfl) ?_; refine LR.v1 (Y.len hd rfl u'31 rfl) ?_; refine LR.a1 (LR.nil (hK27 _ _ ?_))
    refine CW.cut (fun (sz : (Nat)) => [(0, ptr b), (1, Str p), (5, .pointer (some ⟨H0.size, 0, none⟩)), (7, .pointer (fpt g1.fb (if D1.look p = 0 then mget D1.now p else none))), (8, .int .i64 (D1.look p : Int)), (9, .int .i64 ((D1.wasL p).length : Int)), (10, .int .i64 (sz : Int))])
     (fun (sz : (Nat)) (H : Heap) => (sz = (x.1.on (D1.wasL p) x.1.d.length).length) ∧ ((D1.wasL p).length ≤ 274877906945) ∧ Nw H17 H) (fun _ hK28 _ => ?_) ?_
    ·
     have hcm28 : Nw H17 H17 := Mo.refl _ _; refine CW.s1 (fun hK29 => CW.region ?_); refine LR.v1 (Y.FA vw.pt rfl u'76 rfl s'4) ?_; refine LR.v1 (Y.load1 vw.pt rfl a'4 rfl) (LR.nil (hK29 _ _ ?_)); refine CW.cond rfl (fun c37 => ?_) (fun c37 => ?_)
     ·
      refine CW.region ?_; refine LR.m1 ?_; refine LR.m1 ?_; refine LR.v1 (Y.addi rfl rfl rfl (by omega)) ?_; refine LR.a1 (LR.nil ?_); refine QN.sub (hK28 ((D1.wasL p).length + x.1.d.length) _ ?_) ⟨rfl, rfl, rfl, rfl, (iv (by omega)), (iv (by omega)), (iv (by omega)), trivial⟩; exact ⟨by rw [on_len, if_pos c37], by first | (rw [hwas]; omega) | (rw [hwas]; simp), hcm28⟩
     ·
      refine CW.skip ?_; refine QN.sub (hK28 x.1.d.length _ ?_) ⟨rfl, rfl, rfl, rfl, (iv (by omega)), (iv (by omega)), (iv (by omega)), trivial⟩; exact ⟨by rw [on_len, if_neg (by simpa using c37)]; omega, by first | (rw [hwas]; omega) | (rw [hwas]; simp), hcm28⟩
    ·
     intro sz Hcutc37 hIcutc37; obtain ⟨hsz, hwl, hlmcutc37⟩ := hIcutc37; replace hf := hf.nw hlmcutc37; replace hd := hd.nw hlmcutc37; replace vw := vw.nw hlmcutc37; replace hm0 := hm0.trN hlmcutc37; have hz16 := hlmcutc37.size; have hus := hB1.us; have hszl : sz ≤ 274877906945 + 274877906944 := by rw [hsz, on_len]; split <;> omega
     refine CW.s2 (fun hK30 hE30 => CW.block (fun _ hK31 _ hE31 => CW.s1 (fun hK32 => CW.region ?_))); refine LR.m1 ?_; refine LR.m1 ?_; refine LR.v1 (Y.nilCheck rfl rfl) ?_; refine LR.v1 (Y.FA hf.vb.pt rfl u'50 rfl s'3) ?_; refine LR.v1 (Y.load1 (hf.vb.pt.drop 1) rfl a'3 rfl) ?_; refine LR.v1 (Y.gtr rfl rfl rfl) ?_; refine LR.a1 (LR.nil (hK32 _ _ ?_)); refine CW.condp rfl (fun c41 => ?_) (fun c41 => ?_)
     ·
      refine CW.s1 (fun hK33 => CW.region ?_); refine LR.a1 (LR.nil (hK33 _ _ ?_)); refine CW.ret (hE31 .ret nofun (by simp) _ _ (hE30 .ret nofun _ _ (hret .ret (.inr rfl) _ _ _ (res1 rfl rfl) ?_))); have hE : D1.layE p x.1 = 5 := layE_5 hnm (by omega); exact ⟨_, _, by rw [hlay, hE]; rfl, by rw [hlay]; simp only [hE]; exact hf, nx_hm0_hf, hm0⟩
     ·
      refine CW.s1 (fun hK34 => ?_); refine CW.region_any (fun Hq => Nw Hcutc37 Hq) [] rfl ?_; have hqs := Nw.refl Hcutc37; refine LH.m1 0 rfl hqs ?_; refine LH.m1 2 rfl hqs ?_; refine LH.m1 4 rfl hqs ?_; refine LH.m1 6 rfl hqs ?_; refine LH.t1 7 rfl (fun Hq hq => Y.nilCheck rfl rfl) hqs ?_; refine LH.t1 8 rfl (fun Hq hq => Y.FA (hf.vb.pt.nw hq) rfl u'50 rfl s'3) hqs ?_; refine LH.t1 9 rfl (fun Hq hq => Y.load1 ((hf.vb.pt.drop 0).nw hq) rfl a'3 rfl) hqs ?_; refine LH.o1 1 ?_; refine LO.call rfl rfl c'30 rfl (Wd.u rfl) rfl rfl (used_ct _ _ b D1 w0 _ hf hB1.an (by omega)) ?_; rintro v50 H50 ⟨rfl, hs50⟩; replace hf := hf.nw hs50; replace hd := hd.nw hs50; replace vw := vw.nw hs50; replace hm0 := hm0.trN hs50; have hz17 := hs50.size; have hq50 := hqs.tr hs50; refine ⟨.inr hq50, LH.narrow (SH2 := fun Hq => Nw H50 Hq) (fun Hq hq => hq50.tr hq) ?_⟩; have hqn50 := Nw.refl H50; refine LH.t1 3 rfl (fun Hq hq => Y.subi rfl rfl rfl (by omega)) hqn50 ?_; refine LH.t1 5 rfl (fun Hq hq => Y.addi rfl rfl rfl (by omega)) hqn50 ?_; refine LH.t1 10 rfl (fun Hq hq => Y.gtr rfl rfl rfl) hqn50 ?_; refine LH.t1 11 rfl (fun Hq hq => Y.assign rfl rfl) hqn50 ?_; refine LH.done (by kernel_rfl) ?_; have hqe := hqn50; refine hK34 _ _ ?_; refine CW.condp rfl (fun c48 => ?_) (fun c48 => ?_)
      ·
       refine CW.s1 (fun hK35 => CW.region ?_); refine LR.a1 (LR.nil (hK35 _ _ ?_)); refine CW.ret (hE31 .ret nofun (by simp) _ _ (hE30 .ret nofun _ _ (hret .ret (.inr rfl) _ _ _ (res1 rfl rfl) ?_))); have hE : D1.layE p x.1 = 12 := layE_12 hnm (by omega) (by omega); exact ⟨_, _, by rw [hlay, hE]; rfl, by rw [hlay]; simp only [hE]; exact hf, nx_hm0_hf, hm0⟩
      ·
       refine CW.skip (hK31 _ _ (hK30 _ _ (CW.s1 (fun hK36 => CW.s1 (fun hK37 => CW.region ?_))))); refine LR.m1 ?_; refine LR.v1 (Y.eql rfl rfl rfl) (LR.nil (hK37 _ _ ?_)); refine CW.condp rfl (fun c61 => ?_) (fun c61 => ?_)
       ·
        exfalso; omega
       ·
        refine CW.skip (hK36 _ _ (CW.s1 (fun hK38 => CW.region ?_))); refine LR.v1 (Y.FA vw.pt rfl u'76 rfl s'31) ?_; refine LR.v1 (Y.load1 (vw.pt.drop 1) rfl a'31 rfl) ?_; refine LR.call rfl c'46 rfl (Wd.u rfl) rfl rfl (bclone_ct _ x.1.d w0 _ hd.any (by omega)) ?_; rintro v71 H71 ⟨s71, k71, rfl, ow71, hk71, hs71⟩; have dj88 : DL k71 K := DL.app2 (DL.zK) hf.bk hk71; have dj91 : Dj (H0.size + 1) k71 := Dj.app (Dj.z) vw.lt hk71; have nx92 : Nx 0 H0.size k71 := Nx.tr (Nx.refl 0 _) hk71 hm0.size; replace hf := hf.nw hs71; replace vw := vw.nw hs71; replace hm0 := hm0.trN hs71; have hz18 := hs71.size; have hle_ow71 := ow71.le; refine LR.v1 (Y.FA vw.pt rfl u'76 rfl s'31) ?_; refine LR.s1 (S.var1 vw 1 ([.bool x.1.b, s71.v]) rfl rfl rfl (rfl) s'31 (by simp) (rfl)) ?_; rintro H19_4 ⟨vw, hs19_4⟩; replace hs19_4 := hs19_4.md1; replace hf := hf.upL hs19_4 (DKL.cons dj1 DKL.nil); replace ow71 := ow71.upL hs19_4 (DL.o dj91.symm); replace hm0 := hm0.trL hs19_4 (MIL.o (MI.q nx4)); have hz19 := hs19_4.size; refine LR.nil (hK38 _ _ (CW.s1 (fun hK39 => ?_))); obtain ⟨nvB, svB, wvB, kwB, lwB, hfiB⟩ := hf.fil i hil; have hop : Mo (Ms [(bi + 1)]) H19_4 H19_4 := Mo.refl _ _; have km93 : KM K (bi + 1) := (hf.kmf hfiB hbi); have vf2 := hfiB.atb hbi; have hlt_vf2 := vf2.lt; have dj96 : Dj (H0.size + 1) (bi + 1) := DL.at (dj1) km93; have dj97 : Dj k71 (bi + 1) := DL.at (dj88) km93; have nx98 : MI K H0.size (bi + 1) := MIL.at (MIL.ofK (nx_hm0_hf) (by intro k hk; simp [hk])) km93; have nx99 := Nx.refl (bi + 1) H19_4.size; refine CW.region_any (fun Hq => Nw H19_4 Hq) [11, 12, 13, 14] rfl ?_; have hq20 : Nw H19_4 H19_4 := Mo.refl _ _; refine LH.t1 0 rfl (fun Hq hq => Y.cast (v2 := ptr bi) (Y.move rfl rfl) (hbv)) hq20 ?_; refine LH.t1 1 rfl (fun Hq hq => Y.loadN (vw.pt.nw hq) rfl a'76 s'76 (rfl) rfl) hq20 ?_; refine LH.t1 2 rfl (fun Hq hq => Y.cast (v2 := ptr bi) (Y.move rfl rfl) (hbv)) hq20 ?_; refine LH.t1 3 rfl (fun Hq hq => Y.nilCheck rfl rfl) hq20 ?_; refine LH.t1 4 rfl (fun Hq hq => Y.FA (vf2.pt.nw hq) rfl u'106 rfl s'103) hq20 ?_; refine LH.t1 5 rfl (fun Hq hq => Y.FA (vf2.pt.nw hq) rfl u'103 rfl s'31) hq20 ?_; refine LH.t1 6 rfl (fun Hq hq => Y.load1 (vf2.pt.nw hq) rfl a'31 rfl) hq20 ?_; refine LH.t1 7 rfl (fun Hq hq => Y.FA (vw.pt.nw hq) rfl u'76 rfl s'31) hq20 ?_; refine LH.t1 8 rfl (fun Hq hq => Y.load1 ((vw.pt.drop 1).nw hq) rfl a'31 rfl) hq20 ?_; refine LH.t1 9 rfl (fun Hq hq => Y.len (ow71.rd.nw hq) rfl u'31 rfl) hq20 ?_; refine LH.o1 10 ?_; refine LO.call rfl rfl c'63 rfl (Wd.u rfl) rfl rfl (on_ct (x.1, s71) nvB _ x.1.d.length w0 _ ow71.rd.any hfiB.hn.any (Nat.le_refl _) (by rw [hnow2]; omega)) ?_; rintro v83 H83 ⟨s83, k83, rfl, ow83, hk83, hs83⟩; have dj102 : Dj (H0.size + 1) k83 := Dj.app (Dj.z) vw.lt hk83; have dj103 : Dj k71 k83 := Dj.app (Dj.z) ow71.le hk83; have dj104 : Dj (bi + 1) k83 := Dj.app (Dj.z) vf2.lt hk83; have nx105 : Nx 0 H0.size k83 := Nx.tr (Nx.refl 0 _) hk83 hm0.size; have nx106 : Nx 0 H19_4.size k83 := Nx.tr (Nx.refl 0 _) hk83 hop.size; have nx107 : Nx 0 H19_4.size k83 := Nx.tr (Nx.refl 0 _) hk83 hq20.size; replace vw := vw.nw hs83; replace ow71 := ow71.nw hs83; replace vf2 := vf2.nw hs83; replace hm0 := hm0.trN hs83; replace hop := hop.trN hs83; replace hq20 := hq20.tr hs83; have hz20 := hs83.size; have hle_ow83 := ow83.le; refine ⟨.inr hq20, LH.narrow (SH2 := fun Hq => Mo (Ms [k83]) H83 Hq) (fun Hq hq => (Mo.trL (ks := []) (hq20.mdn []) hq (MIL.o (MI.q nx107))).nil) ?_⟩; refine LH.o1 11 ?_; refine LO.v rfl (Y.nilCheck rfl rfl) (Wd.u rfl) rfl rfl (.inl rfl) ?_; refine LH.o1 12 ?_; refine LO.v rfl (Y.FA vf2.pt rfl u'106 rfl s'103) (Wd.u rfl) rfl rfl (.inl rfl) ?_; refine LH.o1 13 ?_; refine LO.v rfl (Y.FA vf2.pt rfl u'103 rfl s'31) (Wd.u rfl) rfl rfl (.inl rfl) ?_; refine LH.o1 14 ?_; refine LO.s rfl (S.var1 vf2 0 ([s83.v, svB.v, wvB.v]) rfl rfl rfl (rfl) s'31 (by simp) (rfl)) (Wd.u rfl) rfl ?_; rintro H20_14 ⟨vf2, hs20_14⟩; replace hs20_14 := hs20_14.md1; replace vw := vw.upL hs20_14 (DL.o dj96); replace ow71 := ow71.upL hs20_14 (DL.o dj97); replace ow83 := ow83.upL hs20_14 (DL.o dj104.symm); replace hm0 := hm0.trL hs20_14 (MIL.cons (nx98) MIL.nil); replace hop := hop.trL hs20_14 (MIL.o (MI.r nx99)); have hz21 := hs20_14.size; refine ⟨.inl rfl, ?_⟩; refine LH.done (by kernel_rfl) ?_; have dj109 : DL (H0.size + 1) (k83 :: K) := (DL.cons (dj102) (dj1)); have dj110 : DL k71 (k83 :: K) := (DL.cons (dj103) (dj88)); have nx113 : NxK K H0.size (k83 :: K) := (NxK.cons (nx105) (nx_hm0_hf)); replace hf := hf.fnow hil hfiB hbi hop vf2 ow83 (DL.nxK hf.bk (nx106)); have hbk_hf := hf.bk; refine hK39 _ _ (CW.s1 (fun hK40 => ?_)); have hil2 := hil; rw [← fl_put] at hil2; obtain ⟨nvC, svC, wvC, kwC, lwC, hfiC⟩ := hf.fil i hil2; have hlw : lwC.length ≤ 274877906945 := by have h9 := congrArg List.length hfiC.lw; rw [List.length_map, fget_put hil] at h9; rw [h9]; exact hwi
        have hop : Mo (Ms [(bi + 1), kwC]) H20_14 H20_14 := Mo.refl _ _; have km114 : KM (k83 :: K) (bi + 1) := (hf.kmf hfiC hbi); have vf2 := hfiC.atb hbi; have hlt_vf2 := vf2.lt; have dj118 : Dj k71 (bi + 1) := DL.at (dj110) km114; have nx119 : MI K H0.size (bi + 1) := MIL.at (MIL.ofK (nx113) (by intro k hk; simp [hk])) km114; have nx120 := Nx.refl (bi + 1) H20_14.size; have km121 : KM (k83 :: K) kwC := (hf.km hfiC.rk (by simp)); have hw := hfiC.hw; have hle_hw := hw.le; have dj124 : Dj (H0.size + 1) kwC := DL.at (dj109) km121; have dj125 : Dj k71 kwC := DL.at (dj110) km121; have nx126 : MI K H0.size kwC := MIL.at (MIL.ofK (nx113) (by intro k hk; simp [hk])) km121; have nx127 := Nx.refl kwC H20_14.size; have dj128 : Dj (bi + 1) kwC := hfiC.ne hbi; refine CW.region_any (fun Hq => Mo (Ms [kwC]) H20_14 Hq) [8, 9, 10] rfl ?_; have hq21 : Mo (Ms [kwC]) H20_14 H20_14 := Mo.refl _ _; have nx129 := Nx.refl kwC H20_14.size; refine LH.t1 0 rfl (fun Hq hq => Y.cast (v2 := ptr bi) (Y.move rfl rfl) (hbv)) hq21 ?_; refine LH.t1 1 rfl (fun Hq hq => Y.cast (v2 := ptr bi) (Y.move rfl rfl) (hbv)) hq21 ?_; refine LH.t1 2 rfl (fun Hq hq => Y.nilCheck rfl rfl) hq21 ?_; refine LH.t1 3 rfl (fun Hq hq => Y.fieldAddr (vf2.upL hq (DL.o dj128)).pt rfl u'106 rfl rfl s'104 (by decide) rfl) hq21 ?_; refine LH.t1 4 rfl (fun Hq hq => Y.load1 ((vf2.upL hq (DL.o dj128)).pt.drop 2) rfl a'104 rfl) hq21 ?_; refine LH.t1 5 rfl (fun Hq hq => Y.loadN (vw.upL hq (DL.o dj124)).pt rfl a'76 s'76 (rfl) rfl) hq21 ?_; refine LH.o1 6 ?_; refine LO.z rfl (Z.litw _ ([(x.1, s71)]) rfl inf104 rfl rfl rfl (by decide) (by decide) fW_len fW_one (rfl)) (Wd.u rfl) rfl rfl ?_; rintro v93 H93 ⟨ow93, hs93, ob93, hH93⟩; have hzs93 : H93.size = H20_14.size + 1 := by rw [hH93]; simp
        have nx138 : Nx 0 H20_14.size (H20_14.size + 1) := Nx.new hq21.size; replace ow71 := ow71.nw hs93; replace vf2 := vf2.nw hs93; replace hw := hw.nw hs93; replace hm0 := hm0.trN hs93; replace hop := hop.trN hs93; replace hq21 := hq21.trN hs93; have hz22 := hs93.size; refine ⟨.inr hq21, LH.narrow (SH2 := fun Hq => Mo (Ms [kwC, (H20_14.size + 1)]) H93 Hq) (fun Hq hq => hq21.trL hq (MIL.cons (MI.r nx129) (MIL.o (MI.q nx138)))) ?_⟩; have hq21 : Mo (Ms [kwC, (H20_14.size + 1)]) H93 H93 := Mo.refl _ _; have nx139 := Nx.refl kwC H93.size; have nx140 := Nx.refl (H20_14.size + 1) H93.size; refine LH.o1 7 ?_; refine LO.z rfl (Z.apnd hw ow93.rd rfl inf104 rfl rfl (by first | omega | (simp; omega)) (by first | omega | (simp; omega))) (Wd.u rfl) rfl rfl ?_; rintro v94 H94 ⟨kw2, hw, hk94, hs94⟩; replace hk94 : Nx kwC H93.size kw2 := hk94; replace hs94 := hs94.md; have dj144 : Dj k71 kw2 := Dj.app (dj125) ow71.le hk94; have dj145 : Dj (bi + 1) kw2 := Dj.app (dj128) vf2.lt hk94; have nx148 : Nx kwC H20_14.size kw2 := Nx.tr (nx127) hk94 hop.size; have nx149 : Nx kwC H93.size kw2 := Nx.tr (nx139) hk94 hq21.size; replace ow71 := ow71.upL hs94 (DL.o dj125); replace vf2 := vf2.upL hs94 (DL.o dj128); replace hm0 := hm0.trL hs94 (MIL.cons (nx126) MIL.nil); replace hop := hop.trL hs94 (MIL.o (MI.r nx127)); replace hq21 := hq21.trL hs94 (MIL.o (MI.r nx139)); have hz23 := hs94.size; have hle_hw := hw.le; refine ⟨.inr hq21, LH.narrow (SH2 := fun Hq => Mo (Ms [kw2, (H20_14.size + 1)]) H94 Hq) (fun Hq hq => hq21.trL hq (MIL.cons (MI.r nx149) (MIL.o (MI.r nx140)))) ?_⟩; refine LH.o1 8 ?_; refine LO.v rfl (Y.nilCheck rfl rfl) (Wd.u rfl) rfl rfl (.inl rfl) ?_; refine LH.o1 9 ?_; refine LO.v rfl (Y.FA vf2.pt rfl u'106 rfl s'104) (Wd.u rfl) rfl rfl (.inl rfl) ?_; refine LH.o1 10 ?_; refine LO.s rfl (S.var1 vf2 2 ([nvC.v, svC.v, v94]) rfl rfl rfl (hw.rd.oneCell) s'104 (by simp) (rfl)) (Wd.u rfl) rfl ?_; rintro H21_10 ⟨vf2, hs21_10⟩; replace hs21_10 := hs21_10.md1; replace ow71 := ow71.upL hs21_10 (DL.o dj118); replace hw := hw.upL hs21_10 (DL.o dj145.symm); replace hm0 := hm0.trL hs21_10 (MIL.cons (nx119) MIL.nil); replace hop := hop.trL hs21_10 (MIL.o (MI.r nx120)); have hz24 := hs21_10.size; refine ⟨.inl rfl, ?_⟩; refine LH.done (by kernel_rfl) ?_; obtain ⟨wv2, rfl⟩ : ∃ s : SV, v94 = s.v := ⟨toSV v94, hw.sv.symm⟩; have nx155 : NxK K H0.size (k71 :: (kw2 :: (k83 :: K))) := (NxK.cons (nx92) ((NxK.app (nx113) (km121) (nx148) (by omega)))); replace hf := hf.fwr hil2 hfiC hbi hop vf2 hw (nx148) ow71 (DL.cons (dj144) (dj110)); have hbk_hf := hf.bk; refine hK40 _ _ (CW.s1 (fun hK41 => CW.region ?_)); refine LR.a1 (LR.nil (hK41 _ _ ?_)); refine CW.ret (hret .ret (.inr rfl) _ _ _ (res1 rfl rfl) ?_); have hE0 : D1.layE p x.1 = 0 := layE_0 hnm (by omega) (by omega); exact ⟨_, _, by rw [hlay, hE0]; rfl, by rw [hlay]; simp only [hE0, if_true]; first | (rw [← write_some hnow hil]; rw [← hwas] at hf; exact hf) | (rw [← write_none hnow]; subst hie; exact hf), nx155, hm0⟩
end Go.Proofs.YtfbfjhppppoilaaGreatDoor.SimH

namespace Go.Proofs.YtfbfjhppppoilaaGreatDoor.SimI
open E Go.RowKit SimA SimB SimC SimD SimE SimF SimG SimH
set_option maxRecDepth 20000
theorem sync_dead {D : Dk} {p : Pth} (h : D.begin.1 = false) : D.sync p = (11, D.begin.2) := by unfold Dk.sync; simp [h]
theorem sync_go {D : Dk} {p : Pth} (h : D.begin.1 = true) : D.sync p = (D.begin.2.look p, if D.begin.2.look p = 0 then D.begin.2.syncF ((mget D.begin.2.now p).getD 0) else D.begin.2) := by unfold Dk.sync; simp [h]
theorem ren_dead {D : Dk} {p q : Pth} (h : D.begin.1 = false) : D.rename p q = (11, D.begin.2) := by unfold Dk.rename; simp [h]
theorem ren_go {D : Dk} {p q : Pth} (h : D.begin.1 = true) : D.rename p q = (D.begin.2.renE p q, if D.begin.2.renE p q = 0 ∧ p ≠ q then D.begin.2.change ⟨p, q, some ((mget D.begin.2.now p).getD 0)⟩ else D.begin.2) := by unfold Dk.rename; simp [h]
theorem renE_7 {D : Dk} {p q : Pth} (h : nameB p = false ∨ nameB q = false) : D.renE p q = 7 := by unfold Dk.renE; rw [if_pos h]
theorem renE_13 {D : Dk} {p q : Pth} (h : nameB p = true) (h2 : nameB q = true) (h3 : dirP p ≠ dirP q) : D.renE p q = 13 := by unfold Dk.renE; rw [if_neg (by simp [h, h2]), if_pos h3]
theorem renE_l {D : Dk} {p q : Pth} (h : nameB p = true) (h2 : nameB q = true) (h3 : dirP p = dirP q) : D.renE p q = D.look p := by unfold Dk.renE; rw [if_neg (by simp [h, h2]), if_neg (by simpa using h3)]
theorem rem_dead {D : Dk} {p : Pth} (h : D.begin.1 = false) : D.remove p = (11, D.begin.2) := by unfold Dk.remove; simp [h]
theorem rem_go {D : Dk} {p : Pth} (h : D.begin.1 = true) : D.remove p = (D.begin.2.look p, if D.begin.2.look p = 0 then D.begin.2.change ⟨p, [], none⟩ else D.begin.2) := by unfold Dk.remove; simp [h]
theorem sd_dead {D : Dk} {p : Pth} (h : D.begin.1 = false) : D.syncDir p = (11, D.begin.2) := by unfold Dk.syncDir; simp [h]
theorem sd_go {D : Dk} {p : Pth} (h : D.begin.1 = true) : D.syncDir p = (dirE p, if dirE p = 0 then D.begin.2.stayD p else D.begin.2) := by unfold Dk.syncDir; simp [h]
theorem name_ne {p : Pth} (h : nameB p = true) : p ≠ [] := ((name_iff p).1 h).1
theorem mclone_ct {κ β : Type} {fk : κ → Value} {fv : β → Value} (mb : Nat) (m : List (κ × β)) (w0 : World) (H0 : Heap) (h : Mp H0 fk fv mb m) : Ct Tryz.prog w0 37 #[.map (some mb)] H0 (fun r H2 => ∃ b2 : Nat, r = .map (some b2) ∧ Mp H2 fk fv b2 m ∧ Nx 0 H0.size (b2 + 1) ∧ Nw H0 H2) := by
 intro w ha; obtain ⟨r, es, clock, hv, h2, h3, h4, h5⟩ := h.mo.ex; obtain rfl := h2; have hb : w.heap[r]? = some (.map es clock) := by rw [ha.heap]; exact h3
 refine (AnyW.maps_Clone Tryz.mclone37 r es clock w hb).mono ?_; rintro e w' ⟨rfl, rfl⟩; refine ⟨_, H0.push (.map es clock), rfl, ha.alloc _, H0.size, by rw [ha.heap], ⟨⟨H0.size, es, clock, rfl, rfl, by simp, h4, h5⟩⟩, .inr (.inr (by omega)), Nw.pu _ _⟩
set_option maxHeartbeats 2000000 in
theorem write_ct (mx_ : Int) (K : List Nat) (g : Gh) (b : Nat) (D : Dk) (p : Pth) (sd : SV) (d : List UInt8) (F : Nat → Prop) (w0 : World) (H0 : Heap)
 (hf : PDk K g H0 b D) (mx : MX mx_ H0) (bf_mx : BF (fun b => b = 0) H0.size) (dmx : DFL (fun b => b = 0) K) (hd : Rd F H0 fB 1 sd.v d) (bf_hd : BF F H0.size) (dfd : DFL F K) (hl : p.length ≤ 4294967280) (hB : Bd 274877906944 D) (hdl : d.length ≤ 274877906944) :
 Ct Tryz.prog w0 9 #[ptr b, Str p, sd.v] H0 (fun r H2 => ∃ K2 : List Nat, ∃ g2 : Gh, r = .int .i64 ((D.lay p ⟨false, d⟩).1 : Int) ∧ (PDk K2 g2 H2 b (D.lay p ⟨false, d⟩).2) ∧ (NxK K H0.size K2) ∧ Mo (Ms K) H0 H2) := by
 refine Ct.enter (args := [ptr b, Str p, sd.v]) Tryz.func9 rfl rfl rfl ?_; intro Q0 hret; have hm0 : Mo (Ms K) H0 H0 := Mo.refl _ _; have nx_hm0_hf := NxK.refl K H0.size; have hbk_hf := hf.bk; refine CW.s1 (fun hK1 => CW.region ?_); refine LR.a1 (LR.nil (hK1 _ _ ?_)); refine CW.seq (fun K2 hK2 _ => CW.region ?_); refine LR.m1 ?_; refine LR.m1 ?_; refine LR.m1 ?_; refine LR.v1 (Y.build (v := wV (⟨false, d⟩, sd)) rfl rfl (by intro w; kernel_rfl)) ?_; refine LR.call rfl c'33 rfl (Wd.u rfl) rfl rfl (lay_ct mx_ K g b D p (⟨false, d⟩, sd) F w0 _ hf mx (bf_mx.mono (by omega)) dmx hd (bf_hd.mono (by omega)) dfd hl hB hdl) ?_; rintro v11 H11 ⟨K11, g11, rfl, hf, hkd11, hs11⟩; have nx4 : NxK K H0.size K11 := NxK.tr (nx_hm0_hf) hkd11 hm0.size; replace hm0 := hm0.trL hs11 (MIL.ofK (nx_hm0_hf) (by intro k hk; simp [hk])); refine LR.a1 (LR.nil (hK2 _ _ ?_)); refine CW.ret (hret .ret (.inr rfl) _ _ _ (res1 rfl rfl) ?_); exact ⟨_, _, rfl, hf, nx4, hm0⟩
set_option maxHeartbeats 2000000 in
theorem append_ct (mx_ : Int) (K : List Nat) (g : Gh) (b : Nat) (D : Dk) (p : Pth) (sd : SV) (d : List UInt8) (F : Nat → Prop) (w0 : World) (H0 : Heap)
 (hf : PDk K g H0 b D) (mx : MX mx_ H0) (bf_mx : BF (fun b => b = 0) H0.size) (dmx : DFL (fun b => b = 0) K) (hd : Rd F H0 fB 1 sd.v d) (bf_hd : BF F H0.size) (dfd : DFL F K) (hl : p.length ≤ 4294967280) (hB : Bd 274877906944 D) (hdl : d.length ≤ 274877906944) :
 Ct Tryz.prog w0 14 #[ptr b, Str p, sd.v] H0 (fun r H2 => ∃ K2 : List Nat, ∃ g2 : Gh, r = .int .i64 ((D.lay p ⟨true, d⟩).1 : Int) ∧ (PDk K2 g2 H2 b (D.lay p ⟨true, d⟩).2) ∧ (NxK K H0.size K2) ∧ Mo (Ms K) H0 H2) := by
 refine Ct.enter (args := [ptr b, Str p, sd.v]) Tryz.func14 rfl rfl rfl ?_; intro Q0 hret; have hm0 : Mo (Ms K) H0 H0 := Mo.refl _ _; have nx_hm0_hf := NxK.refl K H0.size; have hbk_hf := hf.bk; refine CW.s1 (fun hK1 => CW.region ?_); refine LR.a1 (LR.nil (hK1 _ _ ?_)); refine CW.seq (fun K2 hK2 _ => CW.region ?_); refine LR.m1 ?_; refine LR.m1 ?_; refine LR.m1 ?_; refine LR.v1 (Y.build (v := wV (⟨true, d⟩, sd)) rfl rfl (by intro w; kernel_rfl)) ?_; refine LR.call rfl c'33 rfl (Wd.u rfl) rfl rfl (lay_ct mx_ K g b D p (⟨true, d⟩, sd) F w0 _ hf mx (bf_mx.mono (by omega)) dmx hd (bf_hd.mono (by omega)) dfd hl hB hdl) ?_; rintro v11 H11 ⟨K11, g11, rfl, hf, hkd11, hs11⟩; have nx4 : NxK K H0.size K11 := NxK.tr (nx_hm0_hf) hkd11 hm0.size; replace hm0 := hm0.trL hs11 (MIL.ofK (nx_hm0_hf) (by intro k hk; simp [hk])); refine LR.a1 (LR.nil (hK2 _ _ ?_)); refine CW.ret (hret .ret (.inr rfl) _ _ _ (res1 rfl rfl) ?_); exact ⟨_, _, rfl, hf, nx4, hm0⟩
set_option maxHeartbeats 2000000 in
theorem sync_ct (mx_ : Int) (K : List Nat) (g : Gh) (b : Nat) (D : Dk) (p : Pth) (w0 : World) (H0 : Heap)
 (hf : PDk K g H0 b D) (mx : MX mx_ H0) (bf_mx : BF (fun b => b = 0) H0.size) (dmx : DFL (fun b => b = 0) K) (hl : p.length ≤ 4294967280) (hB : Bd 274877906944 D) :
 Ct Tryz.prog w0 16 #[ptr b, Str p] H0 (fun r H2 => ∃ K2 : List Nat, ∃ g2 : Gh, r = .int .i64 ((D.sync p).1 : Int) ∧ (PDk K2 g2 H2 b (D.sync p).2) ∧ (NxK K H0.size K2) ∧ Mo (Ms K) H0 H2) := by
 refine Ct.enter (args := [ptr b, Str p]) Tryz.func16 rfl rfl rfl ?_; intro Q0 hret; have hm0 : Mo (Ms K) H0 H0 := Mo.refl _ _; have nx_hm0_hf := NxK.refl K H0.size; have hbk_hf := hf.bk; have hop0 := hB.op; have hdm0 := hf.dml; obtain ⟨D1, hD1⟩ : ∃ D1, D1 = D.begin.2 := ⟨_, rfl⟩; have hB1 := hB.begin; rw [← hD1] at hB1; refine CW.s1 (fun hK1 => CW.region ?_); refine LR.a1 (LR.nil (hK1 _ _ ?_)); refine CW.seq (fun K2 hK2 hE2 => CW.s1 (fun hK3 => CW.region ?_)); refine LR.m1 ?_; refine LR.call rfl c'34 rfl (Wd.u rfl) rfl rfl (begin_ct K g b D w0 _ hf (by omega)) ?_; rintro v8 H8 ⟨g1, rfl, hf, hg1, hs8⟩; replace mx := mx.upL hs8 (dmx); replace hm0 := hm0.trL hs8 (MIL.ofK (nx_hm0_hf) (by intro k hk; simp [hk])); have hz1 := hs8.size; rw [← hD1] at hf; refine LR.v1 (Y.not rfl rfl) (LR.nil (hK3 _ _ ?_)); refine CW.cond rfl (fun c9 => ?_) (fun c9 => ?_)
 ·
  refine CW.s1 (fun hK4 => CW.region ?_); refine LR.a1 (LR.nil (hK4 _ _ ?_)); refine CW.ret (hE2 .ret nofun _ _ (hret .ret (.inr rfl) _ _ _ (res1 rfl rfl) ?_)); have hdd := sync_dead (p := p) (show D.begin.1 = false by simpa using c9); exact ⟨_, _, by rw [hdd]; rfl, by rw [hdd]; rw [hD1] at hf; exact hf, nx_hm0_hf, hm0⟩
 ·
  have hgo : D.begin.1 = true := by simpa using c9
  have hops := (begin_true hgo).1; rw [← hD1] at hops; have hlay := sync_go (p := p) hgo; rw [← hD1] at hlay; refine CW.skip (hK2 _ _ (CW.s1 (fun hK5 => CW.region ?_))); refine LR.m1 ?_; refine LR.m1 ?_; refine LR.call rfl c'45 rfl (Wd.u rfl) rfl rfl (find_ct mx_ K g1 b D1 p w0 _ mx (bf_mx.mono (by omega)) hf hl) ?_; rintro v13 H13 ⟨rfl, hs13⟩; replace hf := hf.nw hs13; replace hm0 := hm0.trN hs13; have hz2 := hs13.size; refine LR.m1 ?_; refine LR.v1 (Y.extract rfl rfl rfl) ?_; refine LR.v1 (Y.extract rfl rfl rfl) ?_; refine LR.a1 ?_; refine LR.a1 (LR.nil (hK5 _ _ ?_)); refine CW.s1 (fun hK6 => CW.s1 (fun hK7 => CW.region ?_)); refine LR.m1 ?_; refine LR.v1 (Y.eql rfl rfl rfl) (LR.nil (hK7 _ _ ?_)); refine CW.condp rfl (fun c17 => ?_) (fun c17 => ?_)
  ·
   have hlk : D1.look p = 0 := by omega
   obtain ⟨hnm, i, hnow⟩ := look_0 hlk; have hil := hf.ids.1 p i hnow; obtain ⟨bi, hbi, hbv⟩ : ∃ bi, g1.fb.getD i 0 = bi ∧ .pointer (fpt g1.fb (if D1.look p = 0 then mget D1.now p else none)) = ptr bi := ⟨_, rfl, by rw [if_pos hlk, hnow]; rfl⟩; obtain ⟨nvB, svB, wvB, kwB, lwB, hfiB⟩ := hf.fil i hil; have hop : Mo (Ms [(bi + 1)]) H13 H13 := Mo.refl _ _; have km1 : KM K (bi + 1) := (hf.kmf hfiB hbi); have vf2 := hfiB.atb hbi; have nx3 : MI K H0.size (bi + 1) := MIL.at (MIL.ofK (nx_hm0_hf) (by intro k hk; simp [hk])) km1; have nx4 := Nx.refl (bi + 1) H13.size; refine CW.region ?_; refine LR.v1 (Y.cast (v2 := ptr bi) (Y.move rfl rfl) (hbv)) ?_; refine LR.v1 (Y.cast (v2 := ptr bi) (Y.move rfl rfl) (hbv)) ?_; refine LR.v1 (Y.cast (v2 := ptr bi) (Y.move rfl rfl) (hbv)) ?_; refine LR.v1 (Y.nilCheck rfl rfl) ?_; refine LR.v1 (Y.FA vf2.pt rfl u'106 rfl s'103) ?_; refine LR.v1 (Y.FA vf2.pt rfl u'103 rfl s'31) ?_; refine LR.v1 (Y.load1 vf2.pt rfl a'31 rfl) ?_; refine LR.v1 (Y.nilCheck rfl rfl) ?_; refine LR.v1 (Y.FA vf2.pt rfl u'106 rfl s'103) ?_; refine LR.v1 (Y.FA vf2.pt rfl u'103 rfl s'31) ?_; refine LR.s1 (S.var1 vf2 1 ([nvB.v, nvB.v, wvB.v]) rfl rfl rfl (rfl) s'31 (by simp) (rfl)) ?_; rintro H5_10 ⟨vf2, hs5_10⟩; replace hs5_10 := hs5_10.md1; replace hm0 := hm0.trL hs5_10 (MIL.cons (nx3) MIL.nil); replace hop := hop.trL hs5_10 (MIL.o (MI.r nx4)); refine LR.v1 (Y.nilCheck rfl rfl) ?_; refine LR.v1 (Y.FA vf2.pt rfl u'106 rfl s'104) ?_; refine LR.s1 (S.var1 vf2 2 ([nvB.v, nvB.v, .slice none 0 0]) rfl rfl rfl (rfl) s'104 (by simp) (rfl)) ?_; rintro H5_13 ⟨vf2, hs5_13⟩; replace hs5_13 := hs5_13.md1; replace hm0 := hm0.trL hs5_13 (MIL.cons (nx3) MIL.nil); replace hop := hop.trL hs5_13 (MIL.o (MI.r nx4)); refine LR.nil ?_; have nx6 : NxK K H0.size K := nx_hm0_hf; replace hf := hf.fsync hil hfiB hbi hop vf2; refine hK6 _ _ (CW.s1 (fun hK8 => CW.region ?_)); refine LR.m1 ?_; refine LR.a1 (LR.nil (hK8 _ _ ?_)); refine CW.ret (hret .ret (.inr rfl) _ _ _ (res1 rfl rfl) ?_); exact ⟨_, _, by rw [hlay]; rfl, by rw [hlay]; simp only [hlk, if_true, hnow, Option.getD_some]; exact hf, nx6, hm0⟩
  ·
   refine CW.skip (hK6 _ _ (CW.s1 (fun hK9 => CW.region ?_))); refine LR.m1 ?_; refine LR.a1 (LR.nil (hK9 _ _ ?_)); refine CW.ret (hret .ret (.inr rfl) _ _ _ (res1 rfl rfl) ?_); exact ⟨_, _, by rw [hlay]; rfl, by rw [hlay]; rw [if_neg (by omega)]; exact hf, nx_hm0_hf, hm0⟩
set_option maxHeartbeats 2000000 in
theorem remove_ct (mx_ : Int) (K : List Nat) (g : Gh) (b : Nat) (D : Dk) (p : Pth) (w0 : World) (H0 : Heap)
 (hf : PDk K g H0 b D) (mx : MX mx_ H0) (bf_mx : BF (fun b => b = 0) H0.size) (dmx : DFL (fun b => b = 0) K) (hl : p.length ≤ 4294967280) (hB : Bd 274877906944 D) :
 Ct Tryz.prog w0 20 #[ptr b, Str p] H0 (fun r H2 => ∃ K2 : List Nat, ∃ g2 : Gh, r = .int .i64 ((D.remove p).1 : Int) ∧ (PDk K2 g2 H2 b (D.remove p).2) ∧ (NxK K H0.size K2) ∧ Mo (Ms K) H0 H2) := by
 refine Ct.enter (args := [ptr b, Str p]) Tryz.func20 rfl rfl rfl ?_; intro Q0 hret; have hm0 : Mo (Ms K) H0 H0 := Mo.refl _ _; have nx_hm0_hf := NxK.refl K H0.size; have hbk_hf := hf.bk; have hop0 := hB.op; have hdm0 := hf.dml; obtain ⟨D1, hD1⟩ : ∃ D1, D1 = D.begin.2 := ⟨_, rfl⟩; have hB1 := hB.begin; rw [← hD1] at hB1; refine CW.s1 (fun hK1 => CW.region ?_); refine LR.a1 (LR.nil (hK1 _ _ ?_)); refine CW.seq (fun K2 hK2 hE2 => CW.s1 (fun hK3 => CW.region ?_)); refine LR.m1 ?_; refine LR.call rfl c'34 rfl (Wd.u rfl) rfl rfl (begin_ct K g b D w0 _ hf (by omega)) ?_; rintro v8 H8 ⟨g1, rfl, hf, hg1, hs8⟩; replace mx := mx.upL hs8 (dmx); replace hm0 := hm0.trL hs8 (MIL.ofK (nx_hm0_hf) (by intro k hk; simp [hk])); have hz1 := hs8.size; rw [← hD1] at hf; refine LR.v1 (Y.not rfl rfl) (LR.nil (hK3 _ _ ?_)); refine CW.cond rfl (fun c9 => ?_) (fun c9 => ?_)
 ·
  refine CW.s1 (fun hK4 => CW.region ?_); refine LR.a1 (LR.nil (hK4 _ _ ?_)); refine CW.ret (hE2 .ret nofun _ _ (hret .ret (.inr rfl) _ _ _ (res1 rfl rfl) ?_)); have hdd := rem_dead (p := p) (show D.begin.1 = false by simpa using c9); exact ⟨_, _, by rw [hdd]; rfl, by rw [hdd]; rw [hD1] at hf; exact hf, nx_hm0_hf, hm0⟩
 ·
  have hgo : D.begin.1 = true := by simpa using c9
  have hops := (begin_true hgo).1; rw [← hD1] at hops; have hlay := rem_go (p := p) hgo; rw [← hD1] at hlay; refine CW.skip (hK2 _ _ (CW.s1 (fun hK5 => CW.region ?_))); refine LR.m1 ?_; refine LR.m1 ?_; refine LR.call rfl c'45 rfl (Wd.u rfl) rfl rfl (find_ct mx_ K g1 b D1 p w0 _ mx (bf_mx.mono (by omega)) hf hl) ?_; rintro v13 H13 ⟨rfl, hs13⟩; replace hf := hf.nw hs13; replace mx := mx.nw hs13; replace hm0 := hm0.trN hs13; have hz2 := hs13.size; refine LR.m1 ?_; refine LR.v1 (Y.extract rfl rfl rfl) ?_; refine LR.v1 (Y.extract rfl rfl rfl) ?_; refine LR.a1 ?_; refine LR.a1 (LR.nil (hK5 _ _ ?_)); refine CW.s1 (fun hK6 => CW.s1 (fun hK7 => CW.region ?_)); refine LR.m1 ?_; refine LR.v1 (Y.eql rfl rfl rfl) (LR.nil (hK7 _ _ ?_)); refine CW.condp rfl (fun c17 => ?_) (fun c17 => ?_)
  ·
   have hlk : D1.look p = 0 := by omega
   obtain ⟨hnm, i, hnow⟩ := look_0 hlk; have hil := hf.ids.1 p i hnow; obtain ⟨bi, hbi, hbv⟩ : ∃ bi, g1.fb.getD i 0 = bi ∧ .pointer (fpt g1.fb (if D1.look p = 0 then mget D1.now p else none)) = ptr bi := ⟨_, rfl, by rw [if_pos hlk, hnow]; rfl⟩; refine CW.region ?_; refine LR.m1 ?_; refine LR.m1 ?_; refine LR.call rfl c'51 rfl (Wd.u rfl) rfl rfl (dir_ct mx_ p w0 _ mx (bf_mx.mono (by omega)) hl) ?_; rintro v20 H20 ⟨rfl, hs20⟩; replace hf := hf.nw hs20; replace hm0 := hm0.trN hs20; have hz3 := hs20.size; refine LR.m1 ?_; refine LR.v1 (Y.build (v := .agg (fC g1.fb ⟨p, [], none⟩).toArray) rfl rfl (by intro w; kernel_rfl)) ?_; refine LR.call rfl c'52 rfl (Wd.u rfl) rfl rfl (change_ct K g1 b D1 (dirP p) ⟨p, [], none⟩ w0 _ hf (by rw [hg1.2.2.2]; omega) (by simp [Chg.dir, name_ne hnm]) (fun i hi => by cases hi) (fun h => rfl) (by have := hB1.lg; omega)) ?_; rintro v23 H23 ⟨K23, g23, rfl, hf, hkd23, hg23, hs23⟩; have nx3 : NxK K H0.size K23 := NxK.tr (nx_hm0_hf) hkd23 hm0.size; replace hm0 := hm0.trL hs23 (MIL.ofK (nx_hm0_hf) (by intro k hk; simp [hk])); refine LR.nil (hK6 _ _ (CW.s1 (fun hK8 => CW.region ?_))); refine LR.m1 ?_; refine LR.a1 (LR.nil (hK8 _ _ ?_)); refine CW.ret (hret .ret (.inr rfl) _ _ _ (res1 rfl rfl) ?_); exact ⟨_, _, by rw [hlay]; rfl, by rw [hlay]; simp only [hlk, if_true]; exact hf, nx3, hm0⟩
  ·
   refine CW.skip (hK6 _ _ (CW.s1 (fun hK9 => CW.region ?_))); refine LR.m1 ?_; refine LR.a1 (LR.nil (hK9 _ _ ?_)); refine CW.ret (hret .ret (.inr rfl) _ _ _ (res1 rfl rfl) ?_); exact ⟨_, _, by rw [hlay]; rfl, by rw [hlay]; rw [if_neg (by omega)]; exact hf, nx_hm0_hf, hm0⟩
set_option maxHeartbeats 2000000 in
theorem rename_ct (mx_ : Int) (K : List Nat) (g : Gh) (b : Nat) (D : Dk) (p q : Pth) (w0 : World) (H0 : Heap)
 (hf : PDk K g H0 b D) (mx : MX mx_ H0) (bf_mx : BF (fun b => b = 0) H0.size) (dmx : DFL (fun b => b = 0) K) (hl : p.length ≤ 4294967280) (hl2 : q.length ≤ 4294967280) (hB : Bd 274877906944 D) :
 Ct Tryz.prog w0 18 #[ptr b, Str p, Str q] H0 (fun r H2 => ∃ K2 : List Nat, ∃ g2 : Gh, r = .int .i64 ((D.rename p q).1 : Int) ∧ (PDk K2 g2 H2 b (D.rename p q).2) ∧ (NxK K H0.size K2) ∧ Mo (Ms K) H0 H2) := by
 refine Ct.enter (args := [ptr b, Str p, Str q]) Tryz.func18 rfl rfl rfl ?_; intro Q0 hret; have hm0 : Mo (Ms K) H0 H0 := Mo.refl _ _; have nx_hm0_hf := NxK.refl K H0.size; have hbk_hf := hf.bk; have hop0 := hB.op; have hdm0 := hf.dml; obtain ⟨D1, hD1⟩ : ∃ D1, D1 = D.begin.2 := ⟨_, rfl⟩; have hB1 := hB.begin; rw [← hD1] at hB1; refine CW.s1 (fun hK1 => CW.region ?_); refine LR.a1 (LR.nil (hK1 _ _ ?_)); refine CW.seq (fun K2 hK2 hE2 => CW.s1 (fun hK3 => CW.region ?_)); refine LR.m1 ?_; refine LR.call rfl c'34 rfl (Wd.u rfl) rfl rfl (begin_ct K g b D w0 _ hf (by omega)) ?_; rintro v10 H10 ⟨g1, rfl, hf, hg1, hs10⟩; replace mx := mx.upL hs10 (dmx); replace hm0 := hm0.trL hs10 (MIL.ofK (nx_hm0_hf) (by intro k hk; simp [hk])); have hz1 := hs10.size; rw [← hD1] at hf; refine LR.v1 (Y.not rfl rfl) (LR.nil (hK3 _ _ ?_)); refine CW.cond rfl (fun c11 => ?_) (fun c11 => ?_)
 ·
  refine CW.s1 (fun hK4 => CW.region ?_); refine LR.a1 (LR.nil (hK4 _ _ ?_)); refine CW.ret (hE2 .ret nofun _ _ (hret .ret (.inr rfl) _ _ _ (res1 rfl rfl) ?_)); have hdd := ren_dead (p := p) (q := q) (show D.begin.1 = false by simpa using c11); exact ⟨_, _, by rw [hdd]; rfl, by rw [hdd]; rw [hD1] at hf; exact hf, nx_hm0_hf, hm0⟩
 ·
  have hgo : D.begin.1 = true := by simpa using c11
  have hops := (begin_true hgo).1; rw [← hD1] at hops; have hlay := ren_go (p := p) (q := q) hgo; rw [← hD1] at hlay; refine CW.skip (hK2 _ _ (CW.s2 (fun hK5 hE5 => CW.block (fun _ hK6 _ hE6 => CW.s1 (fun hK7 => CW.region ?_))))); refine LR.m1 ?_; refine LR.call rfl c'35 rfl (Wd.u rfl) rfl rfl (name_ct mx_ p w0 _ mx (bf_mx.mono (by omega)) hl) ?_; rintro v14 H14 ⟨rfl, hs14⟩; replace hf := hf.nw hs14; replace mx := mx.nw hs14; replace hm0 := hm0.trN hs14; have hz2 := hs14.size; refine LR.v1 (Y.not rfl rfl) ?_; refine LR.m1 ?_; refine LR.split (d := 16) rfl (fun g16 => ?_) (fun g16 => ?_)
  ·
   refine LR.g1 ?_; refine LR.g1 ?_; refine LR.g1 ?_; refine LR.v1 (Y.pick_t rfl rfl rfl) ?_; refine LR.a1 (LR.nil (hK7 _ _ ?_)); refine CW.cond_t rfl ?_; refine CW.s1 (fun hK8 => CW.region ?_); refine LR.a1 (LR.nil (hK8 _ _ ?_)); refine CW.ret (hE6 .ret nofun (by simp) _ _ (hE5 .ret nofun _ _ (hret .ret (.inr rfl) _ _ _ (res1 rfl rfl) ?_))); have hE := renE_7 (D := D1) (p := p) (q := q) (by first | exact .inl (by simpa using g16) | exact .inr (by simpa using c12)); exact ⟨_, _, by rw [hlay, hE]; rfl, by rw [hlay, hE]; exact hf, nx_hm0_hf, hm0⟩
  ·
   refine LR.w1 (Y.move rfl rfl) ?_; refine LR.call rfl c'35 rfl (Wd.g rfl rfl rfl) rfl rfl (name_ct mx_ q w0 _ mx (bf_mx.mono (by omega)) hl2) ?_; rintro v18 H18 ⟨rfl, hs18⟩; replace hf := hf.nw hs18; replace mx := mx.nw hs18; replace hm0 := hm0.trN hs18; have hz3 := hs18.size; refine LR.w1 (Y.not rfl rfl) ?_; refine LR.v1 (Y.pick_f rfl rfl rfl) ?_; refine LR.a1 (LR.nil (hK7 _ _ ?_)); refine CW.cond rfl (fun c12 => ?_) (fun c12 => ?_)
   ·
    refine CW.s1 (fun hK9 => CW.region ?_); refine LR.a1 (LR.nil (hK9 _ _ ?_)); refine CW.ret (hE6 .ret nofun (by simp) _ _ (hE5 .ret nofun _ _ (hret .ret (.inr rfl) _ _ _ (res1 rfl rfl) ?_))); have hE := renE_7 (D := D1) (p := p) (q := q) (by first | exact .inl (by simpa using g16) | exact .inr (by simpa using c12)); exact ⟨_, _, by rw [hlay, hE]; rfl, by rw [hlay, hE]; exact hf, nx_hm0_hf, hm0⟩
   ·
    refine CW.s1 (fun hK10 => CW.region ?_); refine LR.m1 ?_; refine LR.call rfl c'51 rfl (Wd.u rfl) rfl rfl (dir_ct mx_ p w0 _ mx (bf_mx.mono (by omega)) hl) ?_; rintro v23 H23 ⟨rfl, hs23⟩; replace hf := hf.nw hs23; replace mx := mx.nw hs23; replace hm0 := hm0.trN hs23; have hz4 := hs23.size; refine LR.m1 ?_; refine LR.call rfl c'51 rfl (Wd.u rfl) rfl rfl (dir_ct mx_ q w0 _ mx (bf_mx.mono (by omega)) hl2) ?_; rintro v25 H25 ⟨rfl, hs25⟩; replace hf := hf.nw hs25; replace mx := mx.nw hs25; replace hm0 := hm0.trN hs25; have hz5 := hs25.size; refine LR.v1 (Y.sneq rfl rfl rfl) ?_; refine LR.a1 (LR.nil (hK10 _ _ ?_)); refine CW.condp rfl (fun c21 => ?_) (fun c21 => ?_)
    ·
     refine CW.s1 (fun hK11 => CW.region ?_); refine LR.a1 (LR.nil (hK11 _ _ ?_)); refine CW.ret (hE6 .ret nofun (by simp) _ _ (hE5 .ret nofun _ _ (hret .ret (.inr rfl) _ _ _ (res1 rfl rfl) ?_))); have hE := renE_13 (D := D1) (p := p) (q := q) (by simpa using g16) (by simpa using c12) (by simpa using c21); exact ⟨_, _, by rw [hlay, hE]; rfl, by rw [hlay, hE]; exact hf, nx_hm0_hf, hm0⟩
    ·
     have hdq : dirP p = dirP q := by simpa using c21
     have hn1 : nameB p = true := by simpa using g16
     have hn2 : nameB q = true := by simpa using c12
     have hrl := renE_l (D := D1) hn1 hn2 hdq; refine CW.skip (hK6 _ _ (hK5 _ _ (CW.s1 (fun hK12 => CW.region ?_)))); refine LR.m1 ?_; refine LR.m1 ?_; refine LR.call rfl c'45 rfl (Wd.u rfl) rfl rfl (find_ct mx_ K g1 b D1 p w0 _ mx (bf_mx.mono (by omega)) hf hl) ?_; rintro v30 H30 ⟨rfl, hs30⟩; replace hf := hf.nw hs30; replace mx := mx.nw hs30; replace hm0 := hm0.trN hs30; have hz6 := hs30.size; refine LR.m1 ?_; refine LR.v1 (Y.extract rfl rfl rfl) ?_; refine LR.v1 (Y.extract rfl rfl rfl) ?_; refine LR.a1 ?_; refine LR.a1 (LR.nil (hK12 _ _ ?_)); refine CW.s1 (fun hK13 => CW.s1 (fun hK14 => CW.region ?_)); refine LR.m1 ?_; refine LR.v1 (Y.eql rfl rfl rfl) ?_; refine LR.m1 ?_; refine LR.splitp (d := 35) rfl (fun g35 => ?_) (fun g35 => ?_)
     ·
      refine LR.w1 (Y.move rfl rfl) ?_; refine LR.w1 (Y.move rfl rfl) ?_; refine LR.w1 (Y.sneq rfl rfl rfl) ?_; refine LR.v1 (Y.pick_t rfl rfl rfl) (LR.nil (hK14 _ _ ?_)); refine CW.condp rfl (fun c39 => ?_) (fun c39 => ?_)
      ·
       have hlk : D1.look p = 0 := by omega
       obtain ⟨hnm, i, hnow⟩ := look_0 hlk; have hil := hf.ids.1 p i hnow; refine CW.region ?_; refine LR.m1 ?_; refine LR.m1 ?_; refine LR.call rfl c'51 rfl (Wd.u rfl) rfl rfl (dir_ct mx_ p w0 _ mx (bf_mx.mono (by omega)) hl) ?_; rintro v42 H42 ⟨rfl, hs42⟩; replace hf := hf.nw hs42; replace hm0 := hm0.trN hs42; have hz7 := hs42.size; refine LR.m1 ?_; refine LR.m1 ?_; refine LR.m1 ?_; refine LR.v1 (Y.cast (v2 := .agg (fC g1.fb ⟨p, q, some i⟩).toArray) (Y.build (v := .agg #[Str p, Str q, .pointer (fpt g1.fb (if D1.look p = 0 then mget D1.now p else none))]) rfl rfl (by intro w; kernel_rfl)) (by rw [if_pos hlk, hnow])) ?_; refine LR.call rfl c'52 rfl (Wd.u rfl) rfl rfl (change_ct K g1 b D1 (dirP p) ⟨p, q, some i⟩ w0 _ hf (by rw [hg1.2.2.2]; omega) (by simp [Chg.dir, name_ne hnm]) (fun j hj => by cases hj; exact ⟨hdq.symm, hil⟩) (fun h => rfl) (by have := hB1.lg; omega)) ?_; rintro v47 H47 ⟨K47, g47, rfl, hf, hkd47, hg47, hs47⟩; have nx3 : NxK K H0.size K47 := NxK.tr (nx_hm0_hf) hkd47 hm0.size; replace hm0 := hm0.trL hs47 (MIL.ofK (nx_hm0_hf) (by intro k hk; simp [hk])); refine LR.nil (hK13 _ _ (CW.s1 (fun hK15 => CW.region ?_))); refine LR.m1 ?_; refine LR.a1 (LR.nil (hK15 _ _ ?_)); refine CW.ret (hret .ret (.inr rfl) _ _ _ (res1 rfl rfl) ?_); exact ⟨_, _, by rw [hlay, hrl]; rfl, by rw [hlay, hrl]; rw [if_pos ⟨hlk, by simpa using c39⟩, hnow]; exact hf, nx3, hm0⟩
      ·
       refine CW.skip (hK13 _ _ (CW.s1 (fun hK16 => CW.region ?_))); refine LR.m1 ?_; refine LR.a1 (LR.nil (hK16 _ _ ?_)); refine CW.ret (hret .ret (.inr rfl) _ _ _ (res1 rfl rfl) ?_); exact ⟨_, _, by rw [hlay, hrl]; rfl, by rw [hlay, hrl]; rw [if_neg (fun h => by first | exact g35 (by omega) | exact h.2 (by simpa using c39))]; exact hf, nx_hm0_hf, hm0⟩
     ·
      refine LR.g1 ?_; refine LR.g1 ?_; refine LR.g1 ?_; refine LR.v1 (Y.pick_f rfl rfl rfl) (LR.nil (hK14 _ _ ?_)); refine CW.cond_f rfl ?_; refine CW.skip (hK13 _ _ (CW.s1 (fun hK17 => CW.region ?_))); refine LR.m1 ?_; refine LR.a1 (LR.nil (hK17 _ _ ?_)); refine CW.ret (hret .ret (.inr rfl) _ _ _ (res1 rfl rfl) ?_); exact ⟨_, _, by rw [hlay, hrl]; rfl, by rw [hlay, hrl]; rw [if_neg (fun h => by first | exact g35 (by omega) | exact h.2 (by simpa using c39))]; exact hf, nx_hm0_hf, hm0⟩
set_option maxHeartbeats 2000000 in
theorem syncDir_ct (mx_ : Int) (K : List Nat) (g : Gh) (b : Nat) (D : Dk) (p : Pth) (w0 : World) (H0 : Heap)
 (hf : PDk K g H0 b D) (mx : MX mx_ H0) (bf_mx : BF (fun b => b = 0) H0.size) (dmx : DFL (fun b => b = 0) K) (hl : p.length ≤ 4294967280) (hB : Bd 274877906944 D) :
 Ct Tryz.prog w0 10 #[ptr b, Str p] H0 (fun r H2 => ∃ K2 : List Nat, ∃ g2 : Gh, r = .int .i64 ((D.syncDir p).1 : Int) ∧ (PDk K2 g2 H2 b (D.syncDir p).2) ∧ (NxK K H0.size K2) ∧ Mo (Ms K) H0 H2) := by
 refine Ct.enter (args := [ptr b, Str p]) Tryz.func10 rfl rfl rfl ?_; intro Q0 hret; have hm0 : Mo (Ms K) H0 H0 := Mo.refl _ _; have nx_hm0_hf := NxK.refl K H0.size; have hbk_hf := hf.bk; have hop0 := hB.op; have hdm0 := hf.dml; obtain ⟨D1, hD1⟩ : ∃ D1, D1 = D.begin.2 := ⟨_, rfl⟩; have hB1 := hB.begin; rw [← hD1] at hB1; refine CW.s1 (fun hK1 => CW.region ?_); refine LR.a1 (LR.nil (hK1 _ _ ?_)); refine CW.seq (fun K2 hK2 hE2 => CW.s1 (fun hK3 => CW.region ?_)); refine LR.m1 ?_; refine LR.call rfl c'34 rfl (Wd.u rfl) rfl rfl (begin_ct K g b D w0 _ hf (by omega)) ?_; rintro v7 H7 ⟨g1, rfl, hf, hg1, hs7⟩; replace mx := mx.upL hs7 (dmx); replace hm0 := hm0.trL hs7 (MIL.ofK (nx_hm0_hf) (by intro k hk; simp [hk])); have hz1 := hs7.size; rw [← hD1] at hf; refine LR.v1 (Y.not rfl rfl) (LR.nil (hK3 _ _ ?_)); refine CW.cond rfl (fun c8 => ?_) (fun c8 => ?_)
 ·
  refine CW.s1 (fun hK4 => CW.region ?_); refine LR.a1 (LR.nil (hK4 _ _ ?_)); refine CW.ret (hE2 .ret nofun _ _ (hret .ret (.inr rfl) _ _ _ (res1 rfl rfl) ?_)); have hdd := sd_dead (p := p) (show D.begin.1 = false by simpa using c8); exact ⟨_, _, by rw [hdd]; rfl, by rw [hdd]; rw [hD1] at hf; exact hf, nx_hm0_hf, hm0⟩
 ·
  have hgo : D.begin.1 = true := by simpa using c8
  have hops := (begin_true hgo).1; rw [← hD1] at hops; have hlay := sd_go (p := p) hgo; rw [← hD1] at hlay; refine CW.skip (hK2 _ _ (CW.s2 (fun hK5 hE5 => CW.s1 (fun hK6 => CW.region ?_)))); refine LR.m1 ?_; refine LR.v1 (Y.sneq rfl rfl rfl) ?_; refine LR.m1 ?_; refine LR.splitp (d := 11) rfl (fun g11 => ?_) (fun g11 => ?_)
  ·
   refine LR.w1 (Y.move rfl rfl) ?_; refine LR.call rfl c'35 rfl (Wd.g rfl rfl rfl) rfl rfl (name_ct mx_ p w0 _ mx (bf_mx.mono (by omega)) hl) ?_; rintro v13 H13 ⟨rfl, hs13⟩; replace hf := hf.nw hs13; replace hm0 := hm0.trN hs13; have hz2 := hs13.size; refine LR.w1 (Y.not rfl rfl) ?_; refine LR.v1 (Y.pick_t rfl rfl rfl) (LR.nil (hK6 _ _ ?_)); refine CW.cond rfl (fun c15 => ?_) (fun c15 => ?_)
   ·
    refine CW.s1 (fun hK7 => CW.region ?_); refine LR.a1 (LR.nil (hK7 _ _ ?_)); refine CW.ret (hE5 .ret nofun _ _ (hret .ret (.inr rfl) _ _ _ (res1 rfl rfl) ?_)); have hE : dirE p = 7 := by unfold dirE; rw [if_pos ⟨g11, by simpa using c15⟩]
    exact ⟨_, _, by rw [hlay, hE]; rfl, by rw [hlay, hE]; exact hf, nx_hm0_hf, hm0⟩
   ·
    refine CW.skip (hK5 _ _ (CW.s1 (fun hK8 => CW.region ?_))); refine LR.m1 ?_; refine LR.m1 ?_; refine LR.call rfl c'36 rfl (Wd.u rfl) rfl rfl (mkdir_ct K g1 b D1 p w0 _ hf (by rw [hg1.2.2.2]; omega)) ?_; rintro v18 H18 ⟨K18, g18, db, rfl, hf, hkd18, hdb, hg18, hs18⟩; have nx3 : NxK K H0.size K18 := NxK.tr (nx_hm0_hf) hkd18 hm0.size; replace hm0 := hm0.trL hs18 (MIL.ofK (nx_hm0_hf) (by intro k hk; simp [hk])); refine LR.a1 (LR.nil (hK8 _ _ ?_)); refine CW.s1 (fun hK9 => ?_); obtain ⟨nbB, sbB, kcB, svB, nmB, smB, hdB⟩ := hf.dirs _ db hdb; have hop : Mo (Ms [(db + 1)]) H18 H18 := Mo.refl _ _; have km4 : KM K18 (db + 1) := (hf.km1 hdB.rd (by simp)); have vd := hdB.vd; have nx6 : MI K H0.size (db + 1) := MIL.at (MIL.ofK (nx3) (by intro k hk; simp [hk])) km4; have nx7 := Nx.refl (db + 1) H18.size; refine CW.region ?_; refine LR.m1 ?_; refine LR.m1 ?_; refine LR.m1 ?_; refine LR.v1 (Y.nilCheck rfl rfl) ?_; refine LR.v1 (Y.FA vd.pt rfl u'88 rfl s'85) ?_; refine LR.v1 (Y.FA vd.pt rfl u'85 rfl s'81) ?_; refine LR.v1 (Y.load1 vd.pt rfl a'81 rfl) ?_; refine LR.call rfl c'37 rfl (Wd.u rfl) rfl rfl (mclone_ct nbB nmB w0 _ hdB.hn) ?_; rintro v26 H26 ⟨b26, rfl, hm26, hk26, hs26⟩; have dj9 : Dj (db + 1) (b26 + 1) := Dj.app (Dj.z) vd.lt hk26; have nx10 : Nx 0 H0.size (b26 + 1) := Nx.tr (Nx.refl 0 _) hk26 hm0.size; have nx11 : Nx 0 H18.size (b26 + 1) := Nx.tr (Nx.refl 0 _) hk26 hop.size; replace vd := vd.nw hs26; replace hm0 := hm0.trN hs26; replace hop := hop.trN hs26; refine LR.v1 (Y.nilCheck rfl rfl) ?_; refine LR.v1 (Y.FA vd.pt rfl u'88 rfl s'85) ?_; refine LR.v1 (Y.FA vd.pt rfl u'85 rfl s'81) ?_; refine LR.s1 (S.var1 vd 1 ([.map (some nbB), .map (some b26), svB.v]) rfl rfl rfl (rfl) s'81 (by simp) (rfl)) ?_; rintro H6_11 ⟨vd, hs6_11⟩; replace hs6_11 := hs6_11.md1; replace hm26 := hm26.upL hs6_11 (DL.o dj9.symm); replace hm0 := hm0.trL hs6_11 (MIL.cons (nx6) MIL.nil); replace hop := hop.trL hs6_11 (MIL.o (MI.r nx7)); refine LR.v1 (Y.nilCheck rfl rfl) ?_; refine LR.v1 (Y.FA vd.pt rfl u'88 rfl s'86) ?_; refine LR.s1 (S.var1 vd 2 ([.map (some nbB), .map (some b26), .slice none 0 0]) rfl rfl rfl (rfl) s'86 (by simp) (rfl)) ?_; rintro H6_14 ⟨vd, hs6_14⟩; replace hs6_14 := hs6_14.md1; replace hm26 := hm26.upL hs6_14 (DL.o dj9.symm); replace hm0 := hm0.trL hs6_14 (MIL.cons (nx6) MIL.nil); replace hop := hop.trL hs6_14 (MIL.o (MI.r nx7)); refine LR.nil ?_; have nx13 : NxK K H0.size ((b26 + 1) :: K18) := (NxK.cons (nx10) (nx3)); replace hf := hf.dsync hB1.an hdb hdB hop vd hm26 (fun _ => rfl) (DL.nxK hf.bk (nx11)); refine hK9 _ _ (CW.s1 (fun hK10 => CW.region ?_)); refine LR.a1 (LR.nil (hK10 _ _ ?_)); refine CW.ret (hret .ret (.inr rfl) _ _ _ (res1 rfl rfl) ?_); have hE : dirE p = 0 := by unfold dirE; rw [if_neg (fun h => by first | exact absurd h.1 g11 | (rw [h.2] at c15; cases c15))]
    exact ⟨_, _, by rw [hlay, hE]; rfl, by rw [hlay, hE]; exact hf, nx13, hm0⟩
  ·
   refine LR.g1 ?_; refine LR.g1 ?_; refine LR.g1 ?_; refine LR.v1 (Y.pick_f rfl rfl rfl) (LR.nil (hK6 _ _ ?_)); refine CW.cond_f rfl ?_; refine CW.skip (hK5 _ _ (CW.s1 (fun hK11 => CW.region ?_))); refine LR.m1 ?_; refine LR.m1 ?_; refine LR.call rfl c'36 rfl (Wd.u rfl) rfl rfl (mkdir_ct K g1 b D1 p w0 _ hf (by rw [hg1.2.2.2]; omega)) ?_; rintro v18 H18 ⟨K18, g18, db, rfl, hf, hkd18, hdb, hg18, hs18⟩; have nx16 : NxK K H0.size K18 := NxK.tr (nx_hm0_hf) hkd18 hm0.size; replace hm0 := hm0.trL hs18 (MIL.ofK (nx_hm0_hf) (by intro k hk; simp [hk])); refine LR.a1 (LR.nil (hK11 _ _ ?_)); refine CW.s1 (fun hK12 => ?_); obtain ⟨nbB, sbB, kcB, svB, nmB, smB, hdB⟩ := hf.dirs _ db hdb; have hop : Mo (Ms [(db + 1)]) H18 H18 := Mo.refl _ _; have km17 : KM K18 (db + 1) := (hf.km1 hdB.rd (by simp)); have vd := hdB.vd; have nx19 : MI K H0.size (db + 1) := MIL.at (MIL.ofK (nx16) (by intro k hk; simp [hk])) km17; have nx20 := Nx.refl (db + 1) H18.size; refine CW.region ?_; refine LR.m1 ?_; refine LR.m1 ?_; refine LR.m1 ?_; refine LR.v1 (Y.nilCheck rfl rfl) ?_; refine LR.v1 (Y.FA vd.pt rfl u'88 rfl s'85) ?_; refine LR.v1 (Y.FA vd.pt rfl u'85 rfl s'81) ?_; refine LR.v1 (Y.load1 vd.pt rfl a'81 rfl) ?_; refine LR.call rfl c'37 rfl (Wd.u rfl) rfl rfl (mclone_ct nbB nmB w0 _ hdB.hn) ?_; rintro v26 H26 ⟨b26, rfl, hm26, hk26, hs26⟩; have dj22 : Dj (db + 1) (b26 + 1) := Dj.app (Dj.z) vd.lt hk26; have nx23 : Nx 0 H0.size (b26 + 1) := Nx.tr (Nx.refl 0 _) hk26 hm0.size; have nx24 : Nx 0 H18.size (b26 + 1) := Nx.tr (Nx.refl 0 _) hk26 hop.size; replace vd := vd.nw hs26; replace hm0 := hm0.trN hs26; replace hop := hop.trN hs26; refine LR.v1 (Y.nilCheck rfl rfl) ?_; refine LR.v1 (Y.FA vd.pt rfl u'88 rfl s'85) ?_; refine LR.v1 (Y.FA vd.pt rfl u'85 rfl s'81) ?_; refine LR.s1 (S.var1 vd 1 ([.map (some nbB), .map (some b26), svB.v]) rfl rfl rfl (rfl) s'81 (by simp) (rfl)) ?_; rintro H6_11 ⟨vd, hs6_11⟩; replace hs6_11 := hs6_11.md1; replace hm26 := hm26.upL hs6_11 (DL.o dj22.symm); replace hm0 := hm0.trL hs6_11 (MIL.cons (nx19) MIL.nil); replace hop := hop.trL hs6_11 (MIL.o (MI.r nx20)); refine LR.v1 (Y.nilCheck rfl rfl) ?_; refine LR.v1 (Y.FA vd.pt rfl u'88 rfl s'86) ?_; refine LR.s1 (S.var1 vd 2 ([.map (some nbB), .map (some b26), .slice none 0 0]) rfl rfl rfl (rfl) s'86 (by simp) (rfl)) ?_; rintro H6_14 ⟨vd, hs6_14⟩; replace hs6_14 := hs6_14.md1; replace hm26 := hm26.upL hs6_14 (DL.o dj22.symm); replace hm0 := hm0.trL hs6_14 (MIL.cons (nx19) MIL.nil); replace hop := hop.trL hs6_14 (MIL.o (MI.r nx20)); refine LR.nil ?_; have nx26 : NxK K H0.size ((b26 + 1) :: K18) := (NxK.cons (nx23) (nx16)); replace hf := hf.dsync hB1.an hdb hdB hop vd hm26 (fun _ => rfl) (DL.nxK hf.bk (nx24)); refine hK12 _ _ (CW.s1 (fun hK13 => CW.region ?_)); refine LR.a1 (LR.nil (hK13 _ _ ?_)); refine CW.ret (hret .ret (.inr rfl) _ _ _ (res1 rfl rfl) ?_); have hE : dirE p = 0 := by unfold dirE; rw [if_neg (fun h => by first | exact absurd h.1 g11 | (rw [h.2] at c15; cases c15))]
   exact ⟨_, _, by rw [hlay, hE]; rfl, by rw [hlay, hE]; exact hf, nx26, hm0⟩
end Go.Proofs.YtfbfjhppppoilaaGreatDoor.SimI

namespace Go.Proofs.YtfbfjhppppoilaaGreatDoor.SimJ
open E Go.RowKit SimA SimB SimC SimD SimE SimF SimG SimH SimI
set_option maxRecDepth 20000
open Go.Sort Go.Shelf
theorem blt_lt (a b : Pth) : blt a b ↔ a < b := by unfold blt; rw [bytesLess_eq, decide_eq_true_iff]
theorem not_blt {a b : Pth} (h : a ≤ b) : ¬ blt b a := by rw [blt_lt]; exact List.not_lt.2 h
theorem sorted_rise {l m : List Pth} (hn : l.Nodup) (h : m = l.mergeSort (fun x y => decide (x ≤ y))) : Rise m ∧ m.Perm l := by
 subst h; have hp := List.mergeSort_perm l (fun x y => decide (x ≤ y))
 have hs : (l.mergeSort (fun x y => decide (x ≤ y))).Pairwise (fun x y => decide (x ≤ y) = true) := List.pairwise_mergeSort (le := fun x y : List UInt8 => decide (x ≤ y)) (fun a b c h1 h2 => by
  simp only [decide_eq_true_eq] at *; exact List.le_trans h1 h2) (fun a b => by
  simp only [Bool.or_eq_true, decide_eq_true_eq]; exact List.le_total a b) l
 have hn2 : (l.mergeSort (fun x y => decide (x ≤ y))).Nodup := hp.nodup_iff.2 hn; refine ⟨?_, hp⟩; unfold Rise; rw [List.nodup_iff_pairwise_ne] at hn2; refine (hs.and hn2).imp (fun {x y} h => ?_); obtain ⟨h1, h2⟩ := h; refine Classical.byContradiction (fun h3 => h2 (blt_total h3 ?_)); simp only [decide_eq_true_eq] at h1; exact not_blt h1
theorem flatS : ∀ l : List Pth, l.flatMap fS = l.map Str
 | [] => rfl
 | x :: l => by rw [List.flatMap_cons, flatS l]; rfl
theorem putCells_S (d : Array Pth) (cur : Array Value) (h : d.size ≤ cur.size) : (putCells encStr 0 d cur).size = cur.size ∧ (putCells encStr 0 d cur).toList.take d.size = d.toList.flatMap fS := by
 refine ⟨by simp [putCells], ?_⟩; rw [flatS]; apply List.ext_getElem?; intro i; rw [List.getElem?_take]; split
 · rename_i hi
   rw [Array.getElem?_toList, List.getElem?_map, Array.getElem?_toList, Array.getElem?_eq_getElem (by simp [putCells]; omega), Array.getElem?_eq_getElem hi]; simp only [putCells, Array.getElem_mapIdx, Nat.zero_le, Nat.zero_add, true_and, Nat.sub_zero]; rw [if_pos hi, getElem!_pos d i hi]; rfl
 · rw [List.getElem?_map, Array.getElem?_toList, Array.getElem?_eq_none (by omega)]; rfl
theorem sortS_ct (k : Nat) (v : Value) (l : List Pth) (w0 : World) (H : Heap) (h : Ow k 9 H fS 1 v l) (hl : l.length < 4611686018427387904) :
 Ct Tryz.prog w0 70 #[v] H (fun r H2 => ∃ l2 : List Pth, ∃ k2 : Nat, r = .tuple #[] ∧ Ow k2 9 H2 fS 1 v l2 ∧ Nx k H.size k2 ∧ (l2 = l.mergeSort (fun x y => decide (x ≤ y))) ∧ Mo (Ms [k]) H H2) := by
 intro w ha; rcases h.own.ex with ⟨hv, hx⟩ | ⟨g', cap, cur, hv, hk, hr, h1, h2, h3, h4⟩
 · subst hv hx
   exact (Any.slices_Sort_string_none Tryz.lays190 none 0 w).mono (fun e w' ⟨he, hw⟩ => ⟨_, H, he, by rw [hw]; exact ha, [], k, rfl, h, Nx.refl _ _, by simp, Mo.refl _ _⟩)
 · obtain ⟨fz, hh, hsf⟩ := id hr
   have hwb : w.heap[g']? = some (.cells cur 9 fz) := by rw [ha.heap]; exact hh
   have hle : l.length ≤ cur.size := by rw [h3]; omega
   have hH : Holds encStr w g' 0 l.toArray := by
    intro j hj; have hjl : j < l.length := by simpa using hj
    have hc : cur[j]? = some (Str l[j]) := by
     have : (cur.toList.take (l.length * 1))[j]? = (l.flatMap fS)[j]? := by rw [h4]
     rw [List.getElem?_take, if_pos (by omega), Array.getElem?_toList, flatS] at this; rw [this, List.getElem?_map, List.getElem?_eq_getElem hjl]; rfl
    refine ⟨?_, ?_⟩
    · simp only [World.cell?, hwb, Nat.zero_add, Option.isSome_none, Bool.false_eq_true, if_false, id_eq]
      rw [hc, getElem!_pos l.toArray j hj]; rfl
    · have := hsf.2 j (by omega)
      simp only [World.frozen?, hwb, Nat.zero_add]
      simpa using this
   have hg : g' < w.heap.size := by rw [ha.heap]; exact hr.lt
   have hcon := Any.slices_Sort_string Tryz.lays190 g' 0 cap l w hH hg hl; rw [← hv] at hcon; refine hcon.mono ?_; rintro en w' ⟨he, n, os, rfl⟩; have hd : (l.mergeSort fun x y => decide (x ≤ y)).length = l.length := List.length_mergeSort l; obtain ⟨hF1, hF2⟩ := putCells_S (l.mergeSort fun x y => decide (x ≤ y)).toArray cur (by simp; exact hle); have hheap : (grow (putRow encStr (Sort.ahead w n) g' 0 (l.mergeSort fun x y => decide (x ≤ y)).toArray) os).heap = w.heap.modify g' (onCells (putCells encStr 0 (l.mergeSort fun x y => decide (x ≤ y)).toArray)) ++ os := rfl
   have hat : (grow (putRow encStr (Sort.ahead w n) g' 0 (l.mergeSort fun x y => decide (x ≤ y)).toArray) os).heap[g']? = some (.cells (putCells encStr 0 (l.mergeSort fun x y => decide (x ≤ y)).toArray cur) 9 fz) := by
    rw [hheap, Array.getElem?_append_left (by simpa using hg), Array.getElem?_modify, if_pos rfl, hwb]; rfl
   refine ⟨_, (grow (putRow encStr (Sort.ahead w n) g' 0 (l.mergeSort fun x y => decide (x ≤ y)).toArray) os).heap, he, ⟨rfl, ha.os, ha.tape, ha.output, Nat.le_trans ha.dr (Nat.le_add_right _ _)⟩, _, k, rfl, ⟨⟨fS_len, fS_one, .inr ⟨g', cap, _, by rw [hd]; exact hv, hk, ⟨fz, hat, by rw [hF1]; exact hsf⟩, by rw [hd]; exact h1, h2, by rw [hF1]; exact h3, ?_⟩⟩, ?_⟩, Nx.refl _ _, rfl, ?_, ?_⟩
   · simpa using hF2
   · rw [hheap]
     have := h.le; simp [ha.heap]; omega
   · rw [hheap]; simp [ha.heap]
   · intro b hb hn
     have hne : g' ≠ b := fun q => hn (by unfold Ms; rw [← q]; simp [hk]); rw [hheap, Array.getElem?_append_left (by simp [ha.heap, hb]), Array.getElem?_modify, if_neg hne, ha.heap]
end Go.Proofs.YtfbfjhppppoilaaGreatDoor.SimJ

namespace Go.Proofs.YtfbfjhppppoilaaGreatDoor.SimK
open E Go.RowKit SimA SimB SimC SimD SimE SimF SimG SimH SimI SimJ
set_option maxRecDepth 20000
set_option maxRecDepth 100000 in
theorem inf60 : Inf Tryz.prog 60 9 1 16 := ⟨Tryz.underlying60, _, _, rfl, rfl, rfl, rfl, rfl⟩
def rfOf : Code → Code
 | .seq _ (.seq (.seq _ (.block _ c)) _) => c
 | _ => .skip
def asOf : Code → Code
 | .rangeFunc _ _ c _ => c
 | _ => .skip
def boOf : Code → Code
 | .rangeFunc _ _ _ c => c
 | _ => .skip
structure ApR (r : Loop) (Bs : Nat) : Prop where
 st : r.state = .ready
 pe : r.pending = none
 ps : r.params = #[7]
 A : r.assign = asOf (rfOf (Tryz.f88.body.getD .skip))
 B : r.body = boOf (rfOf (Tryz.f88.body.getD .skip))
 fr : Fr Tryz.f88.ntmps [(2, .pointer (some ⟨Bs, 0, none⟩))] { tmps := r.tmps, defers := [] }
theorem ap_round (r : Loop) (Bs lp kr : Nat) (vr : Value) (ss : List Pth) (x : Pth) (w0 : World) (H : Heap) (hr : ApR r Bs) (hl : Lpr H lp r) (hB : Var 60 H Bs [vr]) (ho : Ow kr 9 H fS 1 vr ss) (d1 : Dj (lp + 1) (Bs + 1)) (d2 : Dj (lp + 1) kr) (d3 : Dj (Bs + 1) kr) (hlen : ss.length ≤ 1099511627776) :
 YCt Tryz.prog w0 lp [Str x] H (fun r' H2 => ∃ vr2 : Value, ∃ kr2 : Nat, r' = .bool true ∧ Lpr H2 lp r ∧ Var 60 H2 Bs [vr2] ∧ Ow kr2 9 H2 fS 1 vr2 (ss ++ [x]) ∧ Nx kr H.size kr2 ∧ Mo (Ms [lp + 1, Bs + 1, kr]) H H2) := by
 have hf7 := hr.fr.put (d := 7) rfl (Str x); refine YCt.of hl hr.st hr.pe hr.ps (hr.A.trans rfl) (hr.B.trans rfl) hf7 ?_; have hlB : lp ≠ Bs := d1.ne; have hll := hl.lt; have hBl := hB.lt; have hol := ho.le; have hm := Mo.refl (Ms [lp + 1, Bs + 1, kr]) H; refine LRI.v (Y.assign rfl rfl) (by intro c e; cases e) (Wd.u rfl) rfl rfl ?_; refine LRI.nil (fun a w hf ha => ⟨rfl, _, H, hf, ha, hl, ?_⟩); have hs7 : Mo (fun c => c = lp) H (H.setIfInBounds lp (.loop { r with state := .busy })) := mo_set _; have hl7 : Lpr (H.setIfInBounds lp (.loop { r with state := .busy })) lp { r with state := .busy } := ⟨by simp [hl.lt]⟩; obtain ⟨H7, hH7⟩ : ∃ H7, H7 = H.setIfInBounds lp (.loop { r with state := .busy }) := ⟨_, rfl⟩; rw [← hH7] at hs7 hl7 ⊢; have hs7' := hs7.md1; replace hm := hm.trL hs7' (MIL.cons (MI.root (by simp)) MIL.nil); replace hB := hB.upL hs7' (DL.cons (Dj.of (Ne.symm hlB)) DL.nil); replace ho := ho.upL hs7' (DL.o d2.symm); have hz7 := hs7.size; refine LRI.v (Y.load1 hB.pt rfl a'60 rfl) (by intro c e; cases e) (Wd.u rfl) rfl rfl ?_; refine LRI.v (Y.move rfl rfl) (by intro c e; cases e) (Wd.u rfl) rfl rfl ?_; refine LRI.z (Z.litw _ ([x]) rfl inf60 rfl rfl rfl (by decide) (by decide) fS_len fS_one rfl) (by intro c e; cases e) (Wd.u rfl) rfl rfl ?_; rintro v10 H10 ⟨ow10, hs10, ob10, hH10⟩; have hz10 : H10.size = H7.size + 1 := by rw [hH10]; simp
 replace hm := hm.trN hs10; replace hl7 := hl7.nw hs10; replace hB := hB.nw hs10; replace ho := ho.nw hs10; have hd10 : Dj kr (H7.size + 1) := Dj.new (by omega); have hol10 := ho.le; refine LRI.z (Z.apnd ho ow10.rd rfl inf60 rfl rfl (by simp; omega) (by simp; omega)) (by intro c e; cases e) (Wd.u rfl) rfl rfl ?_; rintro v11 H11 ⟨k11, ow11, hk11, hs11⟩; replace hk11 : Nx kr H10.size k11 := hk11; have hs11' := hs11.md; replace hm := hm.trL hs11' (MIL.cons (MI.root (by simp)) MIL.nil); replace hl7 := hl7.upL hs11' (DL.o d2); replace hB := hB.upL hs11' (DL.o d3); have hz11 := hs11.size; have dB : Dj (Bs + 1) k11 := Dj.app d3 (by omega) hk11; have dl : Dj (lp + 1) k11 := Dj.app d2 (by omega) hk11; obtain ⟨s11, hs11v⟩ : ∃ s : SV, v11 = s.v := ⟨toSV v11, ow11.sv.symm⟩; refine LRI.s (S.var1 hB 0 ([v11]) rfl rfl rfl (by rw [hs11v]; rfl) s'60 (by simp) rfl) (by intro c e; cases e) (Wd.u rfl) rfl ?_; rintro H12 ⟨hB, hs12⟩; have hs12' := hs12.md1; replace hm := hm.trL hs12' (MIL.cons (MI.root (by simp)) MIL.nil); replace hl7 := hl7.upL hs12' (DL.o d1); replace ow11 := ow11.upL hs12' (DL.o dB.symm); have hz12 := hs12.size; refine LRI.nil (fun a w hf ha => ⟨rfl, H12, ha, hl7, v11, k11, rfl, ?_, ?_, ?_, ?_, ?_⟩)
 · exact ⟨by simp [hl7.lt]⟩
 · exact hB.upL (Mo.md1 (mo_set (r := lp) _)) (DL.cons (Dj.of (Ne.symm hlB)) DL.nil)
 · exact ow11.upL (Mo.md1 (mo_set (r := lp) _)) (DL.o dl.symm)
 · unfold Nx at hk11 ⊢; omega
 · exact hm.trL (Mo.md1 (mo_set (r := lp) _)) (MIL.cons (MI.root (by simp)) MIL.nil)
theorem Fr.start {n : Nat} {args : List Value} (hk : args.length ≤ n) : Fr n (argL args 0) { tmps := args.toArray ++ Array.replicate (n - args.toArray.size) undef, defers := [] } := by
 refine ⟨rfl, ?_, ?_⟩
 · simp; omega
 · intro t v e
   obtain ⟨_, h2⟩ := argL_get args 0 t v e; simp only [Nat.sub_zero] at h2; simp only; have hlt := (List.getElem?_eq_some_iff.1 h2).1; rw [Array.getElem?_append_left (by simpa using hlt)]
   simpa using h2
theorem LRD.v {P : Program} {w0 : World} {Q : Exit → Act → World → Prop} {n : Nat} {l : FL} {H : Heap} {ops : Array Oper} {rest : List Oper} {o : Oper} {ds : List Deferred} {v : Value} {d : Nat} (hy : Y P w0 n l H o v) (hnd : ∀ c, o.op ≠ .defer c) (hw : Wd ops l o) (hd : o.dst = some d) (hn : Nat.blt d n = true)
 (h : ∀ a w, Fr n ((d, v) :: l) a → At w0 H w → wpListIn (FW none) 0 P ops Q rest { a with defers := ds } w) : ∀ a w, Fr n l a → At w0 H w → wpListIn (FW none) 0 P ops Q (o :: rest) { a with defers := ds } w := by
 intro a w hf ha; have hp := hf.put hn v; rw [← hd] at hp; unfold wpListIn; rw [if_pos (hw n a hf)]; refine ⟨fun _ _ => trivial, ?_⟩; rw [Oper.semAt_eq _ _ _ hnd]; show Oper.uponIn _ _ _ _ _ _ _ ((execOp a.eval o).run P w); rw [hy a w hf ha, Oper.uponIn_value]; have h2 := h _ w hp ha; have e : ({ a with defers := ds } : Act).put o.dst v = { (a.put o.dst v) with defers := ds } := by rw [hd]; rfl
 rw [e]; exact h2
theorem keys1D (r_ : Loop) (lp Bs bx mb D kr : Nat) (vr : Value) (fv : Nat → Value) (mm : List (Pth × Nat)) (w0 : World) (H0 : Heap)
 (hx : Var 43 H0 bx [.map (some mb)]) (hso : Mp H0 Str fv mb mm) (hD : Dfr H0 D) (hl : Lpr H0 lp r_) (hB : Var 60 H0 Bs [vr]) (ow : Ow kr 9 H0 fS 1 vr []) (hr : ApR r_ Bs) (hmm : mm.length ≤ 1099511627776) (d_hl_hB : Dj (lp + 1) (Bs + 1)) (d_hl_ow : Dj (lp + 1) (kr)) (d_hB_ow : Dj (Bs + 1) (kr)) (d_hx_hl : Dj (bx + 1) (lp + 1)) (d_hx_hB : Dj (bx + 1) (Bs + 1)) (d_hx_ow : Dj (bx + 1) (kr)) (d_hso_hl : Dj (mb + 1) (lp + 1)) (d_hso_hB : Dj (mb + 1) (Bs + 1)) (d_hso_ow : Dj (mb + 1) (kr)) (d_hD_hl : Dj (D + 1) (lp + 1)) (d_hD_hB : Dj (D + 1) (Bs + 1)) (d_hD_ow : Dj (D + 1) (kr)) :
 Ct Tryz.prog w0 71 #[.func (.yield lp) #[] #[], .pointer (some ⟨bx, 0, none⟩)] H0 (fun r H2 => ∃ vr2 : Value, ∃ kr2 : Nat, ∃ out : List Pth, r = .tuple #[] ∧ (Lpr H2 lp r_) ∧ (Var 60 H2 Bs [vr2]) ∧ (Ow kr2 9 H2 fS 1 vr2 out) ∧ (Nx kr H0.size kr2) ∧ (out.Nodup ∧ ∀ k, k ∈ out ↔ k ∈ mm.map (·.1)) ∧ Mo (Ms [(lp + 1), (Bs + 1), kr]) H0 H2) := by
 refine Ct.enter (args := [.func (.yield lp) #[] #[], .pointer (some ⟨bx, 0, none⟩)]) Tryz.func71 rfl rfl rfl ?_; intro Q0 hret; have hm0 : Mo (Ms [(lp + 1), (Bs + 1), kr]) H0 H0 := Mo.refl _ _; have hlt_hx := hx.lt; have hlt_hso := hso.lt; have hlt_hD := hD.lt; have nx_hm0_hl := Nx.refl (lp + 1) H0.size; have hlt_hl := hl.lt; have nx_hm0_hB := Nx.refl (Bs + 1) H0.size; have hlt_hB := hB.lt; have nx_hm0_ow := Nx.refl kr H0.size; have hle_ow := ow.le; refine CW.s1 (fun hK1 => CW.region ?_); refine LR.v1 (Y.load1 hx.pt rfl a'43 rfl) ?_; obtain ⟨es, ck, hso⟩ := hso.raw; refine LR.z1 (Z.rangeA hso rfl u'43 rfl) ?_; rintro v5 H5 ⟨rfl, it, hs5, ob5, hH5⟩; have hzs5 : H5.size = H0.size + 1 := by rw [hH5]; simp
 have dj2 : Dj (mb + 1) (H0.size + 1) := Dj.new hso.lt; have dj4 : Dj (lp + 1) (H0.size + 1) := Dj.new hl.lt; have dj5 : Dj (Bs + 1) (H0.size + 1) := Dj.new hB.lt; have dj6 : Dj kr (H0.size + 1) := Dj.new ow.le; have nx7 : Nx 0 H0.size (H0.size + 1) := Nx.new hm0.size; replace hso := hso.nw hs5; replace hl := hl.nw hs5; replace hB := hB.nw hs5; replace ow := ow.nw hs5; replace hm0 := hm0.trN hs5; have hz1 := hs5.size; have hlt_it := it.lt; refine LR.nil (hK1 _ _ (CW.block (fun _ _ hX2 _ => ?_)))
 refine CW.loop (fun (s_ : (List Pth) × (Value) × (Nat)) => match s_ with | (dn, vr3, kr3) => [(0, .func (.yield lp) #[] #[]), (5, .pointer (some ⟨H0.size, 0, none⟩))])
  (fun (s_ : (List Pth) × (Value) × (Nat)) (H : Heap) => match s_ with | (dn, vr3, kr3) => (Itr H H0.size mb Str es ck dn) ∧ (Lpr H lp r_) ∧ (Var 60 H Bs [vr3]) ∧ (Ow kr3 9 H fS 1 vr3 dn) ∧ (dn.Nodup ∧ ∀ k ∈ dn, k ∈ mm.map (·.1)) ∧ (Nx kr H5.size kr3) ∧ (Dj (H0.size + 1) kr3) ∧ (Dj (lp + 1) kr3) ∧ (Dj (Bs + 1) kr3) ∧ Mo (Ms [(H0.size + 1), (lp + 1), (Bs + 1), kr]) H5 H)
  (fun (s_ : (List Pth) × (Value) × (Nat)) => match s_ with | (dn, vr3, kr3) => mm.length - dn.length) ([], vr, kr) ⟨rfl, rfl, trivial⟩ ?_ ?_
 ·
  exact ⟨it, hl, hB, ow, ⟨List.nodup_nil, by simp⟩, Nx.refl _ _, dj6.symm, d_hl_ow, d_hB_ow, Mo.refl _ _⟩
 rintro ⟨dn, vr3, kr3⟩ HL1 hI1 K3 hN3 hE3; obtain ⟨it, hl, hB, ow, hdn, nxl_ow, dj_it_ow, dj_hl_ow, dj_hB_ow, hlm1⟩ := hI1; have nx11 : Nx kr H0.size kr3 := Nx.tr (nx_hm0_ow) nxl_ow hm0.size; replace hso := hso.upL hlm1 (DL.cons dj2 (DL.cons d_hso_hl (DL.cons d_hso_hB (DL.o d_hso_ow)))); replace hm0 := hm0.trL hlm1 (MIL.cons (MI.q nx7) (MIL.cons (MI.r nx_hm0_hl) (MIL.cons (MI.r nx_hm0_hB) (MIL.o (MI.r nx_hm0_ow))))); have hz2 := hlm1.size; have hle_ow := ow.le; have dj12 := dj_it_ow; have dj13 := dj_hl_ow; have dj14 := dj_hB_ow; have nx_hlm1_it := Nx.refl (H0.size + 1) H5.size; have nx_hlm1_hl := Nx.refl (lp + 1) H5.size; have nx_hlm1_hB := Nx.refl (Bs + 1) H5.size; have nx15 := nxl_ow; have hdl := nodup_le hdn.1 hdn.2; rw [List.length_map] at hdl; refine CW.s1 (fun hK4 => CW.region ?_); refine LR.z1 (Z.nextA it hso keyStr.inj rfl rfl) ?_; rintro v6 H6 ⟨qb, x, y, dn2, rfl, it, hT6, hF6, hs6⟩; replace hs6 := hs6.md1; replace hso := hso.upL hs6 (DL.o dj2); replace ow := ow.upL hs6 (DL.o dj12.symm); replace hl := hl.upL hs6 (DL.o dj4); replace hB := hB.upL hs6 (DL.o dj5); replace hm0 := hm0.trL hs6 (MIL.o (MI.q nx7)); replace hlm1 := hlm1.trL hs6 (MIL.o (MI.r nx_hlm1_it)); have hz3 := hs6.size; refine LR.v1 (Y.ext0 rfl rfl) (LR.nil (hK4 _ _ ?_)); refine CW.s2 (fun hK5 hE5 => ?_); refine CW.cond rfl (fun c7 => ?_) (fun c7 => ?_)
 ·
  obtain ⟨hxy, hnd, hdq⟩ := hT6 c7; rw [hdq] at it; refine CW.skip (hK5 _ _ (CW.block (fun _ hK6 _ _ => CW.s1 (fun hK7 => CW.region ?_)))); refine LR.v1 (Y.entryA it hso keyStr.inj hxy rfl rfl) ?_; refine LR.v1 (Y.extract rfl rfl rfl) ?_; refine LR.a1 (LR.nil (hK7 _ _ ?_)); refine CW.s1 (fun hK8 => ?_); refine CW.region_in ?_; refine LRI.v (Y.move rfl rfl) (by intro c e; cases e) (Wd.u rfl) rfl rfl ?_; refine LRI.v (Y.move rfl rfl) (by intro c e; cases e) (Wd.u rfl) rfl rfl ?_; refine LRI.round rfl rfl rfl (Wd.u rfl) rfl rfl (ap_round r_ Bs lp _ _ dn x w0 _ hr hl hB ow (d_hl_hB) (dj13) (dj14) (by omega)) (fun v12 H12 r12 => ?_); have ql20 := it.lt; have ql21 := hl.lt; have ql22 := hB.lt; obtain ⟨vr12, kr12, rfl, hl, hB, ow, hk12, hs12⟩ := r12; have dj26 : Dj (H0.size + 1) kr12 := Dj.app (dj12) ql20 hk12; have dj27 : Dj (lp + 1) kr12 := Dj.app (dj13) ql21 hk12; have dj28 : Dj (Bs + 1) kr12 := Dj.app (dj14) ql22 hk12; have nx30 : Nx kr H5.size kr12 := Nx.tr (nx15) hk12 hlm1.size; replace it := it.upL hs12 (DL.cons dj4.symm (DL.cons dj5.symm (DL.o dj12))); replace hlm1 := hlm1.trL hs12 (MIL.cons (MI.r nx_hlm1_hl) (MIL.cons (MI.r nx_hlm1_hB) (MIL.o (MI.r nx15)))); have hz4 := hs12.size; have hle_ow := ow.le; refine LRI.v (Y.not rfl rfl) (by intro c e; cases e) (Wd.u rfl) rfl rfl ?_; refine LRI.nil ?_; refine hK8 _ _ ?_; refine CW.cond_f rfl ?_; refine CW.skip (hK6 _ _ ?_)
  have hdn2 : (dn ++ [x]).Nodup ∧ ∀ k ∈ dn ++ [x], k ∈ mm.map (·.1) := by
   refine ⟨?_, fun k hk => ?_⟩
   · rw [List.nodup_append]
     exact ⟨hdn.1, by simp, fun a ha b hb e => by simp only [List.mem_singleton] at hb; subst hb; subst e; exact hnd ha⟩
   · rcases List.mem_append.1 hk with hk | hk
     · exact hdn.2 k hk
     · rw [List.mem_singleton.1 hk]; exact List.mem_map.2 ⟨_, hxy, rfl⟩
  have hdl2 := nodup_le hdn2.1 hdn2.2; rw [List.length_append, List.length_map, List.length_singleton] at hdl2; refine QN.sub (hN3 (dn ++ [x], vr12, kr12) _ ?_ ?_) ⟨rfl, rfl, trivial⟩
  · exact ⟨it, hl, hB, ow, hdn2, nx30, dj26, dj27, dj28, hlm1⟩
  · simp only [List.length_append, List.length_singleton]; omega
 ·
  obtain ⟨hall, hdq⟩ := hF6 c7; refine CW.exit (hE5 (.exit 0) nofun _ _ (hE3 (.exit 0) nofun _ _ (hX2 _ _ ?_))); refine hret .normal (.inl rfl) _ _ _ (res0 rfl) ?_; exact ⟨vr3, kr3, dn, rfl, hl, hB, ow, nx11, ⟨hdn.1, fun k => ⟨hdn.2 k, fun h => by obtain ⟨p, hp, rfl⟩ := List.mem_map.1 h; exact hall p hp⟩⟩, hm0⟩
theorem apseqD (bx mb : Nat) (fv : Nat → Value) (mm : List (Pth × Nat)) (w0 : World) (H0 : Heap) (hx : Var 43 H0 bx [.map (some mb)]) (hso : Mp H0 Str fv mb mm) (hmm : mm.length ≤ 1099511627776) :
 Ct Tryz.prog w0 88 #[.slice none 0 0, .func (.func 71) #[] #[.pointer (some ⟨bx, 0, none⟩)]] H0 (fun r H2 => ∃ s : SV, ∃ k : Nat, ∃ out : List Pth, r = s.v ∧ (Ow k 9 H2 fS 1 s.v out) ∧ (Nx 0 H0.size k) ∧ (out.Nodup ∧ ∀ k, k ∈ out ↔ k ∈ mm.map (·.1)) ∧ Nw H0 H2) := by
 intro w ha; refine callsIn_wide.1 (callsIn_of_wp_marks (n := 0) Tryz.func88 rfl trivial ?_); have hf0 := Fr.start (n := Tryz.f88.ntmps) (args := [.slice none 0 0, .func (.func 71) #[] #[.pointer (some ⟨bx, 0, none⟩)]]) (Nat.le_of_ble_eq_true rfl); refine wpIn_seq (wpIn_wide.2 ?_); refine (CW.region (w0 := w0) (H := H0) (n := Tryz.f88.ntmps) (l := argL [.slice none 0 0, .func (.func 71) #[] #[.pointer (some ⟨bx, 0, none⟩)]] 0) ?_) _ w hf0 ha; refine LR.z1 (Z.boxv1 rfl rfl rfl) ?_; rintro v2 H1 ⟨rfl, hB, hs1, ob1, hH1⟩; have hz1 : H1.size = H0.size + 1 := by rw [hH1]; simp
 have hxl := hx.lt; have hsl := hso.lt; replace hx := hx.nw hs1; replace hso := hso.nw hs1; refine LR.a1 ?_; refine LR.nil (fun a1 w1 hf1 ha1 => ?_); show (Code.seq _ _).wpIn Fence.wide 0 _ _ a1 w1; refine wpIn_seq (wpIn_seq (wpIn_wide.2 ?_)); refine (CW.region (w0 := w0) (H := H1) ?_) a1 w1 hf1 ha1; refine LR.m1 ?_; refine LR.nil (fun a2 w2 hf2 ha2 => ?_); show (Code.block _ _).wpIn Fence.wide 0 _ _ a2 w2; refine wpIn_block (wpIn_rangeFunc (fun fn _ => ?_)); obtain ⟨rc, hrc⟩ : ∃ rc : Loop, rc = { state := .ready, pending := none, fn, tmps := a2.tmps, params := #[7], assign := asOf (rfOf (Tryz.f88.body.getD .skip)), body := boOf (rfOf (Tryz.f88.body.getD .skip)), defers := w2.heap.size } := ⟨_, rfl⟩
 have hst : (Instr.enterLoop fn a2.tmps #[7] (asOf (rfOf (Tryz.f88.body.getD .skip))) (boOf (rfOf (Tryz.f88.body.getD .skip))) none).run Tryz.prog w2 = .ok (w2.heap.size + 1, [{ target := .collected w2.heap.size, args := #[] }]) ((w2.alloc (.deferred (some []))).alloc (.loop rc)) := by
  rw [hrc]; exact run_enterLoop_outer fn a2.tmps #[7] _ _
 have ha3 : At w0 ((H1.push (.deferred (some []))).push (.loop rc)) ((w2.alloc (.deferred (some []))).alloc (.loop rc)) := (ha2.alloc _).alloc _; obtain ⟨w3, hw3⟩ : ∃ w3, w3 = (w2.alloc (.deferred (some []))).alloc (.loop rc) := ⟨_, rfl⟩; rw [← hw3] at hst ha3; obtain ⟨H3, hH3⟩ : ∃ H3, H3 = (H1.push (.deferred (some []))).push (.loop rc) := ⟨_, rfl⟩; rw [← hH3] at ha3; have hz3 : H3.size = H1.size + 2 := by rw [hH3]; simp
 have hw2 : w2.heap.size = H1.size := by rw [ha2.heap]
 have hs3 : Nw H1 H3 := by rw [hH3]; exact (Nw.pu _ _).tr (Nw.pu _ _)
 replace hx := hx.nw hs3; replace hso := hso.nw hs3; replace hB := hB.nw hs3; have hD : Dfr H3 H1.size := ⟨by rw [hH3, Array.getElem?_push, if_neg (by simp)]; exact Array.getElem?_push_size⟩
 have hl : Lpr H3 (H1.size + 1) rc := ⟨by
  have h9 := Array.getElem?_push_size (xs := H1.push (.deferred (some []))) (x := Obj.loop rc); rw [Array.size_push, ← hH3] at h9; exact h9⟩
 have hap : ApR rc H0.size := by
  subst hrc; exact ⟨rfl, rfl, rfl, rfl, rfl, ⟨rfl, hf2.size, fun t v e => (hf2.sub (l' := [(2, .pointer (some ⟨H0.size, 0, none⟩))]) ⟨rfl, trivial⟩).get t v e⟩⟩
 have hyi : ∀ w, (callFunc 71 #[.func (.yield (H1.size + 1)) #[] #[], .pointer (some ⟨bx, 0, none⟩)]).run Tryz.prog w = .ok (.enter 71 #[.func (.yield (H1.size + 1)) #[] #[], .pointer (some ⟨bx, 0, none⟩)]) w := fun w => enters_of Tryz.func71 (by kernel_rfl) rfl _ w; refine ⟨w2.heap.size + 1, [{ target := .collected w2.heap.size, args := #[] }], w3, { target := .fn (.func 71) #[.pointer (some ⟨bx, 0, none⟩)], args := #[.func (.yield (H1.size + 1)) #[] #[]] }, w3, 71, #[.func (.yield (H1.size + 1)) #[] #[], .pointer (some ⟨bx, 0, none⟩)], w3, hst, ?_, fun _ _ => trivial, ?_, fun h => (by cases h), ?_⟩
 · have h6 := hf2.get 6 (.func (.func 71) #[] #[.pointer (some ⟨bx, 0, none⟩)]) rfl
   rw [hw2]; simp [resolve, rangeCall, Deferred.ofValue, Act.eval, h6]
 · exact hyi _
 refine callsIn_wide.2 ((keys1D rc (H1.size + 1) H0.size bx mb H1.size 0 (.slice none 0 0) fv mm w0 H3 hx hso hD hl hB (Ow.nil fS_len fS_one) hap hmm (Dj.of (by omega)) Dj.z Dj.z (Dj.of (by omega)) (Dj.of (by omega)) Dj.z (Dj.of (by omega)) (Dj.of (by omega)) Dj.z (Dj.of (by omega)) (Dj.of (by omega)) Dj.z _ ha3).mono ?_); rintro e w4 ⟨r4, H4, rfl, ha4, vr2, k2, out, rfl, hl4, hB4, ow4, hk4, hout, hm4⟩; have hD4 : Dfr H4 H1.size := hD.upL hm4 (DL.cons (Dj.of (by omega)) (DL.cons (Dj.of (by omega)) (DL.o Dj.z))); have hlw : w4.heap[w2.heap.size + 1]? = some (.loop rc) := by rw [ha4.heap, hw2]; exact hl4.at_
 have hrp : rc.pending = none := hap.pe; have hend := run_endLoop (P := Tryz.prog) hlw (by rw [hap.st]; simp); rw [hrp] at hend; refine ⟨none, _, hend, ?_⟩; have hs5 : Mo (fun c => c = H1.size + 1) H4 (H4.setIfInBounds (H1.size + 1) (.loop { rc with state := .exhausted })) := mo_set _
 have ha5 : At w0 (H4.setIfInBounds (H1.size + 1) (.loop { rc with state := .exhausted })) (w4.putObj (w2.heap.size + 1) (.loop { rc with state := .exhausted })) := by
  unfold World.putObj; rw [ha4.heap, hw2]; exact ha4.set
 rw [hrp] at hs5 ha5; obtain ⟨w5, hw5⟩ : ∃ w5, w5 = w4.putObj (w2.heap.size + 1) (.loop { rc with state := .exhausted, pending := none }) := ⟨_, rfl⟩; obtain ⟨H5, hH5⟩ : ∃ H5, H5 = H4.setIfInBounds (H1.size + 1) (.loop { rc with state := .exhausted, pending := none }) := ⟨_, rfl⟩; rw [← hw5] at ha5; rw [← hH5] at hs5 ha5; rw [← hw5]; have hz4 := hm4.size; have hz5 := hs5.size; have hs5' := hs5.md1; have dk : ∀ c, c + 1 ≤ H3.size → Dj k2 (c + 1) := fun c hc q h1 h2 => by unfold Nx at hk4; omega
 replace hB4 := hB4.upL hs5' (DL.cons (Dj.of (by omega)) DL.nil); replace ow4 := ow4.upL hs5' (DL.cons (dk _ (by omega)) DL.nil); replace hD4 := hD4.upL hs5' (DL.cons (Dj.of (by omega)) DL.nil)
 have hm0 : Mo (Ms []) H0 H5 := by
  have q0 := ((Mo.refl (S := Ms []) H0).trN hs1).trN hs3; have q1 := q0.trL hm4 (MIL.cons (MI.new (by omega)) (MIL.cons (MI.new (Nat.le_refl _)) (MIL.cons MI.z MIL.nil))); exact q1.trL hs5' (MIL.cons (MI.new (by omega)) MIL.nil)
 show (Code.seq _ _).wpIn Fence.wide 0 _ _ _ w5; refine wpIn_seq (wpIn_region_lit ?_); refine LRD.v (w0 := w0) (H := H5) (Y.load1 hB4.pt rfl a'60 rfl) (by intro c e; cases e) (Wd.u rfl) rfl rfl ?_ a2 w5 hf2 ha5; refine LRD.v (w0 := w0) (H := H5) (Y.assign rfl rfl) (by intro c e; cases e) (Wd.u rfl) rfl rfl ?_; intro a6 w6 hf6 ha6; show Code.ret.wpIn Fence.wide 0 _ _ _ w6; refine wpIn_ret ?_; show LeavesInM Fence.wide 0 _ _ a6.tmps _ ([{ target := .collected w2.heap.size, args := #[] }] ++ a2.defers) .returning w6; rw [hf2.defers, List.append_nil]; have hDw : w6.heap[w2.heap.size]? = some (.deferred (some [])) := by rw [ha6.heap, hw2]; exact hD4.at_
 refine ⟨by simp, .inl ⟨_, _, rfl, run_takeDeferred (P := Tryz.prog) hDw, ?_⟩⟩; have hs7 : Mo (fun c => c = H1.size) H5 (H5.setIfInBounds H1.size (.deferred none)) := mo_set _
 have ha7 : At w0 (H5.setIfInBounds H1.size (.deferred none)) (w6.putObj w2.heap.size (.deferred none)) := by
  unfold World.putObj; rw [ha6.heap, hw2]; exact ha6.set
 have hs7' := hs7.md1; obtain ⟨s, hs⟩ : ∃ s : SV, vr2 = s.v := ⟨toSV vr2, ow4.sv.symm⟩; refine ⟨vr2, res1 rfl rfl _ _ hf6 ha7, vr2, _, rfl, ha7, s, k2, out, hs, ?_, ?_, hout, ?_⟩
 · rw [← hs]; exact ow4.upL hs7' (DL.cons (dk _ (by omega)) DL.nil)
 · unfold Nx at hk4 ⊢; omega
 · exact (hm0.trL hs7' (MIL.cons (MI.new (by omega)) MIL.nil)).nil
theorem collectD (bx mb : Nat) (fv : Nat → Value) (mm : List (Pth × Nat)) (w0 : World) (H0 : Heap)
 (hx : Var 43 H0 bx [.map (some mb)]) (hso : Mp H0 Str fv mb mm) (hmm : mm.length ≤ 1099511627776) :
 Ct Tryz.prog w0 69 #[.func (.func 71) #[] #[.pointer (some ⟨bx, 0, none⟩)]] H0 (fun r H2 => ∃ s : SV, ∃ k : Nat, ∃ out : List Pth, r = s.v ∧ (Ow k 9 H2 fS 1 s.v out) ∧ (Nx 0 H0.size k) ∧ (out.Nodup ∧ ∀ k, k ∈ out ↔ k ∈ mm.map (·.1)) ∧ Nw H0 H2) := by
 refine Ct.enter (args := [.func (.func 71) #[] #[.pointer (some ⟨bx, 0, none⟩)]]) Tryz.func69 rfl rfl rfl ?_; intro Q0 hret; have hm0 : Nw H0 H0 := Mo.refl _ _; refine CW.s1 (fun hK1 => CW.region ?_); refine LR.a1 (LR.nil (hK1 _ _ ?_)); refine CW.s1 (fun hK2 => CW.region ?_); refine LR.m1 ?_; refine LR.call rfl c'88 rfl (Wd.u rfl) rfl rfl (apseqD bx mb fv mm w0 _ hx hso hmm) ?_; rintro v4 H4 ⟨s4, k4, out4, rfl, ow4, hk4, hout4, hs4⟩; have nx3 : Nx 0 H0.size k4 := Nx.tr (Nx.refl 0 _) hk4 hm0.size; replace hm0 := hm0.tr hs4; refine LR.a1 (LR.nil (hK2 _ _ ?_)); refine CW.ret (hret .ret (.inr rfl) _ _ _ (res1 rfl rfl) ?_); exact ⟨s4, k4, out4, rfl, ow4, nx3, hout4, hm0⟩
theorem keysD (mb : Nat) (w0 : World) (H0 : Heap)
 :
 Ct Tryz.prog w0 39 #[.map (some mb)] H0 (fun r H2 => ∃ bx : Nat, r = .func (.func 71) #[] #[.pointer (some ⟨bx, 0, none⟩)] ∧ (Var 43 H2 bx [.map (some mb)]) ∧ (Nx 0 H0.size (bx + 1)) ∧ Nw H0 H2) := by
 refine Ct.enter (args := [.map (some mb)]) Tryz.func39 rfl rfl rfl ?_; intro Q0 hret; have hm0 : Nw H0 H0 := Mo.refl _ _; refine CW.s1 (fun hK1 => CW.region ?_); refine LR.z1 (Z.boxv1 rfl rfl (rfl)) ?_; rintro v1 H1 ⟨rfl, hx, hs1, ob1, hH1⟩; replace hm0 := hm0.tr hs1; replace hx : Var 43 H1 H0.size ([.map (some mb)]) := hx; refine LR.a1 (LR.nil (hK1 _ _ ?_)); refine CW.s1 (fun hK2 => CW.region ?_); refine LR.v1 (Y.makeFunc rfl rfl) ?_; refine LR.a1 (LR.nil (hK2 _ _ ?_)); refine CW.ret (hret .ret (.inr rfl) _ _ _ (res1 rfl rfl) ?_); exact ⟨_, rfl, hx, Nx.new (Nat.le_refl _), hm0⟩
theorem sortedD (bx mb : Nat) (fv : Nat → Value) (mm : List (Pth × Nat)) (w0 : World) (H0 : Heap)
 (hx : Var 43 H0 bx [.map (some mb)]) (hso : Mp H0 Str fv mb mm) (hmm : mm.length ≤ 1099511627776) :
 Ct Tryz.prog w0 38 #[.func (.func 71) #[] #[.pointer (some ⟨bx, 0, none⟩)]] H0 (fun r H2 => ∃ s : SV, ∃ k : Nat, ∃ out : List Pth, r = s.v ∧ (Ow k 9 H2 fS 1 s.v out) ∧ (Nx 0 H0.size k) ∧ (Rise out ∧ ∀ k, k ∈ out ↔ k ∈ mm.map (·.1)) ∧ Nw H0 H2) := by
 refine Ct.enter (args := [.func (.func 71) #[] #[.pointer (some ⟨bx, 0, none⟩)]]) Tryz.func38 rfl rfl rfl ?_; intro Q0 hret; have hm0 : Nw H0 H0 := Mo.refl _ _; have hlt_hx := hx.lt; have hlt_hso := hso.lt; refine CW.s1 (fun hK1 => CW.region ?_); refine LR.a1 (LR.nil (hK1 _ _ ?_)); refine CW.s1 (fun hK2 => CW.region ?_); refine LR.m1 ?_; refine LR.call rfl c'69 rfl (Wd.u rfl) rfl rfl (collectD bx mb fv mm w0 _ hx hso hmm) ?_; rintro v5 H5 ⟨s5, k5, out5, rfl, ow, hk5, hout5, hs5⟩; have nx3 : Nx 0 H0.size k5 := Nx.tr (Nx.refl 0 _) hk5 hm0.size; replace hm0 := hm0.tr hs5; have hz1 := hs5.size; have hle_ow := ow.le; have hol := nodup_le hout5.1 (fun k hk => (hout5.2 k).1 hk); rw [List.length_map] at hol; refine LR.a1 (LR.nil (hK2 _ _ ?_)); refine CW.s1 (fun hK3 => CW.region ?_); refine LR.m1 ?_; refine LR.call rfl c'70 rfl (Wd.u rfl) rfl rfl (sortS_ct k5 _ out5 w0 _ ow (by omega)) ?_; rintro v7 H7 ⟨l2, k2, rfl, ow, hk7, hp7, hs7⟩; have nx9 : Nx 0 H0.size k2 := Nx.tr (nx3) hk7 hm0.size; replace hm0 := hm0.tq hs7 (MIL.o (MI.q nx3)); refine LR.nil (hK3 _ _ (CW.s1 (fun hK4 => CW.region ?_))); refine LR.m1 ?_; refine LR.a1 (LR.nil (hK4 _ _ ?_)); refine CW.ret (hret .ret (.inr rfl) _ _ _ (res1 rfl rfl) ?_); obtain ⟨hp1, hp2⟩ := sorted_rise hout5.1 hp7; exact ⟨s5, k2, l2, rfl, ow, nx9, ⟨hp1, fun k => by rw [hp2.mem_iff, hout5.2]⟩, hm0⟩
theorem keys1N (r_ : Loop) (lp Bs bx mb D kr : Nat) (vr : Value) (fv : Nat → Value) (mm : List (Pth × Nat)) (w0 : World) (H0 : Heap)
 (hx : Var 81 H0 bx [.map (some mb)]) (hso : Mp H0 Str fv mb mm) (hD : Dfr H0 D) (hl : Lpr H0 lp r_) (hB : Var 60 H0 Bs [vr]) (ow : Ow kr 9 H0 fS 1 vr []) (hr : ApR r_ Bs) (hmm : mm.length ≤ 1099511627776) (d_hl_hB : Dj (lp + 1) (Bs + 1)) (d_hl_ow : Dj (lp + 1) (kr)) (d_hB_ow : Dj (Bs + 1) (kr)) (d_hx_hl : Dj (bx + 1) (lp + 1)) (d_hx_hB : Dj (bx + 1) (Bs + 1)) (d_hx_ow : Dj (bx + 1) (kr)) (d_hso_hl : Dj (mb + 1) (lp + 1)) (d_hso_hB : Dj (mb + 1) (Bs + 1)) (d_hso_ow : Dj (mb + 1) (kr)) (d_hD_hl : Dj (D + 1) (lp + 1)) (d_hD_hB : Dj (D + 1) (Bs + 1)) (d_hD_ow : Dj (D + 1) (kr)) :
 Ct Tryz.prog w0 72 #[.func (.yield lp) #[] #[], .pointer (some ⟨bx, 0, none⟩)] H0 (fun r H2 => ∃ vr2 : Value, ∃ kr2 : Nat, ∃ out : List Pth, r = .tuple #[] ∧ (Lpr H2 lp r_) ∧ (Var 60 H2 Bs [vr2]) ∧ (Ow kr2 9 H2 fS 1 vr2 out) ∧ (Nx kr H0.size kr2) ∧ (out.Nodup ∧ ∀ k, k ∈ out ↔ k ∈ mm.map (·.1)) ∧ Mo (Ms [(lp + 1), (Bs + 1), kr]) H0 H2) := by
 refine Ct.enter (args := [.func (.yield lp) #[] #[], .pointer (some ⟨bx, 0, none⟩)]) Tryz.func72 rfl rfl rfl ?_; intro Q0 hret; have hm0 : Mo (Ms [(lp + 1), (Bs + 1), kr]) H0 H0 := Mo.refl _ _; have hlt_hx := hx.lt; have hlt_hso := hso.lt; have hlt_hD := hD.lt; have nx_hm0_hl := Nx.refl (lp + 1) H0.size; have hlt_hl := hl.lt; have nx_hm0_hB := Nx.refl (Bs + 1) H0.size; have hlt_hB := hB.lt; have nx_hm0_ow := Nx.refl kr H0.size; have hle_ow := ow.le; refine CW.s1 (fun hK1 => CW.region ?_); refine LR.v1 (Y.load1 hx.pt rfl a'81 rfl) ?_; obtain ⟨es, ck, hso⟩ := hso.raw; refine LR.z1 (Z.rangeA hso rfl u'81 rfl) ?_; rintro v5 H5 ⟨rfl, it, hs5, ob5, hH5⟩; have hzs5 : H5.size = H0.size + 1 := by rw [hH5]; simp
 have dj2 : Dj (mb + 1) (H0.size + 1) := Dj.new hso.lt; have dj4 : Dj (lp + 1) (H0.size + 1) := Dj.new hl.lt; have dj5 : Dj (Bs + 1) (H0.size + 1) := Dj.new hB.lt; have dj6 : Dj kr (H0.size + 1) := Dj.new ow.le; have nx7 : Nx 0 H0.size (H0.size + 1) := Nx.new hm0.size; replace hso := hso.nw hs5; replace hl := hl.nw hs5; replace hB := hB.nw hs5; replace ow := ow.nw hs5; replace hm0 := hm0.trN hs5; have hz1 := hs5.size; have hlt_it := it.lt; refine LR.nil (hK1 _ _ (CW.block (fun _ _ hX2 _ => ?_)))
 refine CW.loop (fun (s_ : (List Pth) × (Value) × (Nat)) => match s_ with | (dn, vr3, kr3) => [(0, .func (.yield lp) #[] #[]), (5, .pointer (some ⟨H0.size, 0, none⟩))])
  (fun (s_ : (List Pth) × (Value) × (Nat)) (H : Heap) => match s_ with | (dn, vr3, kr3) => (Itr H H0.size mb Str es ck dn) ∧ (Lpr H lp r_) ∧ (Var 60 H Bs [vr3]) ∧ (Ow kr3 9 H fS 1 vr3 dn) ∧ (dn.Nodup ∧ ∀ k ∈ dn, k ∈ mm.map (·.1)) ∧ (Nx kr H5.size kr3) ∧ (Dj (H0.size + 1) kr3) ∧ (Dj (lp + 1) kr3) ∧ (Dj (Bs + 1) kr3) ∧ Mo (Ms [(H0.size + 1), (lp + 1), (Bs + 1), kr]) H5 H)
  (fun (s_ : (List Pth) × (Value) × (Nat)) => match s_ with | (dn, vr3, kr3) => mm.length - dn.length) ([], vr, kr) ⟨rfl, rfl, trivial⟩ ?_ ?_
 ·
  exact ⟨it, hl, hB, ow, ⟨List.nodup_nil, by simp⟩, Nx.refl _ _, dj6.symm, d_hl_ow, d_hB_ow, Mo.refl _ _⟩
 rintro ⟨dn, vr3, kr3⟩ HL1 hI1 K3 hN3 hE3; obtain ⟨it, hl, hB, ow, hdn, nxl_ow, dj_it_ow, dj_hl_ow, dj_hB_ow, hlm1⟩ := hI1; have nx11 : Nx kr H0.size kr3 := Nx.tr (nx_hm0_ow) nxl_ow hm0.size; replace hso := hso.upL hlm1 (DL.cons dj2 (DL.cons d_hso_hl (DL.cons d_hso_hB (DL.o d_hso_ow)))); replace hm0 := hm0.trL hlm1 (MIL.cons (MI.q nx7) (MIL.cons (MI.r nx_hm0_hl) (MIL.cons (MI.r nx_hm0_hB) (MIL.o (MI.r nx_hm0_ow))))); have hz2 := hlm1.size; have hle_ow := ow.le; have dj12 := dj_it_ow; have dj13 := dj_hl_ow; have dj14 := dj_hB_ow; have nx_hlm1_it := Nx.refl (H0.size + 1) H5.size; have nx_hlm1_hl := Nx.refl (lp + 1) H5.size; have nx_hlm1_hB := Nx.refl (Bs + 1) H5.size; have nx15 := nxl_ow; have hdl := nodup_le hdn.1 hdn.2; rw [List.length_map] at hdl; refine CW.s1 (fun hK4 => CW.region ?_); refine LR.z1 (Z.nextA it hso keyStr.inj rfl rfl) ?_; rintro v6 H6 ⟨qb, x, y, dn2, rfl, it, hT6, hF6, hs6⟩; replace hs6 := hs6.md1; replace hso := hso.upL hs6 (DL.o dj2); replace ow := ow.upL hs6 (DL.o dj12.symm); replace hl := hl.upL hs6 (DL.o dj4); replace hB := hB.upL hs6 (DL.o dj5); replace hm0 := hm0.trL hs6 (MIL.o (MI.q nx7)); replace hlm1 := hlm1.trL hs6 (MIL.o (MI.r nx_hlm1_it)); have hz3 := hs6.size; refine LR.v1 (Y.ext0 rfl rfl) (LR.nil (hK4 _ _ ?_)); refine CW.s2 (fun hK5 hE5 => ?_); refine CW.cond rfl (fun c7 => ?_) (fun c7 => ?_)
 ·
  obtain ⟨hxy, hnd, hdq⟩ := hT6 c7; rw [hdq] at it; refine CW.skip (hK5 _ _ (CW.block (fun _ hK6 _ _ => CW.s1 (fun hK7 => CW.region ?_)))); refine LR.v1 (Y.entryA it hso keyStr.inj hxy rfl rfl) ?_; refine LR.v1 (Y.extract rfl rfl rfl) ?_; refine LR.a1 (LR.nil (hK7 _ _ ?_)); refine CW.s1 (fun hK8 => ?_); refine CW.region_in ?_; refine LRI.v (Y.move rfl rfl) (by intro c e; cases e) (Wd.u rfl) rfl rfl ?_; refine LRI.v (Y.move rfl rfl) (by intro c e; cases e) (Wd.u rfl) rfl rfl ?_; refine LRI.round rfl rfl rfl (Wd.u rfl) rfl rfl (ap_round r_ Bs lp _ _ dn x w0 _ hr hl hB ow (d_hl_hB) (dj13) (dj14) (by omega)) (fun v12 H12 r12 => ?_); have ql20 := it.lt; have ql21 := hl.lt; have ql22 := hB.lt; obtain ⟨vr12, kr12, rfl, hl, hB, ow, hk12, hs12⟩ := r12; have dj26 : Dj (H0.size + 1) kr12 := Dj.app (dj12) ql20 hk12; have dj27 : Dj (lp + 1) kr12 := Dj.app (dj13) ql21 hk12; have dj28 : Dj (Bs + 1) kr12 := Dj.app (dj14) ql22 hk12; have nx30 : Nx kr H5.size kr12 := Nx.tr (nx15) hk12 hlm1.size; replace it := it.upL hs12 (DL.cons dj4.symm (DL.cons dj5.symm (DL.o dj12))); replace hlm1 := hlm1.trL hs12 (MIL.cons (MI.r nx_hlm1_hl) (MIL.cons (MI.r nx_hlm1_hB) (MIL.o (MI.r nx15)))); have hz4 := hs12.size; have hle_ow := ow.le; refine LRI.v (Y.not rfl rfl) (by intro c e; cases e) (Wd.u rfl) rfl rfl ?_; refine LRI.nil ?_; refine hK8 _ _ ?_; refine CW.cond_f rfl ?_; refine CW.skip (hK6 _ _ ?_)
  have hdn2 : (dn ++ [x]).Nodup ∧ ∀ k ∈ dn ++ [x], k ∈ mm.map (·.1) := by
   refine ⟨?_, fun k hk => ?_⟩
   · rw [List.nodup_append]
     exact ⟨hdn.1, by simp, fun a ha b hb e => by simp only [List.mem_singleton] at hb; subst hb; subst e; exact hnd ha⟩
   · rcases List.mem_append.1 hk with hk | hk
     · exact hdn.2 k hk
     · rw [List.mem_singleton.1 hk]; exact List.mem_map.2 ⟨_, hxy, rfl⟩
  have hdl2 := nodup_le hdn2.1 hdn2.2; rw [List.length_append, List.length_map, List.length_singleton] at hdl2; refine QN.sub (hN3 (dn ++ [x], vr12, kr12) _ ?_ ?_) ⟨rfl, rfl, trivial⟩
  · exact ⟨it, hl, hB, ow, hdn2, nx30, dj26, dj27, dj28, hlm1⟩
  · simp only [List.length_append, List.length_singleton]; omega
 ·
  obtain ⟨hall, hdq⟩ := hF6 c7; refine CW.exit (hE5 (.exit 0) nofun _ _ (hE3 (.exit 0) nofun _ _ (hX2 _ _ ?_))); refine hret .normal (.inl rfl) _ _ _ (res0 rfl) ?_; exact ⟨vr3, kr3, dn, rfl, hl, hB, ow, nx11, ⟨hdn.1, fun k => ⟨hdn.2 k, fun h => by obtain ⟨p, hp, rfl⟩ := List.mem_map.1 h; exact hall p hp⟩⟩, hm0⟩
theorem apseqN (bx mb : Nat) (fv : Nat → Value) (mm : List (Pth × Nat)) (w0 : World) (H0 : Heap) (hx : Var 81 H0 bx [.map (some mb)]) (hso : Mp H0 Str fv mb mm) (hmm : mm.length ≤ 1099511627776) :
 Ct Tryz.prog w0 88 #[.slice none 0 0, .func (.func 72) #[] #[.pointer (some ⟨bx, 0, none⟩)]] H0 (fun r H2 => ∃ s : SV, ∃ k : Nat, ∃ out : List Pth, r = s.v ∧ (Ow k 9 H2 fS 1 s.v out) ∧ (Nx 0 H0.size k) ∧ (out.Nodup ∧ ∀ k, k ∈ out ↔ k ∈ mm.map (·.1)) ∧ Nw H0 H2) := by
 intro w ha; refine callsIn_wide.1 (callsIn_of_wp_marks (n := 0) Tryz.func88 rfl trivial ?_); have hf0 := Fr.start (n := Tryz.f88.ntmps) (args := [.slice none 0 0, .func (.func 72) #[] #[.pointer (some ⟨bx, 0, none⟩)]]) (Nat.le_of_ble_eq_true rfl); refine wpIn_seq (wpIn_wide.2 ?_); refine (CW.region (w0 := w0) (H := H0) (n := Tryz.f88.ntmps) (l := argL [.slice none 0 0, .func (.func 72) #[] #[.pointer (some ⟨bx, 0, none⟩)]] 0) ?_) _ w hf0 ha; refine LR.z1 (Z.boxv1 rfl rfl rfl) ?_; rintro v2 H1 ⟨rfl, hB, hs1, ob1, hH1⟩; have hz1 : H1.size = H0.size + 1 := by rw [hH1]; simp
 have hxl := hx.lt; have hsl := hso.lt; replace hx := hx.nw hs1; replace hso := hso.nw hs1; refine LR.a1 ?_; refine LR.nil (fun a1 w1 hf1 ha1 => ?_); show (Code.seq _ _).wpIn Fence.wide 0 _ _ a1 w1; refine wpIn_seq (wpIn_seq (wpIn_wide.2 ?_)); refine (CW.region (w0 := w0) (H := H1) ?_) a1 w1 hf1 ha1; refine LR.m1 ?_; refine LR.nil (fun a2 w2 hf2 ha2 => ?_); show (Code.block _ _).wpIn Fence.wide 0 _ _ a2 w2; refine wpIn_block (wpIn_rangeFunc (fun fn _ => ?_)); obtain ⟨rc, hrc⟩ : ∃ rc : Loop, rc = { state := .ready, pending := none, fn, tmps := a2.tmps, params := #[7], assign := asOf (rfOf (Tryz.f88.body.getD .skip)), body := boOf (rfOf (Tryz.f88.body.getD .skip)), defers := w2.heap.size } := ⟨_, rfl⟩
 have hst : (Instr.enterLoop fn a2.tmps #[7] (asOf (rfOf (Tryz.f88.body.getD .skip))) (boOf (rfOf (Tryz.f88.body.getD .skip))) none).run Tryz.prog w2 = .ok (w2.heap.size + 1, [{ target := .collected w2.heap.size, args := #[] }]) ((w2.alloc (.deferred (some []))).alloc (.loop rc)) := by
  rw [hrc]; exact run_enterLoop_outer fn a2.tmps #[7] _ _
 have ha3 : At w0 ((H1.push (.deferred (some []))).push (.loop rc)) ((w2.alloc (.deferred (some []))).alloc (.loop rc)) := (ha2.alloc _).alloc _; obtain ⟨w3, hw3⟩ : ∃ w3, w3 = (w2.alloc (.deferred (some []))).alloc (.loop rc) := ⟨_, rfl⟩; rw [← hw3] at hst ha3; obtain ⟨H3, hH3⟩ : ∃ H3, H3 = (H1.push (.deferred (some []))).push (.loop rc) := ⟨_, rfl⟩; rw [← hH3] at ha3; have hz3 : H3.size = H1.size + 2 := by rw [hH3]; simp
 have hw2 : w2.heap.size = H1.size := by rw [ha2.heap]
 have hs3 : Nw H1 H3 := by rw [hH3]; exact (Nw.pu _ _).tr (Nw.pu _ _)
 replace hx := hx.nw hs3; replace hso := hso.nw hs3; replace hB := hB.nw hs3; have hD : Dfr H3 H1.size := ⟨by rw [hH3, Array.getElem?_push, if_neg (by simp)]; exact Array.getElem?_push_size⟩
 have hl : Lpr H3 (H1.size + 1) rc := ⟨by
  have h9 := Array.getElem?_push_size (xs := H1.push (.deferred (some []))) (x := Obj.loop rc); rw [Array.size_push, ← hH3] at h9; exact h9⟩
 have hap : ApR rc H0.size := by
  subst hrc; exact ⟨rfl, rfl, rfl, rfl, rfl, ⟨rfl, hf2.size, fun t v e => (hf2.sub (l' := [(2, .pointer (some ⟨H0.size, 0, none⟩))]) ⟨rfl, trivial⟩).get t v e⟩⟩
 have hyi : ∀ w, (callFunc 72 #[.func (.yield (H1.size + 1)) #[] #[], .pointer (some ⟨bx, 0, none⟩)]).run Tryz.prog w = .ok (.enter 72 #[.func (.yield (H1.size + 1)) #[] #[], .pointer (some ⟨bx, 0, none⟩)]) w := fun w => enters_of Tryz.func72 (by kernel_rfl) rfl _ w; refine ⟨w2.heap.size + 1, [{ target := .collected w2.heap.size, args := #[] }], w3, { target := .fn (.func 72) #[.pointer (some ⟨bx, 0, none⟩)], args := #[.func (.yield (H1.size + 1)) #[] #[]] }, w3, 72, #[.func (.yield (H1.size + 1)) #[] #[], .pointer (some ⟨bx, 0, none⟩)], w3, hst, ?_, fun _ _ => trivial, ?_, fun h => (by cases h), ?_⟩
 · have h6 := hf2.get 6 (.func (.func 72) #[] #[.pointer (some ⟨bx, 0, none⟩)]) rfl
   rw [hw2]; simp [resolve, rangeCall, Deferred.ofValue, Act.eval, h6]
 · exact hyi _
 refine callsIn_wide.2 ((keys1N rc (H1.size + 1) H0.size bx mb H1.size 0 (.slice none 0 0) fv mm w0 H3 hx hso hD hl hB (Ow.nil fS_len fS_one) hap hmm (Dj.of (by omega)) Dj.z Dj.z (Dj.of (by omega)) (Dj.of (by omega)) Dj.z (Dj.of (by omega)) (Dj.of (by omega)) Dj.z (Dj.of (by omega)) (Dj.of (by omega)) Dj.z _ ha3).mono ?_); rintro e w4 ⟨r4, H4, rfl, ha4, vr2, k2, out, rfl, hl4, hB4, ow4, hk4, hout, hm4⟩; have hD4 : Dfr H4 H1.size := hD.upL hm4 (DL.cons (Dj.of (by omega)) (DL.cons (Dj.of (by omega)) (DL.o Dj.z))); have hlw : w4.heap[w2.heap.size + 1]? = some (.loop rc) := by rw [ha4.heap, hw2]; exact hl4.at_
 have hrp : rc.pending = none := hap.pe; have hend := run_endLoop (P := Tryz.prog) hlw (by rw [hap.st]; simp); rw [hrp] at hend; refine ⟨none, _, hend, ?_⟩; have hs5 : Mo (fun c => c = H1.size + 1) H4 (H4.setIfInBounds (H1.size + 1) (.loop { rc with state := .exhausted })) := mo_set _
 have ha5 : At w0 (H4.setIfInBounds (H1.size + 1) (.loop { rc with state := .exhausted })) (w4.putObj (w2.heap.size + 1) (.loop { rc with state := .exhausted })) := by
  unfold World.putObj; rw [ha4.heap, hw2]; exact ha4.set
 rw [hrp] at hs5 ha5; obtain ⟨w5, hw5⟩ : ∃ w5, w5 = w4.putObj (w2.heap.size + 1) (.loop { rc with state := .exhausted, pending := none }) := ⟨_, rfl⟩; obtain ⟨H5, hH5⟩ : ∃ H5, H5 = H4.setIfInBounds (H1.size + 1) (.loop { rc with state := .exhausted, pending := none }) := ⟨_, rfl⟩; rw [← hw5] at ha5; rw [← hH5] at hs5 ha5; rw [← hw5]; have hz4 := hm4.size; have hz5 := hs5.size; have hs5' := hs5.md1; have dk : ∀ c, c + 1 ≤ H3.size → Dj k2 (c + 1) := fun c hc q h1 h2 => by unfold Nx at hk4; omega
 replace hB4 := hB4.upL hs5' (DL.cons (Dj.of (by omega)) DL.nil); replace ow4 := ow4.upL hs5' (DL.cons (dk _ (by omega)) DL.nil); replace hD4 := hD4.upL hs5' (DL.cons (Dj.of (by omega)) DL.nil)
 have hm0 : Mo (Ms []) H0 H5 := by
  have q0 := ((Mo.refl (S := Ms []) H0).trN hs1).trN hs3; have q1 := q0.trL hm4 (MIL.cons (MI.new (by omega)) (MIL.cons (MI.new (Nat.le_refl _)) (MIL.cons MI.z MIL.nil))); exact q1.trL hs5' (MIL.cons (MI.new (by omega)) MIL.nil)
 show (Code.seq _ _).wpIn Fence.wide 0 _ _ _ w5; refine wpIn_seq (wpIn_region_lit ?_); refine LRD.v (w0 := w0) (H := H5) (Y.load1 hB4.pt rfl a'60 rfl) (by intro c e; cases e) (Wd.u rfl) rfl rfl ?_ a2 w5 hf2 ha5; refine LRD.v (w0 := w0) (H := H5) (Y.assign rfl rfl) (by intro c e; cases e) (Wd.u rfl) rfl rfl ?_; intro a6 w6 hf6 ha6; show Code.ret.wpIn Fence.wide 0 _ _ _ w6; refine wpIn_ret ?_; show LeavesInM Fence.wide 0 _ _ a6.tmps _ ([{ target := .collected w2.heap.size, args := #[] }] ++ a2.defers) .returning w6; rw [hf2.defers, List.append_nil]; have hDw : w6.heap[w2.heap.size]? = some (.deferred (some [])) := by rw [ha6.heap, hw2]; exact hD4.at_
 refine ⟨by simp, .inl ⟨_, _, rfl, run_takeDeferred (P := Tryz.prog) hDw, ?_⟩⟩; have hs7 : Mo (fun c => c = H1.size) H5 (H5.setIfInBounds H1.size (.deferred none)) := mo_set _
 have ha7 : At w0 (H5.setIfInBounds H1.size (.deferred none)) (w6.putObj w2.heap.size (.deferred none)) := by
  unfold World.putObj; rw [ha6.heap, hw2]; exact ha6.set
 have hs7' := hs7.md1; obtain ⟨s, hs⟩ : ∃ s : SV, vr2 = s.v := ⟨toSV vr2, ow4.sv.symm⟩; refine ⟨vr2, res1 rfl rfl _ _ hf6 ha7, vr2, _, rfl, ha7, s, k2, out, hs, ?_, ?_, hout, ?_⟩
 · rw [← hs]; exact ow4.upL hs7' (DL.cons (dk _ (by omega)) DL.nil)
 · unfold Nx at hk4 ⊢; omega
 · exact (hm0.trL hs7' (MIL.cons (MI.new (by omega)) MIL.nil)).nil
theorem collectN (bx mb : Nat) (fv : Nat → Value) (mm : List (Pth × Nat)) (w0 : World) (H0 : Heap)
 (hx : Var 81 H0 bx [.map (some mb)]) (hso : Mp H0 Str fv mb mm) (hmm : mm.length ≤ 1099511627776) :
 Ct Tryz.prog w0 69 #[.func (.func 72) #[] #[.pointer (some ⟨bx, 0, none⟩)]] H0 (fun r H2 => ∃ s : SV, ∃ k : Nat, ∃ out : List Pth, r = s.v ∧ (Ow k 9 H2 fS 1 s.v out) ∧ (Nx 0 H0.size k) ∧ (out.Nodup ∧ ∀ k, k ∈ out ↔ k ∈ mm.map (·.1)) ∧ Nw H0 H2) := by
 refine Ct.enter (args := [.func (.func 72) #[] #[.pointer (some ⟨bx, 0, none⟩)]]) Tryz.func69 rfl rfl rfl ?_; intro Q0 hret; have hm0 : Nw H0 H0 := Mo.refl _ _; refine CW.s1 (fun hK1 => CW.region ?_); refine LR.a1 (LR.nil (hK1 _ _ ?_)); refine CW.s1 (fun hK2 => CW.region ?_); refine LR.m1 ?_; refine LR.call rfl c'88 rfl (Wd.u rfl) rfl rfl (apseqN bx mb fv mm w0 _ hx hso hmm) ?_; rintro v4 H4 ⟨s4, k4, out4, rfl, ow4, hk4, hout4, hs4⟩; have nx3 : Nx 0 H0.size k4 := Nx.tr (Nx.refl 0 _) hk4 hm0.size; replace hm0 := hm0.tr hs4; refine LR.a1 (LR.nil (hK2 _ _ ?_)); refine CW.ret (hret .ret (.inr rfl) _ _ _ (res1 rfl rfl) ?_); exact ⟨s4, k4, out4, rfl, ow4, nx3, hout4, hm0⟩
theorem keysN (mb : Nat) (w0 : World) (H0 : Heap)
 :
 Ct Tryz.prog w0 43 #[.map (some mb)] H0 (fun r H2 => ∃ bx : Nat, r = .func (.func 72) #[] #[.pointer (some ⟨bx, 0, none⟩)] ∧ (Var 81 H2 bx [.map (some mb)]) ∧ (Nx 0 H0.size (bx + 1)) ∧ Nw H0 H2) := by
 refine Ct.enter (args := [.map (some mb)]) Tryz.func43 rfl rfl rfl ?_; intro Q0 hret; have hm0 : Nw H0 H0 := Mo.refl _ _; refine CW.s1 (fun hK1 => CW.region ?_); refine LR.z1 (Z.boxv1 rfl rfl (rfl)) ?_; rintro v1 H1 ⟨rfl, hx, hs1, ob1, hH1⟩; replace hm0 := hm0.tr hs1; replace hx : Var 81 H1 H0.size ([.map (some mb)]) := hx; refine LR.a1 (LR.nil (hK1 _ _ ?_)); refine CW.s1 (fun hK2 => CW.region ?_); refine LR.v1 (Y.makeFunc rfl rfl) ?_; refine LR.a1 (LR.nil (hK2 _ _ ?_)); refine CW.ret (hret .ret (.inr rfl) _ _ _ (res1 rfl rfl) ?_); exact ⟨_, rfl, hx, Nx.new (Nat.le_refl _), hm0⟩
theorem sortedN (bx mb : Nat) (fv : Nat → Value) (mm : List (Pth × Nat)) (w0 : World) (H0 : Heap)
 (hx : Var 81 H0 bx [.map (some mb)]) (hso : Mp H0 Str fv mb mm) (hmm : mm.length ≤ 1099511627776) :
 Ct Tryz.prog w0 38 #[.func (.func 72) #[] #[.pointer (some ⟨bx, 0, none⟩)]] H0 (fun r H2 => ∃ s : SV, ∃ k : Nat, ∃ out : List Pth, r = s.v ∧ (Ow k 9 H2 fS 1 s.v out) ∧ (Nx 0 H0.size k) ∧ (Rise out ∧ ∀ k, k ∈ out ↔ k ∈ mm.map (·.1)) ∧ Nw H0 H2) := by
 refine Ct.enter (args := [.func (.func 72) #[] #[.pointer (some ⟨bx, 0, none⟩)]]) Tryz.func38 rfl rfl rfl ?_; intro Q0 hret; have hm0 : Nw H0 H0 := Mo.refl _ _; have hlt_hx := hx.lt; have hlt_hso := hso.lt; refine CW.s1 (fun hK1 => CW.region ?_); refine LR.a1 (LR.nil (hK1 _ _ ?_)); refine CW.s1 (fun hK2 => CW.region ?_); refine LR.m1 ?_; refine LR.call rfl c'69 rfl (Wd.u rfl) rfl rfl (collectN bx mb fv mm w0 _ hx hso hmm) ?_; rintro v5 H5 ⟨s5, k5, out5, rfl, ow, hk5, hout5, hs5⟩; have nx3 : Nx 0 H0.size k5 := Nx.tr (Nx.refl 0 _) hk5 hm0.size; replace hm0 := hm0.tr hs5; have hz1 := hs5.size; have hle_ow := ow.le; have hol := nodup_le hout5.1 (fun k hk => (hout5.2 k).1 hk); rw [List.length_map] at hol; refine LR.a1 (LR.nil (hK2 _ _ ?_)); refine CW.s1 (fun hK3 => CW.region ?_); refine LR.m1 ?_; refine LR.call rfl c'70 rfl (Wd.u rfl) rfl rfl (sortS_ct k5 _ out5 w0 _ ow (by omega)) ?_; rintro v7 H7 ⟨l2, k2, rfl, ow, hk7, hp7, hs7⟩; have nx9 : Nx 0 H0.size k2 := Nx.tr (nx3) hk7 hm0.size; replace hm0 := hm0.tq hs7 (MIL.o (MI.q nx3)); refine LR.nil (hK3 _ _ (CW.s1 (fun hK4 => CW.region ?_))); refine LR.m1 ?_; refine LR.a1 (LR.nil (hK4 _ _ ?_)); refine CW.ret (hret .ret (.inr rfl) _ _ _ (res1 rfl rfl) ?_); obtain ⟨hp1, hp2⟩ := sorted_rise hout5.1 hp7; exact ⟨s5, k2, l2, rfl, ow, nx9, ⟨hp1, fun k => by rw [hp2.mem_iff, hout5.2]⟩, hm0⟩
end Go.Proofs.YtfbfjhppppoilaaGreatDoor.SimK

namespace Go.Proofs.YtfbfjhppppoilaaGreatDoor.SimL
open E Go.RowKit SimA SimB SimC SimD SimE SimF SimG SimH SimI SimJ SimK
set_option maxRecDepth 20000
theorem names_rise {D : Dk} (hA : Asc D.now) (p : Pth) {out : List Pth} (ho : Rise out) {nm : Nms} (he : ∀ q, mget nm q = if dirP q = p then mget D.now q else none) (hm : ∀ k, k ∈ out ↔ k ∈ nm.map (·.1)) : out = (D.now.filter (fun x => dirP x.1 = p)).map (·.1) := by
 have hF : Asc (D.now.filter (fun x => decide (dirP x.1 = p))) := hA.filter _; refine rise_ext ho hF.rise (fun q => ?_); rw [hm, ← isSome_iff_key, ← isSome_iff_key, he, mget_filter (f := fun x => decide (dirP x = p))]; by_cases h : dirP q = p <;> simp [h]
theorem names_none {D : Dk} (hA : Asc D.now) (p : Pth) (h : ∀ q, dirP q = p → mget D.now q = none) : (D.now.filter (fun x => dirP x.1 = p)).map (·.1) = [] := by
 rw [List.filter_eq_nil_iff.2 (fun x hx => ?_)]
 · rfl
 · intro e
   have h1 := mget_of_mem hA.nodup (show (x.1, x.2) ∈ D.now from hx); rw [h x.1 (by simpa using e)] at h1; cases h1
theorem dmsub {D : Dk} {p : Pth} {nm : Nms} (hn : (nm.map (·.1)).Nodup) (he : ∀ q, mget nm q = if dirP q = p then mget D.now q else none) : nm.length ≤ D.now.length := by
 have := nodup_le (b := D.now.map (·.1)) hn (fun k hk => by
  rw [← isSome_iff_key] at hk ⊢; rw [he] at hk; split at hk
  · exact hk
  · cases hk)
 rwa [List.length_map, List.length_map] at this
theorem dirE_cases {p : Pth} (h : ¬ (p ≠ [] ∧ nameB p = false)) : dirE p = 0 := by unfold dirE; rw [if_neg h]
theorem pick_eq (x : Int) {m : Nat} (hm : 0 < m) : (x.tmod m + m).tmod m = x % m := by
 have h0 : (0 : Int) < m := by omega
 have h1 := Int.lt_tmod_of_pos x h0; rw [Int.tmod_eq_emod_of_nonneg (by omega), Int.add_emod_right, Int.tmod_def, Int.sub_mul_emod_self_left]
theorem pickN_lt (picks : List Int) (n : Nat) {m : Nat} (hm : 0 < m) : pickN picks n m < m := by
 unfold pickN; split
 · have h1 := Int.emod_nonneg (picks.getD n 0) (show (m : Int) ≠ 0 by omega)
   have h2 := Int.emod_lt_of_pos (picks.getD n 0) (show (0 : Int) < m by omega); omega
 · exact hm
theorem pickN_at {picks : List Int} {n m : Nat} (hn : n < picks.length) (hm : 0 < m) : ((pickN picks n m : Nat) : Int) = (picks[n].tmod m + m).tmod m := by
 have h1 := Int.emod_nonneg picks[n] (show (m : Int) ≠ 0 by omega); unfold pickN; rw [if_pos hn, pick_eq _ hm, List.getD_eq_getElem?_getD, List.getElem?_eq_getElem hn, Option.getD_some, Int.toNat_of_nonneg h1]
theorem pickN_over {picks : List Int} {n m : Nat} (hn : ¬ n < picks.length) : pickN picks n m = 0 := by unfold pickN; rw [if_neg hn]
theorem list_ct (mx_ : Int) (K : List Nat) (g : Gh) (b : Nat) (D : Dk) (p : Pth) (w0 : World) (H0 : Heap)
 (hf : PDk K g H0 b D) (mx : MX mx_ H0) (bf_mx : BF (fun b => b = 0) H0.size) (hl : p.length ≤ 4294967280) (hA : Asc D.now) (hnl : D.now.length ≤ 1099511627776) :
 Ct Tryz.prog w0 24 #[ptr b, Str p] H0 (fun r H2 => ∃ s : SV, ∃ k : Nat, r = .tuple #[s.v, .int .i64 (D.listE p : Int)] ∧ (Ow k 9 H2 fS 1 s.v (D.listL p)) ∧ (Nx 0 H0.size k) ∧ Nw H0 H2) := by
 refine Ct.enter (args := [ptr b, Str p]) Tryz.func24 rfl rfl rfl ?_; intro Q0 hret; have hm0 : Nw H0 H0 := Mo.refl _ _; have hbk_hf := hf.bk; refine CW.s1 (fun hK1 => CW.region ?_); refine LR.a1 ?_; refine LR.a1 (LR.nil (hK1 _ _ ?_)); refine CW.s2 (fun hK2 hE2 => CW.s1 (fun hK3 => CW.region ?_)); refine LR.m1 ?_; refine LR.v1 (Y.nilCheck rfl rfl) ?_; refine LR.v1 (Y.FA hf.vb.pt rfl u'50 rfl s'4) ?_; refine LR.v1 (Y.load1 (hf.vb.pt.drop 5) rfl a'4 rfl) (LR.nil (hK3 _ _ ?_)); refine CW.cond rfl (fun c10 => ?_) (fun c10 => ?_)
 ·
  refine CW.s1 (fun hK4 => CW.region ?_); refine LR.a1 ?_; refine LR.a1 (LR.nil (hK4 _ _ ?_)); refine CW.ret (hE2 .ret nofun _ _ (hret .ret (.inr rfl) _ _ _ (res2 rfl rfl rfl) ?_)); have hE : D.listE p = 11 := by unfold Dk.listE; rw [if_pos c10]
  have hL : D.listL p = [] := by unfold Dk.listL; rw [if_neg (by omega)]
  exact ⟨⟨none, 0, 0⟩, 0, by rw [hE]; rfl, by rw [hL]; exact Ow.nil fS_len fS_one, Nx.refl _ _, hm0⟩
 ·
  refine CW.skip (hK2 _ _ (CW.s2 (fun hK5 hE5 => CW.s1 (fun hK6 => CW.region ?_)))); refine LR.m1 ?_; refine LR.v1 (Y.sneq rfl rfl rfl) ?_; refine LR.m1 ?_; refine LR.splitp (d := 13) rfl (fun g13 => ?_) (fun g13 => ?_)
  ·
   refine LR.w1 (Y.move rfl rfl) ?_; refine LR.call rfl c'35 rfl (Wd.g rfl rfl rfl) rfl rfl (name_ct mx_ p w0 _ mx (bf_mx.mono (by omega)) hl) ?_; rintro v15 H15 ⟨rfl, hs15⟩; replace hf := hf.nw hs15; replace hm0 := hm0.tr hs15; have hz1 := hs15.size; refine LR.w1 (Y.not rfl rfl) ?_; refine LR.v1 (Y.pick_t rfl rfl rfl) (LR.nil (hK6 _ _ ?_)); refine CW.cond rfl (fun c17 => ?_) (fun c17 => ?_)
   ·
    refine CW.s1 (fun hK7 => CW.region ?_); refine LR.a1 ?_; refine LR.a1 (LR.nil (hK7 _ _ ?_)); refine CW.ret (hE5 .ret nofun _ _ (hret .ret (.inr rfl) _ _ _ (res2 rfl rfl rfl) ?_)); have hE : D.listE p = 7 := by unfold Dk.listE; rw [if_neg (by simpa using c10)]; unfold dirE; rw [if_pos ⟨g13, by simpa using c17⟩]
    have hL : D.listL p = [] := by unfold Dk.listL; rw [if_neg (by omega)]
    exact ⟨⟨none, 0, 0⟩, 0, by rw [hE]; rfl, by rw [hL]; exact Ow.nil fS_len fS_one, Nx.refl _ _, hm0⟩
   ·
    refine CW.skip (hK5 _ _ (CW.s1 (fun hK8 => CW.region ?_))); refine LR.m1 ?_; refine LR.v1 (Y.nilCheck rfl rfl) ?_; refine LR.v1 (Y.FA hf.vb.pt rfl u'50 rfl s'43) ?_; refine LR.v1 (Y.load1 (hf.vb.pt.drop 2) rfl a'43 rfl) ?_; refine LR.m1 ?_; refine LR.v1 (look_p adO hf.hm.mo (fun _ => rfl) keyStr rfl u'43 Tryz.underlying9 z'78 rfl rfl) ?_; refine LR.a1 (LR.nil (hK8 _ _ ?_)); refine CW.s2 (fun hK9 hE9 => CW.s1 (fun hK10 => CW.region ?_)); refine LR.m1 ?_; refine LR.v1 (Y.peq rfl (by kernel_rfl) (by kernel_rfl) rfl rfl) (LR.nil (hK10 _ _ ?_)); refine CW.cond rfl (fun c25 => ?_) (fun c25 => ?_)
    ·
     have hnd : mget g.dm p = none := by
      cases hq : mget g.dm p with
      | none => rfl
      | some db => rw [hq] at c25; cases c25
     refine CW.s1 (fun hK11 => CW.region ?_); refine LR.a1 ?_; refine LR.a1 (LR.nil (hK11 _ _ ?_)); refine CW.ret (hE9 .ret nofun _ _ (hret .ret (.inr rfl) _ _ _ (res2 rfl rfl rfl) ?_)); have hE : D.listE p = 0 := by unfold Dk.listE; rw [if_neg (by simpa using c10)]; exact dirE_cases (fun h => by first | exact g13 h.1 | (rw [h.2] at c17; cases c17))
     have hL : D.listL p = [] := by unfold Dk.listL; rw [if_pos hE]; exact names_none hA p (fun q hq => ((hf.abs p hnd).1 q hq).1)
     exact ⟨⟨none, 0, 0⟩, 0, by rw [hE]; rfl, by rw [hL]; exact Ow.nil fS_len fS_one, Nx.refl _ _, hm0⟩
    ·
     obtain ⟨db, hdb⟩ : ∃ db, mget g.dm p = some db := by
      cases hq : mget g.dm p with
      | none => rw [hq] at c25; cases c25
      | some db => exact ⟨db, rfl⟩
     obtain ⟨nb, sb, kc, sv, nm, sm, hd⟩ := hf.dirs _ db hdb; have hen := hd.en; have hns := dmsub hd.hn.mo.nodup hen; refine CW.skip (hK9 _ _ (CW.s1 (fun hK12 => CW.region ?_))); refine LR.v1 (Y.cast (v2 := ptr db) (Y.move rfl rfl) (by rw [hdb]; rfl)) ?_; refine LR.v1 (Y.nilCheck rfl rfl) ?_; refine LR.v1 (Y.FA hd.vd.pt rfl u'88 rfl s'85) ?_; refine LR.v1 (Y.FA (hd.vd.pt.drop 0) rfl u'85 rfl s'81) ?_; refine LR.v1 (Y.load1 ((hd.vd.pt.drop 0).drop 0) rfl a'81 rfl) ?_; have hmn := hd.hn; have hlt_hmn := hmn.lt; refine LR.call rfl c'43 rfl (Wd.u rfl) rfl rfl (keysN nb w0 _) ?_; rintro v31 H31 ⟨bx, rfl, hx, hkx, hs31⟩; replace hmn := hmn.nw hs31; replace hm0 := hm0.tr hs31; have hz2 := hs31.size; have hle_hx := hx.le; refine LR.call rfl c'38 rfl (Wd.u rfl) rfl rfl (sortedN bx nb (fvl g.fb) nm w0 _ hx hmn (by omega)) ?_; rintro v32 H32 ⟨s32, k32, out32, rfl, ow32, hk32, hout32, hs32⟩; have nx9 : Nx 0 H0.size k32 := Nx.tr (Nx.refl 0 _) hk32 hm0.size; replace hm0 := hm0.tr hs32; refine LR.a1 ?_; refine LR.a1 (LR.nil (hK12 _ _ ?_)); refine CW.ret (hret .ret (.inr rfl) _ _ _ (res2 rfl rfl rfl) ?_); have hE : D.listE p = 0 := by unfold Dk.listE; rw [if_neg (by simpa using c10)]; exact dirE_cases (fun h => by first | exact g13 h.1 | (rw [h.2] at c17; cases c17))
     have hL : D.listL p = out32 := by unfold Dk.listL; rw [if_pos hE, names_rise hA p hout32.1 hen hout32.2]
     exact ⟨s32, k32, by rw [hE]; rfl, by rw [hL]; exact ow32, nx9, hm0⟩
  ·
   refine LR.g1 ?_; refine LR.g1 ?_; refine LR.g1 ?_; refine LR.v1 (Y.pick_f rfl rfl rfl) (LR.nil (hK6 _ _ ?_)); refine CW.cond_f rfl ?_; refine CW.skip (hK5 _ _ (CW.s1 (fun hK13 => CW.region ?_))); refine LR.m1 ?_; refine LR.v1 (Y.nilCheck rfl rfl) ?_; refine LR.v1 (Y.FA hf.vb.pt rfl u'50 rfl s'43) ?_; refine LR.v1 (Y.load1 (hf.vb.pt.drop 2) rfl a'43 rfl) ?_; refine LR.m1 ?_; refine LR.v1 (look_p adO hf.hm.mo (fun _ => rfl) keyStr rfl u'43 Tryz.underlying9 z'78 rfl rfl) ?_; refine LR.a1 (LR.nil (hK13 _ _ ?_)); refine CW.s2 (fun hK14 hE14 => CW.s1 (fun hK15 => CW.region ?_)); refine LR.m1 ?_; refine LR.v1 (Y.peq rfl (by kernel_rfl) (by kernel_rfl) rfl rfl) (LR.nil (hK15 _ _ ?_)); refine CW.cond rfl (fun c25 => ?_) (fun c25 => ?_)
   ·
    have hnd : mget g.dm p = none := by
     cases hq : mget g.dm p with
     | none => rfl
     | some db => rw [hq] at c25; cases c25
    refine CW.s1 (fun hK16 => CW.region ?_); refine LR.a1 ?_; refine LR.a1 (LR.nil (hK16 _ _ ?_)); refine CW.ret (hE14 .ret nofun _ _ (hret .ret (.inr rfl) _ _ _ (res2 rfl rfl rfl) ?_)); have hE : D.listE p = 0 := by unfold Dk.listE; rw [if_neg (by simpa using c10)]; exact dirE_cases (fun h => by first | exact g13 h.1 | (rw [h.2] at c17; cases c17))
    have hL : D.listL p = [] := by unfold Dk.listL; rw [if_pos hE]; exact names_none hA p (fun q hq => ((hf.abs p hnd).1 q hq).1)
    exact ⟨⟨none, 0, 0⟩, 0, by rw [hE]; rfl, by rw [hL]; exact Ow.nil fS_len fS_one, Nx.refl _ _, hm0⟩
   ·
    obtain ⟨db, hdb⟩ : ∃ db, mget g.dm p = some db := by
     cases hq : mget g.dm p with
     | none => rw [hq] at c25; cases c25
     | some db => exact ⟨db, rfl⟩
    obtain ⟨nb, sb, kc, sv, nm, sm, hd⟩ := hf.dirs _ db hdb; have hen := hd.en; have hns := dmsub hd.hn.mo.nodup hen; refine CW.skip (hK14 _ _ (CW.s1 (fun hK17 => CW.region ?_))); refine LR.v1 (Y.cast (v2 := ptr db) (Y.move rfl rfl) (by rw [hdb]; rfl)) ?_; refine LR.v1 (Y.nilCheck rfl rfl) ?_; refine LR.v1 (Y.FA hd.vd.pt rfl u'88 rfl s'85) ?_; refine LR.v1 (Y.FA (hd.vd.pt.drop 0) rfl u'85 rfl s'81) ?_; refine LR.v1 (Y.load1 ((hd.vd.pt.drop 0).drop 0) rfl a'81 rfl) ?_; have hmn := hd.hn; have hlt_hmn := hmn.lt; refine LR.call rfl c'43 rfl (Wd.u rfl) rfl rfl (keysN nb w0 _) ?_; rintro v31 H31 ⟨bx, rfl, hx, hkx, hs31⟩; replace hmn := hmn.nw hs31; replace hm0 := hm0.tr hs31; have hz4 := hs31.size; have hle_hx := hx.le; refine LR.call rfl c'38 rfl (Wd.u rfl) rfl rfl (sortedN bx nb (fvl g.fb) nm w0 _ hx hmn (by omega)) ?_; rintro v32 H32 ⟨s32, k32, out32, rfl, ow32, hk32, hout32, hs32⟩; have nx18 : Nx 0 H0.size k32 := Nx.tr (Nx.refl 0 _) hk32 hm0.size; replace hm0 := hm0.tr hs32; refine LR.a1 ?_; refine LR.a1 (LR.nil (hK17 _ _ ?_)); refine CW.ret (hret .ret (.inr rfl) _ _ _ (res2 rfl rfl rfl) ?_); have hE : D.listE p = 0 := by unfold Dk.listE; rw [if_neg (by simpa using c10)]; exact dirE_cases (fun h => by first | exact g13 h.1 | (rw [h.2] at c17; cases c17))
    have hL : D.listL p = out32 := by unfold Dk.listL; rw [if_pos hE, names_rise hA p hout32.1 hen hout32.2]
    exact ⟨s32, k32, by rw [hE]; rfl, by rw [hL]; exact ow32, nx18, hm0⟩
theorem next_ct (G : Nat → Prop) (pb n : Nat) (pv : SV) (picks : List Int) (m : Nat) (w0 : World) (H0 : Heap)
 (hp : Var 91 H0 pb [pv.v, .int .i64 (n : Int)]) (hpk : Rd G H0 fI 1 pv.v picks) (bf_hpk : BF G H0.size) (dpk : DF G (pb + 1)) (hm : 0 < m ∧ m ≤ 4611686018427387904) (hn : n ≤ 1099511627776) (hpw : ∀ x ∈ picks, -9223372036854775808 ≤ x ∧ x ≤ 9223372036854775807) :
 Ct Tryz.prog w0 40 #[ptr pb, .int .i64 (m : Int)] H0 (fun r H2 => r = .int .i64 ((pickN picks n m : Nat) : Int) ∧ (Var 91 H2 pb [pv.v, .int .i64 ((n + 1 : Nat) : Int)]) ∧ Mo (Ms [(pb + 1)]) H0 H2) := by
 refine Ct.enter (args := [ptr pb, .int .i64 (m : Int)]) Tryz.func40 rfl rfl rfl ?_; intro Q0 hret; have hm0 : Mo (Ms [(pb + 1)]) H0 H0 := Mo.refl _ _; have nx_hm0_hp := Nx.refl (pb + 1) H0.size; have hlt_hp := hp.lt; refine CW.s1 (fun hK1 => CW.region ?_); refine LR.a1 (LR.nil (hK1 _ _ ?_)); refine CW.s1 (fun hK2 => CW.region ?_); refine LR.a1 (LR.nil (hK2 _ _ ?_))
 refine CW.cut (fun (_ : Unit) => [(0, ptr pb), (5, .int .i64 ((pickN picks n m : Nat) : Int))])
  (fun (_ : Unit) (H : Heap) => (True) ∧ Nw H0 H) (fun _ hK3 _ => ?_) ?_
 ·
  have hcm3 : Nw H0 H0 := Mo.refl _ _; refine CW.s1 (fun hK4 => ?_); refine CW.region_draw rfl (by kernel_rfl) ?_; refine LR.m1 ?_; refine LR.v1 (Y.nilCheck rfl rfl) ?_; refine LR.v1 (Y.FA hp.pt rfl u'91 rfl s'3) ?_; refine LR.v1 (Y.load1 (hp.pt.drop 1) rfl a'3 rfl) ?_; refine LR.m1 ?_; refine LR.v1 (Y.nilCheck rfl rfl) ?_; refine LR.v1 (Y.FA hp.pt rfl u'91 rfl s'32) ?_; refine LR.v1 (Y.load1 hp.pt rfl a'32 rfl) ?_; refine LR.v1 (Y.len hpk rfl u'32 rfl) ?_; refine LR.v1 (Y.lss rfl rfl rfl) (LR.nil (hK4 _ _ ?_)); refine CW.condp rfl (fun c15 => ?_) (fun c15 => ?_)
  ·
   have hnl : n < picks.length := by omega
   have hxb := hpw picks[n] (List.getElem_mem hnl); have hq1 := Int.lt_tmod_of_pos picks[n] (show (0 : Int) < m by omega); have hq2 := Int.tmod_lt_of_pos picks[n] (show (0 : Int) < m by omega); have hpa := pickN_at (picks := picks) hnl hm.1; refine CW.region_draw rfl (by kernel_rfl) ?_; refine LR.m1 ?_; refine LR.v1 (Y.nilCheck rfl rfl) ?_; refine LR.v1 (Y.FA hp.pt rfl u'91 rfl s'32) ?_; refine LR.v1 (Y.load1 hp.pt rfl a'32 rfl) ?_; refine LR.m1 ?_; refine LR.v1 (Y.nilCheck rfl rfl) ?_; refine LR.v1 (Y.FA hp.pt rfl u'91 rfl s'3) ?_; refine LR.v1 (Y.load1 (hp.pt.drop 1) rfl a'3 rfl) ?_; refine LR.e1 (g := fun ad => .pointer (some ad)) (Y.iF hpk (n) rfl u'32 s'3 rfl rfl) fun ad24 pt24 => ?_; refine LR.v1 (Y.load1 pt24.pt rfl a'3 rfl) ?_; refine LR.m1 ?_; refine LR.v1 (Y.rem rfl rfl rfl (by omega)) ?_; refine LR.m1 ?_; refine LR.v1 (Y.addi rfl rfl rfl (by omega)) ?_; refine LR.m1 ?_; refine LR.v1 (Y.cast (v2 := .int .i64 ((pickN picks n m : Nat) : Int)) (Y.rem rfl rfl rfl (by omega)) (by rw [hpa])) ?_; refine LR.a1 (LR.nil ?_); refine QN.sub (hK3 () _ ?_) ⟨rfl, (iv (by omega)), trivial⟩; exact ⟨trivial, hcm3⟩
  ·
   refine CW.skip ?_; have hpo := pickN_over (m := m) (show ¬ n < picks.length by omega); refine QN.sub (hK3 () _ ?_) ⟨rfl, (iv (by omega)), trivial⟩; exact ⟨trivial, hcm3⟩
 ·
  intro _ Hcutc15 hIcutc15; obtain ⟨htr, hlmcutc15⟩ := hIcutc15; replace hp := hp.nw hlmcutc15; replace hm0 := hm0.trN hlmcutc15; have hz1 := hlmcutc15.size; refine CW.s1 (fun hK5 => CW.region ?_); refine LR.m1 ?_; refine LR.v1 (Y.nilCheck rfl rfl) ?_; refine LR.v1 (Y.FA hp.pt rfl u'91 rfl s'3) ?_; refine LR.v1 (Y.load1 (hp.pt.drop 1) rfl a'3 rfl) ?_; refine LR.v1 (Y.cast (v2 := .int .i64 ((n + 1 : Nat) : Int)) (Y.addi rfl rfl rfl (by omega)) (ivv (by omega))) ?_; refine LR.v1 (Y.nilCheck rfl rfl) ?_; refine LR.v1 (Y.FA hp.pt rfl u'91 rfl s'3) ?_; refine LR.s1 (S.var1 hp 1 (_) rfl rfl rfl (rfl) s'3 (by simp) (rfl)) ?_; rintro H4_7 ⟨hp, hs4_7⟩; replace hs4_7 := hs4_7.md1; replace hm0 := hm0.trL hs4_7 (MIL.o (MI.r nx_hm0_hp)); refine LR.nil (hK5 _ _ (CW.s1 (fun hK6 => CW.region ?_))); refine LR.m1 ?_; refine LR.a1 (LR.nil (hK6 _ _ ?_)); refine CW.ret (hret .ret (.inr rfl) _ _ _ (res1 rfl rfl) ?_); exact ⟨rfl, hp, hm0⟩
theorem copy_ct (fv : Nat → Value) (db sb : Nat) (m nm : Nms) (w0 : World) (H0 : Heap)
 (hd : Mp H0 Str fv db m) (hs : Mp H0 Str fv sb nm) (dds : Dj (sb + 1) (db + 1)) :
 Ct Tryz.prog w0 42 #[.map (some db), .map (some sb)] H0 (fun r H2 => ∃ m2 : Nms, r = .tuple #[] ∧ (Mp H2 Str fv db m2) ∧ (∀ q, mget m2 q = match mget nm q with | some i => some i | none => mget m q) ∧ Mo (Ms [(db + 1)]) H0 H2) := by
 refine Ct.enter (args := [.map (some db), .map (some sb)]) Tryz.func42 rfl rfl rfl ?_; intro Q0 hret; have hm0 : Mo (Ms [(db + 1)]) H0 H0 := Mo.refl _ _; have nx_hm0_hd := Nx.refl (db + 1) H0.size; have hlt_hd := hd.lt; have hlt_hs := hs.lt; refine CW.s1 (fun hK1 => CW.region ?_); refine LR.m1 ?_; obtain ⟨es, ck, hs⟩ := hs.raw; refine LR.z1 (Z.rangeA hs rfl u'81 rfl) ?_; rintro v7 H7 ⟨rfl, it, hs7, ob7, hH7⟩; have hzs7 : H7.size = H0.size + 1 := by rw [hH7]; simp
 have dj1 : Dj (db + 1) (H0.size + 1) := Dj.new hd.lt; have dj2 : Dj (sb + 1) (H0.size + 1) := Dj.new hs.lt; have nx3 : Nx 0 H0.size (H0.size + 1) := Nx.new hm0.size; replace hd := hd.nw hs7; replace hs := hs.nw hs7; replace hm0 := hm0.trN hs7; have hz1 := hs7.size; have hlt_it := it.lt; refine LR.nil (hK1 _ _ (CW.block (fun _ _ hX2 _ => ?_)))
 refine CW.loop (fun (s_ : (List Pth) × (Nms)) => match s_ with | (dn, mq) => [(0, .map (some db)), (7, .pointer (some ⟨H0.size, 0, none⟩))])
  (fun (s_ : (List Pth) × (Nms)) (H : Heap) => match s_ with | (dn, mq) => (Itr H H0.size sb Str es ck dn) ∧ (Mp H Str fv db mq) ∧ (dn.Nodup ∧ ∀ k ∈ dn, k ∈ nm.map (·.1)) ∧ (∀ q, mget mq q = if q ∈ dn then mget nm q else mget m q) ∧ Mo (Ms [(H0.size + 1), (db + 1)]) H7 H)
  (fun (s_ : (List Pth) × (Nms)) => match s_ with | (dn, mq) => nm.length - dn.length) ([], m) ⟨rfl, rfl, trivial⟩ ?_ ?_
 ·
  exact ⟨it, hd, ⟨List.nodup_nil, by simp⟩, fun q => by simp, Mo.refl _ _⟩
 rintro ⟨dn, mq⟩ HL1 hI1 K3 hN3 hE3; obtain ⟨it, hd, hdn, hmq, hlm1⟩ := hI1; replace hs := hs.upL hlm1 (DL.cons dj2 (DL.o dds)); replace hm0 := hm0.trL hlm1 (MIL.cons (MI.q nx3) (MIL.o (MI.r nx_hm0_hd))); have hz2 := hlm1.size; have nx_hlm1_it := Nx.refl (H0.size + 1) H7.size; have nx_hlm1_hd := Nx.refl (db + 1) H7.size; have hdl := nodup_le hdn.1 hdn.2; rw [List.length_map] at hdl; refine CW.s1 (fun hK4 => CW.region ?_); refine LR.z1 (Z.nextA it hs keyStr.inj rfl rfl) ?_; rintro v8 H8 ⟨qb, x, y, dn1, rfl, it, hT8, hF8, hs8⟩; replace hs8 := hs8.md1; replace hd := hd.upL hs8 (DL.o dj1); replace hs := hs.upL hs8 (DL.o dj2); replace hm0 := hm0.trL hs8 (MIL.o (MI.q nx3)); replace hlm1 := hlm1.trL hs8 (MIL.o (MI.r nx_hlm1_it)); have hz3 := hs8.size; refine LR.v1 (Y.ext0 rfl rfl) (LR.nil (hK4 _ _ ?_)); refine CW.s2 (fun hK5 hE5 => ?_); refine CW.cond rfl (fun c9 => ?_) (fun c9 => ?_)
 ·
  obtain ⟨hxy, hnd, hdq⟩ := hT8 c9; rw [hdq] at it; refine CW.skip (hK5 _ _ (CW.block (fun _ hK6 _ _ => CW.s1 (fun hK7 => CW.region ?_)))); refine LR.v1 (Y.entryA it hs keyStr.inj hxy rfl rfl) ?_; refine LR.v1 (Y.extract rfl rfl rfl) ?_; refine LR.v1 (Y.extract rfl rfl rfl) ?_; refine LR.a1 ?_; refine LR.a1 (LR.nil (hK7 _ _ ?_)); refine CW.region ?_; refine LR.m1 ?_; refine LR.m1 ?_; refine LR.m1 ?_; refine LR.s1 (S.putMp (y) hd keyStr rfl u'81 Tryz.underlying9 rfl rfl rfl) ?_; rintro H3_3 ⟨hd, hs3_3⟩; replace hs3_3 := hs3_3.md1; replace hs := hs.upL hs3_3 (DL.o dds); replace it := it.upL hs3_3 (DL.o dj1.symm); replace hlm1 := hlm1.trL hs3_3 (MIL.o (MI.r nx_hlm1_hd)); have hz4 := hs3_3.size; refine LR.nil (hK6 _ _ ?_)
  have hdn2 : (dn ++ [x]).Nodup ∧ ∀ k ∈ dn ++ [x], k ∈ nm.map (·.1) := by
   refine ⟨?_, fun k hk => ?_⟩
   · rw [List.nodup_append]
     exact ⟨hdn.1, by simp, fun a ha b hb e => by simp only [List.mem_singleton] at hb; subst hb; subst e; exact hnd ha⟩
   · rcases List.mem_append.1 hk with h | h
     · exact hdn.2 k h
     · rw [List.mem_singleton.1 h]; exact List.mem_map.2 ⟨_, hxy, rfl⟩
  have hdl2 := nodup_le hdn2.1 hdn2.2; rw [List.length_append, List.length_singleton, List.length_map] at hdl2; have hgx := mget_of_mem hs.mo.nodup hxy; refine QN.sub (hN3 (dn ++ [x], mput mq x y) _ ?_ ?_) ⟨rfl, rfl, trivial⟩
  · exact ⟨it, hd, hdn2, fun q => by
     rw [mget_put, hmq]; by_cases h : q = x
     · subst h; simp [hgx]
     · simp [h], hlm1⟩
  · simp only [List.length_append, List.length_singleton]; omega
 ·
  obtain ⟨hall, _⟩ := hF8 c9; refine CW.exit (hE5 (.exit 0) nofun _ _ (hE3 (.exit 0) nofun _ _ (hX2 _ _ ?_))); refine hret .normal (.inl rfl) _ _ _ (res0 rfl) ?_
  exact ⟨mq, rfl, hd, fun q => by
   rw [hmq]
   cases hq : mget nm q with
   | some i => rw [if_pos (hall (q, i) (mget_mem hq))]
   | none =>
     by_cases h : q ∈ dn
     · have h9 := hdn.2 q h
       rw [← isSome_iff_key, hq] at h9; cases h9
     · rw [if_neg h], hm0⟩
end Go.Proofs.YtfbfjhppppoilaaGreatDoor.SimL

namespace Go.Proofs.YtfbfjhppppoilaaGreatDoor.SimM
open E Go.RowKit SimA SimB SimC SimD SimE SimF SimG SimH SimI SimJ SimK SimL
set_option maxRecDepth 20000
theorem ways_sum (l : List Wx) : waysF (l.map (·.1)) = 1 + (l.map (fun y => y.1.ways)).sum := by unfold waysF; rw [List.map_map]; rfl
theorem ways_take {l : List Wx} {i : Nat} (h : i < l.length) : ((l.take (i + 1)).map (fun y => y.1.ways)).sum = ((l.take i).map (fun y => y.1.ways)).sum + l[i].1.ways := by
 rw [List.take_succ_eq_append_getElem h, List.map_append, List.sum_append]; simp
theorem ways_le (l : List Wx) (i : Nat) : ((l.take i).map (fun y => y.1.ways)).sum ≤ (l.map (fun y => y.1.ways)).sum := by
 have e : l.map (fun y => y.1.ways) = (l.take i).map (fun y => y.1.ways) ++ (l.drop i).map (fun y => y.1.ways) := by rw [← List.map_append, List.take_append_drop]
 rw [e, List.sum_append]; omega
theorem onAll_take {ws : List Wr} {b : List UInt8} {i : Nat} (h : i < ws.length) : onAll (ws.take (i + 1)) b = ws[i].on (onAll (ws.take i) b) ws[i].d.length := by
 unfold onAll; rw [List.take_succ_eq_append_getElem h, List.foldl_append]; rfl
theorem wayW_drop {ws : List Wr} {b : List UInt8} {i k : Nat} (h : i < ws.length) : wayW (ws.drop i) b k = if k = 0 then b else if k ≤ ws[i].ways then ws[i].part b (k - 1) else wayW (ws.drop (i + 1)) (ws[i].on b ws[i].d.length) (k - ws[i].ways) := by
 rw [List.drop_eq_getElem_cons h]; rfl
theorem wayW_0 (ws : List Wr) (b : List UInt8) : wayW ws b 0 = b := by cases ws <;> simp [wayW]
theorem splice_all2 {cs vs : List Value} (h : cs.length = vs.length) : splice cs 0 vs = vs := by simp [splice, h]
theorem kfrz {K : List Nat} {g : Gh} {H : Heap} {b : Nat} {D : Dk} {kb n : Nat} (h : PDk K g H b D) (hb : ∀ c, c + 1 = kb → g.ρ c = .frz ∨ n ≤ c) : kb = 0 ∨ kb ∈ K ∨ n < kb := by
 rcases Nat.eq_zero_or_pos kb with e | e
 · exact .inl e
 · rcases hb (kb - 1) (by omega) with h2 | h2
   · have := h.mem h2 (by simp)
     rw [show kb - 1 + 1 = kb by omega] at this; exact .inr (.inl this)
   · exact .inr (.inr (by omega))
set_option maxHeartbeats 4000000 in
theorem lose_ct (K : List Nat) (g : Gh) (b : Nat) (D : Dk) (G : Nat → Prop) (pb n : Nat) (pv : SV) (picks : List Int) (i : Nat) (w0 : World) (H0 : Heap)
 (hf : PDk K g H0 b D) (hp : Var 91 H0 pb [pv.v, .int .i64 (n : Int)]) (hpk : Rd G H0 fI 1 pv.v picks) (bf_hpk : BF G H0.size) (dpk : DF G (pb + 1)) (dhp : DL (pb + 1) K) (dpkK : DFL G K) (hi : i < D.fs.length) (hwl : (fget D.fs i).w.length ≤ 549755813888) (hwd : ∀ y ∈ (fget D.fs i).w, y.d.length ≤ 549755813888) (hpf : ∀ j, (onAll ((fget D.fs i).w.take j) (fget D.fs i).stays).length ≤ 549755813888) (hwy : waysF (fget D.fs i).w ≤ 2305843009213693952) (hn : n ≤ 1099511627776) (hpw : ∀ x ∈ picks, -9223372036854775808 ≤ x ∧ x ≤ 9223372036854775807) :
 Ct Tryz.prog w0 44 #[fvl g.fb i, ptr pb] H0 (fun r H2 => ∃ K2 : List Nat, ∃ g2 : Gh, r = .tuple #[] ∧ (PDk K2 g2 H2 b (D.putF i ⟨wayW (fget D.fs i).w (fget D.fs i).stays (pickN picks n (waysF (fget D.fs i).w)), wayW (fget D.fs i).w (fget D.fs i).stays (pickN picks n (waysF (fget D.fs i).w)), []⟩)) ∧ (NxK K H0.size K2) ∧ (Var 91 H2 pb [pv.v, .int .i64 ((n + 1 : Nat) : Int)]) ∧ (g2.fb = g.fb ∧ g2.dm = g.dm ∧ g2.mb = g.mb) ∧ Mo (Ms (K ++ [(pb + 1)])) H0 H2) := by
 refine Ct.enter (args := [fvl g.fb i, ptr pb]) Tryz.func44 rfl rfl rfl ?_; intro Q0 hret; have hm0 : Mo (Ms (K ++ [(pb + 1)])) H0 H0 := Mo.refl _ _; have nx_hm0_hf := NxK.refl K H0.size; have hbk_hf := hf.bk; have nx_hm0_hp := Nx.refl (pb + 1) H0.size; have hlt_hp := hp.lt; have hlt0 : ∀ c, g.ρ c ≠ .out → c < H0.size := hf.lt; obtain ⟨nv, sv, wv, kw, lw, hfi⟩ := hf.fil i hi; have hlw := hfi.lw; have hlwl : lw.length = (fget D.fs i).w.length := by rw [← hlw, List.length_map]
 have hwys := ways_sum lw; rw [hlw] at hwys; obtain ⟨kq, hq, hqF⟩ := rd_q hfi.hs; refine CW.s1 (fun hK1 => CW.region ?_); refine LR.a1 (LR.nil (hK1 _ _ ?_)); refine CW.seq (fun K2 hK2 _ => CW.s1 (fun hK3 => CW.region ?_)); have hdR := hfi.hd; have bf_hdR : BF (fun c => g.ρ c = .frz) H0.size := fun c e => hf.lt c (by rw [e]; simp); have hvf := hfi.vf; have hlt_hvf := hvf.lt; have hw := hfi.hw; have hle_hw := hw.le; have hb := hq; have hle_hb := hb.le; have dj1 : Dj (pb + 1) (g.fb.getD i 0 + 1) := DL.at dhp (hf.km1 hfi.rf (by simp)); have dj2 : Dj (pb + 1) kw := DL.at dhp (hf.km hfi.rk (by simp)); have dj3 : Dj (pb + 1) kq := DL.at dhp (hf.km hqF (by simp)); have df4 := (fun c e he => dhp (c + 1) (hf.mem e (by simp)) pb rfl he.symm : DF (fun c => g.ρ c = .frz) (pb + 1)); refine LR.m1 ?_; refine LR.v1 (Y.nilCheck rfl rfl) ?_; refine LR.v1 (Y.FA hvf.pt rfl u'106 rfl s'104) ?_; refine LR.v1 (Y.load1 (hvf.pt.drop 2) rfl a'104 rfl) ?_; refine LR.v1 (Y.len hw.rd rfl u'104 rfl) ?_; refine LR.m1 (LR.nil (hK3 _ _ ?_)); refine CW.block (fun _ _ hX4 _ => ?_)
 refine CW.loop (fun (i1 : (Nat)) => [(0, fvl g.fb i), (1, ptr pb), (4, .int .i64 ((1 + ((lw.take i1).map (fun y => y.1.ways)).sum : Nat) : Int)), (14, wv.v), (15, .int .i64 lw.length), (16, .int .i64 (i1 : Int))])
  (fun (i1 : (Nat)) (H : Heap) => (i1 ≤ lw.length) ∧ Nw H0 H)
  (fun (i1 : (Nat)) => lw.length - i1) 0 ⟨rfl, rfl, rfl, rfl, rfl, rfl, trivial⟩ ?_ ?_
 ·
  exact ⟨(by omega), Mo.refl _ _⟩
 intro i1 HL1 hI1 K5 hN5 hE5; obtain ⟨hi1, hlm1⟩ := hI1; replace hf := hf.nw hlm1; replace hp := hp.nw hlm1; replace hpk := hpk.nw hlm1; replace hdR := fun y hy => (hdR y hy).nw hlm1; replace hvf := hvf.nw hlm1; replace hw := hw.nw hlm1; replace hb := hb.nw hlm1; replace hm0 := hm0.trN hlm1; have hz1 := hlm1.size; refine CW.s1 (fun hK6 => CW.region ?_); refine LR.v1 (Y.lss rfl rfl rfl) (LR.nil (hK6 _ _ ?_)); refine CW.s2 (fun hK7 hE7 => ?_); refine CW.condp rfl (fun c17 => ?_) (fun c17 => ?_)
 ·
  have hil : i1 < lw.length := by omega
  have hwt := ways_take hil; have hwt2 := ways_le lw (i1 + 1); have hdl1 := hwd lw[i1].1 (by rw [← hlw]; exact List.mem_map.2 ⟨_, List.getElem_mem hil, rfl⟩); refine CW.skip (hK7 _ _ (CW.s1 (fun hK8 => CW.block (fun _ hK9 _ _ => CW.s1 (fun hK10 => CW.region ?_))))); refine LR.v1 (Y.owAddr hw (i1) rfl u'104 s'76 rfl rfl (by first | rfl | omega) (by first | omega | (simp; omega) | (simp; done))) ?_; refine LR.v1 (Y.loadN (hw.pt (j := i1) (by first | omega | (simp; omega) | (simp; done))) rfl a'76 s'76 (fW_len _) rfl) ?_; refine LR.z1 (Z.allocv rfl z'76) ?_; rintro v6 H6 ⟨rfl, v6, hs6, ob6, hH6⟩; have hzs6 : H6.size = HL1.size + 1 := by rw [hH6]; simp
  have df8 := (DF.new (bf_hdR.mono (by omega)) : DF _ (HL1.size + 1)); have nx13 : Nx 0 H0.size (HL1.size + 1) := Nx.new hlm1.size; replace hdR := fun y hy => (hdR y hy).nw hs6; replace hlm1 := hlm1.tr hs6; have hz2 := hs6.size; refine LR.s1 (S.var v6 (_) (fW lw[i1]) rfl rfl rfl rfl (fW_one lw[i1]) s'76 (fW_len _) (by decide) ((splice_all2 (fW_len _).symm))) ?_; rintro H3_3 ⟨v6, hs3_3⟩; replace hs3_3 := hs3_3.md1; replace hdR := fun y hy => (hdR y hy).upL hs3_3 (DFL.o df8); replace hlm1 := hlm1.tq hs3_3 (MIL.o (MI.q nx13)); have hz3 := hs3_3.size; refine LR.nil (hK10 _ _ (CW.region ?_)); refine LR.m1 ?_; refine LR.v1 (Y.loadN v6.pt rfl a'76 s'76 (fW_len _) rfl) ?_; refine LR.call rfl c'73 rfl (Wd.u rfl) rfl rfl (ways_ct lw[i1] w0 _ (hdR lw[i1] (List.getElem_mem hil)).any (by omega)) ?_; rintro v22 H22 ⟨rfl, hs22⟩; replace hdR := fun y hy => (hdR y hy).nw hs22; replace hlm1 := hlm1.tr hs22; have hz4 := hs22.size; refine LR.v1 (Y.cast (v2 := .int .i64 ((1 + ((lw.take (i1 + 1)).map (fun y => y.1.ways)).sum : Nat) : Int)) (Y.addi rfl rfl rfl (by omega)) (ivv (by omega))) ?_; refine LR.a1 (LR.nil (hK9 _ _ ?_)); refine hK8 _ _ (CW.region ?_); refine LR.v1 (Y.addi rfl rfl rfl (by omega)) ?_; refine LR.m1 (LR.nil ?_); refine QN.sub (hN5 (i1 + 1) _ ?_ ?_) ⟨rfl, rfl, (iv (by omega)), rfl, (iv (by omega)), (iv (by omega)), trivial⟩
  · exact ⟨(by omega), hlm1⟩
  · first | omega | (simp only; omega) | (simp; omega)
 ·
  obtain rfl : i1 = lw.length := by omega
  refine CW.exit (hE7 (.exit 0) nofun _ _ (hE5 (.exit 0) nofun _ _ (hX4 _ _ ?_))); refine hK2 _ _ (CW.s1 (fun hK11 => CW.region ?_)); refine LR.m1 ?_; refine LR.v1 (Y.cast (v2 := .int .i64 ((waysF (fget D.fs i).w : Nat) : Int)) (Y.move rfl rfl) (by rw [hwys, List.take_length])) ?_; refine LR.call rfl c'40 rfl (Wd.u rfl) rfl rfl (next_ct G pb n pv picks (waysF (fget D.fs i).w) w0 _ hp hpk (bf_hpk.mono (by omega)) dpk (by omega) (by omega) hpw) ?_; rintro v27 H27 ⟨rfl, hp, hs27⟩; replace hf := hf.upL hs27 (DKL.cons dhp DKL.nil); replace hdR := fun y hy => (hdR y hy).upL hs27 (DFL.o df4); replace hvf := hvf.upL hs27 (DL.o dj1.symm); replace hw := hw.upL hs27 (DL.o dj2.symm); replace hb := hb.upL hs27 (DL.o dj3.symm); replace hm0 := hm0.trL hs27 (MIL.o (MI.r nx_hm0_hp)); have hz5 := hs27.size; obtain ⟨k0, hk0⟩ : ∃ k0, k0 = pickN picks n (waysF (fget D.fs i).w) := ⟨_, rfl⟩; have hk0l := pickN_lt picks n (m := waysF (fget D.fs i).w) (by omega); rw [← hk0] at hk0l; obtain ⟨T, hT⟩ : ∃ T, T = wayW (fget D.fs i).w (fget D.fs i).stays k0 := ⟨_, rfl⟩; refine LR.a1 (LR.nil (hK11 _ _ ?_)); refine CW.s1 (fun hK12 => CW.region ?_); refine LR.m1 ?_; refine LR.v1 (Y.nilCheck rfl rfl) ?_; refine LR.v1 (Y.FA hvf.pt rfl u'106 rfl s'103) ?_; refine LR.v1 (Y.FA hvf.pt rfl u'103 rfl s'31) ?_; refine LR.v1 (Y.load1 (hvf.pt.drop 1) rfl a'31 rfl) ?_; refine LR.a1 (LR.nil (hK12 _ _ ?_))
  refine CW.cut (fun (s_ : (SV) × (Nat)) => match s_ with | (s9, k9) => [(0, fvl g.fb i), (8, s9.v)])
   (fun (s_ : (SV) × (Nat)) (H : Heap) => match s_ with | (s9, k9) => (Qr k9 H fB 1 s9.v T) ∧ (∀ c, c + 1 = k9 → g.ρ c = .frz ∨ H0.size ≤ c) ∧ (Nx kq H27.size k9) ∧ Nw H27 H) (fun _ hK13 _ => ?_) ?_
  ·
   have hcm13 : Nw H27 H27 := Mo.refl _ _; have nx_hcm13_hb := Nx.refl kq H27.size; refine CW.s1 (fun hK14 => CW.region ?_); refine LR.m1 ?_; refine LR.v1 (Y.nilCheck rfl rfl) ?_; refine LR.v1 (Y.FA hvf.pt rfl u'106 rfl s'104) ?_; refine LR.v1 (Y.load1 (hvf.pt.drop 2) rfl a'104 rfl) ?_; refine LR.v1 (Y.len hw.rd rfl u'104 rfl) ?_; refine LR.m1 (LR.nil (hK14 _ _ ?_)); refine CW.block (fun _ _ hX15 _ => ?_)
   refine CW.loop (fun (s_ : (Nat) × (Nat) × (SV) × (Nat) × (List UInt8)) => match s_ with | (i2, k, s8, kb, bl) => [(0, fvl g.fb i), (7, .int .i64 (k : Int)), (8, s8.v), (36, wv.v), (37, .int .i64 lw.length), (38, .int .i64 (i2 : Int))])
    (fun (s_ : (Nat) × (Nat) × (SV) × (Nat) × (List UInt8)) (H : Heap) => match s_ with | (i2, k, s8, kb, bl) => (i2 ≤ lw.length) ∧ (Qr kb H fB 1 s8.v bl) ∧ (∀ c, c + 1 = kb → g.ρ c = .frz ∨ H0.size ≤ c) ∧ (bl = onAll ((fget D.fs i).w.take i2) (fget D.fs i).stays) ∧ (wayW ((fget D.fs i).w.drop i2) bl k = T) ∧ (k ≤ k0) ∧ (Nx kq H27.size kb) ∧ Nw H27 H)
    (fun (s_ : (Nat) × (Nat) × (SV) × (Nat) × (List UInt8)) => match s_ with | (i2, k, s8, kb, bl) => lw.length - i2) (0, k0, sv, kq, (fget D.fs i).stays) ⟨rfl, (by rw [hk0]; rfl), rfl, rfl, rfl, rfl, trivial⟩ ?_ ?_
   ·
    exact ⟨(by omega), hb, fun c e => .inl (hqF c e), rfl, hT.symm, Nat.le_refl _, Nx.refl _ _, Mo.refl _ _⟩
   rintro ⟨i2, k, s8, kb, bl⟩ HL2 hI2 K16 hN16 hE16; obtain ⟨hi2, hb, hbF, hbl, hwk, hkl, nxl_hb, hlm2⟩ := hI2; have nx15 : Nx kq H27.size kb := Nx.tr (nx_hcm13_hb) nxl_hb hcm13.size; replace hdR := fun y hy => (hdR y hy).nw hlm2; replace hw := hw.nw hlm2; replace hcm13 := hcm13.tr hlm2; have hz6 := hlm2.size; have hle_hb := hb.le; have hble := hpf i2; rw [← hbl] at hble; refine CW.s1 (fun hK17 => CW.region ?_); refine LR.v1 (Y.lss rfl rfl rfl) (LR.nil (hK17 _ _ ?_)); refine CW.s2 (fun hK18 hE18 => ?_); refine CW.condp rfl (fun c39 => ?_) (fun c39 => ?_)
   ·
    have hi2l : i2 < lw.length := by omega
    have hi2w : i2 < (fget D.fs i).w.length := by omega
    have hgw : (fget D.fs i).w[i2] = lw[i2].1 := by simp only [← hlw, List.getElem_map]
    have hdl2 := hwd lw[i2].1 (by rw [← hlw]; exact List.mem_map.2 ⟨_, List.getElem_mem hi2l, rfl⟩); have hdy := hdR lw[i2] (List.getElem_mem hi2l); refine CW.skip (hK18 _ _ (CW.s2 (fun hK19 hE19 => CW.block (fun _ hK20 _ hE20 => CW.s1 (fun hK21 => CW.region ?_))))); refine LR.v1 (Y.owAddr hw (i2) rfl u'104 s'76 rfl rfl (by first | rfl | omega) (by first | omega | (simp; omega) | (simp; done))) ?_; refine LR.v1 (Y.loadN (hw.pt (j := i2) (by first | omega | (simp; omega) | (simp; done))) rfl a'76 s'76 (fW_len _) rfl) ?_; refine LR.z1 (Z.allocv rfl z'76) ?_; rintro v10 H10 ⟨rfl, v10, hs10, ob10, hH10⟩; have hzs10 : H10.size = HL2.size + 1 := by rw [hH10]; simp
    have df20 := (DF.new (bf_hdR.mono (by omega)) : DF _ (HL2.size + 1)); have dj23 : Dj kb (HL2.size + 1) := Dj.new hb.le; have nx25 : Nx 0 H27.size (HL2.size + 1) := Nx.new hcm13.size; have nx26 : Nx 0 H27.size (HL2.size + 1) := Nx.new hlm2.size; replace hdR := fun y hy => (hdR y hy).nw hs10; replace hb := hb.nw hs10; replace hcm13 := hcm13.tr hs10; replace hlm2 := hlm2.tr hs10; have hz7 := hs10.size; refine LR.s1 (S.var v10 (_) (fW lw[i2]) rfl rfl rfl rfl (fW_one lw[i2]) s'76 (fW_len _) (by decide) ((splice_all2 (fW_len _).symm))) ?_; rintro H10_3 ⟨v10, hs10_3⟩; replace hs10_3 := hs10_3.md1; replace hdR := fun y hy => (hdR y hy).upL hs10_3 (DFL.o df20); replace hb := hb.upL hs10_3 (DL.o dj23); replace hcm13 := hcm13.tq hs10_3 (MIL.o (MI.q nx25)); replace hlm2 := hlm2.tq hs10_3 (MIL.o (MI.q nx26)); have hz8 := hs10_3.size; refine LR.nil (hK21 _ _ (CW.s2 (fun hK22 hE22 => CW.s1 (fun hK23 => CW.region ?_)))); refine LR.m1 ?_; refine LR.v1 (Y.eql rfl rfl rfl) (LR.nil (hK23 _ _ ?_)); refine CW.condp rfl (fun c43 => ?_) (fun c43 => ?_)
    ·
     refine CW.exit (hE22 (.exit 2) nofun _ _ (hE20 (.exit 2) nofun (by simp) _ _ (hE19 (.exit 2) nofun _ _ (hE16 (.exit 2) nofun _ _ (hX15 _ _ ?_))))); have hTe : T = bl := by rw [← hwk, show k = 0 by omega, wayW_0]
     refine QN.sub (hK13 (s8, kb) _ ?_) ⟨rfl, rfl, trivial⟩; exact ⟨by rw [hTe]; exact hb, hbF, nx15, hcm13⟩
    ·
     refine CW.skip (hK22 _ _ (CW.s2 (fun hK24 hE24 => CW.s1 (fun hK25 => CW.region ?_)))); refine LR.m1 ?_; refine LR.v1 (Y.loadN v10.pt rfl a'76 s'76 (fW_len _) rfl) ?_; refine LR.call rfl c'73 rfl (Wd.u rfl) rfl rfl (ways_ct lw[i2] w0 _ (hdR lw[i2] (List.getElem_mem hi2l)).any (by omega)) ?_; rintro v46 H46 ⟨rfl, hs46⟩; replace hdR := fun y hy => (hdR y hy).nw hs46; replace hb := hb.nw hs46; replace v10 := v10.nw hs46; replace hcm13 := hcm13.tr hs46; replace hlm2 := hlm2.tr hs46; have hz9 := hs46.size; refine LR.v1 (Y.leq rfl rfl rfl) (LR.nil (hK25 _ _ ?_)); refine CW.condp rfl (fun c47 => ?_) (fun c47 => ?_)
     ·
      refine CW.s1 (fun hK26 => CW.region ?_); refine LR.v1 (Y.loadN v10.pt rfl a'76 s'76 (fW_len _) rfl) ?_; refine LR.m1 ?_; refine LR.m1 ?_; refine LR.v1 (Y.cast (v2 := .int .i64 ((k - 1 : Nat) : Int)) (Y.subi rfl rfl rfl (by omega)) (ivv (by omega))) ?_; refine LR.call rfl c'74 rfl (Wd.u rfl) rfl rfl (part_ct lw[i2] s8 bl (k - 1) w0 _ (hdR lw[i2] (List.getElem_mem hi2l)).any hb.rd.any (by omega) (by omega)) ?_; rintro v52 H52 ⟨s52, k52, rfl, ow52, hk52, hs52⟩; have nx36 : Nx 0 H27.size k52 := Nx.tr (Nx.refl 0 _) hk52 hcm13.size; replace hdR := fun y hy => (hdR y hy).nw hs52; replace hcm13 := hcm13.tr hs52; have hz10 := hs52.size; have hle_ow52 := ow52.le; refine LR.a1 (LR.nil (hK26 _ _ ?_)); refine CW.exit (hE24 (.exit 2) nofun _ _ (hE20 (.exit 2) nofun (by simp) _ _ (hE19 (.exit 2) nofun _ _ (hE16 (.exit 2) nofun _ _ (hX15 _ _ ?_))))); have hTe : T = lw[i2].1.part bl (k - 1) := by rw [← hwk, wayW_drop hi2w, if_neg (by omega), if_pos (by simp only [hgw]; omega)]; simp only [hgw]
      rw [← hTe] at ow52; refine QN.sub (hK13 (s52, k52) _ ?_) ⟨rfl, rfl, trivial⟩; exact ⟨ow52.q, fun c e => .inr (by unfold Nx at hk52; omega), (Nx.z (nx36)), hcm13⟩
     ·
      refine CW.skip (hK24 _ _ (CW.s1 (fun hK27 => CW.region ?_))); refine LR.m1 ?_; refine LR.v1 (Y.loadN v10.pt rfl a'76 s'76 (fW_len _) rfl) ?_; refine LR.call rfl c'73 rfl (Wd.u rfl) rfl rfl (ways_ct lw[i2] w0 _ (hdR lw[i2] (List.getElem_mem hi2l)).any (by omega)) ?_; rintro v55 H55 ⟨rfl, hs55⟩; replace hdR := fun y hy => (hdR y hy).nw hs55; replace hb := hb.nw hs55; replace v10 := v10.nw hs55; replace hlm2 := hlm2.tr hs55; have hz11 := hs55.size; refine LR.v1 (Y.cast (v2 := .int .i64 ((k - lw[i2].1.ways : Nat) : Int)) (Y.subi rfl rfl rfl (by omega)) (ivv (by omega))) ?_; refine LR.a1 (LR.nil (hK27 _ _ ?_)); refine CW.region ?_; refine LR.v1 (Y.loadN v10.pt rfl a'76 s'76 (fW_len _) rfl) ?_; refine LR.m1 ?_; refine LR.v1 (Y.FA v10.pt rfl u'76 rfl s'31) ?_; refine LR.v1 (Y.load1 (v10.pt.drop 1) rfl a'31 rfl) ?_; refine LR.v1 (Y.len (hdR lw[i2] (List.getElem_mem hi2l)) rfl u'31 rfl) ?_; refine LR.call rfl c'63 rfl (Wd.u rfl) rfl rfl (on_ct lw[i2] s8 bl lw[i2].1.d.length w0 _ (hdR lw[i2] (List.getElem_mem hi2l)).any hb.rd.any (Nat.le_refl _) (by omega)) ?_; rintro v62 H62 ⟨s62, k62, rfl, ow62, hk62, hs62⟩; have nx48 : Nx 0 H27.size k62 := Nx.tr (Nx.refl 0 _) hk62 hlm2.size; replace hdR := fun y hy => (hdR y hy).nw hs62; replace hlm2 := hlm2.tr hs62; have hz12 := hs62.size; have hle_ow62 := ow62.le; refine LR.a1 (LR.nil (hK20 _ _ ?_)); refine hK19 _ _ (CW.region ?_); refine LR.v1 (Y.addi rfl rfl rfl (by omega)) ?_; refine LR.m1 (LR.nil ?_); refine QN.sub (hN16 (i2 + 1, k - lw[i2].1.ways, s62, k62, lw[i2].1.on bl lw[i2].1.d.length) _ ?_ ?_) ⟨rfl, (iv (by omega)), rfl, rfl, (iv (by omega)), (iv (by omega)), trivial⟩
      · exact ⟨(by omega), ow62.q, fun c e => .inr (by unfold Nx at hk62; omega), by rw [onAll_take hi2w, ← hbl]; simp only [hgw], by rw [← hwk, wayW_drop hi2w, if_neg (by omega), if_neg (by simp only [hgw]; omega)]; simp only [hgw], (by omega), (Nx.z (nx48)), hlm2⟩
      · first | omega | (simp only; omega) | (simp; omega)
   ·
    refine CW.exit (hE18 (.exit 2) nofun _ _ (hE16 (.exit 2) nofun _ _ (hX15 _ _ ?_))); have hTe : T = bl := by rw [← hwk, List.drop_of_length_le (by omega)]; rfl
    refine QN.sub (hK13 (s8, kb) _ ?_) ⟨rfl, rfl, trivial⟩; exact ⟨by rw [hTe]; exact hb, hbF, nx15, hcm13⟩
  ·
   rintro ⟨s9, k9⟩ Hcut2 hIcut2; obtain ⟨hb, hbF, nxl_hb, hlmcut2⟩ := hIcut2; replace hf := hf.nw hlmcut2; replace hp := hp.nw hlmcut2; replace hdR := fun y hy => (hdR y hy).nw hlmcut2; replace hm0 := hm0.trN hlmcut2; have hz13 := hlmcut2.size; have hle_hb := hb.le; obtain ⟨nvB, svB, wvB, kwB, lwB, hfiB⟩ := hf.fil i hi; have hop : Mo (Ms [(g.fb.getD i 0 + 1)]) Hcut2 Hcut2 := Mo.refl _ _; have km51 : KM K (g.fb.getD i 0 + 1) := (hf.km1 hfiB.rf (by simp)); have vf2 := hfiB.vf; have hlt_vf2 := vf2.lt; have dj52 : Dj (pb + 1) (g.fb.getD i 0 + 1) := DL.at (dhp) km51; have nx54 : MI (K ++ [(pb + 1)]) H0.size (g.fb.getD i 0 + 1) := MIL.at (MIL.ofK (nx_hm0_hf) (by intro k hk; simp [hk])) km51; have nx55 := Nx.refl (g.fb.getD i 0 + 1) Hcut2.size
   have dj56 : Dj k9 (g.fb.getD i 0 + 1) := fun c h1 h2 => by
    rcases hbF c h1 with q | q
    · rw [show c = g.fb.getD i 0 by omega, hfiB.rf] at q; cases q
    · have := hlt0 _ (show g.ρ (g.fb.getD i 0) ≠ .out by rw [hfiB.rf]; simp); omega
   refine CW.region ?_; refine LR.m1 ?_; refine LR.m1 ?_; refine LR.m1 ?_; refine LR.m1 ?_; refine LR.m1 ?_; refine LR.v1 (Y.nilCheck rfl rfl) ?_; refine LR.v1 (Y.FA vf2.pt rfl u'106 rfl s'103) ?_; refine LR.v1 (Y.FA vf2.pt rfl u'103 rfl s'31) ?_; refine LR.s1 (S.var1 vf2 0 (_) rfl rfl rfl (rfl) s'31 (by simp) (rfl)) ?_; rintro H17_8 ⟨vf2, hs17_8⟩; replace hs17_8 := hs17_8.md1; replace hp := hp.upL hs17_8 (DL.o dj52); replace hb := hb.upL hs17_8 (DL.o dj56); replace hm0 := hm0.trL hs17_8 (MIL.cons (nx54) MIL.nil); replace hop := hop.trL hs17_8 (MIL.o (MI.r nx55)); have hz14 := hs17_8.size; refine LR.v1 (Y.nilCheck rfl rfl) ?_; refine LR.v1 (Y.FA vf2.pt rfl u'106 rfl s'103) ?_; refine LR.v1 (Y.FA vf2.pt rfl u'103 rfl s'31) ?_; refine LR.s1 (S.var1 vf2 1 (_) rfl rfl rfl (rfl) s'31 (by simp) (rfl)) ?_; rintro H17_12 ⟨vf2, hs17_12⟩; replace hs17_12 := hs17_12.md1; replace hp := hp.upL hs17_12 (DL.o dj52); replace hb := hb.upL hs17_12 (DL.o dj56); replace hm0 := hm0.trL hs17_12 (MIL.cons (nx54) MIL.nil); replace hop := hop.trL hs17_12 (MIL.o (MI.r nx55)); have hz15 := hs17_12.size; refine LR.v1 (Y.nilCheck rfl rfl) ?_; refine LR.v1 (Y.FA vf2.pt rfl u'106 rfl s'104) ?_; refine LR.s1 (S.var1 vf2 2 (_) rfl rfl rfl (rfl) s'104 (by simp) (rfl)) ?_; rintro H17_15 ⟨vf2, hs17_15⟩; replace hs17_15 := hs17_15.md1; replace hp := hp.upL hs17_15 (DL.o dj52); replace hb := hb.upL hs17_15 (DL.o dj56); replace hm0 := hm0.trL hs17_15 (MIL.cons (nx54) MIL.nil); replace hop := hop.trL hs17_15 (MIL.o (MI.r nx55)); have hz16 := hs17_15.size; refine LR.nil ?_; have nx58 : NxK K H0.size (k9 :: K) := (NxK.consE (nx_hm0_hf) (kfrz hf hbF)); replace hf := hf.flose hi hfiB rfl hop vf2 hb (fun c e => (hbF c e).imp id (fun h => Classical.byContradiction (fun q => by have := hlt0 c q; omega))); refine hret .normal (.inl rfl) _ _ _ (res0 rfl) ?_; exact ⟨_, { g with ρ := uprk g.ρ k9 .frz }, rfl, by rw [← hk0, ← hT]; exact hf, nx58, hp, ⟨rfl, rfl, rfl⟩, hm0⟩
end Go.Proofs.YtfbfjhppppoilaaGreatDoor.SimM
