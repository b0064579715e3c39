/-
  Owned rows whose block is told by a number: for program-printed bookkeeping: no condition.
-/
import Derived.Test.YtfbfjhppppoilaaDoorVar
import Derived.Laws.Pointers
import Derived.Laws.Cover3
namespace Go.Proofs.YtfbfjhppppoilaaDoor.E
set_option linter.unusedVariables false
set_option linter.unusedSimpArgs false
set_option linter.unusedSectionVars false

theorem Rd.cells1 {α : Type} {F : Nat → Prop} {H : Heap} {f : α → List Value} {sz : Nat} {v : Value} {l : List α} (h : Rd F H f sz v l) : v.cells.toList = [v] := by
  obtain ⟨a, cap, rfl, _⟩ := h.ex
  rfl
/-- a row that is ours alone; k: its block's number and one; 0: it has none -/
structure Ow {α : Type} (k : Nat) (e : TypeId) (H : Heap) (f : α → List Value) (sz : Nat) (v : Value) (l : List α) : Prop where
  own : Own (fun b => b + 1 = k) e H f sz v l
  le : k ≤ H.size

section
variable {α : Type} {k : Nat} {e : TypeId} {H H' : Heap} {f : α → List Value} {sz : Nat} {v : Value} {l : List α}
theorem Ow.rd (h : Ow k e H f sz v l) : Rd (fun b => b + 1 = k) H f sz v l := h.own.rd
theorem Ow.len (h : Ow k e H f sz v l) : l.length ≤ 9223372036854775807 := h.own.len
theorem Ow.sv (h : Ow k e H f sz v l) : (toSV v).v = v := h.own.sv
theorem Ow.up {S : Nat → Prop} (h : Ow k e H f sz v l) (s : Mo S H H') (hS : ∀ b, b < H.size → b + 1 = k → ¬ S b) : Ow k e H' f sz v l := ⟨h.own.up s hS, Nat.le_trans h.le s.size⟩
theorem Ow.nw (h : Ow k e H f sz v l) (s : Nw H H') : Ow k e H' f sz v l := h.up s (fun _ _ _ e => e)
theorem Ow.nil (hf : ∀ x, (f x).length = sz) (h1 : ∀ x, ∀ u ∈ f x, u.oneCell' = true) : Ow 0 e H f sz (.slice none 0 0) ([] : List α) := ⟨Own.nil hf h1, Nat.zero_le _⟩
theorem Ow.of {G : Nat → Prop} (h : Own G e H f sz v l) : ∃ k, Ow k e H f sz v l ∧ (k = 0 ∨ ∃ g, k = g + 1 ∧ G g) := by
  rcases h.ex with ⟨rfl, rfl⟩ | ⟨g, cap, cur, hv, hg, hh, r⟩
  · exact ⟨0, ⟨⟨h.cells, h.one, .inl ⟨rfl, rfl⟩⟩, Nat.zero_le _⟩, .inl rfl⟩
  · exact ⟨g + 1, ⟨⟨h.cells, h.one, .inr ⟨g, cap, cur, hv, rfl, hh, r⟩⟩, hh.lt⟩, .inr ⟨g, rfl, hg⟩⟩
theorem Ow.at {j : Nat} (h : Ow k e H f sz v l) (hj : j < l.length) : blk v + 1 = k := (h.own.at hj).1
theorem Ow.pt {j : Nat} (h : Ow k e H f sz v l) (hj : j < l.length) : Pt H ⟨blk v, j * sz, none⟩ (f l[j]) := h.own.pt hj
end


/-! ### bookkeeping by terms: numbers of blocks (and one), apart or not -/
def Dj (a b : Nat) : Prop := ∀ c, c + 1 = a → c + 1 ≠ b
def Nx (k h k2 : Nat) : Prop := k2 = 0 ∨ k2 = k ∨ h < k2
/-- the blocks with these numbers -/
def Ms (ks : List Nat) : Nat → Prop := fun c => c + 1 ∈ ks
def DL (a : Nat) (ks : List Nat) : Prop := ∀ k ∈ ks, Dj a k
def DF (F : Nat → Prop) (k : Nat) : Prop := ∀ b, F b → b + 1 ≠ k
def BF (F : Nat → Prop) (h : Nat) : Prop := ∀ b, F b → b < h
def DFL (F : Nat → Prop) (ks : List Nat) : Prop := ∀ k ∈ ks, DF F k
/-- below h the block with number k is one of those -/
def MI (ks : List Nat) (h k : Nat) : Prop := ∀ b, b < h → b + 1 = k → Ms ks b
def MIL (ks : List Nat) (h : Nat) (js : List Nat) : Prop := ∀ k ∈ js, MI ks h k
section
variable {a b k k2 k3 h h2 : Nat} {ks js : List Nat} {F : Nat → Prop}
theorem Dj.symm (d : Dj a b) : Dj b a := fun c h1 h2 => d c h2 h1
theorem Dj.new (ha : a ≤ h) : Dj a (h + 1) := fun c h1 h2 => by omega
theorem Dj.z : Dj a 0 := fun c h1 h2 => by omega
theorem Dj.z2 : Dj 0 a := fun c h1 h2 => by omega
theorem Dj.app (d : Dj a k) (ha : a ≤ h) (hk : Nx k h k2) : Dj a k2 := fun c h1 h2 => by
  rcases hk with rfl | rfl | hk
  · omega
  · exact d c h1 h2
  · omega
theorem Dj.ne (d : Dj (a + 1) (b + 1)) : a ≠ b := fun e => d a rfl (by rw [e])
theorem Dj.of (d : a ≠ b) : Dj (a + 1) (b + 1) := fun c h1 h2 => by omega
theorem Nx.refl (k h : Nat) : Nx k h k := .inr (.inl rfl)
theorem Nx.new (hh : h ≤ h2) : Nx 0 h (h2 + 1) := .inr (.inr (by omega))
theorem Nx.tr (x : Nx k h k2) (y : Nx k2 h2 k3) (hh : h ≤ h2) : Nx k h k3 := by
  unfold Nx at *; omega
theorem Nx.lt (x : Nx 0 h k) (h0 : k ≠ 0) : h < k := by unfold Nx at x; omega
theorem DL.nil : DL a [] := fun k hk => by cases hk
theorem DL.cons (d : Dj a k) (e : DL a ks) : DL a (k :: ks) := fun j hj => by
  rcases List.mem_cons.1 hj with rfl | hj
  · exact d
  · exact e j hj
theorem DFL.nil : DFL F [] := fun k hk => by cases hk
theorem DFL.cons (d : DF F k) (e : DFL F ks) : DFL F (k :: ks) := fun j hj => by
  rcases List.mem_cons.1 hj with rfl | hj
  · exact d
  · exact e j hj
theorem DF.new (hb : BF F h) : DF F (h + 1) := fun b h1 h2 => by have := hb b h1; omega
theorem DF.z : DF F 0 := fun b h1 h2 => by omega
theorem DF.app (d : DF F k) (hb : BF F h) (hk : Nx k h k2) : DF F k2 := fun b h1 h2 => by
  have := hb b h1
  rcases hk with rfl | rfl | hk
  · omega
  · exact d b h1 h2
  · omega
theorem BF.of (le : k ≤ h) : BF (fun b => b + 1 = k) h := fun b e => by simp only at e; omega
theorem DF.of (d : Dj a k) : DF (fun b => b + 1 = a) k := fun b e => d (b + 1 - 1) (by simp only at e; omega)
theorem BF.mono (hb : BF F h) (hh : h ≤ h2) : BF F h2 := fun b h1 => Nat.lt_of_lt_of_le (hb b h1) hh
theorem MI.root (hm : k ∈ ks) : MI ks h k := fun b _ h2 => by unfold Ms; rw [h2]; exact hm
theorem MI.z : MI ks h 0 := fun b h1 h2 => by omega
theorem MI.new (hh : h ≤ h2) : MI ks h (h2 + 1) := fun b h1 h3 => by omega
theorem MI.app (x : MI ks h k) (hk : Nx k h2 k2) (hh : h ≤ h2) : MI ks h k2 := fun b h1 h3 => by
  rcases hk with rfl | rfl | hk
  · omega
  · exact x b h1 h3
  · omega
theorem MIL.nil : MIL ks h [] := fun k hk => by cases hk
theorem MIL.cons (d : MI ks h k) (e : MIL ks h js) : MIL ks h (k :: js) := fun j hj => by
  rcases List.mem_cons.1 hj with rfl | hj
  · exact d
  · exact e j hj
theorem Mo.md {H H' : Heap} (s : Mo (fun b => b + 1 = k) H H') : Mo (Ms [k]) H H' := s.weaken (fun b _ e => by unfold Ms; simp; exact e)
theorem Mo.md1 {H H' : Heap} (s : Mo (fun g => g = b) H H') : Mo (Ms [b + 1]) H H' := s.weaken (fun c _ e => by unfold Ms; simp; exact e)
theorem Mo.mdn {H H' : Heap} (s : Nw H H') (ks : List Nat) : Mo (Ms ks) H H' := s.weaken (fun c _ e => e.elim)
theorem Mo.nil {H H' : Heap} (s : Mo (Ms []) H H') : Nw H H' := s.weaken (fun c _ e => by cases e)
theorem Mo.trL {H0 H H' : Heap} (x : Mo (Ms ks) H0 H) (s : Mo (Ms js) H H') (d : MIL ks H0.size js) : Mo (Ms ks) H0 H' :=
  Mo.trans x s (fun _ _ e => e) (fun b hb e => d (b + 1) e b hb rfl)
theorem Mo.trN {H0 H H' : Heap} (x : Mo (Ms ks) H0 H) (s : Nw H H') : Mo (Ms ks) H0 H' := Mo.trans x s (fun _ _ e => e) (fun _ _ e => e.elim)
theorem Ow.upL {α : Type} {e : TypeId} {H H' : Heap} {f : α → List Value} {sz : Nat} {v : Value} {l : List α} (x : Ow a e H f sz v l) (s : Mo (Ms ks) H H') (d : DL a ks) : Ow a e H' f sz v l :=
  x.up s (fun b _ h1 h2 => d (b + 1) h2 b h1 rfl)
theorem Var.upL {e : TypeId} {H H' : Heap} {cs : List Value} (x : Var e H b cs) (s : Mo (Ms ks) H H') (d : DL (b + 1) ks) : Var e H' b cs := x.up s (fun h2 => d (b + 1) h2 b rfl rfl)
theorem Rd.bnd {α : Type} {H : Heap} {f : α → List Value} {sz : Nat} {v : Value} {l : List α} (x : Rd F H f sz v l) : Rd (fun b => F b ∧ b < H.size) H f sz v l := x.imp (fun b hb h => ⟨h, hb⟩)
theorem Rd.bf {α : Type} {H : Heap} {f : α → List Value} {sz : Nat} {v : Value} {l : List α} {G : Nat → Prop} (x : Rd (fun b => G b ∧ b < h) H f sz v l) : BF (fun b => G b ∧ b < h) h := fun b e => e.2
theorem Rd.dfb {α : Type} {H : Heap} {f : α → List Value} {sz : Nat} {v : Value} {l : List α} (x : Rd F H f sz v l) (d : ∀ b, F b → b + 1 ≠ k) : DF F k := d
theorem Rd.upL {α : Type} {H H' : Heap} {f : α → List Value} {sz : Nat} {v : Value} {l : List α} (x : Rd F H f sz v l) (s : Mo (Ms ks) H H') (d : DFL F ks) : Rd F H' f sz v l :=
  x.up s (fun b _ h1 h2 => d (b + 1) h2 b h1 rfl)
end

/-- a row that is read alone, told by its block's number -/
structure Qr {α : Type} (k : Nat) (H : Heap) (f : α → List Value) (sz : Nat) (v : Value) (l : List α) : Prop where
  rd : Rd (fun b => b + 1 = k) H f sz v l
  le : k ≤ H.size
section
variable {α : Type} {k : Nat} {ks : List Nat} {e : TypeId} {H H' : Heap} {f : α → List Value} {sz : Nat} {v : Value} {l : List α}
theorem Qr.nw (h : Qr k H f sz v l) (s : Nw H H') : Qr k H' f sz v l := ⟨h.rd.nw s, Nat.le_trans h.le s.size⟩
theorem Qr.upL (h : Qr k H f sz v l) (s : Mo (Ms ks) H H') (d : DL k ks) : Qr k H' f sz v l := ⟨h.rd.up s (fun b _ h1 h2 => d (b + 1) h2 b h1 rfl), Nat.le_trans h.le s.size⟩
theorem Qr.nil (f : α → List Value) (sz : Nat) (H : Heap) : Qr 0 H f sz (.slice none 0 0) ([] : List α) := ⟨Rd.nil _ _ _ _, Nat.zero_le _⟩
theorem Ow.q (h : Ow k e H f sz v l) : Qr k H f sz v l := ⟨h.rd, h.le⟩
end

section
variable {P : Program} {w0 : World} {n : Nat} {l : FL} {H : Heap} {o : Oper} {α : Type} {k : Nat} {e : TypeId} {f : α → List Value} {sz : Nat} {v : Value} {xs ys : List α}
theorem Y.cast {v v2 : Value} (h : Y P w0 n l H o v) (e : v = v2) : Y P w0 n l H o v2 := e ▸ h
theorem LR.gsu {Q : Exit → Act → World → Prop} {ops : Array Oper} {rest : List Oper} {m : Bool} {d j e2 : Nat} {b : Bool} (hg : o.guard = some (j, b)) (hj : (ops[j]?).bind (·.dst) = some e2) (hc : lk l e2 = some undef)
    (hd : o.dst = some d) (hn : Nat.blt d n = true) (h : LR m P w0 ops Q n ((d, undef) :: l) rest H) : LR m P w0 ops Q n l (o :: rest) H := by
  intro a w hf ha
  have hw : Region.wanted o (yielded ops a.tmps) = false := by
    have h1 := hf.get e2 _ hc
    have h2 : (ops[j]?).bind (fun o => o.dst) = some e2 := hj
    have h3 : yielded ops a.tmps j = none := by
      unfold yielded
      rw [h2]
      simp [h1, undef]
    simp [Region.wanted, hg, h3]
  have hp := hf.put hn undef
  rw [← hd] at hp
  have hh := h _ w hp ha
  cases m
  · simp only [Md] at hh ⊢
    unfold wpList
    rw [if_neg (by simp [hw])]
    exact hh
  · simp only [Md] at hh ⊢
    unfold wpStill
    rw [if_neg (by simp [hw])]
    exact hh
theorem Z.mono {R R' : Value → Heap → Prop} (h : Z P w0 n l H o R) (hr : ∀ v H', R v H' → R' v H') : Z P w0 n l H o R' := by
  intro a w hf ha
  obtain ⟨v, H', w', h1, h2, h3⟩ := h a w hf ha
  exact ⟨v, H', w', h1, h2, hr _ _ h3⟩
theorem S.mono {R R' : Heap → Prop} (h : S P w0 n l H o R) (hr : ∀ H', R H' → R' H') : S P w0 n l H o R' := by
  intro a w hf ha
  obtain ⟨H', w', h1, h2, h3⟩ := h a w hf ha
  exact ⟨H', w', h1, h2, hr _ h3⟩
theorem Z.apnd {F : Nat → Prop} {s x : Operand} {t : TypeId} {u : Value} {bytes : Nat} (h : Ow k e H f sz v xs) (hr : Rd F H f sz u ys) (ho : o.op = .call { callee := .builtin .append, args := #[s, x], argTypes := #[t, t] })
    (hinf : Inf P t e sz bytes) (hs : opv l s = some v) (hx : opv l x = some u) (hb : (xs.length + ys.length) * bytes ≤ 140737488355328) (hm : xs.length + ys.length ≤ 9223372036854775807) :
    Z P w0 n l H o (fun r H' => ∃ k', Ow k' e H' f sz r (xs ++ ys) ∧ (k' = 0 ∨ k' = k ∨ H.size < k') ∧ Mo (fun b => b + 1 = k) H H') :=
  (Z.append h.own hr ho hinf hs hx hb hm).mono fun r H' ⟨h1, h2⟩ => by
    obtain ⟨k', h3, h4⟩ := Ow.of h1
    refine ⟨k', h3, ?_, h2⟩
    rcases h4 with rfl | ⟨g, rfl, h5⟩
    · exact .inl rfl
    · omega
theorem Z.apndStr {v : Value} {xs ys : List UInt8} {s x : Operand} {t u : TypeId} (h : Ow k e H fB 1 v xs) (ho : o.op = .call { callee := .builtin .append, args := #[s, x], argTypes := #[t, u] })
    (hinf : Inf P t e 1 1) (hu : P.underlying u = some .string) (hs : opv l s = some v) (hx : opv l x = some (Str ys)) (hm : xs.length + ys.length ≤ 140737488355328) :
    Z P w0 n l H o (fun r H' => ∃ k', Ow k' e H' fB 1 r (xs ++ ys) ∧ (k' = 0 ∨ k' = k ∨ H.size < k') ∧ Mo (fun b => b + 1 = k) H H') :=
  (Z.appendStr h.own ho hinf hu hs hx hm).mono fun r H' ⟨h1, h2⟩ => by
    obtain ⟨k', h3, h4⟩ := Ow.of h1
    refine ⟨k', h3, ?_, h2⟩
    rcases h4 with rfl | ⟨g, rfl, h5⟩
    · exact .inl rfl
    · omega
theorem Ow.new {G : Nat → Prop} {H' : Heap} {c : Obj} (hG : ∀ b, G b → b = H.size) (h : Own G e H' f sz v xs) (hc : H' = H.push c) : Ow (H.size + 1) e H' f sz v xs :=
  ⟨h.imp (fun b _ hb => by rw [hG b hb]), by rw [hc]; simp⟩
theorem Z.litw {t : TypeId} {k bytes : Nat} {parts : List (Nat × Operand)} (vs : List Value) (zs : List α) (ho : o.op = .buildSlice t k parts.toArray) (hinf : Inf P t e sz bytes) (hp : opvs l (parts.map (·.2)) = some vs) (hi : parts.map (·.1) = List.range k) (hk : vs.length = k) (hks : k * sz ≤ 16777216) (hk16 : k ≤ 16777216)
    (hc : ∀ x, (f x).length = sz) (h1 : ∀ x, ∀ u ∈ f x, u.oneCell' = true) (hz : vs.map (fun v => v.cells.toList) = zs.map f) :
    Z P w0 n l H o (fun r H' => Ow (H.size + 1) e H' f sz r zs ∧ Nw H H' ∧ ∃ c, H' = H.push c) :=
  (Z.lit vs zs ho hinf hp hi hk hks hk16 hc h1 hz).mono fun r H' ⟨h1, h2, c, h3⟩ => ⟨Ow.new (fun _ e => e) h1 h3, h2, c, h3⟩
theorem Z.makew {t e : TypeId} {bytes : Nat} {x c : Operand} {kl kc : IntKind} {lv : Int} {z : Value} (k : Nat) (z0 : α) (ho : o.op = .makeSlice t x c) (hinf : Inf P t e sz bytes) (hz : ∀ w, (zeroValue e).run P w = .ok z w) (hz0 : f z0 = z.cells.toList)
    (hc : ∀ x, (f x).length = sz) (h1 : ∀ x, ∀ u ∈ f x, u.oneCell' = true) (hx : opv l x = some (.int kl lv)) (hcc : opv l c = some (.int kc lv)) (hk : lv = k) (hb : (bytes : Int) * k ≤ 281474976710656) (hk2 : k ≤ 9223372036854775807) :
    Z P w0 n l H o (fun r H' => Ow (H.size + 1) e H' f sz r (List.replicate k z0) ∧ Nw H H' ∧ ∃ ob, H' = H.push ob) :=
  (Z.makeSlice k z0 ho hinf hz hz0 hc h1 hx hcc hk hb hk2).mono fun r H' ⟨h1, h2, c, h3⟩ => ⟨Ow.new (fun _ e => e) h1 h3, h2, c, h3⟩
theorem Z.strbw {x : Operand} {t u e : TypeId} {ut : TypeDesc} {s : List UInt8} (ho : o.op = .convert t u x) (ht : P.underlying t = some ut) (hu : P.underlying u = some (.slice e)) (he : P.underlying e = some (.int .u8)) (hx : opv l x = some (Str s)) (hb : s.length ≤ 9223372036854775807) :
    Z P w0 n l H o (fun r H' => Ow (H.size + 1) e H' fB 1 r s ∧ Nw H H' ∧ H'.size = H.size + 1) :=
  (Z.strb ho ht hu he hx hb).mono fun r H' ⟨h1, h2, h3⟩ => ⟨⟨h1.imp (fun b _ hb => by rw [hb]), by rw [h3]; exact Nat.le_refl _⟩, h2, h3⟩
theorem Y.owAddr {x i : Operand} {t : TypeId} {k2 : IntKind} {iv : Int} (h : Ow k e H f sz v xs) (j : Nat) (ho : o.op = .indexAddr t x i) (ht : ∀ w, (underlying t).run P w = .ok (.slice e) w) (hs : ∀ w, (sizeOf e).run P w = .ok sz w)
    (hx : opv l x = some v) (hi : opv l i = some (.int k2 iv)) (hj : iv = j) (hlt : j < xs.length) : Y P w0 n l H o (.pointer (some ⟨blk v, j * sz, none⟩)) := Y.ownAddr h.own j ho ht hs hx hi hj hlt
theorem Y.owFront {x hi : Operand} {t e2 : TypeId} {k2 : IntKind} {iv : Int} (h : Ow k e H f sz v xs) (j : Nat) (ho : o.op = .slice t x none (some hi) none) (ht : ∀ w, (underlying t).run P w = .ok (.slice e2) w) (hs : ∀ w, (sizeOf e2).run P w = .ok sz w)
    (hx : opv l x = some v) (hi2 : opv l hi = some (.int k2 iv)) (hjv : iv = j) (hj : j ≤ xs.length) : ∃ v', (∀ H', Y P w0 n l H' o v') ∧ Ow k e H f sz v' (xs.take j) := by
  have run : ∀ (a : Option Addr) (len cap : Nat), v = .slice a len cap → j ≤ len → len ≤ cap → (∀ ad, a = some ad → ad.spot = none) → ∀ H', Y P w0 n l H' o (.slice a j cap) := by
    rintro a len cap rfl h1 h2 h3 H' ac w hf ha
    have e1 : ∀ w, (Instr.sliceBounds true len cap none (some (ac.eval hi)) none).run P w = .ok (0, j, cap) w := by
      intro w
      have b2 : j ≤ cap := by omega
      subst hjv
      simp [Instr.sliceBounds, Instr.sliceBound, asIntOf, hf.eval hi2, *]
    have e3 : (if cap = 0 then a else a.map (·.add (0 * sz))) = a := by
      cases a with
      | none => simp
      | some ad => simp [add_eq (h3 ad rfl)]; intro _; obtain ⟨b, o, s⟩ := ad; have := h3 _ rfl; simp at this; rw [this]
    have e4 := e3
    simp only [Nat.zero_mul] at e4
    simp [execOp, ho, hf.eval hx, Instr.sliceAt, Instr.slice, ht, hs, e1, e4]
  rcases h.own.ex with ⟨rfl, rfl⟩ | ⟨g, cap, cur, hv, hg, hh, r1, r2, r3, r4⟩
  · refine ⟨.slice none j 0, run none 0 0 rfl (by simpa using hj) (Nat.le_refl _) (fun ad e => by cases e), ?_⟩
    have : j = 0 := by simpa using hj
    subst this
    simpa using h
  · refine ⟨.slice (some ⟨g, 0, none⟩) j cap, run _ _ _ hv hj r1 (fun ad e => by rw [← Option.some.inj e]), ⟨?_, h.le⟩⟩
    by_cases hne : xs = []
    · subst hne
      have hj0 : j = 0 := by simpa using hj
      subst hj0
      have := h.own
      rw [hv] at this
      simpa using this
    · have h2 := h.own
      rw [hv] at h2
      exact h2.front hj hne
theorem S.oww {x y : Operand} {t : TypeId} {c : Value} (h : Ow k e H f sz v xs) (j i : Nat) (z : α) (ho : o.op = .store t x y) (hx : opv l x = some (.pointer (some ⟨blk v, j * sz + i, none⟩))) (hy : opv l y = some c) (h1 : c.oneCell' = true)
    (hs : ∀ w, (sizeOf t).run P w = .ok 1 w) (hj : j < xs.length) (hk : i < sz) (hz : f z = (f xs[j]).set i c) : S P w0 n l H o (fun H' => Ow k e H' f sz v (xs.set j z) ∧ Mo (fun b => b + 1 = k) H H') :=
  (S.own h.own j i z ho hx hy h1 hs hj hk hz).mono fun H' ⟨h1, h2⟩ => ⟨⟨h1, Nat.le_trans h.le h2.size⟩, h2.weaken (fun b _ e => by have := h.at hj; omega)⟩
theorem S.owwN {x y : Operand} {t : TypeId} {c : Value} {m : Nat} (h : Ow k e H f sz v xs) (j i : Nat) (z : α) (vs : List Value) (ho : o.op = .store t x y) (hx : opv l x = some (.pointer (some ⟨blk v, j * sz + i, none⟩))) (hy : opv l y = some c) (hc : c.cells.toList = vs) (h1 : ∀ u ∈ vs, u.oneCell' = true)
    (hs : ∀ w, (sizeOf t).run P w = .ok m w) (hm : vs.length = m) (hj : j < xs.length) (hk : i + m ≤ sz) (hz : f z = splice (f xs[j]) i vs) : S P w0 n l H o (fun H' => Ow k e H' f sz v (xs.set j z) ∧ Mo (fun b => b + 1 = k) H H') :=
  (S.ownN h.own j i z vs ho hx hy hc h1 hs hm hj hk hz).mono fun H' ⟨h1, h2⟩ => ⟨⟨h1, Nat.le_trans h.le h2.size⟩, h2.weaken (fun b _ e => by have := h.at hj; omega)⟩

/-! against nil -/
theorem Y.peq {x y : Operand} {t u : TypeId} {p : Option Addr} (ho : o.op = .binOp .eql t x y u) (ht : P.underlying t = some (.pointer (P.pointee t))) (hm : P.eqGuardType P.depth t = false) (hx : opv l x = some (.pointer p)) (hy : opv l y = some (.pointer none)) : Y P w0 n l H o (.bool p.isNone) := by
  intro a w hf ha
  have h := run_equal_pointer_nil (w := w) t p ht
  simp [execOp, ho, hf.eval hx, hf.eval hy, binOp, eqGuard, h]
theorem Y.pne {x y : Operand} {t u : TypeId} {p : Option Addr} (ho : o.op = .binOp .neq t x y u) (ht : P.underlying t = some (.pointer (P.pointee t))) (hm : P.eqGuardType P.depth t = false) (hx : opv l x = some (.pointer p)) (hy : opv l y = some (.pointer none)) : Y P w0 n l H o (.bool p.isSome) := by
  intro a w hf ha
  have h := run_equal_pointer_nil (w := w) t p ht
  simp [execOp, ho, hf.eval hx, hf.eval hy, binOp, eqGuard, h]
theorem Y.sleq {x y : Operand} {t u e : TypeId} {p : Option Addr} {k c : Nat} (ho : o.op = .binOp .eql t x y u) (ht : P.underlying t = some (.slice e)) (hx : opv l x = some (.slice p k c)) (hy : opv l y = some (.slice none 0 0)) : Y P w0 n l H o (.bool p.isNone) := by
  intro a w hf ha
  have h := run_equal_slice_nil (w := w) t e p k c ht
  simp [execOp, ho, hf.eval hx, hf.eval hy, binOp, eqGuard, h]
theorem Y.slne {x y : Operand} {t u e : TypeId} {p : Option Addr} {k c : Nat} (ho : o.op = .binOp .neq t x y u) (ht : P.underlying t = some (.slice e)) (hx : opv l x = some (.slice p k c)) (hy : opv l y = some (.slice none 0 0)) : Y P w0 n l H o (.bool p.isSome) := by
  intro a w hf ha
  have h := run_equal_slice_nil (w := w) t e p k c ht
  simp [execOp, ho, hf.eval hx, hf.eval hy, binOp, eqGuard, h]
/-- []byte(".."), of a constant: the fresh row bears a mark behind its last cell -/
theorem Z.bconst {k2 : Nat} {x : Operand} {t e : TypeId} {v : Value} {xs : List UInt8} (h : Ow k2 e H fB 1 v xs) (hne : xs ≠ []) (ho : o.op = .convert t t x) (ht : P.underlying t = some (.slice e)) (he : P.underlying e = some (.int .u8)) (hx : opv l x = some v) :
    Z P w0 n l H o (fun r H' => r = v ∧ Ow k2 e H' fB 1 v xs ∧ Mo (fun b => b + 1 = k2) H H') := by
  intro a w hf ha
  rcases h.own.ex with ⟨rfl, rfl⟩ | ⟨g, cap, cur, hv, hg, hh, r1, r2, r3, r4⟩
  · exact absurd rfl hne
  · obtain ⟨⟨lo, hi⟩, hh, hs1, hs2⟩ := hh
    simp only at hs1 hs2
    have hw : w.heap[g]? = some (.cells cur e (lo, hi)) := by rw [ha.heap]; exact hh
    have hsh : w.shape? g = some (e, cur.size) := by unfold World.shape?; rw [hw]
    have hrun : (execOp a.eval o).run P w = .ok (.value v) (w.freeze ⟨g, cur.size, none⟩ 1) := by
      simp [execOp, ho, hf.eval hx, hv, convert, run_underlying ht, run_underlying he, markStringish, hsh]
    have hfr : (w.freeze ⟨g, cur.size, none⟩ 1).heap[g]? = some (.cells cur e (if lo == hi then (cur.size, cur.size + 1) else (min lo cur.size, max hi (cur.size + 1)))) := by
      unfold World.freeze
      rw [if_neg (by decide)]
      simp [Array.getElem?_modify, hw]
    have hmo : Mo (fun b => b + 1 = k2) H (w.freeze ⟨g, cur.size, none⟩ 1).heap := by
      unfold World.freeze
      rw [if_neg (by decide)]
      refine ⟨by simp [ha.heap], fun b hb hne2 => ?_⟩
      simp only [Array.getElem?_modify, ha.heap]
      rw [if_neg (by omega)]
    have hsz : (w.freeze ⟨g, cur.size, none⟩ 1).heap.size = H.size := by
      unfold World.freeze
      rw [if_neg (by decide)]
      simp [ha.heap]
    refine ⟨v, _, _, hrun, ⟨rfl, ?_, ?_, ?_, ?_⟩, rfl, ⟨⟨h.own.cells, h.own.one, .inr ⟨g, cap, cur, hv, hg, ⟨_, hfr, ?_⟩, r1, r2, r3, r4⟩⟩, by rw [hsz]; exact h.le⟩, hmo⟩
    · have := ha.os; unfold World.freeze; rw [if_neg (by decide)]; exact this
    · have := ha.tape; unfold World.freeze; rw [if_neg (by decide)]; exact this
    · have := ha.output; unfold World.freeze; rw [if_neg (by decide)]; exact this
    · have := ha.dr; unfold World.freeze; rw [if_neg (by decide)]; exact this
    · by_cases hlh : lo = hi
      · subst hlh
        simp only [beq_self_eq_true, if_true]
        refine ⟨by simp only; omega, fun i hi2 hc => ?_⟩
        simp only at hc; omega
      · rw [if_neg (by simpa using hlh)]
        refine ⟨by simp only; omega, fun i hi2 hc => ?_⟩
        simp only at hc
        have := hs2 lo
        by_cases hl : lo < cur.size
        · have := hs2 lo hl; omega
        · omega
end
/-! what is made lies above -/
section
variable {m a b : Nat} {F S : Nat → Prop} {α : Type} {e : TypeId} {H0 H H' : Heap} {f : α → List Value} {sz : Nat} {v : Value} {l : List α} {cs : List Value}
theorem DF.above {k n : Nat} (hF : ∀ b, F b → n ≤ b) (hk : k ≤ n) : DF F k := fun b h e => by have := hF b h; omega
theorem Ow.upA (x : Ow a e H f sz v l) (s : Mo (fun c => m ≤ c) H H') (d : a ≤ m) : Ow a e H' f sz v l := x.up s (fun b _ h1 h2 => by omega)
theorem Var.upA (x : Var e H b cs) (s : Mo (fun c => m ≤ c) H H') (d : b + 1 ≤ m) : Var e H' b cs := x.up s (by omega)
theorem Rd.upA (x : Rd F H f sz v l) (s : Mo (fun c => m ≤ c) H H') (d : BF F m) : Rd F H' f sz v l := x.up s (fun b _ h1 h2 => by have := d b h1; omega)
theorem Mo.trA (x : Mo S H0 H) (s : Mo (fun c => m ≤ c) H H') (d : H0.size ≤ m) : Mo S H0 H' := Mo.trans x s (fun _ _ e => e) (fun b hb e => absurd e (by omega))
end
/-! a row made with room -/
section
variable {P : Program} {w0 : World} {n : Nat} {l : FL} {H : Heap} {o : Oper} {α : Type} {e : TypeId} {f : α → List Value} {sz : Nat}
theorem Z.makecap {t : TypeId} {bytes : Nat} {x c : Operand} {kl kc : IntKind} {lv cv : Int} (k : Nat) (ho : o.op = .makeSlice t x c) (hinf : Inf P t e sz bytes)
    (hc : ∀ x, (f x).length = sz) (h1 : ∀ x, ∀ u ∈ f x, u.oneCell' = true) (hx : opv l x = some (.int kl lv)) (hl : lv = 0) (hcc : opv l c = some (.int kc cv)) (hk : cv = k) (hb : (bytes : Int) * k ≤ 281474976710656) (hk2 : k ≤ 9223372036854775807) :
    Z P w0 n l H o (fun r H' => Ow (H.size + 1) e H' f sz r ([] : List α) ∧ Nw H H' ∧ ∃ ob, H' = H.push ob) := by
  obtain ⟨ht, i, z', hi, hz', hsz, hby, hzs⟩ := hinf
  intro ac w hf ha
  subst hk hl
  have hr := run_make (P := P) w t e i z' ht hi hz' kl kc 0 k (by omega) (by omega) (by rw [hby]; exact hb) (by omega)
  simp only [Int.toNat_natCast, hsz] at hr
  refine ⟨.slice (some ⟨w.heap.size, 0, none⟩) 0 k, H.push (.cells (madeCells z'.cells (k * sz)) e), w.alloc (.cells (madeCells z'.cells (k * sz)) e), ?_, ha.alloc _, ⟨⟨hc, h1, .inr ⟨w.heap.size, k, madeCells z'.cells (k * sz), by simp, by rw [ha.heap], .of (by rw [ha.heap]; simp), by simp, by unfold maxLen; omega, size_madeCells _ _, by simp⟩⟩, by simp⟩, Nw.pu _ _, _, rfl⟩
  simp [execOp, ho, hf.eval hx, hf.eval hcc, hr]
end
/-! a place within a row that is read -/
structure PtF (F : Nat → Prop) (H : Heap) (ad : Addr) (cs : List Value) : Prop where
  pt : Pt H ad cs
  f : F ad.block
section
variable {F : Nat → Prop} {H H' : Heap} {ad : Addr} {cs : List Value} {ks : List Nat} {m : Nat}
theorem PtF.nw (h : PtF F H ad cs) (s : Nw H H') : PtF F H' ad cs := ⟨h.pt.nw s, h.f⟩
theorem PtF.upL (h : PtF F H ad cs) (s : Mo (Ms ks) H H') (d : DFL F ks) : PtF F H' ad cs := ⟨h.pt.up s (fun e => d _ e _ h.f rfl), h.f⟩
theorem PtF.upA (h : PtF F H ad cs) (s : Mo (fun c => m ≤ c) H H') (d : BF F m) : PtF F H' ad cs := ⟨h.pt.up s (fun e => by have := d _ h.f; omega), h.f⟩
end
section
variable {P : Program} {w0 : World} {n : Nat} {l : FL} {H : Heap} {o : Oper} {α : Type} {F : Nat → Prop} {f : α → List Value} {sz : Nat} {v : Value} {xs : List α}
theorem Y.indexAddrF {x i : Operand} {t e : TypeId} {k : IntKind} {iv : Int} (h : Rd F H f sz v xs) (j : Nat) (ho : o.op = .indexAddr t x i) (ht : ∀ w, (underlying t).run P w = .ok (.slice e) w) (hs : ∀ w, (sizeOf e).run P w = .ok sz w)
    (hx : opv l x = some v) (hi : opv l i = some (.int k iv)) (hj : iv = j) (hlt : j < xs.length) : ∃ ad, (∀ H', Y P w0 n l H' o (.pointer (some ad))) ∧ PtF F H ad (f xs[j]) := by
  obtain ⟨a, cap, rfl, h1, h2, h3⟩ := h.ex
  obtain ⟨ad, rfl, e2, e3, e4, e5⟩ := h3 (by intro e; subst e; simp at hlt)
  subst hj
  refine ⟨_, ?_, e5 j xs[j] (by simp [hlt]), by first | exact e3 | exact e4⟩
  intro H' ac w hf ha
  simp [execOp, ho, hf.eval hx, hf.eval hi, Instr.indexAt, asIntOf, ht, hs, hlt, add_eq e2]
end
/-! facts about a heap that hold on where nothing that was there turns, or where one block turns that is not theirs: many at once -/
class Hp (p : Prop) (H H' : Heap) (q : outParam Prop) : Prop where
  nw : Nw H H' → p → q
class Hv (p : Prop) (H H' : Heap) (q : outParam Prop) (E : outParam (Nat → Prop)) : Prop where
  up : ∀ {k : Nat}, Mo (Ms [k]) H H' → p → E k → q
class Sg (S : Nat → Prop) (k : outParam Nat) : Prop where
  h : ∀ b, S b → b + 1 = k
section
variable {α : Type} {e : TypeId} {f : α → List Value} {sz a b k : Nat} {v : Value} {l : List α} {cs ds : List Value} {F S : Nat → Prop} {ad : Addr} {ks : List Nat} {H0 H H' : Heap}
theorem DL.o (d : Dj a k) : DL a [k] := DL.cons d DL.nil
theorem DFL.o (d : DF F k) : DFL F [k] := DFL.cons d DFL.nil
theorem MIL.o {h : Nat} (d : MI ks h k) : MIL ks h [k] := MIL.cons d MIL.nil
instance : Hp (Var e H b cs) H H' (Var e H' b cs) := ⟨fun s h => h.nw s⟩
instance : Hp (Ow a e H f sz v l) H H' (Ow a e H' f sz v l) := ⟨fun s h => h.nw s⟩
instance : Hp (Qr a H f sz v l) H H' (Qr a H' f sz v l) := ⟨fun s h => h.nw s⟩
instance : Hp (Rd F H f sz v l) H H' (Rd F H' f sz v l) := ⟨fun s h => h.nw s⟩
instance : Hp (PtF F H ad cs) H H' (PtF F H' ad cs) := ⟨fun s h => h.nw s⟩
instance : Hp (Mo S H0 H) H H' (Mo S H0 H') := ⟨fun s h => Mo.trans h s (fun _ _ e => e) (fun _ _ e => e.elim)⟩
instance : Hp (Nw H0 H) H H' (Nw H0 H') := ⟨fun s h => Nw.tr h s⟩
instance {β : Sort _} {p q : β → Prop} [h : ∀ a, Hp (p a) H H' (q a)] : Hp (∀ a, p a) H H' (∀ a, q a) := ⟨fun s x a => (h a).nw s (x a)⟩
instance : Hv (Var e H b cs) H H' (Var e H' b cs) (Dj (b + 1)) := ⟨fun s h d => h.upL s (DL.o d)⟩
instance : Hv (Ow a e H f sz v l) H H' (Ow a e H' f sz v l) (Dj a) := ⟨fun s h d => h.upL s (DL.o d)⟩
instance : Hv (Qr a H f sz v l) H H' (Qr a H' f sz v l) (Dj a) := ⟨fun s h d => h.upL s (DL.o d)⟩
instance : Hv (Rd F H f sz v l) H H' (Rd F H' f sz v l) (DF F) := ⟨fun s h d => h.upL s (DFL.o d)⟩
instance : Hv (PtF F H ad cs) H H' (PtF F H' ad cs) (DF F) := ⟨fun s h d => h.upL s (DFL.o d)⟩
instance : Hv (Mo (Ms ks) H0 H) H H' (Mo (Ms ks) H0 H') (MI ks H0.size) := ⟨fun s h d => h.trL s (MIL.o d)⟩
instance : Hv (Nw H0 H) H H' (Nw H0 H') (Nx 0 H0.size) := ⟨fun s h d => (Mo.trL (ks := []) (h.mdn []) s (MIL.o (MI.app MI.z d (Nat.le_refl _)))).nil⟩
instance {β : Sort _} {p q : β → Prop} {E : Nat → Prop} [h : ∀ a, Hv (p a) H H' (q a) E] : Hv (∀ a, p a) H H' (∀ a, q a) E := ⟨fun s x d a => (h a).up s (x a) d⟩
instance : Sg (fun c => c = b) (b + 1) := ⟨fun _ h => by rw [h]⟩
instance : Sg (fun c => c + 1 = k) k := ⟨fun _ h => h⟩
instance : Sg (Ms [k]) k := ⟨fun _ h => List.mem_singleton.1 h⟩
end
section
variable {S : Nat → Prop} {k : Nat} {H H' : Heap} {p1 p2 p3 p4 p5 p6 p7 p8 q1 q2 q3 q4 q5 q6 q7 q8 : Prop} {E1 E2 E3 E4 E5 E6 E7 E8 : Nat → Prop}
theorem Sg.ms [Sg S k] (s : Mo S H H') : Mo (Ms [k]) H H' := s.weaken (fun b _ h => List.mem_singleton.2 (Sg.h b h))
theorem nw1 (s : Nw H H') [Hp p1 H H' q1] (a1 : p1) : q1 ∧ H.size ≤ H'.size := ⟨Hp.nw s a1, s.size⟩
theorem nw2 (s : Nw H H') [Hp p1 H H' q1] [Hp p2 H H' q2] (a1 : p1) (a2 : p2) : q1 ∧ q2 ∧ H.size ≤ H'.size := ⟨Hp.nw s a1, Hp.nw s a2, s.size⟩
theorem nw3 (s : Nw H H') [Hp p1 H H' q1] [Hp p2 H H' q2] [Hp p3 H H' q3] (a1 : p1) (a2 : p2) (a3 : p3) : q1 ∧ q2 ∧ q3 ∧ H.size ≤ H'.size := ⟨Hp.nw s a1, Hp.nw s a2, Hp.nw s a3, s.size⟩
theorem nw4 (s : Nw H H') [Hp p1 H H' q1] [Hp p2 H H' q2] [Hp p3 H H' q3] [Hp p4 H H' q4] (a1 : p1) (a2 : p2) (a3 : p3) (a4 : p4) : q1 ∧ q2 ∧ q3 ∧ q4 ∧ H.size ≤ H'.size := ⟨Hp.nw s a1, Hp.nw s a2, Hp.nw s a3, Hp.nw s a4, s.size⟩
theorem nw5 (s : Nw H H') [Hp p1 H H' q1] [Hp p2 H H' q2] [Hp p3 H H' q3] [Hp p4 H H' q4] [Hp p5 H H' q5] (a1 : p1) (a2 : p2) (a3 : p3) (a4 : p4) (a5 : p5) : q1 ∧ q2 ∧ q3 ∧ q4 ∧ q5 ∧ H.size ≤ H'.size := ⟨Hp.nw s a1, Hp.nw s a2, Hp.nw s a3, Hp.nw s a4, Hp.nw s a5, s.size⟩
theorem nw6 (s : Nw H H') [Hp p1 H H' q1] [Hp p2 H H' q2] [Hp p3 H H' q3] [Hp p4 H H' q4] [Hp p5 H H' q5] [Hp p6 H H' q6] (a1 : p1) (a2 : p2) (a3 : p3) (a4 : p4) (a5 : p5) (a6 : p6) : q1 ∧ q2 ∧ q3 ∧ q4 ∧ q5 ∧ q6 ∧ H.size ≤ H'.size := ⟨Hp.nw s a1, Hp.nw s a2, Hp.nw s a3, Hp.nw s a4, Hp.nw s a5, Hp.nw s a6, s.size⟩
theorem nw7 (s : Nw H H') [Hp p1 H H' q1] [Hp p2 H H' q2] [Hp p3 H H' q3] [Hp p4 H H' q4] [Hp p5 H H' q5] [Hp p6 H H' q6] [Hp p7 H H' q7] (a1 : p1) (a2 : p2) (a3 : p3) (a4 : p4) (a5 : p5) (a6 : p6) (a7 : p7) : q1 ∧ q2 ∧ q3 ∧ q4 ∧ q5 ∧ q6 ∧ q7 ∧ H.size ≤ H'.size := ⟨Hp.nw s a1, Hp.nw s a2, Hp.nw s a3, Hp.nw s a4, Hp.nw s a5, Hp.nw s a6, Hp.nw s a7, s.size⟩
theorem nw8 (s : Nw H H') [Hp p1 H H' q1] [Hp p2 H H' q2] [Hp p3 H H' q3] [Hp p4 H H' q4] [Hp p5 H H' q5] [Hp p6 H H' q6] [Hp p7 H H' q7] [Hp p8 H H' q8] (a1 : p1) (a2 : p2) (a3 : p3) (a4 : p4) (a5 : p5) (a6 : p6) (a7 : p7) (a8 : p8) : q1 ∧ q2 ∧ q3 ∧ q4 ∧ q5 ∧ q6 ∧ q7 ∧ q8 ∧ H.size ≤ H'.size := ⟨Hp.nw s a1, Hp.nw s a2, Hp.nw s a3, Hp.nw s a4, Hp.nw s a5, Hp.nw s a6, Hp.nw s a7, Hp.nw s a8, s.size⟩
theorem up1 [Sg S k] (s : Mo S H H') [Hv p1 H H' q1 E1] (a1 : p1) (d1 : E1 k) : q1 ∧ H.size ≤ H'.size := have s := Sg.ms s; ⟨Hv.up s a1 d1, s.size⟩
theorem up2 [Sg S k] (s : Mo S H H') [Hv p1 H H' q1 E1] [Hv p2 H H' q2 E2] (a1 : p1) (d1 : E1 k) (a2 : p2) (d2 : E2 k) : q1 ∧ q2 ∧ H.size ≤ H'.size := have s := Sg.ms s; ⟨Hv.up s a1 d1, Hv.up s a2 d2, s.size⟩
theorem up3 [Sg S k] (s : Mo S H H') [Hv p1 H H' q1 E1] [Hv p2 H H' q2 E2] [Hv p3 H H' q3 E3] (a1 : p1) (d1 : E1 k) (a2 : p2) (d2 : E2 k) (a3 : p3) (d3 : E3 k) : q1 ∧ q2 ∧ q3 ∧ H.size ≤ H'.size := have s := Sg.ms s; ⟨Hv.up s a1 d1, Hv.up s a2 d2, Hv.up s a3 d3, s.size⟩
theorem up4 [Sg S k] (s : Mo S H H') [Hv p1 H H' q1 E1] [Hv p2 H H' q2 E2] [Hv p3 H H' q3 E3] [Hv p4 H H' q4 E4] (a1 : p1) (d1 : E1 k) (a2 : p2) (d2 : E2 k) (a3 : p3) (d3 : E3 k) (a4 : p4) (d4 : E4 k) : q1 ∧ q2 ∧ q3 ∧ q4 ∧ H.size ≤ H'.size := have s := Sg.ms s; ⟨Hv.up s a1 d1, Hv.up s a2 d2, Hv.up s a3 d3, Hv.up s a4 d4, s.size⟩
theorem up5 [Sg S k] (s : Mo S H H') [Hv p1 H H' q1 E1] [Hv p2 H H' q2 E2] [Hv p3 H H' q3 E3] [Hv p4 H H' q4 E4] [Hv p5 H H' q5 E5] (a1 : p1) (d1 : E1 k) (a2 : p2) (d2 : E2 k) (a3 : p3) (d3 : E3 k) (a4 : p4) (d4 : E4 k) (a5 : p5) (d5 : E5 k) : q1 ∧ q2 ∧ q3 ∧ q4 ∧ q5 ∧ H.size ≤ H'.size := have s := Sg.ms s; ⟨Hv.up s a1 d1, Hv.up s a2 d2, Hv.up s a3 d3, Hv.up s a4 d4, Hv.up s a5 d5, s.size⟩
theorem up6 [Sg S k] (s : Mo S H H') [Hv p1 H H' q1 E1] [Hv p2 H H' q2 E2] [Hv p3 H H' q3 E3] [Hv p4 H H' q4 E4] [Hv p5 H H' q5 E5] [Hv p6 H H' q6 E6] (a1 : p1) (d1 : E1 k) (a2 : p2) (d2 : E2 k) (a3 : p3) (d3 : E3 k) (a4 : p4) (d4 : E4 k) (a5 : p5) (d5 : E5 k) (a6 : p6) (d6 : E6 k) : q1 ∧ q2 ∧ q3 ∧ q4 ∧ q5 ∧ q6 ∧ H.size ≤ H'.size := have s := Sg.ms s; ⟨Hv.up s a1 d1, Hv.up s a2 d2, Hv.up s a3 d3, Hv.up s a4 d4, Hv.up s a5 d5, Hv.up s a6 d6, s.size⟩
theorem up7 [Sg S k] (s : Mo S H H') [Hv p1 H H' q1 E1] [Hv p2 H H' q2 E2] [Hv p3 H H' q3 E3] [Hv p4 H H' q4 E4] [Hv p5 H H' q5 E5] [Hv p6 H H' q6 E6] [Hv p7 H H' q7 E7] (a1 : p1) (d1 : E1 k) (a2 : p2) (d2 : E2 k) (a3 : p3) (d3 : E3 k) (a4 : p4) (d4 : E4 k) (a5 : p5) (d5 : E5 k) (a6 : p6) (d6 : E6 k) (a7 : p7) (d7 : E7 k) : q1 ∧ q2 ∧ q3 ∧ q4 ∧ q5 ∧ q6 ∧ q7 ∧ H.size ≤ H'.size := have s := Sg.ms s; ⟨Hv.up s a1 d1, Hv.up s a2 d2, Hv.up s a3 d3, Hv.up s a4 d4, Hv.up s a5 d5, Hv.up s a6 d6, Hv.up s a7 d7, s.size⟩
theorem up8 [Sg S k] (s : Mo S H H') [Hv p1 H H' q1 E1] [Hv p2 H H' q2 E2] [Hv p3 H H' q3 E3] [Hv p4 H H' q4 E4] [Hv p5 H H' q5 E5] [Hv p6 H H' q6 E6] [Hv p7 H H' q7 E7] [Hv p8 H H' q8 E8] (a1 : p1) (d1 : E1 k) (a2 : p2) (d2 : E2 k) (a3 : p3) (d3 : E3 k) (a4 : p4) (d4 : E4 k) (a5 : p5) (d5 : E5 k) (a6 : p6) (d6 : E6 k) (a7 : p7) (d7 : E7 k) (a8 : p8) (d8 : E8 k) : q1 ∧ q2 ∧ q3 ∧ q4 ∧ q5 ∧ q6 ∧ q7 ∧ q8 ∧ H.size ≤ H'.size := have s := Sg.ms s; ⟨Hv.up s a1 d1, Hv.up s a2 d2, Hv.up s a3 d3, Hv.up s a4 d4, Hv.up s a5 d5, Hv.up s a6 d6, Hv.up s a7 d7, Hv.up s a8 d8, s.size⟩
end
end Go.Proofs.YtfbfjhppppoilaaDoor.E
