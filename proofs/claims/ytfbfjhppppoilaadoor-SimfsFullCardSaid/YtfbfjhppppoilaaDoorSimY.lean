/-
  The disk: a row of calls as an argument; a file that was synced stays (plain data).
-/
import Derived.Test.YtfbfjhppppoilaaDoorSimU
import Derived.Test.YtfbfjhppppoilaaDoorRead
namespace Go.Proofs.YtfbfjhppppoilaaDoor.SimY
open Go.Proofs.YtfbfjhppppoilaaDoor.E Go.RowKit Go.Proofs.YtfbfjhppppoilaaDoor.SimA Go.Proofs.YtfbfjhppppoilaaDoor.SimB Go.Proofs.YtfbfjhppppoilaaDoor.SimC Go.Proofs.YtfbfjhppppoilaaDoor.SimD Go.Proofs.YtfbfjhppppoilaaDoor.SimE Go.Proofs.YtfbfjhppppoilaaDoor.SimF Go.Proofs.YtfbfjhppppoilaaDoor.SimG Go.Proofs.YtfbfjhppppoilaaDoor.SimH Go.Proofs.YtfbfjhppppoilaaDoor.SimI Go.Proofs.YtfbfjhppppoilaaDoor.SimJ Go.Proofs.YtfbfjhppppoilaaDoor.SimK Go.Proofs.YtfbfjhppppoilaaDoor.SimL Go.Proofs.YtfbfjhppppoilaaDoor.SimM Go.Proofs.YtfbfjhppppoilaaDoor.SimN Go.Proofs.YtfbfjhppppoilaaDoor.SimP Go.Proofs.YtfbfjhppppoilaaDoor.SimQ Go.Proofs.YtfbfjhppppoilaaDoor.SimR Go.Proofs.YtfbfjhppppoilaaDoor.SimS Go.Proofs.YtfbfjhppppoilaaDoor.SimU
set_option maxRecDepth 20000
set_option linter.unusedVariables false
set_option linter.unusedSimpArgs false
set_option linter.unusedSectionVars false

/-- a call -/
structure Cl where
  kd : Int
  n : Int
  a : Pth
  b : Pth
  d : List UInt8
  dv : SV
  pk : List Int
  pv : SV
abbrev fCl (x : Cl) : List Value := [.int .i64 x.kd, .int .i64 x.n, Str x.a, Str x.b, x.dv.v, x.pv.v]
theorem fCl_len (x : Cl) : (fCl x).length = 6 := rfl
theorem fCl_one (x : Cl) : ∀ u ∈ fCl x, u.oneCell' = true := by
  intro u hu
  simp only [fCl, List.mem_cons, List.not_mem_nil, or_false] at hu
  rcases hu with rfl | rfl | rfl | rfl | rfl | rfl <;> rfl
def ClI (x : Cl) : Prop := (-9223372036854775808 ≤ x.kd ∧ x.kd ≤ 9223372036854775807) ∧ (-9223372036854775808 ≤ x.n ∧ x.n ≤ 9223372036854775807) ∧ ∀ y ∈ x.pk, -9223372036854775808 ≤ y ∧ y ≤ 9223372036854775807
section
variable {H : Type} {enc : TypeId × Value → H} {P : Program} {W : World} {base : Nat} {sp : Nat → Bool} {held : Bool}
open Go.ChangeShapes Go.WideShapes Go.ChangeAt Go.RowKit Go.Deep
theorem slice_cellC {t e : TypeId} {u : Value} {n : Nat} {y : DataW H × List MemPlace} (ht : P.underlying t = some (.slice e)) (h : DataW.trod enc P W base sp held n t [u] = some y) : ∃ s : SV, u = s.v := by
  rcases open_slice ht h with ⟨h1, _⟩ | ⟨a, len, cap, _, _, _, _, h1, _⟩
  · simp only [List.cons.injEq, and_true] at h1; exact ⟨⟨none, 0, 0⟩, h1⟩
  · simp only [List.cons.injEq, and_true] at h1; exact ⟨⟨some a, len, cap⟩, h1⟩
theorem read_calls {t e : TypeId} {f0 f1 f2 f3 f4 f5 : Field} {u8 ti : TypeId} {v : Value} {d : DataW H} {p : List MemPlace} (hv : v.cells = #[v]) (ht : P.underlying t = some (.slice e)) (he : P.underlying e = some (.struct #[f0, f1, f2, f3, f4, f5])) (hc : P.cellsOf e = 6)
    (o0 : f0.offset = 0) (o1 : f1.offset = 1) (o2 : f2.offset = 2) (o3 : f3.offset = 3) (o4 : f4.offset = 4) (o5 : f5.offset = 5)
    (c0 : P.cellsOf f0.type = 1) (c1 : P.cellsOf f1.type = 1) (c2 : P.cellsOf f2.type = 1) (c3 : P.cellsOf f3.type = 1) (c4 : P.cellsOf f4.type = 1) (c5 : P.cellsOf f5.type = 1)
    (t0 : P.underlying f0.type = some (.int .i64)) (t1 : P.underlying f1.type = some (.int .i64)) (t2 : P.underlying f2.type = some .string) (t3 : P.underlying f3.type = some .string) (t4 : P.underlying f4.type = some (.slice u8)) (t5 : P.underlying f5.type = some (.slice ti))
    (hu : P.underlying u8 = some (.int .u8)) (cu : P.cellsOf u8 = 1) (hi : P.underlying ti = some (.int .i64)) (ci : P.cellsOf ti = 1) (h : DataW.Trod enc P W base sp held t v d p) :
    ∃ l : List Cl, RdT W.heap fCl 6 v l ∧ (∀ x ∈ l, (RdT W.heap fB 1 x.dv.v x.d ∧ RdT W.heap fI 1 x.pv.v x.pk) ∧ ClI x) ∧ l.length + 1 ≤ Rows.uptoBulk d := by
  obtain ⟨l, h1, h0, h2⟩ := read_slice fCl 6 (fun _ => 1) (fun x => (RdT W.heap fB 1 x.dv.v x.d ∧ RdT W.heap fI 1 x.pv.v x.pk) ∧ ClI x) hv ht hc fCl_len (by omega) (fun n cs' y ps hy hl => by
    obtain ⟨xs, m, _, hx, hl', hlen, hf⟩ := DataW.trod_struct he hy
    match xs, hlen, hx with
    | [y0, y1, y2, y3, y4, y5], _, hx =>
      have q0 := hf 0 f0 rfl
      have q1 := hf 1 f1 rfl
      have q2 := hf 2 f2 rfl
      have q3 := hf 3 f3 rfl
      have q4 := hf 4 f4 rfl
      have q5 := hf 5 f5 rfl
      rw [o0, c0, List.drop_zero] at q0
      rw [o1, c1] at q1
      rw [o2, c2] at q2
      rw [o3, c3] at q3
      rw [o4, c4] at q4
      rw [o5, c5] at q5
      simp only [List.getElem?_cons_zero, List.getElem?_cons_succ] at q0 q1 q2 q3 q4 q5
      match cs', hl with
      | [u0, u1, u2, u3, u4, u5], _ =>
        simp only [List.take_succ_cons, List.take_zero, List.drop_succ_cons, List.drop_zero] at q0 q1 q2 q3 q4 q5
        obtain ⟨k, e0, _, w0⟩ := DataW.trod_int t0 q0
        obtain ⟨k1, e1, _, w1⟩ := DataW.trod_int t1 q1
        obtain ⟨s2, e2, _, _⟩ := DataW.trod_string t2 q2
        obtain ⟨s3, e3, _, _⟩ := DataW.trod_string t3 q3
        obtain ⟨sv4, rfl⟩ := slice_cellC t4 q4
        obtain ⟨sv5, rfl⟩ := slice_cellC t5 q5
        obtain ⟨b, hb, _⟩ := read_bytes rfl t4 hu cu (show DataW.Trod enc P W base sp held f4.type sv4.v y4.1 y4.2 from ⟨m, q4⟩)
        obtain ⟨pk, hp, wp, _⟩ := read_ints rfl t5 hi ci (show DataW.Trod enc P W base sp held f5.type sv5.v y5.1 y5.2 from ⟨m, q5⟩)
        simp only [List.cons.injEq, and_true] at e0 e1 e2 e3
        refine ⟨⟨k, k1, s2.data.toList, s3.data.toList, b, sv4, pk, sv5⟩, by rw [e0, e1, e2, e3]; rfl, ⟨⟨hb, hp⟩, i64_of w0, i64_of w1, fun y hy => i64_of (wp y hy)⟩, ?_⟩
        simp only [Prod.mk.injEq] at hx
        rw [hx.1]
        simp only [Rows.uptoBulk]
        omega) h
  exact ⟨l, h1, h0, by have := sum_len (fun _ : Cl => 1) (fun _ => by omega) l; omega⟩
end
/-! ### a file that was synced -/
def OnlyK (p : Pth) (l : Nms) : Prop := mget l p = some 0 ∧ ∀ q, q ≠ p → mget l q ≠ some 0
structure Kp (p : Pth) (x : List UInt8) (D : Dk) : Prop where
  dead : D.dead = false
  left : D.left = 0
  now : OnlyK p D.now
  st : OnlyK p D.stays
  f : fget D.fs 0 = ⟨x, x, []⟩
  fl : 1 ≤ D.fs.length
  lg : ∀ c ∈ D.log, c.g ≠ p ∧ ∀ i, c.f = some i → i ≠ 0 ∧ c.n ≠ p
theorem OnlyK.ap {p : Pth} {l : Nms} {c : Chg} (h : OnlyK p l) (hg : c.g ≠ p) (hc : ∀ i, c.f = some i → i ≠ 0 ∧ c.n ≠ p) : OnlyK p (c.ap l) := by
  refine ⟨?_, fun q hq => ?_⟩
  · rw [mget_ap]; unfold Chg.at
    cases hf : c.f with
    | none => simp only; rw [if_neg (fun e => hg e.2.symm)]; exact h.1
    | some i => simp only; rw [if_neg (fun e => (hc i hf).2 e.symm), if_neg (fun e => hg e.2.symm)]; exact h.1
  · rw [mget_ap]; unfold Chg.at
    cases hf : c.f with
    | none => simp only; split; exact nofun; exact h.2 q hq
    | some i =>
      simp only; split
      · exact fun e => (hc i hf).1 (Option.some.inj e)
      · split; exact nofun; exact h.2 q hq
theorem OnlyK.apl {p : Pth} : ∀ {cs : List Chg} {l : Nms}, OnlyK p l → (∀ c ∈ cs, c.g ≠ p ∧ ∀ i, c.f = some i → i ≠ 0 ∧ c.n ≠ p) → OnlyK p (apl cs l)
  | [], l, h, _ => h
  | c :: cs, l, h, hc => OnlyK.apl (cs := cs) (h.ap (hc c List.mem_cons_self).1 (hc c List.mem_cons_self).2) (fun d hd => hc d (List.mem_cons_of_mem _ hd))
theorem begin_go {D : Dk} (h : D.dead = false) (h2 : D.left = 0) : D.begin = (true, { D with left := D.left - 1, ops := D.ops + 1 }) := by
  unfold Dk.begin; rw [if_neg (by rw [h]; decide), if_neg (by omega)]
theorem Kp.begin {p : Pth} {x : List UInt8} {D : Dk} (h : Kp p x D) : D.begin.1 = true ∧ Kp p x D.begin.2 := by
  rw [begin_go h.dead h.left]
  exact ⟨rfl, h.dead, by show D.left - 1 = 0; rw [h.left], h.now, h.st, h.f, h.fl, h.lg⟩
theorem Kp.put {p : Pth} {x : List UInt8} {D : Dk} (h : Kp p x D) {i : Nat} (hi : i ≠ 0) (y : Fdt) : Kp p x (D.putF i y) :=
  ⟨h.dead, h.left, h.now, h.st, by
    show (D.fs.set i y).getD 0 _ = _
    rw [List.getD_eq_getElem?_getD, List.getElem?_set_ne hi, ← List.getD_eq_getElem?_getD]; exact h.f, by rw [fl_put]; exact h.fl, h.lg⟩
theorem Kp.change {p : Pth} {x : List UInt8} {D : Dk} (h : Kp p x D) (c : Chg) (hg : c.g ≠ p) (hc : ∀ i, c.f = some i → i ≠ 0 ∧ c.n ≠ p) : Kp p x (D.change c) :=
  ⟨h.dead, h.left, h.now.ap hg hc, h.st, h.f, h.fl, fun d hd => by
    rcases List.mem_append.1 hd with hd | hd
    · exact h.lg d hd
    · rw [List.mem_singleton.1 hd]; exact ⟨hg, hc⟩⟩
theorem Kp.make {p q : Pth} {x : List UInt8} {D : Dk} (h : Kp p x D) (hq : q ≠ p) (hp : p ≠ []) : Kp p x (D.make q).1 ∧ (D.make q).2 ≠ 0 := by
  unfold Dk.make
  cases hm : mget D.now q with
  | some i => exact ⟨h, fun e => h.now.2 q hq (by rw [hm]; exact congrArg some e)⟩
  | none =>
    have h1 : Kp p x ({ D with fs := D.fs ++ [⟨[], [], []⟩] } : Dk) := ⟨h.dead, h.left, h.now, h.st, by
      show (D.fs ++ [(⟨[], [], []⟩ : Fdt)]).getD 0 ⟨[], [], []⟩ = _
      rw [List.getD_eq_getElem?_getD, List.getElem?_append_left h.fl, ← List.getD_eq_getElem?_getD]; exact h.f, by show 1 ≤ (D.fs ++ [(⟨[], [], []⟩ : Fdt)]).length; have := h.fl; simp, h.lg⟩
    exact ⟨h1.change _ (fun e => hp e.symm) (fun i hi => ⟨by rw [← Option.some.inj hi]; have := h.fl; omega, hq⟩), by have := h.fl; simp only; omega⟩
theorem Kp.write {p q : Pth} {x : List UInt8} {D : Dk} (h : Kp p x D) (hq : q ≠ p) (hp : p ≠ []) (w : Wr) : Kp p x (D.write q w) := by
  unfold Dk.write
  obtain ⟨h1, h2⟩ := h.make hq hp
  exact h1.put h2 _
theorem Kp.lay {p q : Pth} {x : List UInt8} {D : Dk} (h : Kp p x D) (hq : q ≠ p) (hp : p ≠ []) (w : Wr) : Kp p x (D.lay q w).2 := by
  obtain ⟨h1, h2⟩ := h.begin
  rw [lay_go h1]
  simp only; split
  · exact h2.write hq hp w
  · exact h2
theorem Kp.sync {p q : Pth} {x : List UInt8} {D : Dk} (h : Kp p x D) (hq : q ≠ p) : Kp p x (D.sync q).2 := by
  obtain ⟨h1, h2⟩ := h.begin
  rw [sync_go h1]
  simp only; split
  · rename_i h3
    obtain ⟨_, i, hi⟩ := look_0 h3
    rw [hi]
    exact h2.put (fun e => h2.now.2 q hq (by rw [hi]; exact congrArg some e)) _
  · exact h2
theorem Kp.rename {p q r : Pth} {x : List UInt8} {D : Dk} (h : Kp p x D) (hq : q ≠ p) (hr : r ≠ p) : Kp p x (D.rename q r).2 := by
  obtain ⟨h1, h2⟩ := h.begin
  rw [ren_go h1]
  simp only; split
  · rename_i h3
    have h4 : D.begin.2.look q = 0 := by
      have := h3.1; unfold Dk.renE at this
      split at this
      · cases this
      · split at this
        · cases this
        · exact this
    obtain ⟨_, i, hi⟩ := look_0 h4
    refine h2.change _ hq (fun j hj => ⟨?_, hr⟩)
    rw [hi] at hj
    exact fun e => h2.now.2 q hq (by rw [hi]; have := Option.some.inj hj; simp at this; rw [this, e])
  · exact h2
theorem Kp.remove {p q : Pth} {x : List UInt8} {D : Dk} (h : Kp p x D) (hq : q ≠ p) : Kp p x (D.remove q).2 := by
  obtain ⟨h1, h2⟩ := h.begin
  rw [rem_go h1]
  simp only; split
  · exact h2.change _ hq nofun
  · exact h2
theorem Kp.syncDir {p : Pth} {x : List UInt8} {D : Dk} (h : Kp p x D) (hA : Asc D.now) (n : Pth) : Kp p x (D.syncDir n).2 := by
  obtain ⟨h1, h2⟩ := h.begin
  have e := (begin_same D).2.2.2.1
  rw [sd_go h1]
  simp only; split
  · refine ⟨h2.dead, h2.left, h2.now, ?_, h2.f, h2.fl, fun c hc => h2.lg c (List.mem_filter.1 hc).1⟩
    have hA2 : Asc D.begin.2.now := by rw [e]; exact hA
    refine ⟨?_, fun q hq => ?_⟩
    · show mget (merge D.begin.2.now D.begin.2.stays n) p = some 0
      rw [mget_merge hA2]; split
      · exact h2.now.1
      · exact h2.st.1
    · show mget (merge D.begin.2.now D.begin.2.stays n) q ≠ some 0
      rw [mget_merge hA2]; split
      · exact h2.now.2 q hq
      · exact h2.st.2 q hq
  · exact h2
theorem crashD_keep {p : Pth} {picks : List Int} {D : Dk} (hU : ∀ c ∈ D.log, c.g ≠ p ∧ ∀ i, c.f = some i → i ≠ 0 ∧ c.n ≠ p) : ∀ (L : List Pth) (s : Nms × Nat), OnlyK p s.1 → OnlyK p (L.foldl (crashD picks D) s).1
  | [], s, h => h
  | y :: L, s, h => by
    rw [List.foldl_cons]
    refine crashD_keep hU L _ ?_
    rw [crashD_st]; exact h.apl (fun c hc => hU c (chgs_mem (List.mem_of_mem_take hc)).1)
theorem crashF_keep {x : List UInt8} (picks : List Int) : ∀ (L : Nms) (s : List Fdt × Nat), fget s.1 0 = ⟨x, x, []⟩ → fget (L.foldl (crashF picks) s).1 0 = ⟨x, x, []⟩
  | [], s, h => h
  | y :: L, s, h => by
    rw [List.foldl_cons]
    refine crashF_keep picks L _ ?_
    unfold crashF
    simp only
    split
    · exact h
    · rename_i hw
      have hy : y.2 ≠ 0 := fun e => hw (by rw [e, h])
      show (s.1.set y.2 _).getD 0 _ = _
      rw [List.getD_eq_getElem?_getD, List.getElem?_set_ne hy, ← List.getD_eq_getElem?_getD]; exact h
theorem Kp.crash {p : Pth} {x : List UInt8} {D : Dk} (h : Kp p x D) (picks : List Int) : Kp p x (D.crash picks) := by
  have c1 := crashD_keep (picks := picks) h.lg D.dirty (D.stays, 0) h.st
  exact ⟨rfl, rfl, c1, c1, crashF_keep picks _ _ h.f, by show 1 ≤ (D.crashA picks).1.length; unfold Dk.crashA; rw [crashF_len]; exact h.fl, nofun⟩
theorem Kp.read {p : Pth} {x : List UInt8} {D : Dk} (h : Kp p x D) (hn : nameB p = true) : D.readE p = 0 ∧ D.readL p = x := read_of h.dead hn h.now.1 (by rw [h.f])
abbrev pK : Pth := [100, 47, 107, 101, 101, 112]
theorem Kp.start {x : List UInt8} (h : x.length ≤ 3000) : Kp pK x (startD pK [100] x) := by
  rw [(start_all (p := pK) (d := [100]) (by decide) (by decide) (by decide) h).2.2.2]
  refine ⟨rfl, rfl, ⟨rfl, fun q hq => ?_⟩, ⟨rfl, fun q hq => ?_⟩, rfl, Nat.le_refl _, nofun⟩
  · simp [mget, hq]
  · simp [mget, hq]
theorem pathN_ne (a : Int) : pathN a ≠ pK ∧ (pathN a).length ≤ 5 ∧ pathN a ∈ paths := by
  have h : ∀ k : Fin 5, paths.getD k.val [] ≠ pK ∧ (paths.getD k.val []).length ≤ 5 ∧ paths.getD k.val [] ∈ paths := by decide
  exact h ⟨wiN a 5, wiN_lt (by decide)⟩
theorem dirP_len (p : Pth) : (dirP p).length ≤ p.length := by
  unfold dirP headP; split
  · exact List.length_take_le' _ _
  · exact Nat.zero_le _

end Go.Proofs.YtfbfjhppppoilaaDoor.SimY
