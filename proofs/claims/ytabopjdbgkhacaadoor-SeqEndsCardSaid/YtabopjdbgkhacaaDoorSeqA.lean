/-
  Sequences: how they lie; small functions.
-/
import Derived.Laws.StructEq
import Derived.Test.YtabopjdbgkhacaaDoorNamD
namespace Go.Proofs.YtabopjdbgkhacaaDoor.SeqA
open Go.Proofs.YtabopjdbgkhacaaDoor.E Go.RowKit Go.Proofs.YtabopjdbgkhacaaDoor.NamA Go.Proofs.YtabopjdbgkhacaaDoor.NamB Go.Proofs.YtabopjdbgkhacaaDoor.NamC Go.Proofs.YtabopjdbgkhacaaDoor.NamD
set_option maxRecDepth 20000
set_option linter.unusedVariables false
set_option linter.unusedSimpArgs false
set_option linter.unusedSectionVars false

abbrev V8 (x : UInt8) : Value := .int .u8 x.toNat
abbrev Z32 : List UInt8 := List.replicate 32 0
def kc (k : List UInt8) : List Value := ((k ++ List.replicate 32 0).take 32).map V8
@[simp] theorem kc_len (k : List UInt8) : (kc k).length = 32 := by simp [kc]
theorem kc_eq {k : List UInt8} (h : k.length = 32) : kc k = k.map V8 := by
  unfold kc
  rw [List.take_append_of_le_length (by omega), List.take_of_length_le (by omega)]
theorem kc_one (k : List UInt8) : ∀ u ∈ kc k, u.oneCell' = true := by
  intro u hu
  obtain ⟨b, _, rfl⟩ := List.mem_map.1 hu; rfl
structure Td where
  d : Int
  i : List UInt8
instance : DecidableEq Td := fun a b => decidable_of_iff (a.d = b.d ∧ a.i = b.i) (by cases a; cases b; simp)
def fT (x : Td) : List Value := .int .i64 x.d :: kc x.i
theorem fT_len (x : Td) : (fT x).length = 33 := by simp [fT]
theorem fT_one (x : Td) : ∀ u ∈ fT x, u.oneCell' = true := by
  intro u hu
  rcases List.mem_cons.1 hu with rfl | hu
  · rfl
  · exact kc_one _ u hu
structure Sq where
  k : Int
  br : List UInt8
  og : List UInt8
  cu : List UInt8
  tv : SV
  td : List Td
  dn : Int
  md : Int
  st : Bool
def fQe (x : Sq) : List Value := [x.tv.v, .int .i64 x.dn, .int .i64 x.md, .bool x.st]
def fQ (x : Sq) : List Value := .int .i64 x.k :: Str x.br :: (kc x.og ++ (kc x.cu ++ fQe x))
theorem fQ_len (x : Sq) : (fQ x).length = 70 := by simp [fQ, fQe]
theorem fQ_one (x : Sq) : ∀ u ∈ fQ x, u.oneCell' = true := by
  intro u hu
  simp only [fQ, fQe, List.mem_cons, List.mem_append, List.not_mem_nil, or_false] at hu
  rcases hu with rfl | rfl | hu | hu | rfl | rfl | rfl | rfl
  · rfl
  · rfl
  · exact kc_one _ u hu
  · exact kc_one _ u hu
  all_goals rfl
abbrev qv (x : Sq) : Value := .agg (fQ x).toArray
abbrev tv_ (x : Td) : Value := .agg (fT x).toArray
theorem fQ_66 (x : Sq) : (fQ x).drop 66 = fQe x := by
  have e : fQ x = (.int .i64 x.k :: Str x.br :: (kc x.og ++ kc x.cu)) ++ fQe x := by simp [fQ]
  rw [e]; exact List.drop_left' (by simp)
theorem fQ_og (x : Sq) : ((fQ x).drop 2).take 32 = kc x.og := by
  show (kc x.og ++ _).take 32 = _
  exact List.take_left' (kc_len _)
theorem fQ_34 (x : Sq) : (fQ x).drop 34 = kc x.cu ++ fQe x := by
  have e : fQ x = (.int .i64 x.k :: Str x.br :: kc x.og) ++ (kc x.cu ++ fQe x) := by simp [fQ]
  rw [e]; exact List.drop_left' (by simp)
theorem fQ_cu (x : Sq) : ((fQ x).drop 34).take 32 = kc x.cu := by rw [fQ_34]; exact List.take_left' (kc_len _)
theorem set66 (x : Sq) (j : Nat) (v : Value) : (fQ x).set (66 + j) v = (fQ x).take 66 ++ (fQe x).set j v := by
  conv => lhs; rw [← List.take_append_drop 66 (fQ x), fQ_66]
  rw [List.set_append, if_neg (by simp [fQ_len])]
  simp [fQ_len]
theorem take66 (x : Sq) : (fQ x).take 66 = .int .i64 x.k :: Str x.br :: (kc x.og ++ kc x.cu) := by
  have e : fQ x = (.int .i64 x.k :: Str x.br :: (kc x.og ++ kc x.cu)) ++ fQe x := by simp [fQ]
  rw [e]; exact List.take_left' (by simp)
theorem cat66 (x y : Sq) (h : (fQ x).take 66 = (fQ y).take 66) (v : List Value) (hv : v = fQe y) : (fQ x).take 66 ++ v = fQ y := by
  rw [h, hv, ← fQ_66 y, List.take_append_drop]
theorem q_tv (x : Sq) (s : SV) (l : List Td) : (fQ x).set 66 s.v = fQ { x with tv := s, td := l } := by
  rw [set66 x 0]; exact cat66 x { x with tv := s, td := l } (by rw [take66, take66]) _ rfl
theorem q_dn (x : Sq) (n : Int) : (fQ x).set 67 (.int .i64 n) = fQ { x with dn := n } := by
  rw [set66 x 1]; exact cat66 x { x with dn := n } (by rw [take66, take66]) _ rfl
theorem q_md (x : Sq) (n : Int) : (fQ x).set 68 (.int .i64 n) = fQ { x with md := n } := by
  rw [set66 x 2]; exact cat66 x { x with md := n } (by rw [take66, take66]) _ rfl
theorem q_st (x : Sq) (b : Bool) : (fQ x).set 69 (.bool b) = fQ { x with st := b } := by
  rw [set66 x 3]; exact cat66 x { x with st := b } (by rw [take66, take66]) _ rfl
theorem q_k (x : Sq) (n : Int) : (fQ x).set 0 (.int .i64 n) = fQ { x with k := n } := rfl
theorem q_br (x : Sq) (b : List UInt8) : (fQ x).set 1 (Str b) = fQ { x with br := b } := rfl
theorem q_cu (x : Sq) (c : List UInt8) : splice (fQ x) 34 (kc c) = fQ { x with cu := c } := by
  have e : fQ x = (.int .i64 x.k :: Str x.br :: kc x.og) ++ (kc x.cu ++ fQe x) := by simp [fQ]
  unfold splice
  rw [e, List.take_left' (by simp), kc_len, show 34 + 32 = (.int .i64 x.k :: Str x.br :: kc x.og : List Value).length + (kc x.cu).length by simp, ← List.drop_drop, List.drop_left, List.drop_left]
  simp [fQ, fQe]
section
variable {H : Heap} {ad : Addr} {x : Sq}
theorem _root_.Go.Proofs.YtabopjdbgkhacaaDoor.E.Pt.q66 (h : Pt H ad (fQ x)) : Pt H (ad.add 66) (fQe x) := by have := h.drop 66; rwa [fQ_66] at this
theorem _root_.Go.Proofs.YtabopjdbgkhacaaDoor.E.Pt.q67 (h : Pt H ad (fQ x)) : Pt H (ad.add 67) [.int .i64 x.dn, .int .i64 x.md, .bool x.st] := by
  have := h.q66.drop 1
  rwa [show (ad.add 66).add 1 = ad.add 67 from by cases ad; rfl] at this
end
theorem l32 : ∀ {k : List UInt8}, k.length = 32 → ∃ b0 b1 b2 b3 b4 b5 b6 b7 b8 b9 b10 b11 b12 b13 b14 b15 b16 b17 b18 b19 b20 b21 b22 b23 b24 b25 b26 b27 b28 b29 b30 b31 : UInt8, k = [b0, b1, b2, b3, b4, b5, b6, b7, b8, b9, b10, b11, b12, b13, b14, b15, b16, b17, b18, b19, b20, b21, b22, b23, b24, b25, b26, b27, b28, b29, b30, b31] := by
  intro k h
  match k, h with
  | [b0, b1, b2, b3, b4, b5, b6, b7, b8, b9, b10, b11, b12, b13, b14, b15, b16, b17, b18, b19, b20, b21, b22, b23, b24, b25, b26, b27, b28, b29, b30, b31], _ => exact ⟨b0, b1, b2, b3, b4, b5, b6, b7, b8, b9, b10, b11, b12, b13, b14, b15, b16, b17, b18, b19, b20, b21, b22, b23, b24, b25, b26, b27, b28, b29, b30, b31, rfl⟩
abbrev NIL : Value := .slice none 0 0
def zQ : Sq := ⟨0, [], Z32, Z32, ⟨none, 0, 0⟩, [], 0, 0, false⟩
/-- the state that is nothing; the transaction that bears a sequence alone -/
def fZ : List Value := Str [] :: NIL :: NIL :: (fQ zQ ++ [NIL])
def fX (x : Sq) : List Value := .bool false :: Str [] :: NIL :: .bool true :: (fQ x ++ [NIL])
theorem fZ_73 : fZ.drop 73 = [NIL] := by
  have e : fZ = (Str [] :: NIL :: NIL :: fQ zQ) ++ [NIL] := by simp [fZ]
  rw [e]; exact List.drop_left' (by simp [fQ_len])
theorem zPt {H : Heap} {ad : Addr} (h : Pt H ad fZ) : Pt H (ad.add 73) [NIL] := by have := h.drop 73; rwa [fZ_73] at this
theorem fX_len (x : Sq) : (fX x).length = 75 := by simp [fX, fQ_len]
theorem fX_q (x : Sq) : ((fX x).drop 4).take 70 = fQ x := by
  show (fQ x ++ _).take 70 = _
  exact List.take_left' (fQ_len x)
theorem fX_74 (x : Sq) : (fX x).drop 74 = [NIL] := by
  have e : fX x = (.bool false :: Str [] :: NIL :: .bool true :: fQ x) ++ [NIL] := by simp [fX]
  rw [e]; exact List.drop_left' (by simp [fQ_len])
section
variable {H : Heap} {ad : Addr} {x : Sq}
theorem _root_.Go.Proofs.YtabopjdbgkhacaaDoor.E.Pt.x74 (h : Pt H ad (fX x)) : Pt H (ad.add 74) [NIL] := by have := h.drop 74; rwa [fX_74] at this
theorem _root_.Go.Proofs.YtabopjdbgkhacaaDoor.E.Pt.x4 (h : Pt H ad (fX x)) : Pt H (ad.add 4) (fQ x ++ [NIL]) := h.drop 4
theorem _root_.Go.Proofs.YtabopjdbgkhacaaDoor.E.Pt.x4k (h : Pt H ad (fX x)) : Pt H ((ad.add 4).add 0) (fQ x ++ [NIL]) := h.x4.drop 0
end
theorem build_tx {x : Sq} (ho : x.og.length = 32) (hc : x.cu.length = 32) (w : World) : (Instr.build 49 #[(3, .bool true), (4, qv x)]).run Tryd.prog w = .ok (.agg (fX x).toArray) w := by
  obtain ⟨k, br, og, cu, tv, td, dn, md, st⟩ := x
  simp only at ho hc
  simp only [qv, fX, fQ, fQe, kc_eq ho, kc_eq hc]
  obtain ⟨b0, b1, b2, b3, b4, b5, b6, b7, b8, b9, b10, b11, b12, b13, b14, b15, b16, b17, b18, b19, b20, b21, b22, b23, b24, b25, b26, b27, b28, b29, b30, b31, rfl⟩ := l32 ho
  obtain ⟨c0, c1, c2, c3, c4, c5, c6, c7, c8, c9, c10, c11, c12, c13, c14, c15, c16, c17, c18, c19, c20, c21, c22, c23, c24, c25, c26, c27, c28, c29, c30, c31, rfl⟩ := l32 hc
  kernel_rfl
theorem build_td {i : List UInt8} (d : Int) (h : i.length = 32) (w : World) : (Instr.build 29 #[(0, .int .i64 d), (1, idV i)]).run Tryd.prog w = .ok (tv_ ⟨d, i⟩) w := by
  simp only [tv_, fT, kc_eq h]
  obtain ⟨b0, b1, b2, b3, b4, b5, b6, b7, b8, b9, b10, b11, b12, b13, b14, b15, b16, b17, b18, b19, b20, b21, b22, b23, b24, b25, b26, b27, b28, b29, b30, b31, rfl⟩ := l32 h
  kernel_rfl
theorem td0 (d : Int) (i : List UInt8) (w : World) : (part 3 (fT ⟨d, i⟩).toArray 0).run Tryd.prog w = .ok (.int .i64 d) w := by simp [part, Tryd.isAgg3, fT]
theorem td1 (d : Int) {i : List UInt8} (h : i.length = 32) (w : World) : (part 23 (fT ⟨d, i⟩).toArray 1).run Tryd.prog w = .ok (idV i) w := by
  have e : List.take 32 (fT ⟨d, i⟩).tail = i.map V8 := by
    rw [show (fT ⟨d, i⟩).tail = kc i from rfl, List.take_of_length_le (by simp), kc_eq h]
  simp [part, Tryd.isAgg23, Tryd.sizeOf23, e]
theorem td_hf : (Tryd.prog.fieldsOf 29).toList.map (fun f => (f.name, f.type, f.offset)) = [("Do", 3, 0), ("Id", 23, 1)] := by kernel_rfl
theorem eqF (d0 : Nat) {fs : List Field} (hf : fs.map (fun f => (f.name, f.type, f.offset)) = [("Do", 3, 0), ("Id", 23, 1)]) (ad bd : Int) {ai bi : List UInt8} (ha : ai.length = 32) (hb : bi.length = 32) (w : World) : (Op.eqFields (d0 + 2) (fT ⟨ad, ai⟩).toArray (fT ⟨bd, bi⟩).toArray fs).run Tryd.prog w = .ok (decide (ad = bd ∧ ai = bi)) w := by
  have e0 := run_equalIn_int (P := Tryd.prog) w (d0 + 1) 3 .i64 .i64 ad bd Tryd.underlying3
  have e1 := run_equalIn_id (P := Tryd.prog) d0 Tryd.underlying23 Tryd.underlying5 Tryd.sizeOf5 Tryd.isAgg5 ha hb w
  cases fs with
  | nil => simp at hf
  | cons f0 fs =>
  cases fs with
  | nil => simp at hf
  | cons f1 fs =>
  cases fs with
  | cons _ _ => simp at hf
  | nil =>
    simp only [List.map_cons, List.map_nil, List.cons.injEq, Prod.mk.injEq, and_true] at hf
    obtain ⟨⟨n0, t0, o0⟩, n1, t1, o1⟩ := hf
    have u0 : f0.name ≠ "_" := by rw [n0]; decide
    have u1 : f1.name ≠ "_" := by rw [n1]; decide
    unfold Op.eqFields
    rw [if_pos u0, t0, o0]
    unfold Op.eqFields
    rw [if_pos u1, t1, o1]
    unfold Op.eqFields
    simp only [Sem.run_bind, td0, td1 _ ha, td1 _ hb, Result.andThen_ok, e0]
    by_cases h0 : ad = bd
    · have h2 : (ad == bd) = true := by simpa using h0
      rw [h2]
      simp only [Bool.not_true, Bool.false_eq_true, if_false, Sem.run_bind, td1 _ ha, td1 _ hb, Result.andThen_ok, e1]
      by_cases h1 : ai = bi
      · simp [h0, h1]
      · simp [h0, h1]
    · have h2 : (ad == bd) = false := by simpa using h0
      rw [h2]
      simp [h0]

theorem td_s : Tryd.prog.underlying 29 = some (.struct (Tryd.prog.fieldsOf 29)) := by kernel_rfl
theorem td_p : Tryd.prog.stoodInHeld 29 = false := by kernel_rfl
/-- steps compared -/
theorem eqTd {a b : Td} (ha : a.i.length = 32) (hb : b.i.length = 32) (w : World) : (Op.equalIn (9999 + 1) 29 (tv_ a) (tv_ b)).run Tryd.prog w = .ok (decide (a = b)) w := by
  have h := run_equalIn_struct w 9999 29 (fT a).toArray (fT b).toArray td_s td_p
  rw [h]
  have h2 := eqF 9997 td_hf a.d b.d ha hb w
  have h3 : (a.d = b.d ∧ a.i = b.i) ↔ a = b := by cases a; cases b; simp
  rw [decide_eq_decide.2 h3] at h2
  exact h2
def mustL (b : Bool) (e : Int) : Int := if b = true then 0 else e
def firstL : List Int → Int
  | [] => 0
  | e :: l => if e ≠ 0 then e else firstL l
theorem first_at {l : List Int} {j : Nat} (h : ∀ x ∈ l.take j, x = 0) (hj : j < l.length) (h0 : l[j] ≠ 0) : firstL l = l[j] := by
  induction l generalizing j with
  | nil => simp at hj
  | cons e l ih =>
    cases j with
    | zero => simp only [List.getElem_cons_zero] at h0 ⊢; rw [firstL, if_pos h0]
    | succ j =>
      have he : e = 0 := h e (by simp)
      rw [firstL, if_neg (by simpa using he)]
      exact ih (fun x hx => h x (by simp [hx])) (by simpa using hj) (by simpa using h0)
theorem first_no : ∀ {l : List Int}, (∀ x ∈ l, x = 0) → firstL l = 0
  | [], _ => rfl
  | e :: l, h => by rw [firstL, if_neg (by simpa using h e (by simp)), first_no (fun x hx => h x (by simp [hx]))]
theorem z_step {l : List Int} {j : Nat} (h : ∀ x ∈ l.take j, x = 0) (hj : j < l.length) (h0 : l[j] = 0) : ∀ x ∈ l.take (j + 1), x = 0 := by
  intro x hx
  rw [List.take_succ_eq_append_getElem hj] at hx
  rcases List.mem_append.1 hx with hx | hx
  · exact h x hx
  · rw [List.mem_singleton] at hx; rw [hx]; exact h0

theorem rmust_ct (b : Bool) (e : Int) (w0 : World) (H0 : Heap)
     :
    Ct Tryd.prog w0 26 #[.bool b, .int .i64 e] H0 (fun r H2 => r = .int .i64 (mustL b e) ∧ Nw H0 H2) := by
  refine Ct.enter (args := [.bool b, .int .i64 e]) Tryd.func26 rfl rfl rfl ?_
  intro Q0 hret
  have hm0 : Nw H0 H0 := Mo.refl _ _
  refine CW.seq (fun K1 hK1 hE1 => ?_)
  refine CW.region ?_
  refine LR.v (Y.assign rfl rfl) (Wd.u rfl) rfl rfl ?_
  refine LR.nil ?_
  refine hK1 _ _ ?_
  refine CW.seq (fun K2 hK2 hE2 => ?_)
  refine CW.seq (fun K3 hK3 hE3 => ?_)
  refine CW.region ?_
  refine LR.v (Y.move rfl rfl) (Wd.u rfl) rfl rfl ?_
  refine LR.nil ?_
  refine hK3 _ _ ?_
  refine CW.cond rfl (fun c5 => ?_) (fun c5 => ?_)
  ·
    refine CW.seq (fun K4 hK4 hE4 => ?_)
    refine CW.region ?_
    refine LR.v (Y.assign rfl rfl) (Wd.u rfl) rfl rfl ?_
    refine LR.nil ?_
    refine hK4 _ _ ?_
    refine CW.ret (hE2 .ret nofun _ _ (hret .ret (.inr rfl) _ _ _ (res1 rfl rfl) ?_))
    exact ⟨by first | (rw [mustL, if_pos (by assumption)]) | (rw [mustL, if_neg (by simp_all)]), hm0⟩
  ·
    refine CW.skip ?_
    refine hK2 _ _ ?_
    refine CW.seq (fun K5 hK5 hE5 => ?_)
    refine CW.region ?_
    refine LR.v (Y.move rfl rfl) (Wd.u rfl) rfl rfl ?_
    refine LR.v (Y.assign rfl rfl) (Wd.u rfl) rfl rfl ?_
    refine LR.nil ?_
    refine hK5 _ _ ?_
    refine CW.ret (hret .ret (.inr rfl) _ _ _ (res1 rfl rfl) ?_)
    exact ⟨by first | (rw [mustL, if_pos (by assumption)]) | (rw [mustL, if_neg (by simp_all)]), hm0⟩

theorem rfirst_ct (v : Value) (l : List Int) (w0 : World) (H0 : Heap)
    (hl : RdT H0 fI 1 v l) :
    Ct Tryd.prog w0 27 #[v] H0 (fun r H2 => r = .int .i64 (firstL l) ∧ Nw H0 H2) := by
  refine Ct.enter (args := [v]) Tryd.func27 rfl rfl rfl ?_
  intro Q0 hret
  have hm0 : Nw H0 H0 := Mo.refl _ _
  replace hl := hl.bnd
  have bf_hl := Rd.bf hl
  have hll := hl.len
  refine CW.seq (fun K1 hK1 hE1 => ?_)
  refine CW.region ?_
  refine LR.v (Y.assign rfl rfl) (Wd.u rfl) rfl rfl ?_
  refine LR.nil ?_
  refine hK1 _ _ ?_
  refine CW.seq (fun K2 hK2 hE2 => ?_)
  refine CW.seq (fun K3 hK3 hE3 => ?_)
  refine CW.region ?_
  refine LR.v (Y.move rfl rfl) (Wd.u rfl) rfl rfl ?_
  refine LR.v (Y.len hl rfl Tryd.runUnderlying62 rfl) (Wd.u rfl) rfl rfl ?_
  refine LR.v (Y.move rfl rfl) (Wd.u rfl) rfl rfl ?_
  refine LR.nil ?_
  refine hK3 _ _ ?_
  refine CW.block (fun K4 hK4 hX4 hE4 => ?_)
  refine CW.loop (fun (j : (Nat)) => [(5, v), (6, .int .i64 l.length), (7, .int .i64 j)])
    (fun (j : (Nat)) (H : Heap) => (j ≤ l.length) ∧ (∀ x ∈ l.take j, x = 0) ∧ Nw H0 H)
    (fun (j : (Nat)) => l.length - j) 0 ⟨rfl, rfl, rfl, trivial⟩ ?_ ?_
  ·
    exact ⟨(by omega), (fun x h => by simp at h), Mo.refl _ _⟩
  intro j HL1 hI1 K5 hN5 hE5
  obtain ⟨hj, ha, hlm1⟩ := hI1
  replace hl := hl.nw hlm1
  replace hm0 := hm0.tr hlm1
  have hz1 := hlm1.size
  refine CW.seq (fun K6 hK6 hE6 => ?_)
  refine CW.region ?_
  refine LR.v (Y.lss rfl rfl rfl) (Wd.u rfl) rfl rfl ?_
  refine LR.nil ?_
  refine hK6 _ _ ?_
  refine CW.seq (fun K7 hK7 hE7 => ?_)
  refine CW.condp rfl (fun c8 => ?_) (fun c8 => ?_)
  ·
    refine CW.skip ?_
    refine hK7 _ _ ?_
    refine CW.seq (fun K8 hK8 hE8 => ?_)
    refine CW.block (fun K9 hK9 hX9 hE9 => ?_)
    refine CW.seq (fun K10 hK10 hE10 => ?_)
    refine CW.region ?_
    refine LR.e (g := fun ad => .pointer (some ad)) (Y.indexAddrF hl (j) rfl Tryd.runUnderlying62 Tryd.sizeOf32 rfl rfl (by first | rfl | omega) (by first | omega | (simp; omega) | (simp; done))) (Wd.u rfl) rfl rfl (fun ad9 pt9 => ?_)
    have bf_pt9 := bf_hl
    refine LR.v (Y.load1 pt9.pt rfl Tryd.isAgg32 rfl) (Wd.u rfl) rfl rfl ?_
    refine LR.v (Y.assign rfl rfl) (Wd.u rfl) rfl rfl ?_
    refine LR.nil ?_
    refine hK10 _ _ ?_
    refine CW.seq (fun K11 hK11 hE11 => ?_)
    refine CW.region ?_
    refine LR.v (Y.move rfl rfl) (Wd.u rfl) rfl rfl ?_
    refine LR.v (Y.neq rfl rfl rfl) (Wd.u rfl) rfl rfl ?_
    refine LR.nil ?_
    refine hK11 _ _ ?_
    refine CW.condp rfl (fun c12 => ?_) (fun c12 => ?_)
    ·
      refine CW.seq (fun K12 hK12 hE12 => ?_)
      refine CW.region ?_
      refine LR.v (Y.move rfl rfl) (Wd.u rfl) rfl rfl ?_
      refine LR.v (Y.assign rfl rfl) (Wd.u rfl) rfl rfl ?_
      refine LR.nil ?_
      refine hK12 _ _ ?_
      refine CW.ret (hE9 .ret nofun (by simp) _ _ (hE8 .ret nofun _ _ (hE5 .ret nofun _ _ (hE4 .ret nofun (by simp) _ _ (hE2 .ret nofun _ _ (hret .ret (.inr rfl) _ _ _ (res1 rfl rfl) ?_))))))
      exact ⟨by rw [first_at ha (by omega) c12], hm0⟩
    ·
      refine CW.skip ?_
      refine hK9 _ _ ?_
      refine hK8 _ _ ?_
      refine CW.region ?_
      refine LR.v (Y.addi rfl rfl rfl (by omega)) (Wd.u rfl) rfl rfl ?_
      refine LR.v (Y.move rfl rfl) (Wd.u rfl) rfl rfl ?_
      refine LR.nil ?_
      refine QN.sub (hN5 (j + 1) _ ?_ ?_) ⟨rfl, (iv (by omega)), (iv (by omega)), trivial⟩
      · exact ⟨(by omega), z_step ha (by omega) (by simpa using c12), hlm1⟩
      · first | omega | (simp only; omega) | (simp; omega)
  ·
    refine CW.exit (hE7 (.exit 0) nofun _ _ (hE5 (.exit 0) nofun _ _ (hX4 _ _ ?_)))
    refine hK2 _ _ ?_
    refine CW.seq (fun K13 hK13 hE13 => ?_)
    refine CW.region ?_
    refine LR.v (Y.assign rfl rfl) (Wd.u rfl) rfl rfl ?_
    refine LR.nil ?_
    refine hK13 _ _ ?_
    refine CW.ret (hret .ret (.inr rfl) _ _ _ (res1 rfl rfl) ?_)
    exact ⟨by rw [List.take_of_length_le (by omega)] at ha; rw [first_no ha], hm0⟩

theorem rnone_ct (i : List UInt8) (w0 : World) (H0 : Heap)
    (hi : i.length = 32) :
    Ct Tryd.prog w0 46 #[idV i] H0 (fun r H2 => r = .bool (decide (i = Z32)) ∧ Nw H0 H2) := by
  refine Ct.enter (args := [idV i]) Tryd.func46 rfl rfl rfl ?_
  intro Q0 hret
  have hm0 : Nw H0 H0 := Mo.refl _ _
  refine CW.seq (fun K1 hK1 hE1 => ?_)
  refine CW.region ?_
  refine LR.z (Z.boxv rfl rfl) (Wd.u rfl) rfl rfl (fun v1 H1 r1 => ?_)
  obtain ⟨rfl, hb, hs1, ob1, hH1⟩ := r1
  have hzs1 : H1.size = H0.size + 1 := by rw [hH1]; simp
  have nx1 : Nx 0 H0.size (H0.size + 1) := Nx.new hm0.size
  replace hm0 := hm0.tr hs1
  have hz1 := hs1.size
  replace hb : Var 23 H1 H0.size (i.map V8) := hb
  refine LR.v (Y.assign rfl rfl) (Wd.u rfl) rfl rfl ?_
  refine LR.nil ?_
  refine hK1 _ _ ?_
  refine CW.seq (fun K2 hK2 hE2 => ?_)
  refine CW.region ?_
  refine LR.v (Y.cast (v2 := idV i) (Y.loadN hb.pt rfl Tryd.isAgg23 Tryd.sizeOf23 (by simp [hi]) rfl) (rfl)) (Wd.u rfl) rfl rfl ?_
  refine LR.v (Y.build (v := idV Z32) rfl rfl (by intro w; kernel_rfl)) (Wd.u rfl) rfl rfl ?_
  refine LR.v (Y.aeql rfl Tryd.eqGuardType23 (fun w => run_equalIn_id 9998 Tryd.underlying23 Tryd.underlying5 Tryd.sizeOf5 Tryd.isAgg5 (hi) (by simp) w) rfl rfl) (Wd.u rfl) rfl rfl ?_
  refine LR.v (Y.assign rfl rfl) (Wd.u rfl) rfl rfl ?_
  refine LR.nil ?_
  refine hK2 _ _ ?_
  refine CW.ret (hret .ret (.inr rfl) _ _ _ (res1 rfl rfl) ?_)
  exact ⟨rfl, hm0⟩

theorem longest1_ct  (w0 : World) (H0 : Heap)
     :
    Ct Tryd.prog w0 70 #[.int .i64 1] H0 (fun r H2 => r = .int .i64 255 ∧ Nw H0 H2) := by
  refine Ct.enter (args := [.int .i64 1]) Tryd.func70 rfl rfl rfl ?_
  intro Q0 hret
  have hm0 : Nw H0 H0 := Mo.refl _ _
  refine CW.seq (fun K1 hK1 hE1 => ?_)
  refine CW.region ?_
  refine LR.v (Y.assign rfl rfl) (Wd.u rfl) rfl rfl ?_
  refine LR.nil ?_
  refine hK1 _ _ ?_
  refine CW.seq (fun K2 hK2 hE2 => ?_)
  refine CW.region ?_
  refine LR.v (Y.move rfl rfl) (Wd.u rfl) rfl rfl ?_
  refine LR.v (Y.cast (v2 := .int .i64 8) (Y.muli rfl rfl rfl (by decide)) (rfl)) (Wd.u rfl) rfl rfl ?_
  refine LR.v (Y.cast (v2 := .int .i64 256) (Y.shln (8) rfl rfl rfl rfl (by decide) (by decide)) (rfl)) (Wd.u rfl) rfl rfl ?_
  refine LR.v (Y.subi rfl rfl rfl (by decide)) (Wd.u rfl) rfl rfl ?_
  refine LR.v (Y.assign rfl rfl) (Wd.u rfl) rfl rfl ?_
  refine LR.nil ?_
  refine hK2 _ _ ?_
  refine CW.ret (hret .ret (.inr rfl) _ _ _ (res1 rfl rfl) ?_)
  exact ⟨rfl, hm0⟩

theorem longest2_ct  (w0 : World) (H0 : Heap)
     :
    Ct Tryd.prog w0 70 #[.int .i64 2] H0 (fun r H2 => r = .int .i64 65535 ∧ Nw H0 H2) := by
  refine Ct.enter (args := [.int .i64 2]) Tryd.func70 rfl rfl rfl ?_
  intro Q0 hret
  have hm0 : Nw H0 H0 := Mo.refl _ _
  refine CW.seq (fun K1 hK1 hE1 => ?_)
  refine CW.region ?_
  refine LR.v (Y.assign rfl rfl) (Wd.u rfl) rfl rfl ?_
  refine LR.nil ?_
  refine hK1 _ _ ?_
  refine CW.seq (fun K2 hK2 hE2 => ?_)
  refine CW.region ?_
  refine LR.v (Y.move rfl rfl) (Wd.u rfl) rfl rfl ?_
  refine LR.v (Y.cast (v2 := .int .i64 16) (Y.muli rfl rfl rfl (by decide)) (rfl)) (Wd.u rfl) rfl rfl ?_
  refine LR.v (Y.cast (v2 := .int .i64 65536) (Y.shln (16) rfl rfl rfl rfl (by decide) (by decide)) (rfl)) (Wd.u rfl) rfl rfl ?_
  refine LR.v (Y.subi rfl rfl rfl (by decide)) (Wd.u rfl) rfl rfl ?_
  refine LR.v (Y.assign rfl rfl) (Wd.u rfl) rfl rfl ?_
  refine LR.nil ?_
  refine hK2 _ _ ?_
  refine CW.ret (hret .ret (.inr rfl) _ _ _ (res1 rfl rfl) ?_)
  exact ⟨rfl, hm0⟩

theorem truth_ct (b : Bool) (n : UInt64) (w0 : World) (H0 : Heap)
     :
    Ct Tryd.prog w0 52 #[.bool b, .int .u64 n.toNat] H0 (fun r H2 => r = .int .u64 (if b = true then n else 0 : UInt64).toNat ∧ Nw H0 H2) := by
  refine Ct.enter (args := [.bool b, .int .u64 n.toNat]) Tryd.func52 rfl rfl rfl ?_
  intro Q0 hret
  have hm0 : Nw H0 H0 := Mo.refl _ _
  refine CW.seq (fun K1 hK1 hE1 => ?_)
  refine CW.region ?_
  refine LR.v (Y.assign rfl rfl) (Wd.u rfl) rfl rfl ?_
  refine LR.nil ?_
  refine hK1 _ _ ?_
  refine CW.seq (fun K2 hK2 hE2 => ?_)
  refine CW.seq (fun K3 hK3 hE3 => ?_)
  refine CW.region ?_
  refine LR.v (Y.move rfl rfl) (Wd.u rfl) rfl rfl ?_
  refine LR.nil ?_
  refine hK3 _ _ ?_
  refine CW.cond rfl (fun c5 => ?_) (fun c5 => ?_)
  ·
    refine CW.seq (fun K4 hK4 hE4 => ?_)
    refine CW.region ?_
    refine LR.v (Y.move rfl rfl) (Wd.u rfl) rfl rfl ?_
    refine LR.v (Y.assign rfl rfl) (Wd.u rfl) rfl rfl ?_
    refine LR.nil ?_
    refine hK4 _ _ ?_
    refine CW.ret (hE2 .ret nofun _ _ (hret .ret (.inr rfl) _ _ _ (res1 rfl rfl) ?_))
    exact ⟨by first | (rw [if_pos (by assumption)]) | (rw [if_neg (by simp_all)]; rfl), hm0⟩
  ·
    refine CW.skip ?_
    refine hK2 _ _ ?_
    refine CW.seq (fun K5 hK5 hE5 => ?_)
    refine CW.region ?_
    refine LR.v (Y.assign rfl rfl) (Wd.u rfl) rfl rfl ?_
    refine LR.nil ?_
    refine hK5 _ _ ?_
    refine CW.ret (hret .ret (.inr rfl) _ _ _ (res1 rfl rfl) ?_)
    exact ⟨by first | (rw [if_pos (by assumption)]) | (rw [if_neg (by simp_all)]; rfl), hm0⟩

theorem smust_ct (v : Value) (e : Int) (w0 : World) (H0 : Heap)
     :
    Ct Tryd.prog w0 69 #[v, .bool true, .int .i64 e] H0 (fun r H2 => r = .tuple #[] ∧ Nw H0 H2) := by
  refine Ct.enter (args := [v, .bool true, .int .i64 e]) Tryd.func69 rfl rfl rfl ?_
  intro Q0 hret
  have hm0 : Nw H0 H0 := Mo.refl _ _
  refine CW.seq (fun K1 hK1 hE1 => ?_)
  refine CW.region ?_
  refine LR.v (Y.move rfl rfl) (Wd.u rfl) rfl rfl ?_
  refine LR.v (Y.not rfl rfl) (Wd.u rfl) rfl rfl ?_
  refine LR.nil ?_
  refine hK1 _ _ ?_
  refine CW.cond_f rfl ?_
  refine CW.skip ?_
  refine hret .normal (.inl rfl) _ _ _ (res0 rfl) ?_
  exact ⟨rfl, hm0⟩

end Go.Proofs.YtabopjdbgkhacaaDoor.SeqA
