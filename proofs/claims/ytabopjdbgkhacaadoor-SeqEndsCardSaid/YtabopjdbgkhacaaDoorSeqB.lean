/-
  Sequences: what is wrong with one, by the program and by the document.
-/
import Derived.Test.YtabopjdbgkhacaaDoorSeqA
namespace Go.Proofs.YtabopjdbgkhacaaDoor.SeqB
open Go.Proofs.YtabopjdbgkhacaaDoor.E Go.RowKit Go.Proofs.YtabopjdbgkhacaaDoor.NamA Go.Proofs.YtabopjdbgkhacaaDoor.NamB Go.Proofs.YtabopjdbgkhacaaDoor.NamC Go.Proofs.YtabopjdbgkhacaaDoor.NamD Go.Proofs.YtabopjdbgkhacaaDoor.SeqA
set_option maxRecDepth 20000
set_option linter.unusedVariables false
set_option linter.unusedSimpArgs false
set_option linter.unusedSectionVars false
set_option maxRecDepth 100000 in
theorem inf62 : Inf Tryd.prog 62 32 1 8 := ⟨Tryd.underlying62, _, _, rfl, rfl, rfl, rfl, rfl⟩

def argB (x : Sq) : Bool := decide (¬ x.og = Z32 ∧ ¬ x.cu = Z32 ∧ 0 ≤ x.dn ∧ x.dn ≤ x.td.length ∧ 0 ≤ x.md ∧ x.md ≤ x.dn ∧ ¬ (x.st = true ∧ x.dn = x.td.length))
def stepE (t : Td) : Int := if ¬ (1 ≤ t.d ∧ t.d ≤ 3) then 3 else if t.i = Z32 then 1 else 0
def todoE : List Td → Int
  | [] => 0
  | t :: l => if stepE t ≠ 0 then stepE t else todoE l
/-- what is wrong with a sequence that is one -/
def seqE (x : Sq) : Int := if ¬ (x.k = 1 ∨ x.k = 2) then 3 else if chk x.br ≠ 0 then 7 else if argB x = false then 1 else if 100 < x.td.length then 4 else todoE x.td
theorem todoE_snoc : ∀ (l : List Td) (t : Td), todoE (l ++ [t]) = if todoE l ≠ 0 then todoE l else stepE t
  | [], t => by by_cases h : stepE t = 0 <;> simp [todoE, h]
  | a :: l, t => by
    rw [List.cons_append, todoE, todoE, todoE_snoc l t]
    by_cases h : stepE a ≠ 0
    · rw [if_pos h, if_pos h, if_pos h]
    · rw [if_neg h, if_neg h]
theorem todoE_take {l : List Td} {i : Nat} (hi : i < l.length) : todoE (l.take (i + 1)) = if todoE (l.take i) ≠ 0 then todoE (l.take i) else stepE l[i] := by
  rw [List.take_succ_eq_append_getElem hi, todoE_snoc]
theorem step_first (e : Int) (t : Td) : firstL [e, mustL (decide (1 ≤ t.d ∧ t.d ≤ 3)) 3, mustL (decide (¬ t.i = Z32)) 1] = if e ≠ 0 then e else stepE t := by
  unfold stepE
  simp only [firstL, mustL, decide_eq_true_eq]
  by_cases h0 : e ≠ 0
  · rw [if_pos h0, if_pos h0]
  · rw [if_neg h0, if_neg h0]
    by_cases h1 : 1 ≤ t.d ∧ t.d ≤ 3 <;> by_cases h2 : t.i = Z32 <;> simp [h1, h2]
def headE (x : Sq) : Int := firstL [mustL (decide (x.k = 1 ∨ x.k = 2)) 3, chk x.br, mustL (argB x) 1, mustL (decide (x.td.length ≤ 100)) 4]
theorem seqE_head (x : Sq) : seqE x = if headE x ≠ 0 then headE x else todoE x.td := by
  unfold seqE headE
  simp only [firstL, mustL, decide_eq_true_eq]
  rcases chk_or x.br with hc | hc
  · by_cases h1 : x.k = 1 ∨ x.k = 2 <;> cases h2 : argB x <;> by_cases h3 : x.td.length ≤ 100 <;> simp [h1, h3, hc] <;> omega
  · by_cases h1 : x.k = 1 ∨ x.k = 2 <;> cases h2 : argB x <;> by_cases h3 : x.td.length ≤ 100 <;> simp [h1, h3, hc]
theorem rmust_to {b : Bool} (q : Bool) (e : Int) (h : b = q) (w0 : World) (H0 : Heap) : Ct Tryd.prog w0 26 #[.bool b, .int .i64 e] H0 (fun r H2 => r = .int .i64 (mustL q e) ∧ Nw H0 H2) := by subst h; exact rmust_ct b e w0 H0
theorem argT {x : Sq} (h1 : ¬ x.og = Z32) (h2 : ¬ x.cu = Z32) (h3 : 0 ≤ x.dn) (h4 : x.dn ≤ x.td.length) (h5 : 0 ≤ x.md) (h6 : x.md ≤ x.dn) (h7 : x.st = true) : decide (¬ x.dn = (x.td.length : Int)) = argB x :=
  decide_eq_decide.2 ⟨fun h => ⟨h1, h2, h3, h4, h5, h6, fun e => h e.2⟩, fun h e => h.2.2.2.2.2.2 ⟨h7, e⟩⟩
theorem argS {x : Sq} (h1 : ¬ x.og = Z32) (h2 : ¬ x.cu = Z32) (h3 : 0 ≤ x.dn) (h4 : x.dn ≤ x.td.length) (h5 : 0 ≤ x.md) (h6 : x.md ≤ x.dn) (h7 : x.st = false) : (!false) = argB x :=
  (decide_eq_true ⟨h1, h2, h3, h4, h5, h6, fun e => by rw [h7] at e; cases e.1⟩).symm
theorem splice_all2 {a b : List Value} (h : a.length = b.length) : splice a 0 b = b := by simp [splice, h]
structure SqW (x : Sq) : Prop where
  ho : x.og.length = 32
  hc : x.cu.length = 32
  ht : ∀ t ∈ x.td, t.i.length = 32
  hb : x.br.length ≤ 9223372036854775807

set_option maxHeartbeats 4000000 in
theorem seq_ct (x : Sq) (mx_ : Int) (w0 : World) (H0 : Heap)
    (mx : MX mx_ H0) (bf_mx : BF (fun b => b = 0) H0.size) (hl : RdT H0 fT 33 x.tv.v x.td) (hw : SqW x) (hk0 : x.k ≠ 0) :
    Ct Tryd.prog w0 30 #[qv x] H0 (fun r H2 => r = .int .i64 (seqE x) ∧ Nw H0 H2) := by
  refine Ct.enter (args := [qv x]) Tryd.func30 rfl rfl rfl ?_
  intro Q0 hret
  have hm0 : Nw H0 H0 := Mo.refl _ _
  replace hl := hl.bnd
  have bf_hl := Rd.bf hl
  have hll := hl.len
  refine CW.seq (fun K1 hK1 hE1 => ?_)
  refine CW.region ?_
  refine LR.z (Z.boxv rfl rfl) (Wd.u rfl) rfl rfl (fun v1 H1 r1 => ?_)
  obtain ⟨rfl, va, hs1, ob1, hH1⟩ := r1
  have hzs1 : H1.size = H0.size + 1 := by rw [hH1]; simp
  have df1 := (DF.new (bf_mx.mono hm0.size) : DF _ (H0.size + 1))
  have df2 := (DF.new (bf_hl.mono hm0.size) : DF _ (H0.size + 1))
  have nx3 : Nx 0 H0.size (H0.size + 1) := Nx.new hm0.size
  replace mx := mx.nw hs1
  replace hl := hl.nw hs1
  replace hm0 := hm0.tr hs1
  have hz1 := hs1.size
  replace va : Var 26 H1 H0.size (fQ x) := va
  refine LR.v (Y.assign rfl rfl) (Wd.u rfl) rfl rfl ?_
  refine LR.nil ?_
  refine hK1 _ _ ?_
  refine CW.seq (fun K2 hK2 hE2 => ?_)
  refine CW.seq (fun K3 hK3 hE3 => ?_)
  refine CW.region ?_
  refine LR.v (Y.fieldAddr va.pt rfl Tryd.runUnderlying26 rfl rfl Tryd.sizeOf3 (by decide) rfl) (Wd.u rfl) rfl rfl ?_
  refine LR.v (Y.load1 va.pt rfl Tryd.isAgg3 rfl) (Wd.u rfl) rfl rfl ?_
  refine LR.v (Y.eql rfl rfl rfl) (Wd.u rfl) rfl rfl ?_
  refine LR.nil ?_
  refine hK3 _ _ ?_
  refine CW.condp rfl (fun c9 => ?_) (fun c9 => ?_)
  ·
    refine CW.seq (fun K4 hK4 hE4 => ?_)
    refine CW.region ?_
    refine LR.v (Y.assign rfl rfl) (Wd.u rfl) rfl rfl ?_
    refine LR.nil ?_
    refine hK4 _ _ ?_
    refine CW.ret (hE2 .ret nofun _ _ (hret .ret (.inr rfl) _ _ _ (res1 rfl rfl) ?_))
    exact ⟨by exact absurd (by assumption) hk0, hm0⟩
  ·
    refine CW.skip ?_
    refine hK2 _ _ ?_
    refine CW.seq (fun K5 hK5 hE5 => ?_)
    refine CW.region ?_
    refine LR.v (Y.fieldAddr va.pt rfl Tryd.runUnderlying26 rfl rfl Tryd.sizeOf24 (by decide) rfl) (Wd.u rfl) rfl rfl ?_
    refine LR.v (Y.load1 va.pt.q66 rfl Tryd.isAgg24 rfl) (Wd.u rfl) rfl rfl ?_
    refine LR.v (Y.len hl rfl Tryd.runUnderlying24 rfl) (Wd.u rfl) rfl rfl ?_
    refine LR.v (Y.assign rfl rfl) (Wd.u rfl) rfl rfl ?_
    refine LR.nil ?_
    refine hK5 _ _ ?_
    refine CW.cut (fun (e0 : (Int)) => [(1, .pointer (some ⟨H0.size, 0, none⟩)), (4, .int .i64 e0)])
      (fun (e0 : (Int)) (H : Heap) => (e0 = headE x) ∧ Nw H1 H) (fun K6 hK6 hE6 => ?_) ?_
    ·
      have hcm6 : Nw H1 H1 := Mo.refl _ _
      refine CW.region_any (fun Hq => Nw H1 Hq) [] rfl ?_
      have hqs := Nw.refl H1
      refine LH.take 0 (by kernel_rfl) rfl (by kernel_rfl) (by kernel_rfl) (by kernel_rfl) (fun Hq hq => Y.fieldAddr (va.pt.nw hq) rfl Tryd.runUnderlying26 rfl rfl Tryd.sizeOf3 (by decide) rfl) (Wd.u rfl) rfl rfl hqs ?_
      refine LH.take 1 (by kernel_rfl) rfl (by kernel_rfl) (by kernel_rfl) (by kernel_rfl) (fun Hq hq => Y.load1 (va.pt.nw hq) rfl Tryd.isAgg3 rfl) (Wd.u rfl) rfl rfl hqs ?_
      refine LH.take 2 (by kernel_rfl) rfl (by kernel_rfl) (by kernel_rfl) (by kernel_rfl) (fun Hq hq => Y.eql rfl rfl rfl) (Wd.u rfl) rfl rfl hqs ?_
      refine LH.take 3 (by kernel_rfl) rfl (by kernel_rfl) (by kernel_rfl) (by kernel_rfl) (fun Hq hq => Y.move rfl rfl) (Wd.u rfl) rfl rfl hqs ?_
      refine LH.splitp (d := 16) rfl (fun g16 => ?_) (fun g16 => ?_)
      ·
        refine LH.gs 4 (by kernel_rfl) rfl (by kernel_rfl) (by kernel_rfl) (by kernel_rfl) rfl rfl rfl rfl rfl rfl hqs ?_
        refine LH.gs 5 (by kernel_rfl) rfl (by kernel_rfl) (by kernel_rfl) (by kernel_rfl) rfl rfl rfl rfl rfl rfl hqs ?_
        refine LH.gs 6 (by kernel_rfl) rfl (by kernel_rfl) (by kernel_rfl) (by kernel_rfl) rfl rfl rfl rfl rfl rfl hqs ?_
        refine LH.take 7 (by kernel_rfl) rfl (by kernel_rfl) (by kernel_rfl) (by kernel_rfl) (fun Hq hq => Y.pick_t rfl rfl rfl) (Wd.u rfl) rfl rfl hqs ?_
        refine LH.take 9 (by kernel_rfl) rfl (by kernel_rfl) (by kernel_rfl) (by kernel_rfl) (fun Hq hq => Y.fieldAddr (va.pt.nw hq) rfl Tryd.runUnderlying26 rfl rfl Tryd.sizeOf9 (by decide) rfl) (Wd.u rfl) rfl rfl hqs ?_
        refine LH.take 10 (by kernel_rfl) rfl (by kernel_rfl) (by kernel_rfl) (by kernel_rfl) (fun Hq hq => Y.load1 ((va.pt.drop 1).nw hq) rfl Tryd.isAgg9 rfl) (Wd.u rfl) rfl rfl hqs ?_
        refine LH.take 12 (by kernel_rfl) rfl (by kernel_rfl) (by kernel_rfl) (by kernel_rfl) (fun Hq hq => Y.fieldAddr (va.pt.nw hq) rfl Tryd.runUnderlying26 rfl rfl Tryd.sizeOf23 (by decide) rfl) (Wd.u rfl) rfl rfl hqs ?_
        refine LH.take 13 (by kernel_rfl) rfl (by kernel_rfl) (by kernel_rfl) (by kernel_rfl) (fun Hq hq => Y.cast (v2 := idV x.og) (Y.loadN (((va.pt.drop 2).nw hq).take 32) rfl Tryd.isAgg23 Tryd.sizeOf23 (by simp [fQ_len]) rfl) (congrArg (fun z : List Value => Value.agg z.toArray) ((fQ_og _).trans (kc_eq hw.ho)))) (Wd.u rfl) rfl rfl hqs ?_
        refine LH.take 57 (by kernel_rfl) rfl (by kernel_rfl) (by kernel_rfl) (by kernel_rfl) (fun Hq hq => Y.move rfl rfl) (Wd.u rfl) rfl rfl hqs ?_
        refine LH.take 58 (by kernel_rfl) rfl (by kernel_rfl) (by kernel_rfl) (by kernel_rfl) (fun Hq hq => Y.leq rfl rfl rfl) (Wd.u rfl) rfl rfl hqs ?_
        refine LH.one (i := 8) (by kernel_rfl) ?_
        -- call selvage/refs.must
        refine LO.call rfl rfl Tryd.call26 rfl (Wd.u rfl) rfl rfl (rmust_to (decide (x.k = 1 ∨ x.k = 2)) 3 (by first | (exact (decide_eq_true (by omega)).symm) | (exact (decide_eq_false (by omega)).symm) | (exact decide_eq_decide.2 (by omega))) w0 _) (fun v21 H21 r21 => ?_)
        obtain ⟨rfl, hs21⟩ := r21
        replace mx := mx.nw hs21
        replace hl := hl.nw hs21
        replace va := va.nw hs21
        replace hm0 := hm0.tr hs21
        replace hcm6 := hcm6.tr hs21
        have hz2 := hs21.size
        have hq21 := hqs.tr hs21
        refine ⟨.inr hq21, LH.narrow (SH2 := fun Hq => Nw H21 Hq) (fun Hq hq => hq21.tr hq) ?_⟩
        have hqn21 := Nw.refl H21
        refine LH.one (i := 11) (by kernel_rfl) ?_
        -- call selvage/name.Check
        refine LO.call rfl rfl Tryd.call28 rfl (Wd.u rfl) rfl rfl (chk_ct x.br mx_ w0 _ mx (bf_mx.mono (by omega)) hw.hb) (fun v24 H24 r24 => ?_)
        obtain ⟨rfl, hs24⟩ := r24
        replace mx := mx.nw hs24
        replace hl := hl.nw hs24
        replace va := va.nw hs24
        replace hm0 := hm0.tr hs24
        replace hcm6 := hcm6.tr hs24
        have hz3 := hs24.size
        have hq24 := hqn21.tr hs24
        refine ⟨.inr hq24, LH.narrow (SH2 := fun Hq => Nw H24 Hq) (fun Hq hq => hq24.tr hq) ?_⟩
        have hqn24 := Nw.refl H24
        refine LH.one (i := 14) (by kernel_rfl) ?_
        -- call selvage/refs.none
        refine LO.call rfl rfl Tryd.call46 rfl (Wd.u rfl) rfl rfl (rnone_ct x.og w0 _ hw.ho) (fun v27 H27 r27 => ?_)
        obtain ⟨rfl, hs27⟩ := r27
        replace mx := mx.nw hs27
        replace hl := hl.nw hs27
        replace va := va.nw hs27
        replace hm0 := hm0.tr hs27
        replace hcm6 := hcm6.tr hs27
        have hz4 := hs27.size
        have hq27 := hqn24.tr hs27
        refine ⟨.inr hq27, LH.narrow (SH2 := fun Hq => Nw H27 Hq) (fun Hq hq => hq27.tr hq) ?_⟩
        have hqn27 := Nw.refl H27
        refine LH.take 15 (by kernel_rfl) rfl (by kernel_rfl) (by kernel_rfl) (by kernel_rfl) (fun Hq hq => Y.notp rfl rfl) (Wd.u rfl) rfl rfl hqn27 ?_
        refine LH.take 16 (by kernel_rfl) rfl (by kernel_rfl) (by kernel_rfl) (by kernel_rfl) (fun Hq hq => Y.move rfl rfl) (Wd.u rfl) rfl rfl hqn27 ?_
        refine LH.splitp (d := 29) rfl (fun g29 => ?_) (fun g29 => ?_)
        ·
          refine LH.take 17 (by kernel_rfl) rfl (by kernel_rfl) (by kernel_rfl) (by kernel_rfl) (fun Hq hq => Y.fieldAddr (va.pt.nw hq) rfl Tryd.runUnderlying26 rfl rfl Tryd.sizeOf23 (by decide) rfl) (Wd.g rfl rfl rfl) rfl rfl hqn27 ?_
          refine LH.take 18 (by kernel_rfl) rfl (by kernel_rfl) (by kernel_rfl) (by kernel_rfl) (fun Hq hq => Y.cast (v2 := idV x.cu) (Y.loadN (((va.pt.drop 34).nw hq).take 32) rfl Tryd.isAgg23 Tryd.sizeOf23 (by simp [fQ_len]) rfl) (congrArg (fun z : List Value => Value.agg z.toArray) ((fQ_cu _).trans (kc_eq hw.hc)))) (Wd.g rfl rfl rfl) rfl rfl hqn27 ?_
          refine LH.one (i := 19) (by kernel_rfl) ?_
          -- call selvage/refs.none
          refine LO.call rfl rfl Tryd.call46 rfl (Wd.g rfl rfl rfl) rfl rfl (rnone_ct x.cu w0 _ hw.hc) (fun v32 H32 r32 => ?_)
          obtain ⟨rfl, hs32⟩ := r32
          replace mx := mx.nw hs32
          replace hl := hl.nw hs32
          replace va := va.nw hs32
          replace hm0 := hm0.tr hs32
          replace hcm6 := hcm6.tr hs32
          have hz5 := hs32.size
          have hq32 := hqn27.tr hs32
          refine ⟨.inr hq32, LH.narrow (SH2 := fun Hq => Nw H32 Hq) (fun Hq hq => hq32.tr hq) ?_⟩
          have hqn32 := Nw.refl H32
          refine LH.take 20 (by kernel_rfl) rfl (by kernel_rfl) (by kernel_rfl) (by kernel_rfl) (fun Hq hq => Y.notp rfl rfl) (Wd.g rfl rfl rfl) rfl rfl hqn32 ?_
          refine LH.take 21 (by kernel_rfl) rfl (by kernel_rfl) (by kernel_rfl) (by kernel_rfl) (fun Hq hq => Y.pick_t rfl rfl rfl) (Wd.u rfl) rfl rfl hqn32 ?_
          refine LH.take 22 (by kernel_rfl) rfl (by kernel_rfl) (by kernel_rfl) (by kernel_rfl) (fun Hq hq => Y.move rfl rfl) (Wd.u rfl) rfl rfl hqn32 ?_
          refine LH.splitp (d := 35) rfl (fun g35 => ?_) (fun g35 => ?_)
          ·
            refine LH.take 23 (by kernel_rfl) rfl (by kernel_rfl) (by kernel_rfl) (by kernel_rfl) (fun Hq hq => Y.fieldAddr (va.pt.nw hq) rfl Tryd.runUnderlying26 rfl rfl Tryd.sizeOf3 (by decide) rfl) (Wd.g rfl rfl rfl) rfl rfl hqn32 ?_
            refine LH.take 24 (by kernel_rfl) rfl (by kernel_rfl) (by kernel_rfl) (by kernel_rfl) (fun Hq hq => Y.load1 (va.pt.q67.nw hq) rfl Tryd.isAgg3 rfl) (Wd.g rfl rfl rfl) rfl rfl hqn32 ?_
            refine LH.take 25 (by kernel_rfl) rfl (by kernel_rfl) (by kernel_rfl) (by kernel_rfl) (fun Hq hq => Y.geq rfl rfl rfl) (Wd.g rfl rfl rfl) rfl rfl hqn32 ?_
            refine LH.take 26 (by kernel_rfl) rfl (by kernel_rfl) (by kernel_rfl) (by kernel_rfl) (fun Hq hq => Y.pick_t rfl rfl rfl) (Wd.u rfl) rfl rfl hqn32 ?_
            refine LH.take 27 (by kernel_rfl) rfl (by kernel_rfl) (by kernel_rfl) (by kernel_rfl) (fun Hq hq => Y.move rfl rfl) (Wd.u rfl) rfl rfl hqn32 ?_
            refine LH.splitp (d := 40) rfl (fun g40 => ?_) (fun g40 => ?_)
            ·
              refine LH.take 28 (by kernel_rfl) rfl (by kernel_rfl) (by kernel_rfl) (by kernel_rfl) (fun Hq hq => Y.fieldAddr (va.pt.nw hq) rfl Tryd.runUnderlying26 rfl rfl Tryd.sizeOf3 (by decide) rfl) (Wd.g rfl rfl rfl) rfl rfl hqn32 ?_
              refine LH.take 29 (by kernel_rfl) rfl (by kernel_rfl) (by kernel_rfl) (by kernel_rfl) (fun Hq hq => Y.load1 (va.pt.q67.nw hq) rfl Tryd.isAgg3 rfl) (Wd.g rfl rfl rfl) rfl rfl hqn32 ?_
              refine LH.take 30 (by kernel_rfl) rfl (by kernel_rfl) (by kernel_rfl) (by kernel_rfl) (fun Hq hq => Y.move rfl rfl) (Wd.g rfl rfl rfl) rfl rfl hqn32 ?_
              refine LH.take 31 (by kernel_rfl) rfl (by kernel_rfl) (by kernel_rfl) (by kernel_rfl) (fun Hq hq => Y.leq rfl rfl rfl) (Wd.g rfl rfl rfl) rfl rfl hqn32 ?_
              refine LH.take 32 (by kernel_rfl) rfl (by kernel_rfl) (by kernel_rfl) (by kernel_rfl) (fun Hq hq => Y.pick_t rfl rfl rfl) (Wd.u rfl) rfl rfl hqn32 ?_
              refine LH.take 33 (by kernel_rfl) rfl (by kernel_rfl) (by kernel_rfl) (by kernel_rfl) (fun Hq hq => Y.move rfl rfl) (Wd.u rfl) rfl rfl hqn32 ?_
              refine LH.splitp (d := 46) rfl (fun g46 => ?_) (fun g46 => ?_)
              ·
                refine LH.take 34 (by kernel_rfl) rfl (by kernel_rfl) (by kernel_rfl) (by kernel_rfl) (fun Hq hq => Y.fieldAddr (va.pt.nw hq) rfl Tryd.runUnderlying26 rfl rfl Tryd.sizeOf3 (by decide) rfl) (Wd.g rfl rfl rfl) rfl rfl hqn32 ?_
                refine LH.take 35 (by kernel_rfl) rfl (by kernel_rfl) (by kernel_rfl) (by kernel_rfl) (fun Hq hq => Y.load1 ((va.pt.q67.drop 1).nw hq) rfl Tryd.isAgg3 rfl) (Wd.g rfl rfl rfl) rfl rfl hqn32 ?_
                refine LH.take 36 (by kernel_rfl) rfl (by kernel_rfl) (by kernel_rfl) (by kernel_rfl) (fun Hq hq => Y.geq rfl rfl rfl) (Wd.g rfl rfl rfl) rfl rfl hqn32 ?_
                refine LH.take 37 (by kernel_rfl) rfl (by kernel_rfl) (by kernel_rfl) (by kernel_rfl) (fun Hq hq => Y.pick_t rfl rfl rfl) (Wd.u rfl) rfl rfl hqn32 ?_
                refine LH.take 38 (by kernel_rfl) rfl (by kernel_rfl) (by kernel_rfl) (by kernel_rfl) (fun Hq hq => Y.move rfl rfl) (Wd.u rfl) rfl rfl hqn32 ?_
                refine LH.splitp (d := 51) rfl (fun g51 => ?_) (fun g51 => ?_)
                ·
                  refine LH.take 39 (by kernel_rfl) rfl (by kernel_rfl) (by kernel_rfl) (by kernel_rfl) (fun Hq hq => Y.fieldAddr (va.pt.nw hq) rfl Tryd.runUnderlying26 rfl rfl Tryd.sizeOf3 (by decide) rfl) (Wd.g rfl rfl rfl) rfl rfl hqn32 ?_
                  refine LH.take 40 (by kernel_rfl) rfl (by kernel_rfl) (by kernel_rfl) (by kernel_rfl) (fun Hq hq => Y.load1 ((va.pt.q67.drop 1).nw hq) rfl Tryd.isAgg3 rfl) (Wd.g rfl rfl rfl) rfl rfl hqn32 ?_
                  refine LH.take 41 (by kernel_rfl) rfl (by kernel_rfl) (by kernel_rfl) (by kernel_rfl) (fun Hq hq => Y.fieldAddr (va.pt.nw hq) rfl Tryd.runUnderlying26 rfl rfl Tryd.sizeOf3 (by decide) rfl) (Wd.g rfl rfl rfl) rfl rfl hqn32 ?_
                  refine LH.take 42 (by kernel_rfl) rfl (by kernel_rfl) (by kernel_rfl) (by kernel_rfl) (fun Hq hq => Y.load1 (va.pt.q67.nw hq) rfl Tryd.isAgg3 rfl) (Wd.g rfl rfl rfl) rfl rfl hqn32 ?_
                  refine LH.take 43 (by kernel_rfl) rfl (by kernel_rfl) (by kernel_rfl) (by kernel_rfl) (fun Hq hq => Y.leq rfl rfl rfl) (Wd.g rfl rfl rfl) rfl rfl hqn32 ?_
                  refine LH.take 44 (by kernel_rfl) rfl (by kernel_rfl) (by kernel_rfl) (by kernel_rfl) (fun Hq hq => Y.pick_t rfl rfl rfl) (Wd.u rfl) rfl rfl hqn32 ?_
                  refine LH.take 45 (by kernel_rfl) rfl (by kernel_rfl) (by kernel_rfl) (by kernel_rfl) (fun Hq hq => Y.move rfl rfl) (Wd.u rfl) rfl rfl hqn32 ?_
                  refine LH.splitp (d := 58) rfl (fun g58 => ?_) (fun g58 => ?_)
                  ·
                    refine LH.take 46 (by kernel_rfl) rfl (by kernel_rfl) (by kernel_rfl) (by kernel_rfl) (fun Hq hq => Y.fieldAddr (va.pt.nw hq) rfl Tryd.runUnderlying26 rfl rfl Tryd.sizeOf4 (by decide) rfl) (Wd.g rfl rfl rfl) rfl rfl hqn32 ?_
                    refine LH.take 47 (by kernel_rfl) rfl (by kernel_rfl) (by kernel_rfl) (by kernel_rfl) (fun Hq hq => Y.load1 ((va.pt.q67.drop 2).nw hq) rfl Tryd.isAgg4 rfl) (Wd.g rfl rfl rfl) rfl rfl hqn32 ?_
                    refine LH.take 48 (by kernel_rfl) rfl (by kernel_rfl) (by kernel_rfl) (by kernel_rfl) (fun Hq hq => Y.move rfl rfl) (Wd.g rfl rfl rfl) rfl rfl hqn32 ?_
                    refine LH.split (d := 61) rfl (fun g61 => ?_) (fun g61 => ?_)
                    ·
                      refine LH.take 49 (by kernel_rfl) rfl (by kernel_rfl) (by kernel_rfl) (by kernel_rfl) (fun Hq hq => Y.fieldAddr (va.pt.nw hq) rfl Tryd.runUnderlying26 rfl rfl Tryd.sizeOf3 (by decide) rfl) (Wd.g rfl rfl rfl) rfl rfl hqn32 ?_
                      refine LH.take 50 (by kernel_rfl) rfl (by kernel_rfl) (by kernel_rfl) (by kernel_rfl) (fun Hq hq => Y.load1 (va.pt.q67.nw hq) rfl Tryd.isAgg3 rfl) (Wd.g rfl rfl rfl) rfl rfl hqn32 ?_
                      refine LH.take 51 (by kernel_rfl) rfl (by kernel_rfl) (by kernel_rfl) (by kernel_rfl) (fun Hq hq => Y.move rfl rfl) (Wd.g rfl rfl rfl) rfl rfl hqn32 ?_
                      refine LH.take 52 (by kernel_rfl) rfl (by kernel_rfl) (by kernel_rfl) (by kernel_rfl) (fun Hq hq => Y.eql rfl rfl rfl) (Wd.g rfl rfl rfl) rfl rfl hqn32 ?_
                      refine LH.take 53 (by kernel_rfl) rfl (by kernel_rfl) (by kernel_rfl) (by kernel_rfl) (fun Hq hq => Y.pick_t rfl rfl rfl) (Wd.g rfl rfl rfl) rfl rfl hqn32 ?_
                      refine LH.take 54 (by kernel_rfl) rfl (by kernel_rfl) (by kernel_rfl) (by kernel_rfl) (fun Hq hq => Y.notp rfl rfl) (Wd.g rfl rfl rfl) rfl rfl hqn32 ?_
                      refine LH.take 55 (by kernel_rfl) rfl (by kernel_rfl) (by kernel_rfl) (by kernel_rfl) (fun Hq hq => Y.pick_t rfl rfl rfl) (Wd.u rfl) rfl rfl hqn32 ?_
                      refine LH.one (i := 56) (by kernel_rfl) ?_
                      -- call selvage/refs.must
                      refine LO.call rfl rfl Tryd.call26 rfl (Wd.u rfl) rfl rfl (rmust_to (argB x) 1 (by first | exact argT g29 g35 g40 g46 g51 g58 g61 | exact argS g29 g35 g40 g46 g51 g58 g61 | exact (decide_eq_false (by rintro ⟨h1, h2, h3, h4, h5, h6, h7⟩; first | (exact absurd h1 (by assumption)) | (exact absurd h2 (by assumption)) | omega)).symm) w0 _) (fun v69 H69 r69 => ?_)
                      obtain ⟨rfl, hs69⟩ := r69
                      replace mx := mx.nw hs69
                      replace hl := hl.nw hs69
                      replace va := va.nw hs69
                      replace hm0 := hm0.tr hs69
                      replace hcm6 := hcm6.tr hs69
                      have hz6 := hs69.size
                      have hq69 := hqn32.tr hs69
                      refine ⟨.inr hq69, LH.narrow (SH2 := fun Hq => Nw H69 Hq) (fun Hq hq => hq69.tr hq) ?_⟩
                      have hqn69 := Nw.refl H69
                      refine LH.one (i := 59) (by kernel_rfl) ?_
                      -- call selvage/refs.must
                      refine LO.call rfl rfl Tryd.call26 rfl (Wd.u rfl) rfl rfl (rmust_to (decide (x.td.length ≤ 100)) 4 (by first | (exact (decide_eq_true (by omega)).symm) | (exact (decide_eq_false (by omega)).symm) | (exact decide_eq_decide.2 (by omega))) w0 _) (fun v72 H72 r72 => ?_)
                      obtain ⟨rfl, hs72⟩ := r72
                      replace mx := mx.nw hs72
                      replace hl := hl.nw hs72
                      replace va := va.nw hs72
                      replace hm0 := hm0.tr hs72
                      replace hcm6 := hcm6.tr hs72
                      have hz7 := hs72.size
                      have hq72 := hqn69.tr hs72
                      refine ⟨.inr hq72, LH.narrow (SH2 := fun Hq => Nw H72 Hq) (fun Hq hq => hq72.tr hq) ?_⟩
                      have hqn72 := Nw.refl H72
                      refine LH.one (i := 60) (by kernel_rfl) ?_
                      refine LO.z rfl (Z.litw _ ([mustL (decide (x.k = 1 ∨ x.k = 2)) 3, chk x.br, mustL (argB x) 1, mustL (decide (x.td.length ≤ 100)) 4]) rfl inf62 rfl rfl rfl (by decide) (by decide) fI_len fI_one (rfl)) (Wd.u rfl) rfl rfl (fun v73 H73 r73 => ?_)
                      obtain ⟨ow73, hs73, ob73, hH73⟩ := r73
                      have hzs73 : H73.size = H72.size + 1 := by rw [hH73]; simp
                      have df4 := (DF.new (bf_mx.mono hm0.size) : DF _ (H72.size + 1))
                      have df5 := (DF.new (bf_hl.mono hm0.size) : DF _ (H72.size + 1))
                      have dj6 : Dj (H0.size + 1) (H72.size + 1) := Dj.new va.lt
                      have nx7 : Nx 0 H0.size (H72.size + 1) := Nx.new hm0.size
                      have nx8 : Nx 0 H1.size (H72.size + 1) := Nx.new hcm6.size
                      replace mx := mx.nw hs73
                      replace hl := hl.nw hs73
                      replace va := va.nw hs73
                      replace hm0 := hm0.tr hs73
                      replace hcm6 := hcm6.tr hs73
                      have hz8 := hs73.size
                      have hq73 := hqn72.tr hs73
                      refine ⟨.inr hq73, LH.narrow (SH2 := fun Hq => Nw H73 Hq) (fun Hq hq => hq73.tr hq) ?_⟩
                      have hqn73 := Nw.refl H73
                      refine LH.one (i := 61) (by kernel_rfl) ?_
                      -- call selvage/refs.first
                      refine LO.call rfl rfl Tryd.call27 rfl (Wd.u rfl) rfl rfl (rfirst_ct _ [mustL (decide (x.k = 1 ∨ x.k = 2)) 3, chk x.br, mustL (argB x) 1, mustL (decide (x.td.length ≤ 100)) 4] w0 _ ow73.rd.any) (fun v74 H74 r74 => ?_)
                      obtain ⟨rfl, hs74⟩ := r74
                      replace mx := mx.nw hs74
                      replace hl := hl.nw hs74
                      replace va := va.nw hs74
                      replace ow73 := ow73.nw hs74
                      replace hm0 := hm0.tr hs74
                      replace hcm6 := hcm6.tr hs74
                      have hz9 := hs74.size
                      have hq74 := hqn73.tr hs74
                      refine ⟨.inr hq74, LH.narrow (SH2 := fun Hq => Nw H74 Hq) (fun Hq hq => hq74.tr hq) ?_⟩
                      have hqn74 := Nw.refl H74
                      refine LH.take 62 (by kernel_rfl) rfl (by kernel_rfl) (by kernel_rfl) (by kernel_rfl) (fun Hq hq => Y.assign rfl rfl) (Wd.u rfl) rfl rfl hqn74 ?_
                      refine LH.done (by kernel_rfl) ?_
                      have hqe := hqn74
                      refine QN.sub (hK6 (headE x) _ ?_) ⟨rfl, rfl, trivial⟩
                      exact ⟨rfl, hcm6⟩
                    ·
                      refine LH.gs 49 (by kernel_rfl) rfl (by kernel_rfl) (by kernel_rfl) (by kernel_rfl) rfl rfl rfl rfl rfl rfl hqn32 ?_
                      refine LH.gs 50 (by kernel_rfl) rfl (by kernel_rfl) (by kernel_rfl) (by kernel_rfl) rfl rfl rfl rfl rfl rfl hqn32 ?_
                      refine LH.gs 51 (by kernel_rfl) rfl (by kernel_rfl) (by kernel_rfl) (by kernel_rfl) rfl rfl rfl rfl rfl rfl hqn32 ?_
                      refine LH.gs 52 (by kernel_rfl) rfl (by kernel_rfl) (by kernel_rfl) (by kernel_rfl) rfl rfl rfl rfl rfl rfl hqn32 ?_
                      refine LH.take 53 (by kernel_rfl) rfl (by kernel_rfl) (by kernel_rfl) (by kernel_rfl) (fun Hq hq => Y.pick_f rfl rfl rfl) (Wd.g rfl rfl rfl) rfl rfl hqn32 ?_
                      refine LH.take 54 (by kernel_rfl) rfl (by kernel_rfl) (by kernel_rfl) (by kernel_rfl) (fun Hq hq => Y.not rfl rfl) (Wd.g rfl rfl rfl) rfl rfl hqn32 ?_
                      refine LH.take 55 (by kernel_rfl) rfl (by kernel_rfl) (by kernel_rfl) (by kernel_rfl) (fun Hq hq => Y.pick_t rfl rfl rfl) (Wd.u rfl) rfl rfl hqn32 ?_
                      refine LH.one (i := 56) (by kernel_rfl) ?_
                      -- call selvage/refs.must
                      refine LO.call rfl rfl Tryd.call26 rfl (Wd.u rfl) rfl rfl (rmust_to (argB x) 1 (by first | exact argT g29 g35 g40 g46 g51 g58 g61 | exact argS g29 g35 g40 g46 g51 g58 g61 | exact (decide_eq_false (by rintro ⟨h1, h2, h3, h4, h5, h6, h7⟩; first | (exact absurd h1 (by assumption)) | (exact absurd h2 (by assumption)) | omega)).symm) w0 _) (fun v69 H69 r69 => ?_)
                      obtain ⟨rfl, hs69⟩ := r69
                      replace mx := mx.nw hs69
                      replace hl := hl.nw hs69
                      replace va := va.nw hs69
                      replace hm0 := hm0.tr hs69
                      replace hcm6 := hcm6.tr hs69
                      have hz10 := hs69.size
                      have hq69 := hqn32.tr hs69
                      refine ⟨.inr hq69, LH.narrow (SH2 := fun Hq => Nw H69 Hq) (fun Hq hq => hq69.tr hq) ?_⟩
                      have hqn69 := Nw.refl H69
                      refine LH.one (i := 59) (by kernel_rfl) ?_
                      -- call selvage/refs.must
                      refine LO.call rfl rfl Tryd.call26 rfl (Wd.u rfl) rfl rfl (rmust_to (decide (x.td.length ≤ 100)) 4 (by first | (exact (decide_eq_true (by omega)).symm) | (exact (decide_eq_false (by omega)).symm) | (exact decide_eq_decide.2 (by omega))) w0 _) (fun v72 H72 r72 => ?_)
                      obtain ⟨rfl, hs72⟩ := r72
                      replace mx := mx.nw hs72
                      replace hl := hl.nw hs72
                      replace va := va.nw hs72
                      replace hm0 := hm0.tr hs72
                      replace hcm6 := hcm6.tr hs72
                      have hz11 := hs72.size
                      have hq72 := hqn69.tr hs72
                      refine ⟨.inr hq72, LH.narrow (SH2 := fun Hq => Nw H72 Hq) (fun Hq hq => hq72.tr hq) ?_⟩
                      have hqn72 := Nw.refl H72
                      refine LH.one (i := 60) (by kernel_rfl) ?_
                      refine LO.z rfl (Z.litw _ ([mustL (decide (x.k = 1 ∨ x.k = 2)) 3, chk x.br, mustL (argB x) 1, mustL (decide (x.td.length ≤ 100)) 4]) rfl inf62 rfl rfl rfl (by decide) (by decide) fI_len fI_one (rfl)) (Wd.u rfl) rfl rfl (fun v73 H73 r73 => ?_)
                      obtain ⟨ow73, hs73, ob73, hH73⟩ := r73
                      have hzs73 : H73.size = H72.size + 1 := by rw [hH73]; simp
                      have df9 := (DF.new (bf_mx.mono hm0.size) : DF _ (H72.size + 1))
                      have df10 := (DF.new (bf_hl.mono hm0.size) : DF _ (H72.size + 1))
                      have dj11 : Dj (H0.size + 1) (H72.size + 1) := Dj.new va.lt
                      have nx12 : Nx 0 H0.size (H72.size + 1) := Nx.new hm0.size
                      have nx13 : Nx 0 H1.size (H72.size + 1) := Nx.new hcm6.size
                      replace mx := mx.nw hs73
                      replace hl := hl.nw hs73
                      replace va := va.nw hs73
                      replace hm0 := hm0.tr hs73
                      replace hcm6 := hcm6.tr hs73
                      have hz12 := hs73.size
                      have hq73 := hqn72.tr hs73
                      refine ⟨.inr hq73, LH.narrow (SH2 := fun Hq => Nw H73 Hq) (fun Hq hq => hq73.tr hq) ?_⟩
                      have hqn73 := Nw.refl H73
                      refine LH.one (i := 61) (by kernel_rfl) ?_
                      -- call selvage/refs.first
                      refine LO.call rfl rfl Tryd.call27 rfl (Wd.u rfl) rfl rfl (rfirst_ct _ [mustL (decide (x.k = 1 ∨ x.k = 2)) 3, chk x.br, mustL (argB x) 1, mustL (decide (x.td.length ≤ 100)) 4] w0 _ ow73.rd.any) (fun v74 H74 r74 => ?_)
                      obtain ⟨rfl, hs74⟩ := r74
                      replace mx := mx.nw hs74
                      replace hl := hl.nw hs74
                      replace va := va.nw hs74
                      replace ow73 := ow73.nw hs74
                      replace hm0 := hm0.tr hs74
                      replace hcm6 := hcm6.tr hs74
                      have hz13 := hs74.size
                      have hq74 := hqn73.tr hs74
                      refine ⟨.inr hq74, LH.narrow (SH2 := fun Hq => Nw H74 Hq) (fun Hq hq => hq74.tr hq) ?_⟩
                      have hqn74 := Nw.refl H74
                      refine LH.take 62 (by kernel_rfl) rfl (by kernel_rfl) (by kernel_rfl) (by kernel_rfl) (fun Hq hq => Y.assign rfl rfl) (Wd.u rfl) rfl rfl hqn74 ?_
                      refine LH.done (by kernel_rfl) ?_
                      have hqe := hqn74
                      refine QN.sub (hK6 (headE x) _ ?_) ⟨rfl, rfl, trivial⟩
                      exact ⟨rfl, hcm6⟩
                  ·
                    refine LH.gs 46 (by kernel_rfl) rfl (by kernel_rfl) (by kernel_rfl) (by kernel_rfl) rfl rfl rfl rfl rfl rfl hqn32 ?_
                    refine LH.gs 47 (by kernel_rfl) rfl (by kernel_rfl) (by kernel_rfl) (by kernel_rfl) rfl rfl rfl rfl rfl rfl hqn32 ?_
                    refine LH.gs 48 (by kernel_rfl) rfl (by kernel_rfl) (by kernel_rfl) (by kernel_rfl) rfl rfl rfl rfl rfl rfl hqn32 ?_
                    refine LH.gsu 49 (by kernel_rfl) rfl (by kernel_rfl) (by kernel_rfl) (by kernel_rfl) rfl rfl rfl rfl rfl hqn32 ?_
                    refine LH.gsu 50 (by kernel_rfl) rfl (by kernel_rfl) (by kernel_rfl) (by kernel_rfl) rfl rfl rfl rfl rfl hqn32 ?_
                    refine LH.gsu 51 (by kernel_rfl) rfl (by kernel_rfl) (by kernel_rfl) (by kernel_rfl) rfl rfl rfl rfl rfl hqn32 ?_
                    refine LH.gsu 52 (by kernel_rfl) rfl (by kernel_rfl) (by kernel_rfl) (by kernel_rfl) rfl rfl rfl rfl rfl hqn32 ?_
                    refine LH.gs 53 (by kernel_rfl) rfl (by kernel_rfl) (by kernel_rfl) (by kernel_rfl) rfl rfl rfl rfl rfl rfl hqn32 ?_
                    refine LH.gs 54 (by kernel_rfl) rfl (by kernel_rfl) (by kernel_rfl) (by kernel_rfl) rfl rfl rfl rfl rfl rfl hqn32 ?_
                    refine LH.take 55 (by kernel_rfl) rfl (by kernel_rfl) (by kernel_rfl) (by kernel_rfl) (fun Hq hq => Y.pick_f rfl rfl rfl) (Wd.u rfl) rfl rfl hqn32 ?_
                    refine LH.one (i := 56) (by kernel_rfl) ?_
                    -- call selvage/refs.must
                    refine LO.call rfl rfl Tryd.call26 rfl (Wd.u rfl) rfl rfl (rmust_to (argB x) 1 (by first | exact argT g29 g35 g40 g46 g51 g58 g61 | exact argS g29 g35 g40 g46 g51 g58 g61 | exact (decide_eq_false (by rintro ⟨h1, h2, h3, h4, h5, h6, h7⟩; first | (exact absurd h1 (by assumption)) | (exact absurd h2 (by assumption)) | omega)).symm) w0 _) (fun v69 H69 r69 => ?_)
                    obtain ⟨rfl, hs69⟩ := r69
                    replace mx := mx.nw hs69
                    replace hl := hl.nw hs69
                    replace va := va.nw hs69
                    replace hm0 := hm0.tr hs69
                    replace hcm6 := hcm6.tr hs69
                    have hz14 := hs69.size
                    have hq69 := hqn32.tr hs69
                    refine ⟨.inr hq69, LH.narrow (SH2 := fun Hq => Nw H69 Hq) (fun Hq hq => hq69.tr hq) ?_⟩
                    have hqn69 := Nw.refl H69
                    refine LH.one (i := 59) (by kernel_rfl) ?_
                    -- call selvage/refs.must
                    refine LO.call rfl rfl Tryd.call26 rfl (Wd.u rfl) rfl rfl (rmust_to (decide (x.td.length ≤ 100)) 4 (by first | (exact (decide_eq_true (by omega)).symm) | (exact (decide_eq_false (by omega)).symm) | (exact decide_eq_decide.2 (by omega))) w0 _) (fun v72 H72 r72 => ?_)
                    obtain ⟨rfl, hs72⟩ := r72
                    replace mx := mx.nw hs72
                    replace hl := hl.nw hs72
                    replace va := va.nw hs72
                    replace hm0 := hm0.tr hs72
                    replace hcm6 := hcm6.tr hs72
                    have hz15 := hs72.size
                    have hq72 := hqn69.tr hs72
                    refine ⟨.inr hq72, LH.narrow (SH2 := fun Hq => Nw H72 Hq) (fun Hq hq => hq72.tr hq) ?_⟩
                    have hqn72 := Nw.refl H72
                    refine LH.one (i := 60) (by kernel_rfl) ?_
                    refine LO.z rfl (Z.litw _ ([mustL (decide (x.k = 1 ∨ x.k = 2)) 3, chk x.br, mustL (argB x) 1, mustL (decide (x.td.length ≤ 100)) 4]) rfl inf62 rfl rfl rfl (by decide) (by decide) fI_len fI_one (rfl)) (Wd.u rfl) rfl rfl (fun v73 H73 r73 => ?_)
                    obtain ⟨ow73, hs73, ob73, hH73⟩ := r73
                    have hzs73 : H73.size = H72.size + 1 := by rw [hH73]; simp
                    have df14 := (DF.new (bf_mx.mono hm0.size) : DF _ (H72.size + 1))
                    have df15 := (DF.new (bf_hl.mono hm0.size) : DF _ (H72.size + 1))
                    have dj16 : Dj (H0.size + 1) (H72.size + 1) := Dj.new va.lt
                    have nx17 : Nx 0 H0.size (H72.size + 1) := Nx.new hm0.size
                    have nx18 : Nx 0 H1.size (H72.size + 1) := Nx.new hcm6.size
                    replace mx := mx.nw hs73
                    replace hl := hl.nw hs73
                    replace va := va.nw hs73
                    replace hm0 := hm0.tr hs73
                    replace hcm6 := hcm6.tr hs73
                    have hz16 := hs73.size
                    have hq73 := hqn72.tr hs73
                    refine ⟨.inr hq73, LH.narrow (SH2 := fun Hq => Nw H73 Hq) (fun Hq hq => hq73.tr hq) ?_⟩
                    have hqn73 := Nw.refl H73
                    refine LH.one (i := 61) (by kernel_rfl) ?_
                    -- call selvage/refs.first
                    refine LO.call rfl rfl Tryd.call27 rfl (Wd.u rfl) rfl rfl (rfirst_ct _ [mustL (decide (x.k = 1 ∨ x.k = 2)) 3, chk x.br, mustL (argB x) 1, mustL (decide (x.td.length ≤ 100)) 4] w0 _ ow73.rd.any) (fun v74 H74 r74 => ?_)
                    obtain ⟨rfl, hs74⟩ := r74
                    replace mx := mx.nw hs74
                    replace hl := hl.nw hs74
                    replace va := va.nw hs74
                    replace ow73 := ow73.nw hs74
                    replace hm0 := hm0.tr hs74
                    replace hcm6 := hcm6.tr hs74
                    have hz17 := hs74.size
                    have hq74 := hqn73.tr hs74
                    refine ⟨.inr hq74, LH.narrow (SH2 := fun Hq => Nw H74 Hq) (fun Hq hq => hq74.tr hq) ?_⟩
                    have hqn74 := Nw.refl H74
                    refine LH.take 62 (by kernel_rfl) rfl (by kernel_rfl) (by kernel_rfl) (by kernel_rfl) (fun Hq hq => Y.assign rfl rfl) (Wd.u rfl) rfl rfl hqn74 ?_
                    refine LH.done (by kernel_rfl) ?_
                    have hqe := hqn74
                    refine QN.sub (hK6 (headE x) _ ?_) ⟨rfl, rfl, trivial⟩
                    exact ⟨rfl, hcm6⟩
                ·
                  refine LH.gs 39 (by kernel_rfl) rfl (by kernel_rfl) (by kernel_rfl) (by kernel_rfl) rfl rfl rfl rfl rfl rfl hqn32 ?_
                  refine LH.gs 40 (by kernel_rfl) rfl (by kernel_rfl) (by kernel_rfl) (by kernel_rfl) rfl rfl rfl rfl rfl rfl hqn32 ?_
                  refine LH.gs 41 (by kernel_rfl) rfl (by kernel_rfl) (by kernel_rfl) (by kernel_rfl) rfl rfl rfl rfl rfl rfl hqn32 ?_
                  refine LH.gs 42 (by kernel_rfl) rfl (by kernel_rfl) (by kernel_rfl) (by kernel_rfl) rfl rfl rfl rfl rfl rfl hqn32 ?_
                  refine LH.gs 43 (by kernel_rfl) rfl (by kernel_rfl) (by kernel_rfl) (by kernel_rfl) rfl rfl rfl rfl rfl rfl hqn32 ?_
                  refine LH.take 44 (by kernel_rfl) rfl (by kernel_rfl) (by kernel_rfl) (by kernel_rfl) (fun Hq hq => Y.pick_f rfl rfl rfl) (Wd.u rfl) rfl rfl hqn32 ?_
                  refine LH.take 45 (by kernel_rfl) rfl (by kernel_rfl) (by kernel_rfl) (by kernel_rfl) (fun Hq hq => Y.move rfl rfl) (Wd.u rfl) rfl rfl hqn32 ?_
                  refine LH.gs 46 (by kernel_rfl) rfl (by kernel_rfl) (by kernel_rfl) (by kernel_rfl) rfl rfl rfl rfl rfl rfl hqn32 ?_
                  refine LH.gs 47 (by kernel_rfl) rfl (by kernel_rfl) (by kernel_rfl) (by kernel_rfl) rfl rfl rfl rfl rfl rfl hqn32 ?_
                  refine LH.gs 48 (by kernel_rfl) rfl (by kernel_rfl) (by kernel_rfl) (by kernel_rfl) rfl rfl rfl rfl rfl rfl hqn32 ?_
                  refine LH.gsu 49 (by kernel_rfl) rfl (by kernel_rfl) (by kernel_rfl) (by kernel_rfl) rfl rfl rfl rfl rfl hqn32 ?_
                  refine LH.gsu 50 (by kernel_rfl) rfl (by kernel_rfl) (by kernel_rfl) (by kernel_rfl) rfl rfl rfl rfl rfl hqn32 ?_
                  refine LH.gsu 51 (by kernel_rfl) rfl (by kernel_rfl) (by kernel_rfl) (by kernel_rfl) rfl rfl rfl rfl rfl hqn32 ?_
                  refine LH.gsu 52 (by kernel_rfl) rfl (by kernel_rfl) (by kernel_rfl) (by kernel_rfl) rfl rfl rfl rfl rfl hqn32 ?_
                  refine LH.gs 53 (by kernel_rfl) rfl (by kernel_rfl) (by kernel_rfl) (by kernel_rfl) rfl rfl rfl rfl rfl rfl hqn32 ?_
                  refine LH.gs 54 (by kernel_rfl) rfl (by kernel_rfl) (by kernel_rfl) (by kernel_rfl) rfl rfl rfl rfl rfl rfl hqn32 ?_
                  refine LH.take 55 (by kernel_rfl) rfl (by kernel_rfl) (by kernel_rfl) (by kernel_rfl) (fun Hq hq => Y.pick_f rfl rfl rfl) (Wd.u rfl) rfl rfl hqn32 ?_
                  refine LH.one (i := 56) (by kernel_rfl) ?_
                  -- call selvage/refs.must
                  refine LO.call rfl rfl Tryd.call26 rfl (Wd.u rfl) rfl rfl (rmust_to (argB x) 1 (by first | exact argT g29 g35 g40 g46 g51 g58 g61 | exact argS g29 g35 g40 g46 g51 g58 g61 | exact (decide_eq_false (by rintro ⟨h1, h2, h3, h4, h5, h6, h7⟩; first | (exact absurd h1 (by assumption)) | (exact absurd h2 (by assumption)) | omega)).symm) w0 _) (fun v69 H69 r69 => ?_)
                  obtain ⟨rfl, hs69⟩ := r69
                  replace mx := mx.nw hs69
                  replace hl := hl.nw hs69
                  replace va := va.nw hs69
                  replace hm0 := hm0.tr hs69
                  replace hcm6 := hcm6.tr hs69
                  have hz18 := hs69.size
                  have hq69 := hqn32.tr hs69
                  refine ⟨.inr hq69, LH.narrow (SH2 := fun Hq => Nw H69 Hq) (fun Hq hq => hq69.tr hq) ?_⟩
                  have hqn69 := Nw.refl H69
                  refine LH.one (i := 59) (by kernel_rfl) ?_
                  -- call selvage/refs.must
                  refine LO.call rfl rfl Tryd.call26 rfl (Wd.u rfl) rfl rfl (rmust_to (decide (x.td.length ≤ 100)) 4 (by first | (exact (decide_eq_true (by omega)).symm) | (exact (decide_eq_false (by omega)).symm) | (exact decide_eq_decide.2 (by omega))) w0 _) (fun v72 H72 r72 => ?_)
                  obtain ⟨rfl, hs72⟩ := r72
                  replace mx := mx.nw hs72
                  replace hl := hl.nw hs72
                  replace va := va.nw hs72
                  replace hm0 := hm0.tr hs72
                  replace hcm6 := hcm6.tr hs72
                  have hz19 := hs72.size
                  have hq72 := hqn69.tr hs72
                  refine ⟨.inr hq72, LH.narrow (SH2 := fun Hq => Nw H72 Hq) (fun Hq hq => hq72.tr hq) ?_⟩
                  have hqn72 := Nw.refl H72
                  refine LH.one (i := 60) (by kernel_rfl) ?_
                  refine LO.z rfl (Z.litw _ ([mustL (decide (x.k = 1 ∨ x.k = 2)) 3, chk x.br, mustL (argB x) 1, mustL (decide (x.td.length ≤ 100)) 4]) rfl inf62 rfl rfl rfl (by decide) (by decide) fI_len fI_one (rfl)) (Wd.u rfl) rfl rfl (fun v73 H73 r73 => ?_)
                  obtain ⟨ow73, hs73, ob73, hH73⟩ := r73
                  have hzs73 : H73.size = H72.size + 1 := by rw [hH73]; simp
                  have df19 := (DF.new (bf_mx.mono hm0.size) : DF _ (H72.size + 1))
                  have df20 := (DF.new (bf_hl.mono hm0.size) : DF _ (H72.size + 1))
                  have dj21 : Dj (H0.size + 1) (H72.size + 1) := Dj.new va.lt
                  have nx22 : Nx 0 H0.size (H72.size + 1) := Nx.new hm0.size
                  have nx23 : Nx 0 H1.size (H72.size + 1) := Nx.new hcm6.size
                  replace mx := mx.nw hs73
                  replace hl := hl.nw hs73
                  replace va := va.nw hs73
                  replace hm0 := hm0.tr hs73
                  replace hcm6 := hcm6.tr hs73
                  have hz20 := hs73.size
                  have hq73 := hqn72.tr hs73
                  refine ⟨.inr hq73, LH.narrow (SH2 := fun Hq => Nw H73 Hq) (fun Hq hq => hq73.tr hq) ?_⟩
                  have hqn73 := Nw.refl H73
                  refine LH.one (i := 61) (by kernel_rfl) ?_
                  -- call selvage/refs.first
                  refine LO.call rfl rfl Tryd.call27 rfl (Wd.u rfl) rfl rfl (rfirst_ct _ [mustL (decide (x.k = 1 ∨ x.k = 2)) 3, chk x.br, mustL (argB x) 1, mustL (decide (x.td.length ≤ 100)) 4] w0 _ ow73.rd.any) (fun v74 H74 r74 => ?_)
                  obtain ⟨rfl, hs74⟩ := r74
                  replace mx := mx.nw hs74
                  replace hl := hl.nw hs74
                  replace va := va.nw hs74
                  replace ow73 := ow73.nw hs74
                  replace hm0 := hm0.tr hs74
                  replace hcm6 := hcm6.tr hs74
                  have hz21 := hs74.size
                  have hq74 := hqn73.tr hs74
                  refine ⟨.inr hq74, LH.narrow (SH2 := fun Hq => Nw H74 Hq) (fun Hq hq => hq74.tr hq) ?_⟩
                  have hqn74 := Nw.refl H74
                  refine LH.take 62 (by kernel_rfl) rfl (by kernel_rfl) (by kernel_rfl) (by kernel_rfl) (fun Hq hq => Y.assign rfl rfl) (Wd.u rfl) rfl rfl hqn74 ?_
                  refine LH.done (by kernel_rfl) ?_
                  have hqe := hqn74
                  refine QN.sub (hK6 (headE x) _ ?_) ⟨rfl, rfl, trivial⟩
                  exact ⟨rfl, hcm6⟩
              ·
                refine LH.gs 34 (by kernel_rfl) rfl (by kernel_rfl) (by kernel_rfl) (by kernel_rfl) rfl rfl rfl rfl rfl rfl hqn32 ?_
                refine LH.gs 35 (by kernel_rfl) rfl (by kernel_rfl) (by kernel_rfl) (by kernel_rfl) rfl rfl rfl rfl rfl rfl hqn32 ?_
                refine LH.gs 36 (by kernel_rfl) rfl (by kernel_rfl) (by kernel_rfl) (by kernel_rfl) rfl rfl rfl rfl rfl rfl hqn32 ?_
                refine LH.take 37 (by kernel_rfl) rfl (by kernel_rfl) (by kernel_rfl) (by kernel_rfl) (fun Hq hq => Y.pick_f rfl rfl rfl) (Wd.u rfl) rfl rfl hqn32 ?_
                refine LH.take 38 (by kernel_rfl) rfl (by kernel_rfl) (by kernel_rfl) (by kernel_rfl) (fun Hq hq => Y.move rfl rfl) (Wd.u rfl) rfl rfl hqn32 ?_
                refine LH.gs 39 (by kernel_rfl) rfl (by kernel_rfl) (by kernel_rfl) (by kernel_rfl) rfl rfl rfl rfl rfl rfl hqn32 ?_
                refine LH.gs 40 (by kernel_rfl) rfl (by kernel_rfl) (by kernel_rfl) (by kernel_rfl) rfl rfl rfl rfl rfl rfl hqn32 ?_
                refine LH.gs 41 (by kernel_rfl) rfl (by kernel_rfl) (by kernel_rfl) (by kernel_rfl) rfl rfl rfl rfl rfl rfl hqn32 ?_
                refine LH.gs 42 (by kernel_rfl) rfl (by kernel_rfl) (by kernel_rfl) (by kernel_rfl) rfl rfl rfl rfl rfl rfl hqn32 ?_
                refine LH.gs 43 (by kernel_rfl) rfl (by kernel_rfl) (by kernel_rfl) (by kernel_rfl) rfl rfl rfl rfl rfl rfl hqn32 ?_
                refine LH.take 44 (by kernel_rfl) rfl (by kernel_rfl) (by kernel_rfl) (by kernel_rfl) (fun Hq hq => Y.pick_f rfl rfl rfl) (Wd.u rfl) rfl rfl hqn32 ?_
                refine LH.take 45 (by kernel_rfl) rfl (by kernel_rfl) (by kernel_rfl) (by kernel_rfl) (fun Hq hq => Y.move rfl rfl) (Wd.u rfl) rfl rfl hqn32 ?_
                refine LH.gs 46 (by kernel_rfl) rfl (by kernel_rfl) (by kernel_rfl) (by kernel_rfl) rfl rfl rfl rfl rfl rfl hqn32 ?_
                refine LH.gs 47 (by kernel_rfl) rfl (by kernel_rfl) (by kernel_rfl) (by kernel_rfl) rfl rfl rfl rfl rfl rfl hqn32 ?_
                refine LH.gs 48 (by kernel_rfl) rfl (by kernel_rfl) (by kernel_rfl) (by kernel_rfl) rfl rfl rfl rfl rfl rfl hqn32 ?_
                refine LH.gsu 49 (by kernel_rfl) rfl (by kernel_rfl) (by kernel_rfl) (by kernel_rfl) rfl rfl rfl rfl rfl hqn32 ?_
                refine LH.gsu 50 (by kernel_rfl) rfl (by kernel_rfl) (by kernel_rfl) (by kernel_rfl) rfl rfl rfl rfl rfl hqn32 ?_
                refine LH.gsu 51 (by kernel_rfl) rfl (by kernel_rfl) (by kernel_rfl) (by kernel_rfl) rfl rfl rfl rfl rfl hqn32 ?_
                refine LH.gsu 52 (by kernel_rfl) rfl (by kernel_rfl) (by kernel_rfl) (by kernel_rfl) rfl rfl rfl rfl rfl hqn32 ?_
                refine LH.gs 53 (by kernel_rfl) rfl (by kernel_rfl) (by kernel_rfl) (by kernel_rfl) rfl rfl rfl rfl rfl rfl hqn32 ?_
                refine LH.gs 54 (by kernel_rfl) rfl (by kernel_rfl) (by kernel_rfl) (by kernel_rfl) rfl rfl rfl rfl rfl rfl hqn32 ?_
                refine LH.take 55 (by kernel_rfl) rfl (by kernel_rfl) (by kernel_rfl) (by kernel_rfl) (fun Hq hq => Y.pick_f rfl rfl rfl) (Wd.u rfl) rfl rfl hqn32 ?_
                refine LH.one (i := 56) (by kernel_rfl) ?_
                -- call selvage/refs.must
                refine LO.call rfl rfl Tryd.call26 rfl (Wd.u rfl) rfl rfl (rmust_to (argB x) 1 (by first | exact argT g29 g35 g40 g46 g51 g58 g61 | exact argS g29 g35 g40 g46 g51 g58 g61 | exact (decide_eq_false (by rintro ⟨h1, h2, h3, h4, h5, h6, h7⟩; first | (exact absurd h1 (by assumption)) | (exact absurd h2 (by assumption)) | omega)).symm) w0 _) (fun v69 H69 r69 => ?_)
                obtain ⟨rfl, hs69⟩ := r69
                replace mx := mx.nw hs69
                replace hl := hl.nw hs69
                replace va := va.nw hs69
                replace hm0 := hm0.tr hs69
                replace hcm6 := hcm6.tr hs69
                have hz22 := hs69.size
                have hq69 := hqn32.tr hs69
                refine ⟨.inr hq69, LH.narrow (SH2 := fun Hq => Nw H69 Hq) (fun Hq hq => hq69.tr hq) ?_⟩
                have hqn69 := Nw.refl H69
                refine LH.one (i := 59) (by kernel_rfl) ?_
                -- call selvage/refs.must
                refine LO.call rfl rfl Tryd.call26 rfl (Wd.u rfl) rfl rfl (rmust_to (decide (x.td.length ≤ 100)) 4 (by first | (exact (decide_eq_true (by omega)).symm) | (exact (decide_eq_false (by omega)).symm) | (exact decide_eq_decide.2 (by omega))) w0 _) (fun v72 H72 r72 => ?_)
                obtain ⟨rfl, hs72⟩ := r72
                replace mx := mx.nw hs72
                replace hl := hl.nw hs72
                replace va := va.nw hs72
                replace hm0 := hm0.tr hs72
                replace hcm6 := hcm6.tr hs72
                have hz23 := hs72.size
                have hq72 := hqn69.tr hs72
                refine ⟨.inr hq72, LH.narrow (SH2 := fun Hq => Nw H72 Hq) (fun Hq hq => hq72.tr hq) ?_⟩
                have hqn72 := Nw.refl H72
                refine LH.one (i := 60) (by kernel_rfl) ?_
                refine LO.z rfl (Z.litw _ ([mustL (decide (x.k = 1 ∨ x.k = 2)) 3, chk x.br, mustL (argB x) 1, mustL (decide (x.td.length ≤ 100)) 4]) rfl inf62 rfl rfl rfl (by decide) (by decide) fI_len fI_one (rfl)) (Wd.u rfl) rfl rfl (fun v73 H73 r73 => ?_)
                obtain ⟨ow73, hs73, ob73, hH73⟩ := r73
                have hzs73 : H73.size = H72.size + 1 := by rw [hH73]; simp
                have df24 := (DF.new (bf_mx.mono hm0.size) : DF _ (H72.size + 1))
                have df25 := (DF.new (bf_hl.mono hm0.size) : DF _ (H72.size + 1))
                have dj26 : Dj (H0.size + 1) (H72.size + 1) := Dj.new va.lt
                have nx27 : Nx 0 H0.size (H72.size + 1) := Nx.new hm0.size
                have nx28 : Nx 0 H1.size (H72.size + 1) := Nx.new hcm6.size
                replace mx := mx.nw hs73
                replace hl := hl.nw hs73
                replace va := va.nw hs73
                replace hm0 := hm0.tr hs73
                replace hcm6 := hcm6.tr hs73
                have hz24 := hs73.size
                have hq73 := hqn72.tr hs73
                refine ⟨.inr hq73, LH.narrow (SH2 := fun Hq => Nw H73 Hq) (fun Hq hq => hq73.tr hq) ?_⟩
                have hqn73 := Nw.refl H73
                refine LH.one (i := 61) (by kernel_rfl) ?_
                -- call selvage/refs.first
                refine LO.call rfl rfl Tryd.call27 rfl (Wd.u rfl) rfl rfl (rfirst_ct _ [mustL (decide (x.k = 1 ∨ x.k = 2)) 3, chk x.br, mustL (argB x) 1, mustL (decide (x.td.length ≤ 100)) 4] w0 _ ow73.rd.any) (fun v74 H74 r74 => ?_)
                obtain ⟨rfl, hs74⟩ := r74
                replace mx := mx.nw hs74
                replace hl := hl.nw hs74
                replace va := va.nw hs74
                replace ow73 := ow73.nw hs74
                replace hm0 := hm0.tr hs74
                replace hcm6 := hcm6.tr hs74
                have hz25 := hs74.size
                have hq74 := hqn73.tr hs74
                refine ⟨.inr hq74, LH.narrow (SH2 := fun Hq => Nw H74 Hq) (fun Hq hq => hq74.tr hq) ?_⟩
                have hqn74 := Nw.refl H74
                refine LH.take 62 (by kernel_rfl) rfl (by kernel_rfl) (by kernel_rfl) (by kernel_rfl) (fun Hq hq => Y.assign rfl rfl) (Wd.u rfl) rfl rfl hqn74 ?_
                refine LH.done (by kernel_rfl) ?_
                have hqe := hqn74
                refine QN.sub (hK6 (headE x) _ ?_) ⟨rfl, rfl, trivial⟩
                exact ⟨rfl, hcm6⟩
            ·
              refine LH.gs 28 (by kernel_rfl) rfl (by kernel_rfl) (by kernel_rfl) (by kernel_rfl) rfl rfl rfl rfl rfl rfl hqn32 ?_
              refine LH.gs 29 (by kernel_rfl) rfl (by kernel_rfl) (by kernel_rfl) (by kernel_rfl) rfl rfl rfl rfl rfl rfl hqn32 ?_
              refine LH.gs 30 (by kernel_rfl) rfl (by kernel_rfl) (by kernel_rfl) (by kernel_rfl) rfl rfl rfl rfl rfl rfl hqn32 ?_
              refine LH.gs 31 (by kernel_rfl) rfl (by kernel_rfl) (by kernel_rfl) (by kernel_rfl) rfl rfl rfl rfl rfl rfl hqn32 ?_
              refine LH.take 32 (by kernel_rfl) rfl (by kernel_rfl) (by kernel_rfl) (by kernel_rfl) (fun Hq hq => Y.pick_f rfl rfl rfl) (Wd.u rfl) rfl rfl hqn32 ?_
              refine LH.take 33 (by kernel_rfl) rfl (by kernel_rfl) (by kernel_rfl) (by kernel_rfl) (fun Hq hq => Y.move rfl rfl) (Wd.u rfl) rfl rfl hqn32 ?_
              refine LH.gs 34 (by kernel_rfl) rfl (by kernel_rfl) (by kernel_rfl) (by kernel_rfl) rfl rfl rfl rfl rfl rfl hqn32 ?_
              refine LH.gs 35 (by kernel_rfl) rfl (by kernel_rfl) (by kernel_rfl) (by kernel_rfl) rfl rfl rfl rfl rfl rfl hqn32 ?_
              refine LH.gs 36 (by kernel_rfl) rfl (by kernel_rfl) (by kernel_rfl) (by kernel_rfl) rfl rfl rfl rfl rfl rfl hqn32 ?_
              refine LH.take 37 (by kernel_rfl) rfl (by kernel_rfl) (by kernel_rfl) (by kernel_rfl) (fun Hq hq => Y.pick_f rfl rfl rfl) (Wd.u rfl) rfl rfl hqn32 ?_
              refine LH.take 38 (by kernel_rfl) rfl (by kernel_rfl) (by kernel_rfl) (by kernel_rfl) (fun Hq hq => Y.move rfl rfl) (Wd.u rfl) rfl rfl hqn32 ?_
              refine LH.gs 39 (by kernel_rfl) rfl (by kernel_rfl) (by kernel_rfl) (by kernel_rfl) rfl rfl rfl rfl rfl rfl hqn32 ?_
              refine LH.gs 40 (by kernel_rfl) rfl (by kernel_rfl) (by kernel_rfl) (by kernel_rfl) rfl rfl rfl rfl rfl rfl hqn32 ?_
              refine LH.gs 41 (by kernel_rfl) rfl (by kernel_rfl) (by kernel_rfl) (by kernel_rfl) rfl rfl rfl rfl rfl rfl hqn32 ?_
              refine LH.gs 42 (by kernel_rfl) rfl (by kernel_rfl) (by kernel_rfl) (by kernel_rfl) rfl rfl rfl rfl rfl rfl hqn32 ?_
              refine LH.gs 43 (by kernel_rfl) rfl (by kernel_rfl) (by kernel_rfl) (by kernel_rfl) rfl rfl rfl rfl rfl rfl hqn32 ?_
              refine LH.take 44 (by kernel_rfl) rfl (by kernel_rfl) (by kernel_rfl) (by kernel_rfl) (fun Hq hq => Y.pick_f rfl rfl rfl) (Wd.u rfl) rfl rfl hqn32 ?_
              refine LH.take 45 (by kernel_rfl) rfl (by kernel_rfl) (by kernel_rfl) (by kernel_rfl) (fun Hq hq => Y.move rfl rfl) (Wd.u rfl) rfl rfl hqn32 ?_
              refine LH.gs 46 (by kernel_rfl) rfl (by kernel_rfl) (by kernel_rfl) (by kernel_rfl) rfl rfl rfl rfl rfl rfl hqn32 ?_
              refine LH.gs 47 (by kernel_rfl) rfl (by kernel_rfl) (by kernel_rfl) (by kernel_rfl) rfl rfl rfl rfl rfl rfl hqn32 ?_
              refine LH.gs 48 (by kernel_rfl) rfl (by kernel_rfl) (by kernel_rfl) (by kernel_rfl) rfl rfl rfl rfl rfl rfl hqn32 ?_
              refine LH.gsu 49 (by kernel_rfl) rfl (by kernel_rfl) (by kernel_rfl) (by kernel_rfl) rfl rfl rfl rfl rfl hqn32 ?_
              refine LH.gsu 50 (by kernel_rfl) rfl (by kernel_rfl) (by kernel_rfl) (by kernel_rfl) rfl rfl rfl rfl rfl hqn32 ?_
              refine LH.gsu 51 (by kernel_rfl) rfl (by kernel_rfl) (by kernel_rfl) (by kernel_rfl) rfl rfl rfl rfl rfl hqn32 ?_
              refine LH.gsu 52 (by kernel_rfl) rfl (by kernel_rfl) (by kernel_rfl) (by kernel_rfl) rfl rfl rfl rfl rfl hqn32 ?_
              refine LH.gs 53 (by kernel_rfl) rfl (by kernel_rfl) (by kernel_rfl) (by kernel_rfl) rfl rfl rfl rfl rfl rfl hqn32 ?_
              refine LH.gs 54 (by kernel_rfl) rfl (by kernel_rfl) (by kernel_rfl) (by kernel_rfl) rfl rfl rfl rfl rfl rfl hqn32 ?_
              refine LH.take 55 (by kernel_rfl) rfl (by kernel_rfl) (by kernel_rfl) (by kernel_rfl) (fun Hq hq => Y.pick_f rfl rfl rfl) (Wd.u rfl) rfl rfl hqn32 ?_
              refine LH.one (i := 56) (by kernel_rfl) ?_
              -- call selvage/refs.must
              refine LO.call rfl rfl Tryd.call26 rfl (Wd.u rfl) rfl rfl (rmust_to (argB x) 1 (by first | exact argT g29 g35 g40 g46 g51 g58 g61 | exact argS g29 g35 g40 g46 g51 g58 g61 | exact (decide_eq_false (by rintro ⟨h1, h2, h3, h4, h5, h6, h7⟩; first | (exact absurd h1 (by assumption)) | (exact absurd h2 (by assumption)) | omega)).symm) w0 _) (fun v69 H69 r69 => ?_)
              obtain ⟨rfl, hs69⟩ := r69
              replace mx := mx.nw hs69
              replace hl := hl.nw hs69
              replace va := va.nw hs69
              replace hm0 := hm0.tr hs69
              replace hcm6 := hcm6.tr hs69
              have hz26 := hs69.size
              have hq69 := hqn32.tr hs69
              refine ⟨.inr hq69, LH.narrow (SH2 := fun Hq => Nw H69 Hq) (fun Hq hq => hq69.tr hq) ?_⟩
              have hqn69 := Nw.refl H69
              refine LH.one (i := 59) (by kernel_rfl) ?_
              -- call selvage/refs.must
              refine LO.call rfl rfl Tryd.call26 rfl (Wd.u rfl) rfl rfl (rmust_to (decide (x.td.length ≤ 100)) 4 (by first | (exact (decide_eq_true (by omega)).symm) | (exact (decide_eq_false (by omega)).symm) | (exact decide_eq_decide.2 (by omega))) w0 _) (fun v72 H72 r72 => ?_)
              obtain ⟨rfl, hs72⟩ := r72
              replace mx := mx.nw hs72
              replace hl := hl.nw hs72
              replace va := va.nw hs72
              replace hm0 := hm0.tr hs72
              replace hcm6 := hcm6.tr hs72
              have hz27 := hs72.size
              have hq72 := hqn69.tr hs72
              refine ⟨.inr hq72, LH.narrow (SH2 := fun Hq => Nw H72 Hq) (fun Hq hq => hq72.tr hq) ?_⟩
              have hqn72 := Nw.refl H72
              refine LH.one (i := 60) (by kernel_rfl) ?_
              refine LO.z rfl (Z.litw _ ([mustL (decide (x.k = 1 ∨ x.k = 2)) 3, chk x.br, mustL (argB x) 1, mustL (decide (x.td.length ≤ 100)) 4]) rfl inf62 rfl rfl rfl (by decide) (by decide) fI_len fI_one (rfl)) (Wd.u rfl) rfl rfl (fun v73 H73 r73 => ?_)
              obtain ⟨ow73, hs73, ob73, hH73⟩ := r73
              have hzs73 : H73.size = H72.size + 1 := by rw [hH73]; simp
              have df29 := (DF.new (bf_mx.mono hm0.size) : DF _ (H72.size + 1))
              have df30 := (DF.new (bf_hl.mono hm0.size) : DF _ (H72.size + 1))
              have dj31 : Dj (H0.size + 1) (H72.size + 1) := Dj.new va.lt
              have nx32 : Nx 0 H0.size (H72.size + 1) := Nx.new hm0.size
              have nx33 : Nx 0 H1.size (H72.size + 1) := Nx.new hcm6.size
              replace mx := mx.nw hs73
              replace hl := hl.nw hs73
              replace va := va.nw hs73
              replace hm0 := hm0.tr hs73
              replace hcm6 := hcm6.tr hs73
              have hz28 := hs73.size
              have hq73 := hqn72.tr hs73
              refine ⟨.inr hq73, LH.narrow (SH2 := fun Hq => Nw H73 Hq) (fun Hq hq => hq73.tr hq) ?_⟩
              have hqn73 := Nw.refl H73
              refine LH.one (i := 61) (by kernel_rfl) ?_
              -- call selvage/refs.first
              refine LO.call rfl rfl Tryd.call27 rfl (Wd.u rfl) rfl rfl (rfirst_ct _ [mustL (decide (x.k = 1 ∨ x.k = 2)) 3, chk x.br, mustL (argB x) 1, mustL (decide (x.td.length ≤ 100)) 4] w0 _ ow73.rd.any) (fun v74 H74 r74 => ?_)
              obtain ⟨rfl, hs74⟩ := r74
              replace mx := mx.nw hs74
              replace hl := hl.nw hs74
              replace va := va.nw hs74
              replace ow73 := ow73.nw hs74
              replace hm0 := hm0.tr hs74
              replace hcm6 := hcm6.tr hs74
              have hz29 := hs74.size
              have hq74 := hqn73.tr hs74
              refine ⟨.inr hq74, LH.narrow (SH2 := fun Hq => Nw H74 Hq) (fun Hq hq => hq74.tr hq) ?_⟩
              have hqn74 := Nw.refl H74
              refine LH.take 62 (by kernel_rfl) rfl (by kernel_rfl) (by kernel_rfl) (by kernel_rfl) (fun Hq hq => Y.assign rfl rfl) (Wd.u rfl) rfl rfl hqn74 ?_
              refine LH.done (by kernel_rfl) ?_
              have hqe := hqn74
              refine QN.sub (hK6 (headE x) _ ?_) ⟨rfl, rfl, trivial⟩
              exact ⟨rfl, hcm6⟩
          ·
            refine LH.gs 23 (by kernel_rfl) rfl (by kernel_rfl) (by kernel_rfl) (by kernel_rfl) rfl rfl rfl rfl rfl rfl hqn32 ?_
            refine LH.gs 24 (by kernel_rfl) rfl (by kernel_rfl) (by kernel_rfl) (by kernel_rfl) rfl rfl rfl rfl rfl rfl hqn32 ?_
            refine LH.gs 25 (by kernel_rfl) rfl (by kernel_rfl) (by kernel_rfl) (by kernel_rfl) rfl rfl rfl rfl rfl rfl hqn32 ?_
            refine LH.take 26 (by kernel_rfl) rfl (by kernel_rfl) (by kernel_rfl) (by kernel_rfl) (fun Hq hq => Y.pick_f rfl rfl rfl) (Wd.u rfl) rfl rfl hqn32 ?_
            refine LH.take 27 (by kernel_rfl) rfl (by kernel_rfl) (by kernel_rfl) (by kernel_rfl) (fun Hq hq => Y.move rfl rfl) (Wd.u rfl) rfl rfl hqn32 ?_
            refine LH.gs 28 (by kernel_rfl) rfl (by kernel_rfl) (by kernel_rfl) (by kernel_rfl) rfl rfl rfl rfl rfl rfl hqn32 ?_
            refine LH.gs 29 (by kernel_rfl) rfl (by kernel_rfl) (by kernel_rfl) (by kernel_rfl) rfl rfl rfl rfl rfl rfl hqn32 ?_
            refine LH.gs 30 (by kernel_rfl) rfl (by kernel_rfl) (by kernel_rfl) (by kernel_rfl) rfl rfl rfl rfl rfl rfl hqn32 ?_
            refine LH.gs 31 (by kernel_rfl) rfl (by kernel_rfl) (by kernel_rfl) (by kernel_rfl) rfl rfl rfl rfl rfl rfl hqn32 ?_
            refine LH.take 32 (by kernel_rfl) rfl (by kernel_rfl) (by kernel_rfl) (by kernel_rfl) (fun Hq hq => Y.pick_f rfl rfl rfl) (Wd.u rfl) rfl rfl hqn32 ?_
            refine LH.take 33 (by kernel_rfl) rfl (by kernel_rfl) (by kernel_rfl) (by kernel_rfl) (fun Hq hq => Y.move rfl rfl) (Wd.u rfl) rfl rfl hqn32 ?_
            refine LH.gs 34 (by kernel_rfl) rfl (by kernel_rfl) (by kernel_rfl) (by kernel_rfl) rfl rfl rfl rfl rfl rfl hqn32 ?_
            refine LH.gs 35 (by kernel_rfl) rfl (by kernel_rfl) (by kernel_rfl) (by kernel_rfl) rfl rfl rfl rfl rfl rfl hqn32 ?_
            refine LH.gs 36 (by kernel_rfl) rfl (by kernel_rfl) (by kernel_rfl) (by kernel_rfl) rfl rfl rfl rfl rfl rfl hqn32 ?_
            refine LH.take 37 (by kernel_rfl) rfl (by kernel_rfl) (by kernel_rfl) (by kernel_rfl) (fun Hq hq => Y.pick_f rfl rfl rfl) (Wd.u rfl) rfl rfl hqn32 ?_
            refine LH.take 38 (by kernel_rfl) rfl (by kernel_rfl) (by kernel_rfl) (by kernel_rfl) (fun Hq hq => Y.move rfl rfl) (Wd.u rfl) rfl rfl hqn32 ?_
            refine LH.gs 39 (by kernel_rfl) rfl (by kernel_rfl) (by kernel_rfl) (by kernel_rfl) rfl rfl rfl rfl rfl rfl hqn32 ?_
            refine LH.gs 40 (by kernel_rfl) rfl (by kernel_rfl) (by kernel_rfl) (by kernel_rfl) rfl rfl rfl rfl rfl rfl hqn32 ?_
            refine LH.gs 41 (by kernel_rfl) rfl (by kernel_rfl) (by kernel_rfl) (by kernel_rfl) rfl rfl rfl rfl rfl rfl hqn32 ?_
            refine LH.gs 42 (by kernel_rfl) rfl (by kernel_rfl) (by kernel_rfl) (by kernel_rfl) rfl rfl rfl rfl rfl rfl hqn32 ?_
            refine LH.gs 43 (by kernel_rfl) rfl (by kernel_rfl) (by kernel_rfl) (by kernel_rfl) rfl rfl rfl rfl rfl rfl hqn32 ?_
            refine LH.take 44 (by kernel_rfl) rfl (by kernel_rfl) (by kernel_rfl) (by kernel_rfl) (fun Hq hq => Y.pick_f rfl rfl rfl) (Wd.u rfl) rfl rfl hqn32 ?_
            refine LH.take 45 (by kernel_rfl) rfl (by kernel_rfl) (by kernel_rfl) (by kernel_rfl) (fun Hq hq => Y.move rfl rfl) (Wd.u rfl) rfl rfl hqn32 ?_
            refine LH.gs 46 (by kernel_rfl) rfl (by kernel_rfl) (by kernel_rfl) (by kernel_rfl) rfl rfl rfl rfl rfl rfl hqn32 ?_
            refine LH.gs 47 (by kernel_rfl) rfl (by kernel_rfl) (by kernel_rfl) (by kernel_rfl) rfl rfl rfl rfl rfl rfl hqn32 ?_
            refine LH.gs 48 (by kernel_rfl) rfl (by kernel_rfl) (by kernel_rfl) (by kernel_rfl) rfl rfl rfl rfl rfl rfl hqn32 ?_
            refine LH.gsu 49 (by kernel_rfl) rfl (by kernel_rfl) (by kernel_rfl) (by kernel_rfl) rfl rfl rfl rfl rfl hqn32 ?_
            refine LH.gsu 50 (by kernel_rfl) rfl (by kernel_rfl) (by kernel_rfl) (by kernel_rfl) rfl rfl rfl rfl rfl hqn32 ?_
            refine LH.gsu 51 (by kernel_rfl) rfl (by kernel_rfl) (by kernel_rfl) (by kernel_rfl) rfl rfl rfl rfl rfl hqn32 ?_
            refine LH.gsu 52 (by kernel_rfl) rfl (by kernel_rfl) (by kernel_rfl) (by kernel_rfl) rfl rfl rfl rfl rfl hqn32 ?_
            refine LH.gs 53 (by kernel_rfl) rfl (by kernel_rfl) (by kernel_rfl) (by kernel_rfl) rfl rfl rfl rfl rfl rfl hqn32 ?_
            refine LH.gs 54 (by kernel_rfl) rfl (by kernel_rfl) (by kernel_rfl) (by kernel_rfl) rfl rfl rfl rfl rfl rfl hqn32 ?_
            refine LH.take 55 (by kernel_rfl) rfl (by kernel_rfl) (by kernel_rfl) (by kernel_rfl) (fun Hq hq => Y.pick_f rfl rfl rfl) (Wd.u rfl) rfl rfl hqn32 ?_
            refine LH.one (i := 56) (by kernel_rfl) ?_
            -- call selvage/refs.must
            refine LO.call rfl rfl Tryd.call26 rfl (Wd.u rfl) rfl rfl (rmust_to (argB x) 1 (by first | exact argT g29 g35 g40 g46 g51 g58 g61 | exact argS g29 g35 g40 g46 g51 g58 g61 | exact (decide_eq_false (by rintro ⟨h1, h2, h3, h4, h5, h6, h7⟩; first | (exact absurd h1 (by assumption)) | (exact absurd h2 (by assumption)) | omega)).symm) w0 _) (fun v69 H69 r69 => ?_)
            obtain ⟨rfl, hs69⟩ := r69
            replace mx := mx.nw hs69
            replace hl := hl.nw hs69
            replace va := va.nw hs69
            replace hm0 := hm0.tr hs69
            replace hcm6 := hcm6.tr hs69
            have hz30 := hs69.size
            have hq69 := hqn32.tr hs69
            refine ⟨.inr hq69, LH.narrow (SH2 := fun Hq => Nw H69 Hq) (fun Hq hq => hq69.tr hq) ?_⟩
            have hqn69 := Nw.refl H69
            refine LH.one (i := 59) (by kernel_rfl) ?_
            -- call selvage/refs.must
            refine LO.call rfl rfl Tryd.call26 rfl (Wd.u rfl) rfl rfl (rmust_to (decide (x.td.length ≤ 100)) 4 (by first | (exact (decide_eq_true (by omega)).symm) | (exact (decide_eq_false (by omega)).symm) | (exact decide_eq_decide.2 (by omega))) w0 _) (fun v72 H72 r72 => ?_)
            obtain ⟨rfl, hs72⟩ := r72
            replace mx := mx.nw hs72
            replace hl := hl.nw hs72
            replace va := va.nw hs72
            replace hm0 := hm0.tr hs72
            replace hcm6 := hcm6.tr hs72
            have hz31 := hs72.size
            have hq72 := hqn69.tr hs72
            refine ⟨.inr hq72, LH.narrow (SH2 := fun Hq => Nw H72 Hq) (fun Hq hq => hq72.tr hq) ?_⟩
            have hqn72 := Nw.refl H72
            refine LH.one (i := 60) (by kernel_rfl) ?_
            refine LO.z rfl (Z.litw _ ([mustL (decide (x.k = 1 ∨ x.k = 2)) 3, chk x.br, mustL (argB x) 1, mustL (decide (x.td.length ≤ 100)) 4]) rfl inf62 rfl rfl rfl (by decide) (by decide) fI_len fI_one (rfl)) (Wd.u rfl) rfl rfl (fun v73 H73 r73 => ?_)
            obtain ⟨ow73, hs73, ob73, hH73⟩ := r73
            have hzs73 : H73.size = H72.size + 1 := by rw [hH73]; simp
            have df34 := (DF.new (bf_mx.mono hm0.size) : DF _ (H72.size + 1))
            have df35 := (DF.new (bf_hl.mono hm0.size) : DF _ (H72.size + 1))
            have dj36 : Dj (H0.size + 1) (H72.size + 1) := Dj.new va.lt
            have nx37 : Nx 0 H0.size (H72.size + 1) := Nx.new hm0.size
            have nx38 : Nx 0 H1.size (H72.size + 1) := Nx.new hcm6.size
            replace mx := mx.nw hs73
            replace hl := hl.nw hs73
            replace va := va.nw hs73
            replace hm0 := hm0.tr hs73
            replace hcm6 := hcm6.tr hs73
            have hz32 := hs73.size
            have hq73 := hqn72.tr hs73
            refine ⟨.inr hq73, LH.narrow (SH2 := fun Hq => Nw H73 Hq) (fun Hq hq => hq73.tr hq) ?_⟩
            have hqn73 := Nw.refl H73
            refine LH.one (i := 61) (by kernel_rfl) ?_
            -- call selvage/refs.first
            refine LO.call rfl rfl Tryd.call27 rfl (Wd.u rfl) rfl rfl (rfirst_ct _ [mustL (decide (x.k = 1 ∨ x.k = 2)) 3, chk x.br, mustL (argB x) 1, mustL (decide (x.td.length ≤ 100)) 4] w0 _ ow73.rd.any) (fun v74 H74 r74 => ?_)
            obtain ⟨rfl, hs74⟩ := r74
            replace mx := mx.nw hs74
            replace hl := hl.nw hs74
            replace va := va.nw hs74
            replace ow73 := ow73.nw hs74
            replace hm0 := hm0.tr hs74
            replace hcm6 := hcm6.tr hs74
            have hz33 := hs74.size
            have hq74 := hqn73.tr hs74
            refine ⟨.inr hq74, LH.narrow (SH2 := fun Hq => Nw H74 Hq) (fun Hq hq => hq74.tr hq) ?_⟩
            have hqn74 := Nw.refl H74
            refine LH.take 62 (by kernel_rfl) rfl (by kernel_rfl) (by kernel_rfl) (by kernel_rfl) (fun Hq hq => Y.assign rfl rfl) (Wd.u rfl) rfl rfl hqn74 ?_
            refine LH.done (by kernel_rfl) ?_
            have hqe := hqn74
            refine QN.sub (hK6 (headE x) _ ?_) ⟨rfl, rfl, trivial⟩
            exact ⟨rfl, hcm6⟩
        ·
          refine LH.gs 17 (by kernel_rfl) rfl (by kernel_rfl) (by kernel_rfl) (by kernel_rfl) rfl rfl rfl rfl rfl rfl hqn27 ?_
          refine LH.gs 18 (by kernel_rfl) rfl (by kernel_rfl) (by kernel_rfl) (by kernel_rfl) rfl rfl rfl rfl rfl rfl hqn27 ?_
          refine LH.gs 19 (by kernel_rfl) rfl (by kernel_rfl) (by kernel_rfl) (by kernel_rfl) rfl rfl rfl rfl rfl rfl hqn27 ?_
          refine LH.gs 20 (by kernel_rfl) rfl (by kernel_rfl) (by kernel_rfl) (by kernel_rfl) rfl rfl rfl rfl rfl rfl hqn27 ?_
          refine LH.take 21 (by kernel_rfl) rfl (by kernel_rfl) (by kernel_rfl) (by kernel_rfl) (fun Hq hq => Y.pick_f rfl rfl rfl) (Wd.u rfl) rfl rfl hqn27 ?_
          refine LH.take 22 (by kernel_rfl) rfl (by kernel_rfl) (by kernel_rfl) (by kernel_rfl) (fun Hq hq => Y.move rfl rfl) (Wd.u rfl) rfl rfl hqn27 ?_
          refine LH.gs 23 (by kernel_rfl) rfl (by kernel_rfl) (by kernel_rfl) (by kernel_rfl) rfl rfl rfl rfl rfl rfl hqn27 ?_
          refine LH.gs 24 (by kernel_rfl) rfl (by kernel_rfl) (by kernel_rfl) (by kernel_rfl) rfl rfl rfl rfl rfl rfl hqn27 ?_
          refine LH.gs 25 (by kernel_rfl) rfl (by kernel_rfl) (by kernel_rfl) (by kernel_rfl) rfl rfl rfl rfl rfl rfl hqn27 ?_
          refine LH.take 26 (by kernel_rfl) rfl (by kernel_rfl) (by kernel_rfl) (by kernel_rfl) (fun Hq hq => Y.pick_f rfl rfl rfl) (Wd.u rfl) rfl rfl hqn27 ?_
          refine LH.take 27 (by kernel_rfl) rfl (by kernel_rfl) (by kernel_rfl) (by kernel_rfl) (fun Hq hq => Y.move rfl rfl) (Wd.u rfl) rfl rfl hqn27 ?_
          refine LH.gs 28 (by kernel_rfl) rfl (by kernel_rfl) (by kernel_rfl) (by kernel_rfl) rfl rfl rfl rfl rfl rfl hqn27 ?_
          refine LH.gs 29 (by kernel_rfl) rfl (by kernel_rfl) (by kernel_rfl) (by kernel_rfl) rfl rfl rfl rfl rfl rfl hqn27 ?_
          refine LH.gs 30 (by kernel_rfl) rfl (by kernel_rfl) (by kernel_rfl) (by kernel_rfl) rfl rfl rfl rfl rfl rfl hqn27 ?_
          refine LH.gs 31 (by kernel_rfl) rfl (by kernel_rfl) (by kernel_rfl) (by kernel_rfl) rfl rfl rfl rfl rfl rfl hqn27 ?_
          refine LH.take 32 (by kernel_rfl) rfl (by kernel_rfl) (by kernel_rfl) (by kernel_rfl) (fun Hq hq => Y.pick_f rfl rfl rfl) (Wd.u rfl) rfl rfl hqn27 ?_
          refine LH.take 33 (by kernel_rfl) rfl (by kernel_rfl) (by kernel_rfl) (by kernel_rfl) (fun Hq hq => Y.move rfl rfl) (Wd.u rfl) rfl rfl hqn27 ?_
          refine LH.gs 34 (by kernel_rfl) rfl (by kernel_rfl) (by kernel_rfl) (by kernel_rfl) rfl rfl rfl rfl rfl rfl hqn27 ?_
          refine LH.gs 35 (by kernel_rfl) rfl (by kernel_rfl) (by kernel_rfl) (by kernel_rfl) rfl rfl rfl rfl rfl rfl hqn27 ?_
          refine LH.gs 36 (by kernel_rfl) rfl (by kernel_rfl) (by kernel_rfl) (by kernel_rfl) rfl rfl rfl rfl rfl rfl hqn27 ?_
          refine LH.take 37 (by kernel_rfl) rfl (by kernel_rfl) (by kernel_rfl) (by kernel_rfl) (fun Hq hq => Y.pick_f rfl rfl rfl) (Wd.u rfl) rfl rfl hqn27 ?_
          refine LH.take 38 (by kernel_rfl) rfl (by kernel_rfl) (by kernel_rfl) (by kernel_rfl) (fun Hq hq => Y.move rfl rfl) (Wd.u rfl) rfl rfl hqn27 ?_
          refine LH.gs 39 (by kernel_rfl) rfl (by kernel_rfl) (by kernel_rfl) (by kernel_rfl) rfl rfl rfl rfl rfl rfl hqn27 ?_
          refine LH.gs 40 (by kernel_rfl) rfl (by kernel_rfl) (by kernel_rfl) (by kernel_rfl) rfl rfl rfl rfl rfl rfl hqn27 ?_
          refine LH.gs 41 (by kernel_rfl) rfl (by kernel_rfl) (by kernel_rfl) (by kernel_rfl) rfl rfl rfl rfl rfl rfl hqn27 ?_
          refine LH.gs 42 (by kernel_rfl) rfl (by kernel_rfl) (by kernel_rfl) (by kernel_rfl) rfl rfl rfl rfl rfl rfl hqn27 ?_
          refine LH.gs 43 (by kernel_rfl) rfl (by kernel_rfl) (by kernel_rfl) (by kernel_rfl) rfl rfl rfl rfl rfl rfl hqn27 ?_
          refine LH.take 44 (by kernel_rfl) rfl (by kernel_rfl) (by kernel_rfl) (by kernel_rfl) (fun Hq hq => Y.pick_f rfl rfl rfl) (Wd.u rfl) rfl rfl hqn27 ?_
          refine LH.take 45 (by kernel_rfl) rfl (by kernel_rfl) (by kernel_rfl) (by kernel_rfl) (fun Hq hq => Y.move rfl rfl) (Wd.u rfl) rfl rfl hqn27 ?_
          refine LH.gs 46 (by kernel_rfl) rfl (by kernel_rfl) (by kernel_rfl) (by kernel_rfl) rfl rfl rfl rfl rfl rfl hqn27 ?_
          refine LH.gs 47 (by kernel_rfl) rfl (by kernel_rfl) (by kernel_rfl) (by kernel_rfl) rfl rfl rfl rfl rfl rfl hqn27 ?_
          refine LH.gs 48 (by kernel_rfl) rfl (by kernel_rfl) (by kernel_rfl) (by kernel_rfl) rfl rfl rfl rfl rfl rfl hqn27 ?_
          refine LH.gsu 49 (by kernel_rfl) rfl (by kernel_rfl) (by kernel_rfl) (by kernel_rfl) rfl rfl rfl rfl rfl hqn27 ?_
          refine LH.gsu 50 (by kernel_rfl) rfl (by kernel_rfl) (by kernel_rfl) (by kernel_rfl) rfl rfl rfl rfl rfl hqn27 ?_
          refine LH.gsu 51 (by kernel_rfl) rfl (by kernel_rfl) (by kernel_rfl) (by kernel_rfl) rfl rfl rfl rfl rfl hqn27 ?_
          refine LH.gsu 52 (by kernel_rfl) rfl (by kernel_rfl) (by kernel_rfl) (by kernel_rfl) rfl rfl rfl rfl rfl hqn27 ?_
          refine LH.gs 53 (by kernel_rfl) rfl (by kernel_rfl) (by kernel_rfl) (by kernel_rfl) rfl rfl rfl rfl rfl rfl hqn27 ?_
          refine LH.gs 54 (by kernel_rfl) rfl (by kernel_rfl) (by kernel_rfl) (by kernel_rfl) rfl rfl rfl rfl rfl rfl hqn27 ?_
          refine LH.take 55 (by kernel_rfl) rfl (by kernel_rfl) (by kernel_rfl) (by kernel_rfl) (fun Hq hq => Y.pick_f rfl rfl rfl) (Wd.u rfl) rfl rfl hqn27 ?_
          refine LH.one (i := 56) (by kernel_rfl) ?_
          -- call selvage/refs.must
          refine LO.call rfl rfl Tryd.call26 rfl (Wd.u rfl) rfl rfl (rmust_to (argB x) 1 (by first | exact argT g29 g35 g40 g46 g51 g58 g61 | exact argS g29 g35 g40 g46 g51 g58 g61 | exact (decide_eq_false (by rintro ⟨h1, h2, h3, h4, h5, h6, h7⟩; first | (exact absurd h1 (by assumption)) | (exact absurd h2 (by assumption)) | omega)).symm) w0 _) (fun v69 H69 r69 => ?_)
          obtain ⟨rfl, hs69⟩ := r69
          replace mx := mx.nw hs69
          replace hl := hl.nw hs69
          replace va := va.nw hs69
          replace hm0 := hm0.tr hs69
          replace hcm6 := hcm6.tr hs69
          have hz34 := hs69.size
          have hq69 := hqn27.tr hs69
          refine ⟨.inr hq69, LH.narrow (SH2 := fun Hq => Nw H69 Hq) (fun Hq hq => hq69.tr hq) ?_⟩
          have hqn69 := Nw.refl H69
          refine LH.one (i := 59) (by kernel_rfl) ?_
          -- call selvage/refs.must
          refine LO.call rfl rfl Tryd.call26 rfl (Wd.u rfl) rfl rfl (rmust_to (decide (x.td.length ≤ 100)) 4 (by first | (exact (decide_eq_true (by omega)).symm) | (exact (decide_eq_false (by omega)).symm) | (exact decide_eq_decide.2 (by omega))) w0 _) (fun v72 H72 r72 => ?_)
          obtain ⟨rfl, hs72⟩ := r72
          replace mx := mx.nw hs72
          replace hl := hl.nw hs72
          replace va := va.nw hs72
          replace hm0 := hm0.tr hs72
          replace hcm6 := hcm6.tr hs72
          have hz35 := hs72.size
          have hq72 := hqn69.tr hs72
          refine ⟨.inr hq72, LH.narrow (SH2 := fun Hq => Nw H72 Hq) (fun Hq hq => hq72.tr hq) ?_⟩
          have hqn72 := Nw.refl H72
          refine LH.one (i := 60) (by kernel_rfl) ?_
          refine LO.z rfl (Z.litw _ ([mustL (decide (x.k = 1 ∨ x.k = 2)) 3, chk x.br, mustL (argB x) 1, mustL (decide (x.td.length ≤ 100)) 4]) rfl inf62 rfl rfl rfl (by decide) (by decide) fI_len fI_one (rfl)) (Wd.u rfl) rfl rfl (fun v73 H73 r73 => ?_)
          obtain ⟨ow73, hs73, ob73, hH73⟩ := r73
          have hzs73 : H73.size = H72.size + 1 := by rw [hH73]; simp
          have df39 := (DF.new (bf_mx.mono hm0.size) : DF _ (H72.size + 1))
          have df40 := (DF.new (bf_hl.mono hm0.size) : DF _ (H72.size + 1))
          have dj41 : Dj (H0.size + 1) (H72.size + 1) := Dj.new va.lt
          have nx42 : Nx 0 H0.size (H72.size + 1) := Nx.new hm0.size
          have nx43 : Nx 0 H1.size (H72.size + 1) := Nx.new hcm6.size
          replace mx := mx.nw hs73
          replace hl := hl.nw hs73
          replace va := va.nw hs73
          replace hm0 := hm0.tr hs73
          replace hcm6 := hcm6.tr hs73
          have hz36 := hs73.size
          have hq73 := hqn72.tr hs73
          refine ⟨.inr hq73, LH.narrow (SH2 := fun Hq => Nw H73 Hq) (fun Hq hq => hq73.tr hq) ?_⟩
          have hqn73 := Nw.refl H73
          refine LH.one (i := 61) (by kernel_rfl) ?_
          -- call selvage/refs.first
          refine LO.call rfl rfl Tryd.call27 rfl (Wd.u rfl) rfl rfl (rfirst_ct _ [mustL (decide (x.k = 1 ∨ x.k = 2)) 3, chk x.br, mustL (argB x) 1, mustL (decide (x.td.length ≤ 100)) 4] w0 _ ow73.rd.any) (fun v74 H74 r74 => ?_)
          obtain ⟨rfl, hs74⟩ := r74
          replace mx := mx.nw hs74
          replace hl := hl.nw hs74
          replace va := va.nw hs74
          replace ow73 := ow73.nw hs74
          replace hm0 := hm0.tr hs74
          replace hcm6 := hcm6.tr hs74
          have hz37 := hs74.size
          have hq74 := hqn73.tr hs74
          refine ⟨.inr hq74, LH.narrow (SH2 := fun Hq => Nw H74 Hq) (fun Hq hq => hq74.tr hq) ?_⟩
          have hqn74 := Nw.refl H74
          refine LH.take 62 (by kernel_rfl) rfl (by kernel_rfl) (by kernel_rfl) (by kernel_rfl) (fun Hq hq => Y.assign rfl rfl) (Wd.u rfl) rfl rfl hqn74 ?_
          refine LH.done (by kernel_rfl) ?_
          have hqe := hqn74
          refine QN.sub (hK6 (headE x) _ ?_) ⟨rfl, rfl, trivial⟩
          exact ⟨rfl, hcm6⟩
      ·
        refine LH.take 4 (by kernel_rfl) rfl (by kernel_rfl) (by kernel_rfl) (by kernel_rfl) (fun Hq hq => Y.fieldAddr (va.pt.nw hq) rfl Tryd.runUnderlying26 rfl rfl Tryd.sizeOf3 (by decide) rfl) (Wd.g rfl rfl rfl) rfl rfl hqs ?_
        refine LH.take 5 (by kernel_rfl) rfl (by kernel_rfl) (by kernel_rfl) (by kernel_rfl) (fun Hq hq => Y.load1 (va.pt.nw hq) rfl Tryd.isAgg3 rfl) (Wd.g rfl rfl rfl) rfl rfl hqs ?_
        refine LH.take 6 (by kernel_rfl) rfl (by kernel_rfl) (by kernel_rfl) (by kernel_rfl) (fun Hq hq => Y.eql rfl rfl rfl) (Wd.g rfl rfl rfl) rfl rfl hqs ?_
        refine LH.take 7 (by kernel_rfl) rfl (by kernel_rfl) (by kernel_rfl) (by kernel_rfl) (fun Hq hq => Y.pick_f rfl rfl rfl) (Wd.u rfl) rfl rfl hqs ?_
        refine LH.take 9 (by kernel_rfl) rfl (by kernel_rfl) (by kernel_rfl) (by kernel_rfl) (fun Hq hq => Y.fieldAddr (va.pt.nw hq) rfl Tryd.runUnderlying26 rfl rfl Tryd.sizeOf9 (by decide) rfl) (Wd.u rfl) rfl rfl hqs ?_
        refine LH.take 10 (by kernel_rfl) rfl (by kernel_rfl) (by kernel_rfl) (by kernel_rfl) (fun Hq hq => Y.load1 ((va.pt.drop 1).nw hq) rfl Tryd.isAgg9 rfl) (Wd.u rfl) rfl rfl hqs ?_
        refine LH.take 12 (by kernel_rfl) rfl (by kernel_rfl) (by kernel_rfl) (by kernel_rfl) (fun Hq hq => Y.fieldAddr (va.pt.nw hq) rfl Tryd.runUnderlying26 rfl rfl Tryd.sizeOf23 (by decide) rfl) (Wd.u rfl) rfl rfl hqs ?_
        refine LH.take 13 (by kernel_rfl) rfl (by kernel_rfl) (by kernel_rfl) (by kernel_rfl) (fun Hq hq => Y.cast (v2 := idV x.og) (Y.loadN (((va.pt.drop 2).nw hq).take 32) rfl Tryd.isAgg23 Tryd.sizeOf23 (by simp [fQ_len]) rfl) (congrArg (fun z : List Value => Value.agg z.toArray) ((fQ_og _).trans (kc_eq hw.ho)))) (Wd.u rfl) rfl rfl hqs ?_
        refine LH.take 57 (by kernel_rfl) rfl (by kernel_rfl) (by kernel_rfl) (by kernel_rfl) (fun Hq hq => Y.move rfl rfl) (Wd.u rfl) rfl rfl hqs ?_
        refine LH.take 58 (by kernel_rfl) rfl (by kernel_rfl) (by kernel_rfl) (by kernel_rfl) (fun Hq hq => Y.leq rfl rfl rfl) (Wd.u rfl) rfl rfl hqs ?_
        refine LH.one (i := 8) (by kernel_rfl) ?_
        -- call selvage/refs.must
        refine LO.call rfl rfl Tryd.call26 rfl (Wd.u rfl) rfl rfl (rmust_to (decide (x.k = 1 ∨ x.k = 2)) 3 (by first | (exact (decide_eq_true (by omega)).symm) | (exact (decide_eq_false (by omega)).symm) | (exact decide_eq_decide.2 (by omega))) w0 _) (fun v21 H21 r21 => ?_)
        obtain ⟨rfl, hs21⟩ := r21
        replace mx := mx.nw hs21
        replace hl := hl.nw hs21
        replace va := va.nw hs21
        replace hm0 := hm0.tr hs21
        replace hcm6 := hcm6.tr hs21
        have hz38 := hs21.size
        have hq21 := hqs.tr hs21
        refine ⟨.inr hq21, LH.narrow (SH2 := fun Hq => Nw H21 Hq) (fun Hq hq => hq21.tr hq) ?_⟩
        have hqn21 := Nw.refl H21
        refine LH.one (i := 11) (by kernel_rfl) ?_
        -- call selvage/name.Check
        refine LO.call rfl rfl Tryd.call28 rfl (Wd.u rfl) rfl rfl (chk_ct x.br mx_ w0 _ mx (bf_mx.mono (by omega)) hw.hb) (fun v24 H24 r24 => ?_)
        obtain ⟨rfl, hs24⟩ := r24
        replace mx := mx.nw hs24
        replace hl := hl.nw hs24
        replace va := va.nw hs24
        replace hm0 := hm0.tr hs24
        replace hcm6 := hcm6.tr hs24
        have hz39 := hs24.size
        have hq24 := hqn21.tr hs24
        refine ⟨.inr hq24, LH.narrow (SH2 := fun Hq => Nw H24 Hq) (fun Hq hq => hq24.tr hq) ?_⟩
        have hqn24 := Nw.refl H24
        refine LH.one (i := 14) (by kernel_rfl) ?_
        -- call selvage/refs.none
        refine LO.call rfl rfl Tryd.call46 rfl (Wd.u rfl) rfl rfl (rnone_ct x.og w0 _ hw.ho) (fun v27 H27 r27 => ?_)
        obtain ⟨rfl, hs27⟩ := r27
        replace mx := mx.nw hs27
        replace hl := hl.nw hs27
        replace va := va.nw hs27
        replace hm0 := hm0.tr hs27
        replace hcm6 := hcm6.tr hs27
        have hz40 := hs27.size
        have hq27 := hqn24.tr hs27
        refine ⟨.inr hq27, LH.narrow (SH2 := fun Hq => Nw H27 Hq) (fun Hq hq => hq27.tr hq) ?_⟩
        have hqn27 := Nw.refl H27
        refine LH.take 15 (by kernel_rfl) rfl (by kernel_rfl) (by kernel_rfl) (by kernel_rfl) (fun Hq hq => Y.notp rfl rfl) (Wd.u rfl) rfl rfl hqn27 ?_
        refine LH.take 16 (by kernel_rfl) rfl (by kernel_rfl) (by kernel_rfl) (by kernel_rfl) (fun Hq hq => Y.move rfl rfl) (Wd.u rfl) rfl rfl hqn27 ?_
        refine LH.splitp (d := 29) rfl (fun g29 => ?_) (fun g29 => ?_)
        ·
          refine LH.take 17 (by kernel_rfl) rfl (by kernel_rfl) (by kernel_rfl) (by kernel_rfl) (fun Hq hq => Y.fieldAddr (va.pt.nw hq) rfl Tryd.runUnderlying26 rfl rfl Tryd.sizeOf23 (by decide) rfl) (Wd.g rfl rfl rfl) rfl rfl hqn27 ?_
          refine LH.take 18 (by kernel_rfl) rfl (by kernel_rfl) (by kernel_rfl) (by kernel_rfl) (fun Hq hq => Y.cast (v2 := idV x.cu) (Y.loadN (((va.pt.drop 34).nw hq).take 32) rfl Tryd.isAgg23 Tryd.sizeOf23 (by simp [fQ_len]) rfl) (congrArg (fun z : List Value => Value.agg z.toArray) ((fQ_cu _).trans (kc_eq hw.hc)))) (Wd.g rfl rfl rfl) rfl rfl hqn27 ?_
          refine LH.one (i := 19) (by kernel_rfl) ?_
          -- call selvage/refs.none
          refine LO.call rfl rfl Tryd.call46 rfl (Wd.g rfl rfl rfl) rfl rfl (rnone_ct x.cu w0 _ hw.hc) (fun v32 H32 r32 => ?_)
          obtain ⟨rfl, hs32⟩ := r32
          replace mx := mx.nw hs32
          replace hl := hl.nw hs32
          replace va := va.nw hs32
          replace hm0 := hm0.tr hs32
          replace hcm6 := hcm6.tr hs32
          have hz41 := hs32.size
          have hq32 := hqn27.tr hs32
          refine ⟨.inr hq32, LH.narrow (SH2 := fun Hq => Nw H32 Hq) (fun Hq hq => hq32.tr hq) ?_⟩
          have hqn32 := Nw.refl H32
          refine LH.take 20 (by kernel_rfl) rfl (by kernel_rfl) (by kernel_rfl) (by kernel_rfl) (fun Hq hq => Y.notp rfl rfl) (Wd.g rfl rfl rfl) rfl rfl hqn32 ?_
          refine LH.take 21 (by kernel_rfl) rfl (by kernel_rfl) (by kernel_rfl) (by kernel_rfl) (fun Hq hq => Y.pick_t rfl rfl rfl) (Wd.u rfl) rfl rfl hqn32 ?_
          refine LH.take 22 (by kernel_rfl) rfl (by kernel_rfl) (by kernel_rfl) (by kernel_rfl) (fun Hq hq => Y.move rfl rfl) (Wd.u rfl) rfl rfl hqn32 ?_
          refine LH.splitp (d := 35) rfl (fun g35 => ?_) (fun g35 => ?_)
          ·
            refine LH.take 23 (by kernel_rfl) rfl (by kernel_rfl) (by kernel_rfl) (by kernel_rfl) (fun Hq hq => Y.fieldAddr (va.pt.nw hq) rfl Tryd.runUnderlying26 rfl rfl Tryd.sizeOf3 (by decide) rfl) (Wd.g rfl rfl rfl) rfl rfl hqn32 ?_
            refine LH.take 24 (by kernel_rfl) rfl (by kernel_rfl) (by kernel_rfl) (by kernel_rfl) (fun Hq hq => Y.load1 (va.pt.q67.nw hq) rfl Tryd.isAgg3 rfl) (Wd.g rfl rfl rfl) rfl rfl hqn32 ?_
            refine LH.take 25 (by kernel_rfl) rfl (by kernel_rfl) (by kernel_rfl) (by kernel_rfl) (fun Hq hq => Y.geq rfl rfl rfl) (Wd.g rfl rfl rfl) rfl rfl hqn32 ?_
            refine LH.take 26 (by kernel_rfl) rfl (by kernel_rfl) (by kernel_rfl) (by kernel_rfl) (fun Hq hq => Y.pick_t rfl rfl rfl) (Wd.u rfl) rfl rfl hqn32 ?_
            refine LH.take 27 (by kernel_rfl) rfl (by kernel_rfl) (by kernel_rfl) (by kernel_rfl) (fun Hq hq => Y.move rfl rfl) (Wd.u rfl) rfl rfl hqn32 ?_
            refine LH.splitp (d := 40) rfl (fun g40 => ?_) (fun g40 => ?_)
            ·
              refine LH.take 28 (by kernel_rfl) rfl (by kernel_rfl) (by kernel_rfl) (by kernel_rfl) (fun Hq hq => Y.fieldAddr (va.pt.nw hq) rfl Tryd.runUnderlying26 rfl rfl Tryd.sizeOf3 (by decide) rfl) (Wd.g rfl rfl rfl) rfl rfl hqn32 ?_
              refine LH.take 29 (by kernel_rfl) rfl (by kernel_rfl) (by kernel_rfl) (by kernel_rfl) (fun Hq hq => Y.load1 (va.pt.q67.nw hq) rfl Tryd.isAgg3 rfl) (Wd.g rfl rfl rfl) rfl rfl hqn32 ?_
              refine LH.take 30 (by kernel_rfl) rfl (by kernel_rfl) (by kernel_rfl) (by kernel_rfl) (fun Hq hq => Y.move rfl rfl) (Wd.g rfl rfl rfl) rfl rfl hqn32 ?_
              refine LH.take 31 (by kernel_rfl) rfl (by kernel_rfl) (by kernel_rfl) (by kernel_rfl) (fun Hq hq => Y.leq rfl rfl rfl) (Wd.g rfl rfl rfl) rfl rfl hqn32 ?_
              refine LH.take 32 (by kernel_rfl) rfl (by kernel_rfl) (by kernel_rfl) (by kernel_rfl) (fun Hq hq => Y.pick_t rfl rfl rfl) (Wd.u rfl) rfl rfl hqn32 ?_
              refine LH.take 33 (by kernel_rfl) rfl (by kernel_rfl) (by kernel_rfl) (by kernel_rfl) (fun Hq hq => Y.move rfl rfl) (Wd.u rfl) rfl rfl hqn32 ?_
              refine LH.splitp (d := 46) rfl (fun g46 => ?_) (fun g46 => ?_)
              ·
                refine LH.take 34 (by kernel_rfl) rfl (by kernel_rfl) (by kernel_rfl) (by kernel_rfl) (fun Hq hq => Y.fieldAddr (va.pt.nw hq) rfl Tryd.runUnderlying26 rfl rfl Tryd.sizeOf3 (by decide) rfl) (Wd.g rfl rfl rfl) rfl rfl hqn32 ?_
                refine LH.take 35 (by kernel_rfl) rfl (by kernel_rfl) (by kernel_rfl) (by kernel_rfl) (fun Hq hq => Y.load1 ((va.pt.q67.drop 1).nw hq) rfl Tryd.isAgg3 rfl) (Wd.g rfl rfl rfl) rfl rfl hqn32 ?_
                refine LH.take 36 (by kernel_rfl) rfl (by kernel_rfl) (by kernel_rfl) (by kernel_rfl) (fun Hq hq => Y.geq rfl rfl rfl) (Wd.g rfl rfl rfl) rfl rfl hqn32 ?_
                refine LH.take 37 (by kernel_rfl) rfl (by kernel_rfl) (by kernel_rfl) (by kernel_rfl) (fun Hq hq => Y.pick_t rfl rfl rfl) (Wd.u rfl) rfl rfl hqn32 ?_
                refine LH.take 38 (by kernel_rfl) rfl (by kernel_rfl) (by kernel_rfl) (by kernel_rfl) (fun Hq hq => Y.move rfl rfl) (Wd.u rfl) rfl rfl hqn32 ?_
                refine LH.splitp (d := 51) rfl (fun g51 => ?_) (fun g51 => ?_)
                ·
                  refine LH.take 39 (by kernel_rfl) rfl (by kernel_rfl) (by kernel_rfl) (by kernel_rfl) (fun Hq hq => Y.fieldAddr (va.pt.nw hq) rfl Tryd.runUnderlying26 rfl rfl Tryd.sizeOf3 (by decide) rfl) (Wd.g rfl rfl rfl) rfl rfl hqn32 ?_
                  refine LH.take 40 (by kernel_rfl) rfl (by kernel_rfl) (by kernel_rfl) (by kernel_rfl) (fun Hq hq => Y.load1 ((va.pt.q67.drop 1).nw hq) rfl Tryd.isAgg3 rfl) (Wd.g rfl rfl rfl) rfl rfl hqn32 ?_
                  refine LH.take 41 (by kernel_rfl) rfl (by kernel_rfl) (by kernel_rfl) (by kernel_rfl) (fun Hq hq => Y.fieldAddr (va.pt.nw hq) rfl Tryd.runUnderlying26 rfl rfl Tryd.sizeOf3 (by decide) rfl) (Wd.g rfl rfl rfl) rfl rfl hqn32 ?_
                  refine LH.take 42 (by kernel_rfl) rfl (by kernel_rfl) (by kernel_rfl) (by kernel_rfl) (fun Hq hq => Y.load1 (va.pt.q67.nw hq) rfl Tryd.isAgg3 rfl) (Wd.g rfl rfl rfl) rfl rfl hqn32 ?_
                  refine LH.take 43 (by kernel_rfl) rfl (by kernel_rfl) (by kernel_rfl) (by kernel_rfl) (fun Hq hq => Y.leq rfl rfl rfl) (Wd.g rfl rfl rfl) rfl rfl hqn32 ?_
                  refine LH.take 44 (by kernel_rfl) rfl (by kernel_rfl) (by kernel_rfl) (by kernel_rfl) (fun Hq hq => Y.pick_t rfl rfl rfl) (Wd.u rfl) rfl rfl hqn32 ?_
                  refine LH.take 45 (by kernel_rfl) rfl (by kernel_rfl) (by kernel_rfl) (by kernel_rfl) (fun Hq hq => Y.move rfl rfl) (Wd.u rfl) rfl rfl hqn32 ?_
                  refine LH.splitp (d := 58) rfl (fun g58 => ?_) (fun g58 => ?_)
                  ·
                    refine LH.take 46 (by kernel_rfl) rfl (by kernel_rfl) (by kernel_rfl) (by kernel_rfl) (fun Hq hq => Y.fieldAddr (va.pt.nw hq) rfl Tryd.runUnderlying26 rfl rfl Tryd.sizeOf4 (by decide) rfl) (Wd.g rfl rfl rfl) rfl rfl hqn32 ?_
                    refine LH.take 47 (by kernel_rfl) rfl (by kernel_rfl) (by kernel_rfl) (by kernel_rfl) (fun Hq hq => Y.load1 ((va.pt.q67.drop 2).nw hq) rfl Tryd.isAgg4 rfl) (Wd.g rfl rfl rfl) rfl rfl hqn32 ?_
                    refine LH.take 48 (by kernel_rfl) rfl (by kernel_rfl) (by kernel_rfl) (by kernel_rfl) (fun Hq hq => Y.move rfl rfl) (Wd.g rfl rfl rfl) rfl rfl hqn32 ?_
                    refine LH.split (d := 61) rfl (fun g61 => ?_) (fun g61 => ?_)
                    ·
                      refine LH.take 49 (by kernel_rfl) rfl (by kernel_rfl) (by kernel_rfl) (by kernel_rfl) (fun Hq hq => Y.fieldAddr (va.pt.nw hq) rfl Tryd.runUnderlying26 rfl rfl Tryd.sizeOf3 (by decide) rfl) (Wd.g rfl rfl rfl) rfl rfl hqn32 ?_
                      refine LH.take 50 (by kernel_rfl) rfl (by kernel_rfl) (by kernel_rfl) (by kernel_rfl) (fun Hq hq => Y.load1 (va.pt.q67.nw hq) rfl Tryd.isAgg3 rfl) (Wd.g rfl rfl rfl) rfl rfl hqn32 ?_
                      refine LH.take 51 (by kernel_rfl) rfl (by kernel_rfl) (by kernel_rfl) (by kernel_rfl) (fun Hq hq => Y.move rfl rfl) (Wd.g rfl rfl rfl) rfl rfl hqn32 ?_
                      refine LH.take 52 (by kernel_rfl) rfl (by kernel_rfl) (by kernel_rfl) (by kernel_rfl) (fun Hq hq => Y.eql rfl rfl rfl) (Wd.g rfl rfl rfl) rfl rfl hqn32 ?_
                      refine LH.take 53 (by kernel_rfl) rfl (by kernel_rfl) (by kernel_rfl) (by kernel_rfl) (fun Hq hq => Y.pick_t rfl rfl rfl) (Wd.g rfl rfl rfl) rfl rfl hqn32 ?_
                      refine LH.take 54 (by kernel_rfl) rfl (by kernel_rfl) (by kernel_rfl) (by kernel_rfl) (fun Hq hq => Y.notp rfl rfl) (Wd.g rfl rfl rfl) rfl rfl hqn32 ?_
                      refine LH.take 55 (by kernel_rfl) rfl (by kernel_rfl) (by kernel_rfl) (by kernel_rfl) (fun Hq hq => Y.pick_t rfl rfl rfl) (Wd.u rfl) rfl rfl hqn32 ?_
                      refine LH.one (i := 56) (by kernel_rfl) ?_
                      -- call selvage/refs.must
                      refine LO.call rfl rfl Tryd.call26 rfl (Wd.u rfl) rfl rfl (rmust_to (argB x) 1 (by first | exact argT g29 g35 g40 g46 g51 g58 g61 | exact argS g29 g35 g40 g46 g51 g58 g61 | exact (decide_eq_false (by rintro ⟨h1, h2, h3, h4, h5, h6, h7⟩; first | (exact absurd h1 (by assumption)) | (exact absurd h2 (by assumption)) | omega)).symm) w0 _) (fun v69 H69 r69 => ?_)
                      obtain ⟨rfl, hs69⟩ := r69
                      replace mx := mx.nw hs69
                      replace hl := hl.nw hs69
                      replace va := va.nw hs69
                      replace hm0 := hm0.tr hs69
                      replace hcm6 := hcm6.tr hs69
                      have hz42 := hs69.size
                      have hq69 := hqn32.tr hs69
                      refine ⟨.inr hq69, LH.narrow (SH2 := fun Hq => Nw H69 Hq) (fun Hq hq => hq69.tr hq) ?_⟩
                      have hqn69 := Nw.refl H69
                      refine LH.one (i := 59) (by kernel_rfl) ?_
                      -- call selvage/refs.must
                      refine LO.call rfl rfl Tryd.call26 rfl (Wd.u rfl) rfl rfl (rmust_to (decide (x.td.length ≤ 100)) 4 (by first | (exact (decide_eq_true (by omega)).symm) | (exact (decide_eq_false (by omega)).symm) | (exact decide_eq_decide.2 (by omega))) w0 _) (fun v72 H72 r72 => ?_)
                      obtain ⟨rfl, hs72⟩ := r72
                      replace mx := mx.nw hs72
                      replace hl := hl.nw hs72
                      replace va := va.nw hs72
                      replace hm0 := hm0.tr hs72
                      replace hcm6 := hcm6.tr hs72
                      have hz43 := hs72.size
                      have hq72 := hqn69.tr hs72
                      refine ⟨.inr hq72, LH.narrow (SH2 := fun Hq => Nw H72 Hq) (fun Hq hq => hq72.tr hq) ?_⟩
                      have hqn72 := Nw.refl H72
                      refine LH.one (i := 60) (by kernel_rfl) ?_
                      refine LO.z rfl (Z.litw _ ([mustL (decide (x.k = 1 ∨ x.k = 2)) 3, chk x.br, mustL (argB x) 1, mustL (decide (x.td.length ≤ 100)) 4]) rfl inf62 rfl rfl rfl (by decide) (by decide) fI_len fI_one (rfl)) (Wd.u rfl) rfl rfl (fun v73 H73 r73 => ?_)
                      obtain ⟨ow73, hs73, ob73, hH73⟩ := r73
                      have hzs73 : H73.size = H72.size + 1 := by rw [hH73]; simp
                      have df44 := (DF.new (bf_mx.mono hm0.size) : DF _ (H72.size + 1))
                      have df45 := (DF.new (bf_hl.mono hm0.size) : DF _ (H72.size + 1))
                      have dj46 : Dj (H0.size + 1) (H72.size + 1) := Dj.new va.lt
                      have nx47 : Nx 0 H0.size (H72.size + 1) := Nx.new hm0.size
                      have nx48 : Nx 0 H1.size (H72.size + 1) := Nx.new hcm6.size
                      replace mx := mx.nw hs73
                      replace hl := hl.nw hs73
                      replace va := va.nw hs73
                      replace hm0 := hm0.tr hs73
                      replace hcm6 := hcm6.tr hs73
                      have hz44 := hs73.size
                      have hq73 := hqn72.tr hs73
                      refine ⟨.inr hq73, LH.narrow (SH2 := fun Hq => Nw H73 Hq) (fun Hq hq => hq73.tr hq) ?_⟩
                      have hqn73 := Nw.refl H73
                      refine LH.one (i := 61) (by kernel_rfl) ?_
                      -- call selvage/refs.first
                      refine LO.call rfl rfl Tryd.call27 rfl (Wd.u rfl) rfl rfl (rfirst_ct _ [mustL (decide (x.k = 1 ∨ x.k = 2)) 3, chk x.br, mustL (argB x) 1, mustL (decide (x.td.length ≤ 100)) 4] w0 _ ow73.rd.any) (fun v74 H74 r74 => ?_)
                      obtain ⟨rfl, hs74⟩ := r74
                      replace mx := mx.nw hs74
                      replace hl := hl.nw hs74
                      replace va := va.nw hs74
                      replace ow73 := ow73.nw hs74
                      replace hm0 := hm0.tr hs74
                      replace hcm6 := hcm6.tr hs74
                      have hz45 := hs74.size
                      have hq74 := hqn73.tr hs74
                      refine ⟨.inr hq74, LH.narrow (SH2 := fun Hq => Nw H74 Hq) (fun Hq hq => hq74.tr hq) ?_⟩
                      have hqn74 := Nw.refl H74
                      refine LH.take 62 (by kernel_rfl) rfl (by kernel_rfl) (by kernel_rfl) (by kernel_rfl) (fun Hq hq => Y.assign rfl rfl) (Wd.u rfl) rfl rfl hqn74 ?_
                      refine LH.done (by kernel_rfl) ?_
                      have hqe := hqn74
                      refine QN.sub (hK6 (headE x) _ ?_) ⟨rfl, rfl, trivial⟩
                      exact ⟨rfl, hcm6⟩
                    ·
                      refine LH.gs 49 (by kernel_rfl) rfl (by kernel_rfl) (by kernel_rfl) (by kernel_rfl) rfl rfl rfl rfl rfl rfl hqn32 ?_
                      refine LH.gs 50 (by kernel_rfl) rfl (by kernel_rfl) (by kernel_rfl) (by kernel_rfl) rfl rfl rfl rfl rfl rfl hqn32 ?_
                      refine LH.gs 51 (by kernel_rfl) rfl (by kernel_rfl) (by kernel_rfl) (by kernel_rfl) rfl rfl rfl rfl rfl rfl hqn32 ?_
                      refine LH.gs 52 (by kernel_rfl) rfl (by kernel_rfl) (by kernel_rfl) (by kernel_rfl) rfl rfl rfl rfl rfl rfl hqn32 ?_
                      refine LH.take 53 (by kernel_rfl) rfl (by kernel_rfl) (by kernel_rfl) (by kernel_rfl) (fun Hq hq => Y.pick_f rfl rfl rfl) (Wd.g rfl rfl rfl) rfl rfl hqn32 ?_
                      refine LH.take 54 (by kernel_rfl) rfl (by kernel_rfl) (by kernel_rfl) (by kernel_rfl) (fun Hq hq => Y.not rfl rfl) (Wd.g rfl rfl rfl) rfl rfl hqn32 ?_
                      refine LH.take 55 (by kernel_rfl) rfl (by kernel_rfl) (by kernel_rfl) (by kernel_rfl) (fun Hq hq => Y.pick_t rfl rfl rfl) (Wd.u rfl) rfl rfl hqn32 ?_
                      refine LH.one (i := 56) (by kernel_rfl) ?_
                      -- call selvage/refs.must
                      refine LO.call rfl rfl Tryd.call26 rfl (Wd.u rfl) rfl rfl (rmust_to (argB x) 1 (by first | exact argT g29 g35 g40 g46 g51 g58 g61 | exact argS g29 g35 g40 g46 g51 g58 g61 | exact (decide_eq_false (by rintro ⟨h1, h2, h3, h4, h5, h6, h7⟩; first | (exact absurd h1 (by assumption)) | (exact absurd h2 (by assumption)) | omega)).symm) w0 _) (fun v69 H69 r69 => ?_)
                      obtain ⟨rfl, hs69⟩ := r69
                      replace mx := mx.nw hs69
                      replace hl := hl.nw hs69
                      replace va := va.nw hs69
                      replace hm0 := hm0.tr hs69
                      replace hcm6 := hcm6.tr hs69
                      have hz46 := hs69.size
                      have hq69 := hqn32.tr hs69
                      refine ⟨.inr hq69, LH.narrow (SH2 := fun Hq => Nw H69 Hq) (fun Hq hq => hq69.tr hq) ?_⟩
                      have hqn69 := Nw.refl H69
                      refine LH.one (i := 59) (by kernel_rfl) ?_
                      -- call selvage/refs.must
                      refine LO.call rfl rfl Tryd.call26 rfl (Wd.u rfl) rfl rfl (rmust_to (decide (x.td.length ≤ 100)) 4 (by first | (exact (decide_eq_true (by omega)).symm) | (exact (decide_eq_false (by omega)).symm) | (exact decide_eq_decide.2 (by omega))) w0 _) (fun v72 H72 r72 => ?_)
                      obtain ⟨rfl, hs72⟩ := r72
                      replace mx := mx.nw hs72
                      replace hl := hl.nw hs72
                      replace va := va.nw hs72
                      replace hm0 := hm0.tr hs72
                      replace hcm6 := hcm6.tr hs72
                      have hz47 := hs72.size
                      have hq72 := hqn69.tr hs72
                      refine ⟨.inr hq72, LH.narrow (SH2 := fun Hq => Nw H72 Hq) (fun Hq hq => hq72.tr hq) ?_⟩
                      have hqn72 := Nw.refl H72
                      refine LH.one (i := 60) (by kernel_rfl) ?_
                      refine LO.z rfl (Z.litw _ ([mustL (decide (x.k = 1 ∨ x.k = 2)) 3, chk x.br, mustL (argB x) 1, mustL (decide (x.td.length ≤ 100)) 4]) rfl inf62 rfl rfl rfl (by decide) (by decide) fI_len fI_one (rfl)) (Wd.u rfl) rfl rfl (fun v73 H73 r73 => ?_)
                      obtain ⟨ow73, hs73, ob73, hH73⟩ := r73
                      have hzs73 : H73.size = H72.size + 1 := by rw [hH73]; simp
                      have df49 := (DF.new (bf_mx.mono hm0.size) : DF _ (H72.size + 1))
                      have df50 := (DF.new (bf_hl.mono hm0.size) : DF _ (H72.size + 1))
                      have dj51 : Dj (H0.size + 1) (H72.size + 1) := Dj.new va.lt
                      have nx52 : Nx 0 H0.size (H72.size + 1) := Nx.new hm0.size
                      have nx53 : Nx 0 H1.size (H72.size + 1) := Nx.new hcm6.size
                      replace mx := mx.nw hs73
                      replace hl := hl.nw hs73
                      replace va := va.nw hs73
                      replace hm0 := hm0.tr hs73
                      replace hcm6 := hcm6.tr hs73
                      have hz48 := hs73.size
                      have hq73 := hqn72.tr hs73
                      refine ⟨.inr hq73, LH.narrow (SH2 := fun Hq => Nw H73 Hq) (fun Hq hq => hq73.tr hq) ?_⟩
                      have hqn73 := Nw.refl H73
                      refine LH.one (i := 61) (by kernel_rfl) ?_
                      -- call selvage/refs.first
                      refine LO.call rfl rfl Tryd.call27 rfl (Wd.u rfl) rfl rfl (rfirst_ct _ [mustL (decide (x.k = 1 ∨ x.k = 2)) 3, chk x.br, mustL (argB x) 1, mustL (decide (x.td.length ≤ 100)) 4] w0 _ ow73.rd.any) (fun v74 H74 r74 => ?_)
                      obtain ⟨rfl, hs74⟩ := r74
                      replace mx := mx.nw hs74
                      replace hl := hl.nw hs74
                      replace va := va.nw hs74
                      replace ow73 := ow73.nw hs74
                      replace hm0 := hm0.tr hs74
                      replace hcm6 := hcm6.tr hs74
                      have hz49 := hs74.size
                      have hq74 := hqn73.tr hs74
                      refine ⟨.inr hq74, LH.narrow (SH2 := fun Hq => Nw H74 Hq) (fun Hq hq => hq74.tr hq) ?_⟩
                      have hqn74 := Nw.refl H74
                      refine LH.take 62 (by kernel_rfl) rfl (by kernel_rfl) (by kernel_rfl) (by kernel_rfl) (fun Hq hq => Y.assign rfl rfl) (Wd.u rfl) rfl rfl hqn74 ?_
                      refine LH.done (by kernel_rfl) ?_
                      have hqe := hqn74
                      refine QN.sub (hK6 (headE x) _ ?_) ⟨rfl, rfl, trivial⟩
                      exact ⟨rfl, hcm6⟩
                  ·
                    refine LH.gs 46 (by kernel_rfl) rfl (by kernel_rfl) (by kernel_rfl) (by kernel_rfl) rfl rfl rfl rfl rfl rfl hqn32 ?_
                    refine LH.gs 47 (by kernel_rfl) rfl (by kernel_rfl) (by kernel_rfl) (by kernel_rfl) rfl rfl rfl rfl rfl rfl hqn32 ?_
                    refine LH.gs 48 (by kernel_rfl) rfl (by kernel_rfl) (by kernel_rfl) (by kernel_rfl) rfl rfl rfl rfl rfl rfl hqn32 ?_
                    refine LH.gsu 49 (by kernel_rfl) rfl (by kernel_rfl) (by kernel_rfl) (by kernel_rfl) rfl rfl rfl rfl rfl hqn32 ?_
                    refine LH.gsu 50 (by kernel_rfl) rfl (by kernel_rfl) (by kernel_rfl) (by kernel_rfl) rfl rfl rfl rfl rfl hqn32 ?_
                    refine LH.gsu 51 (by kernel_rfl) rfl (by kernel_rfl) (by kernel_rfl) (by kernel_rfl) rfl rfl rfl rfl rfl hqn32 ?_
                    refine LH.gsu 52 (by kernel_rfl) rfl (by kernel_rfl) (by kernel_rfl) (by kernel_rfl) rfl rfl rfl rfl rfl hqn32 ?_
                    refine LH.gs 53 (by kernel_rfl) rfl (by kernel_rfl) (by kernel_rfl) (by kernel_rfl) rfl rfl rfl rfl rfl rfl hqn32 ?_
                    refine LH.gs 54 (by kernel_rfl) rfl (by kernel_rfl) (by kernel_rfl) (by kernel_rfl) rfl rfl rfl rfl rfl rfl hqn32 ?_
                    refine LH.take 55 (by kernel_rfl) rfl (by kernel_rfl) (by kernel_rfl) (by kernel_rfl) (fun Hq hq => Y.pick_f rfl rfl rfl) (Wd.u rfl) rfl rfl hqn32 ?_
                    refine LH.one (i := 56) (by kernel_rfl) ?_
                    -- call selvage/refs.must
                    refine LO.call rfl rfl Tryd.call26 rfl (Wd.u rfl) rfl rfl (rmust_to (argB x) 1 (by first | exact argT g29 g35 g40 g46 g51 g58 g61 | exact argS g29 g35 g40 g46 g51 g58 g61 | exact (decide_eq_false (by rintro ⟨h1, h2, h3, h4, h5, h6, h7⟩; first | (exact absurd h1 (by assumption)) | (exact absurd h2 (by assumption)) | omega)).symm) w0 _) (fun v69 H69 r69 => ?_)
                    obtain ⟨rfl, hs69⟩ := r69
                    replace mx := mx.nw hs69
                    replace hl := hl.nw hs69
                    replace va := va.nw hs69
                    replace hm0 := hm0.tr hs69
                    replace hcm6 := hcm6.tr hs69
                    have hz50 := hs69.size
                    have hq69 := hqn32.tr hs69
                    refine ⟨.inr hq69, LH.narrow (SH2 := fun Hq => Nw H69 Hq) (fun Hq hq => hq69.tr hq) ?_⟩
                    have hqn69 := Nw.refl H69
                    refine LH.one (i := 59) (by kernel_rfl) ?_
                    -- call selvage/refs.must
                    refine LO.call rfl rfl Tryd.call26 rfl (Wd.u rfl) rfl rfl (rmust_to (decide (x.td.length ≤ 100)) 4 (by first | (exact (decide_eq_true (by omega)).symm) | (exact (decide_eq_false (by omega)).symm) | (exact decide_eq_decide.2 (by omega))) w0 _) (fun v72 H72 r72 => ?_)
                    obtain ⟨rfl, hs72⟩ := r72
                    replace mx := mx.nw hs72
                    replace hl := hl.nw hs72
                    replace va := va.nw hs72
                    replace hm0 := hm0.tr hs72
                    replace hcm6 := hcm6.tr hs72
                    have hz51 := hs72.size
                    have hq72 := hqn69.tr hs72
                    refine ⟨.inr hq72, LH.narrow (SH2 := fun Hq => Nw H72 Hq) (fun Hq hq => hq72.tr hq) ?_⟩
                    have hqn72 := Nw.refl H72
                    refine LH.one (i := 60) (by kernel_rfl) ?_
                    refine LO.z rfl (Z.litw _ ([mustL (decide (x.k = 1 ∨ x.k = 2)) 3, chk x.br, mustL (argB x) 1, mustL (decide (x.td.length ≤ 100)) 4]) rfl inf62 rfl rfl rfl (by decide) (by decide) fI_len fI_one (rfl)) (Wd.u rfl) rfl rfl (fun v73 H73 r73 => ?_)
                    obtain ⟨ow73, hs73, ob73, hH73⟩ := r73
                    have hzs73 : H73.size = H72.size + 1 := by rw [hH73]; simp
                    have df54 := (DF.new (bf_mx.mono hm0.size) : DF _ (H72.size + 1))
                    have df55 := (DF.new (bf_hl.mono hm0.size) : DF _ (H72.size + 1))
                    have dj56 : Dj (H0.size + 1) (H72.size + 1) := Dj.new va.lt
                    have nx57 : Nx 0 H0.size (H72.size + 1) := Nx.new hm0.size
                    have nx58 : Nx 0 H1.size (H72.size + 1) := Nx.new hcm6.size
                    replace mx := mx.nw hs73
                    replace hl := hl.nw hs73
                    replace va := va.nw hs73
                    replace hm0 := hm0.tr hs73
                    replace hcm6 := hcm6.tr hs73
                    have hz52 := hs73.size
                    have hq73 := hqn72.tr hs73
                    refine ⟨.inr hq73, LH.narrow (SH2 := fun Hq => Nw H73 Hq) (fun Hq hq => hq73.tr hq) ?_⟩
                    have hqn73 := Nw.refl H73
                    refine LH.one (i := 61) (by kernel_rfl) ?_
                    -- call selvage/refs.first
                    refine LO.call rfl rfl Tryd.call27 rfl (Wd.u rfl) rfl rfl (rfirst_ct _ [mustL (decide (x.k = 1 ∨ x.k = 2)) 3, chk x.br, mustL (argB x) 1, mustL (decide (x.td.length ≤ 100)) 4] w0 _ ow73.rd.any) (fun v74 H74 r74 => ?_)
                    obtain ⟨rfl, hs74⟩ := r74
                    replace mx := mx.nw hs74
                    replace hl := hl.nw hs74
                    replace va := va.nw hs74
                    replace ow73 := ow73.nw hs74
                    replace hm0 := hm0.tr hs74
                    replace hcm6 := hcm6.tr hs74
                    have hz53 := hs74.size
                    have hq74 := hqn73.tr hs74
                    refine ⟨.inr hq74, LH.narrow (SH2 := fun Hq => Nw H74 Hq) (fun Hq hq => hq74.tr hq) ?_⟩
                    have hqn74 := Nw.refl H74
                    refine LH.take 62 (by kernel_rfl) rfl (by kernel_rfl) (by kernel_rfl) (by kernel_rfl) (fun Hq hq => Y.assign rfl rfl) (Wd.u rfl) rfl rfl hqn74 ?_
                    refine LH.done (by kernel_rfl) ?_
                    have hqe := hqn74
                    refine QN.sub (hK6 (headE x) _ ?_) ⟨rfl, rfl, trivial⟩
                    exact ⟨rfl, hcm6⟩
                ·
                  refine LH.gs 39 (by kernel_rfl) rfl (by kernel_rfl) (by kernel_rfl) (by kernel_rfl) rfl rfl rfl rfl rfl rfl hqn32 ?_
                  refine LH.gs 40 (by kernel_rfl) rfl (by kernel_rfl) (by kernel_rfl) (by kernel_rfl) rfl rfl rfl rfl rfl rfl hqn32 ?_
                  refine LH.gs 41 (by kernel_rfl) rfl (by kernel_rfl) (by kernel_rfl) (by kernel_rfl) rfl rfl rfl rfl rfl rfl hqn32 ?_
                  refine LH.gs 42 (by kernel_rfl) rfl (by kernel_rfl) (by kernel_rfl) (by kernel_rfl) rfl rfl rfl rfl rfl rfl hqn32 ?_
                  refine LH.gs 43 (by kernel_rfl) rfl (by kernel_rfl) (by kernel_rfl) (by kernel_rfl) rfl rfl rfl rfl rfl rfl hqn32 ?_
                  refine LH.take 44 (by kernel_rfl) rfl (by kernel_rfl) (by kernel_rfl) (by kernel_rfl) (fun Hq hq => Y.pick_f rfl rfl rfl) (Wd.u rfl) rfl rfl hqn32 ?_
                  refine LH.take 45 (by kernel_rfl) rfl (by kernel_rfl) (by kernel_rfl) (by kernel_rfl) (fun Hq hq => Y.move rfl rfl) (Wd.u rfl) rfl rfl hqn32 ?_
                  refine LH.gs 46 (by kernel_rfl) rfl (by kernel_rfl) (by kernel_rfl) (by kernel_rfl) rfl rfl rfl rfl rfl rfl hqn32 ?_
                  refine LH.gs 47 (by kernel_rfl) rfl (by kernel_rfl) (by kernel_rfl) (by kernel_rfl) rfl rfl rfl rfl rfl rfl hqn32 ?_
                  refine LH.gs 48 (by kernel_rfl) rfl (by kernel_rfl) (by kernel_rfl) (by kernel_rfl) rfl rfl rfl rfl rfl rfl hqn32 ?_
                  refine LH.gsu 49 (by kernel_rfl) rfl (by kernel_rfl) (by kernel_rfl) (by kernel_rfl) rfl rfl rfl rfl rfl hqn32 ?_
                  refine LH.gsu 50 (by kernel_rfl) rfl (by kernel_rfl) (by kernel_rfl) (by kernel_rfl) rfl rfl rfl rfl rfl hqn32 ?_
                  refine LH.gsu 51 (by kernel_rfl) rfl (by kernel_rfl) (by kernel_rfl) (by kernel_rfl) rfl rfl rfl rfl rfl hqn32 ?_
                  refine LH.gsu 52 (by kernel_rfl) rfl (by kernel_rfl) (by kernel_rfl) (by kernel_rfl) rfl rfl rfl rfl rfl hqn32 ?_
                  refine LH.gs 53 (by kernel_rfl) rfl (by kernel_rfl) (by kernel_rfl) (by kernel_rfl) rfl rfl rfl rfl rfl rfl hqn32 ?_
                  refine LH.gs 54 (by kernel_rfl) rfl (by kernel_rfl) (by kernel_rfl) (by kernel_rfl) rfl rfl rfl rfl rfl rfl hqn32 ?_
                  refine LH.take 55 (by kernel_rfl) rfl (by kernel_rfl) (by kernel_rfl) (by kernel_rfl) (fun Hq hq => Y.pick_f rfl rfl rfl) (Wd.u rfl) rfl rfl hqn32 ?_
                  refine LH.one (i := 56) (by kernel_rfl) ?_
                  -- call selvage/refs.must
                  refine LO.call rfl rfl Tryd.call26 rfl (Wd.u rfl) rfl rfl (rmust_to (argB x) 1 (by first | exact argT g29 g35 g40 g46 g51 g58 g61 | exact argS g29 g35 g40 g46 g51 g58 g61 | exact (decide_eq_false (by rintro ⟨h1, h2, h3, h4, h5, h6, h7⟩; first | (exact absurd h1 (by assumption)) | (exact absurd h2 (by assumption)) | omega)).symm) w0 _) (fun v69 H69 r69 => ?_)
                  obtain ⟨rfl, hs69⟩ := r69
                  replace mx := mx.nw hs69
                  replace hl := hl.nw hs69
                  replace va := va.nw hs69
                  replace hm0 := hm0.tr hs69
                  replace hcm6 := hcm6.tr hs69
                  have hz54 := hs69.size
                  have hq69 := hqn32.tr hs69
                  refine ⟨.inr hq69, LH.narrow (SH2 := fun Hq => Nw H69 Hq) (fun Hq hq => hq69.tr hq) ?_⟩
                  have hqn69 := Nw.refl H69
                  refine LH.one (i := 59) (by kernel_rfl) ?_
                  -- call selvage/refs.must
                  refine LO.call rfl rfl Tryd.call26 rfl (Wd.u rfl) rfl rfl (rmust_to (decide (x.td.length ≤ 100)) 4 (by first | (exact (decide_eq_true (by omega)).symm) | (exact (decide_eq_false (by omega)).symm) | (exact decide_eq_decide.2 (by omega))) w0 _) (fun v72 H72 r72 => ?_)
                  obtain ⟨rfl, hs72⟩ := r72
                  replace mx := mx.nw hs72
                  replace hl := hl.nw hs72
                  replace va := va.nw hs72
                  replace hm0 := hm0.tr hs72
                  replace hcm6 := hcm6.tr hs72
                  have hz55 := hs72.size
                  have hq72 := hqn69.tr hs72
                  refine ⟨.inr hq72, LH.narrow (SH2 := fun Hq => Nw H72 Hq) (fun Hq hq => hq72.tr hq) ?_⟩
                  have hqn72 := Nw.refl H72
                  refine LH.one (i := 60) (by kernel_rfl) ?_
                  refine LO.z rfl (Z.litw _ ([mustL (decide (x.k = 1 ∨ x.k = 2)) 3, chk x.br, mustL (argB x) 1, mustL (decide (x.td.length ≤ 100)) 4]) rfl inf62 rfl rfl rfl (by decide) (by decide) fI_len fI_one (rfl)) (Wd.u rfl) rfl rfl (fun v73 H73 r73 => ?_)
                  obtain ⟨ow73, hs73, ob73, hH73⟩ := r73
                  have hzs73 : H73.size = H72.size + 1 := by rw [hH73]; simp
                  have df59 := (DF.new (bf_mx.mono hm0.size) : DF _ (H72.size + 1))
                  have df60 := (DF.new (bf_hl.mono hm0.size) : DF _ (H72.size + 1))
                  have dj61 : Dj (H0.size + 1) (H72.size + 1) := Dj.new va.lt
                  have nx62 : Nx 0 H0.size (H72.size + 1) := Nx.new hm0.size
                  have nx63 : Nx 0 H1.size (H72.size + 1) := Nx.new hcm6.size
                  replace mx := mx.nw hs73
                  replace hl := hl.nw hs73
                  replace va := va.nw hs73
                  replace hm0 := hm0.tr hs73
                  replace hcm6 := hcm6.tr hs73
                  have hz56 := hs73.size
                  have hq73 := hqn72.tr hs73
                  refine ⟨.inr hq73, LH.narrow (SH2 := fun Hq => Nw H73 Hq) (fun Hq hq => hq73.tr hq) ?_⟩
                  have hqn73 := Nw.refl H73
                  refine LH.one (i := 61) (by kernel_rfl) ?_
                  -- call selvage/refs.first
                  refine LO.call rfl rfl Tryd.call27 rfl (Wd.u rfl) rfl rfl (rfirst_ct _ [mustL (decide (x.k = 1 ∨ x.k = 2)) 3, chk x.br, mustL (argB x) 1, mustL (decide (x.td.length ≤ 100)) 4] w0 _ ow73.rd.any) (fun v74 H74 r74 => ?_)
                  obtain ⟨rfl, hs74⟩ := r74
                  replace mx := mx.nw hs74
                  replace hl := hl.nw hs74
                  replace va := va.nw hs74
                  replace ow73 := ow73.nw hs74
                  replace hm0 := hm0.tr hs74
                  replace hcm6 := hcm6.tr hs74
                  have hz57 := hs74.size
                  have hq74 := hqn73.tr hs74
                  refine ⟨.inr hq74, LH.narrow (SH2 := fun Hq => Nw H74 Hq) (fun Hq hq => hq74.tr hq) ?_⟩
                  have hqn74 := Nw.refl H74
                  refine LH.take 62 (by kernel_rfl) rfl (by kernel_rfl) (by kernel_rfl) (by kernel_rfl) (fun Hq hq => Y.assign rfl rfl) (Wd.u rfl) rfl rfl hqn74 ?_
                  refine LH.done (by kernel_rfl) ?_
                  have hqe := hqn74
                  refine QN.sub (hK6 (headE x) _ ?_) ⟨rfl, rfl, trivial⟩
                  exact ⟨rfl, hcm6⟩
              ·
                refine LH.gs 34 (by kernel_rfl) rfl (by kernel_rfl) (by kernel_rfl) (by kernel_rfl) rfl rfl rfl rfl rfl rfl hqn32 ?_
                refine LH.gs 35 (by kernel_rfl) rfl (by kernel_rfl) (by kernel_rfl) (by kernel_rfl) rfl rfl rfl rfl rfl rfl hqn32 ?_
                refine LH.gs 36 (by kernel_rfl) rfl (by kernel_rfl) (by kernel_rfl) (by kernel_rfl) rfl rfl rfl rfl rfl rfl hqn32 ?_
                refine LH.take 37 (by kernel_rfl) rfl (by kernel_rfl) (by kernel_rfl) (by kernel_rfl) (fun Hq hq => Y.pick_f rfl rfl rfl) (Wd.u rfl) rfl rfl hqn32 ?_
                refine LH.take 38 (by kernel_rfl) rfl (by kernel_rfl) (by kernel_rfl) (by kernel_rfl) (fun Hq hq => Y.move rfl rfl) (Wd.u rfl) rfl rfl hqn32 ?_
                refine LH.gs 39 (by kernel_rfl) rfl (by kernel_rfl) (by kernel_rfl) (by kernel_rfl) rfl rfl rfl rfl rfl rfl hqn32 ?_
                refine LH.gs 40 (by kernel_rfl) rfl (by kernel_rfl) (by kernel_rfl) (by kernel_rfl) rfl rfl rfl rfl rfl rfl hqn32 ?_
                refine LH.gs 41 (by kernel_rfl) rfl (by kernel_rfl) (by kernel_rfl) (by kernel_rfl) rfl rfl rfl rfl rfl rfl hqn32 ?_
                refine LH.gs 42 (by kernel_rfl) rfl (by kernel_rfl) (by kernel_rfl) (by kernel_rfl) rfl rfl rfl rfl rfl rfl hqn32 ?_
                refine LH.gs 43 (by kernel_rfl) rfl (by kernel_rfl) (by kernel_rfl) (by kernel_rfl) rfl rfl rfl rfl rfl rfl hqn32 ?_
                refine LH.take 44 (by kernel_rfl) rfl (by kernel_rfl) (by kernel_rfl) (by kernel_rfl) (fun Hq hq => Y.pick_f rfl rfl rfl) (Wd.u rfl) rfl rfl hqn32 ?_
                refine LH.take 45 (by kernel_rfl) rfl (by kernel_rfl) (by kernel_rfl) (by kernel_rfl) (fun Hq hq => Y.move rfl rfl) (Wd.u rfl) rfl rfl hqn32 ?_
                refine LH.gs 46 (by kernel_rfl) rfl (by kernel_rfl) (by kernel_rfl) (by kernel_rfl) rfl rfl rfl rfl rfl rfl hqn32 ?_
                refine LH.gs 47 (by kernel_rfl) rfl (by kernel_rfl) (by kernel_rfl) (by kernel_rfl) rfl rfl rfl rfl rfl rfl hqn32 ?_
                refine LH.gs 48 (by kernel_rfl) rfl (by kernel_rfl) (by kernel_rfl) (by kernel_rfl) rfl rfl rfl rfl rfl rfl hqn32 ?_
                refine LH.gsu 49 (by kernel_rfl) rfl (by kernel_rfl) (by kernel_rfl) (by kernel_rfl) rfl rfl rfl rfl rfl hqn32 ?_
                refine LH.gsu 50 (by kernel_rfl) rfl (by kernel_rfl) (by kernel_rfl) (by kernel_rfl) rfl rfl rfl rfl rfl hqn32 ?_
                refine LH.gsu 51 (by kernel_rfl) rfl (by kernel_rfl) (by kernel_rfl) (by kernel_rfl) rfl rfl rfl rfl rfl hqn32 ?_
                refine LH.gsu 52 (by kernel_rfl) rfl (by kernel_rfl) (by kernel_rfl) (by kernel_rfl) rfl rfl rfl rfl rfl hqn32 ?_
                refine LH.gs 53 (by kernel_rfl) rfl (by kernel_rfl) (by kernel_rfl) (by kernel_rfl) rfl rfl rfl rfl rfl rfl hqn32 ?_
                refine LH.gs 54 (by kernel_rfl) rfl (by kernel_rfl) (by kernel_rfl) (by kernel_rfl) rfl rfl rfl rfl rfl rfl hqn32 ?_
                refine LH.take 55 (by kernel_rfl) rfl (by kernel_rfl) (by kernel_rfl) (by kernel_rfl) (fun Hq hq => Y.pick_f rfl rfl rfl) (Wd.u rfl) rfl rfl hqn32 ?_
                refine LH.one (i := 56) (by kernel_rfl) ?_
                -- call selvage/refs.must
                refine LO.call rfl rfl Tryd.call26 rfl (Wd.u rfl) rfl rfl (rmust_to (argB x) 1 (by first | exact argT g29 g35 g40 g46 g51 g58 g61 | exact argS g29 g35 g40 g46 g51 g58 g61 | exact (decide_eq_false (by rintro ⟨h1, h2, h3, h4, h5, h6, h7⟩; first | (exact absurd h1 (by assumption)) | (exact absurd h2 (by assumption)) | omega)).symm) w0 _) (fun v69 H69 r69 => ?_)
                obtain ⟨rfl, hs69⟩ := r69
                replace mx := mx.nw hs69
                replace hl := hl.nw hs69
                replace va := va.nw hs69
                replace hm0 := hm0.tr hs69
                replace hcm6 := hcm6.tr hs69
                have hz58 := hs69.size
                have hq69 := hqn32.tr hs69
                refine ⟨.inr hq69, LH.narrow (SH2 := fun Hq => Nw H69 Hq) (fun Hq hq => hq69.tr hq) ?_⟩
                have hqn69 := Nw.refl H69
                refine LH.one (i := 59) (by kernel_rfl) ?_
                -- call selvage/refs.must
                refine LO.call rfl rfl Tryd.call26 rfl (Wd.u rfl) rfl rfl (rmust_to (decide (x.td.length ≤ 100)) 4 (by first | (exact (decide_eq_true (by omega)).symm) | (exact (decide_eq_false (by omega)).symm) | (exact decide_eq_decide.2 (by omega))) w0 _) (fun v72 H72 r72 => ?_)
                obtain ⟨rfl, hs72⟩ := r72
                replace mx := mx.nw hs72
                replace hl := hl.nw hs72
                replace va := va.nw hs72
                replace hm0 := hm0.tr hs72
                replace hcm6 := hcm6.tr hs72
                have hz59 := hs72.size
                have hq72 := hqn69.tr hs72
                refine ⟨.inr hq72, LH.narrow (SH2 := fun Hq => Nw H72 Hq) (fun Hq hq => hq72.tr hq) ?_⟩
                have hqn72 := Nw.refl H72
                refine LH.one (i := 60) (by kernel_rfl) ?_
                refine LO.z rfl (Z.litw _ ([mustL (decide (x.k = 1 ∨ x.k = 2)) 3, chk x.br, mustL (argB x) 1, mustL (decide (x.td.length ≤ 100)) 4]) rfl inf62 rfl rfl rfl (by decide) (by decide) fI_len fI_one (rfl)) (Wd.u rfl) rfl rfl (fun v73 H73 r73 => ?_)
                obtain ⟨ow73, hs73, ob73, hH73⟩ := r73
                have hzs73 : H73.size = H72.size + 1 := by rw [hH73]; simp
                have df64 := (DF.new (bf_mx.mono hm0.size) : DF _ (H72.size + 1))
                have df65 := (DF.new (bf_hl.mono hm0.size) : DF _ (H72.size + 1))
                have dj66 : Dj (H0.size + 1) (H72.size + 1) := Dj.new va.lt
                have nx67 : Nx 0 H0.size (H72.size + 1) := Nx.new hm0.size
                have nx68 : Nx 0 H1.size (H72.size + 1) := Nx.new hcm6.size
                replace mx := mx.nw hs73
                replace hl := hl.nw hs73
                replace va := va.nw hs73
                replace hm0 := hm0.tr hs73
                replace hcm6 := hcm6.tr hs73
                have hz60 := hs73.size
                have hq73 := hqn72.tr hs73
                refine ⟨.inr hq73, LH.narrow (SH2 := fun Hq => Nw H73 Hq) (fun Hq hq => hq73.tr hq) ?_⟩
                have hqn73 := Nw.refl H73
                refine LH.one (i := 61) (by kernel_rfl) ?_
                -- call selvage/refs.first
                refine LO.call rfl rfl Tryd.call27 rfl (Wd.u rfl) rfl rfl (rfirst_ct _ [mustL (decide (x.k = 1 ∨ x.k = 2)) 3, chk x.br, mustL (argB x) 1, mustL (decide (x.td.length ≤ 100)) 4] w0 _ ow73.rd.any) (fun v74 H74 r74 => ?_)
                obtain ⟨rfl, hs74⟩ := r74
                replace mx := mx.nw hs74
                replace hl := hl.nw hs74
                replace va := va.nw hs74
                replace ow73 := ow73.nw hs74
                replace hm0 := hm0.tr hs74
                replace hcm6 := hcm6.tr hs74
                have hz61 := hs74.size
                have hq74 := hqn73.tr hs74
                refine ⟨.inr hq74, LH.narrow (SH2 := fun Hq => Nw H74 Hq) (fun Hq hq => hq74.tr hq) ?_⟩
                have hqn74 := Nw.refl H74
                refine LH.take 62 (by kernel_rfl) rfl (by kernel_rfl) (by kernel_rfl) (by kernel_rfl) (fun Hq hq => Y.assign rfl rfl) (Wd.u rfl) rfl rfl hqn74 ?_
                refine LH.done (by kernel_rfl) ?_
                have hqe := hqn74
                refine QN.sub (hK6 (headE x) _ ?_) ⟨rfl, rfl, trivial⟩
                exact ⟨rfl, hcm6⟩
            ·
              refine LH.gs 28 (by kernel_rfl) rfl (by kernel_rfl) (by kernel_rfl) (by kernel_rfl) rfl rfl rfl rfl rfl rfl hqn32 ?_
              refine LH.gs 29 (by kernel_rfl) rfl (by kernel_rfl) (by kernel_rfl) (by kernel_rfl) rfl rfl rfl rfl rfl rfl hqn32 ?_
              refine LH.gs 30 (by kernel_rfl) rfl (by kernel_rfl) (by kernel_rfl) (by kernel_rfl) rfl rfl rfl rfl rfl rfl hqn32 ?_
              refine LH.gs 31 (by kernel_rfl) rfl (by kernel_rfl) (by kernel_rfl) (by kernel_rfl) rfl rfl rfl rfl rfl rfl hqn32 ?_
              refine LH.take 32 (by kernel_rfl) rfl (by kernel_rfl) (by kernel_rfl) (by kernel_rfl) (fun Hq hq => Y.pick_f rfl rfl rfl) (Wd.u rfl) rfl rfl hqn32 ?_
              refine LH.take 33 (by kernel_rfl) rfl (by kernel_rfl) (by kernel_rfl) (by kernel_rfl) (fun Hq hq => Y.move rfl rfl) (Wd.u rfl) rfl rfl hqn32 ?_
              refine LH.gs 34 (by kernel_rfl) rfl (by kernel_rfl) (by kernel_rfl) (by kernel_rfl) rfl rfl rfl rfl rfl rfl hqn32 ?_
              refine LH.gs 35 (by kernel_rfl) rfl (by kernel_rfl) (by kernel_rfl) (by kernel_rfl) rfl rfl rfl rfl rfl rfl hqn32 ?_
              refine LH.gs 36 (by kernel_rfl) rfl (by kernel_rfl) (by kernel_rfl) (by kernel_rfl) rfl rfl rfl rfl rfl rfl hqn32 ?_
              refine LH.take 37 (by kernel_rfl) rfl (by kernel_rfl) (by kernel_rfl) (by kernel_rfl) (fun Hq hq => Y.pick_f rfl rfl rfl) (Wd.u rfl) rfl rfl hqn32 ?_
              refine LH.take 38 (by kernel_rfl) rfl (by kernel_rfl) (by kernel_rfl) (by kernel_rfl) (fun Hq hq => Y.move rfl rfl) (Wd.u rfl) rfl rfl hqn32 ?_
              refine LH.gs 39 (by kernel_rfl) rfl (by kernel_rfl) (by kernel_rfl) (by kernel_rfl) rfl rfl rfl rfl rfl rfl hqn32 ?_
              refine LH.gs 40 (by kernel_rfl) rfl (by kernel_rfl) (by kernel_rfl) (by kernel_rfl) rfl rfl rfl rfl rfl rfl hqn32 ?_
              refine LH.gs 41 (by kernel_rfl) rfl (by kernel_rfl) (by kernel_rfl) (by kernel_rfl) rfl rfl rfl rfl rfl rfl hqn32 ?_
              refine LH.gs 42 (by kernel_rfl) rfl (by kernel_rfl) (by kernel_rfl) (by kernel_rfl) rfl rfl rfl rfl rfl rfl hqn32 ?_
              refine LH.gs 43 (by kernel_rfl) rfl (by kernel_rfl) (by kernel_rfl) (by kernel_rfl) rfl rfl rfl rfl rfl rfl hqn32 ?_
              refine LH.take 44 (by kernel_rfl) rfl (by kernel_rfl) (by kernel_rfl) (by kernel_rfl) (fun Hq hq => Y.pick_f rfl rfl rfl) (Wd.u rfl) rfl rfl hqn32 ?_
              refine LH.take 45 (by kernel_rfl) rfl (by kernel_rfl) (by kernel_rfl) (by kernel_rfl) (fun Hq hq => Y.move rfl rfl) (Wd.u rfl) rfl rfl hqn32 ?_
              refine LH.gs 46 (by kernel_rfl) rfl (by kernel_rfl) (by kernel_rfl) (by kernel_rfl) rfl rfl rfl rfl rfl rfl hqn32 ?_
              refine LH.gs 47 (by kernel_rfl) rfl (by kernel_rfl) (by kernel_rfl) (by kernel_rfl) rfl rfl rfl rfl rfl rfl hqn32 ?_
              refine LH.gs 48 (by kernel_rfl) rfl (by kernel_rfl) (by kernel_rfl) (by kernel_rfl) rfl rfl rfl rfl rfl rfl hqn32 ?_
              refine LH.gsu 49 (by kernel_rfl) rfl (by kernel_rfl) (by kernel_rfl) (by kernel_rfl) rfl rfl rfl rfl rfl hqn32 ?_
              refine LH.gsu 50 (by kernel_rfl) rfl (by kernel_rfl) (by kernel_rfl) (by kernel_rfl) rfl rfl rfl rfl rfl hqn32 ?_
              refine LH.gsu 51 (by kernel_rfl) rfl (by kernel_rfl) (by kernel_rfl) (by kernel_rfl) rfl rfl rfl rfl rfl hqn32 ?_
              refine LH.gsu 52 (by kernel_rfl) rfl (by kernel_rfl) (by kernel_rfl) (by kernel_rfl) rfl rfl rfl rfl rfl hqn32 ?_
              refine LH.gs 53 (by kernel_rfl) rfl (by kernel_rfl) (by kernel_rfl) (by kernel_rfl) rfl rfl rfl rfl rfl rfl hqn32 ?_
              refine LH.gs 54 (by kernel_rfl) rfl (by kernel_rfl) (by kernel_rfl) (by kernel_rfl) rfl rfl rfl rfl rfl rfl hqn32 ?_
              refine LH.take 55 (by kernel_rfl) rfl (by kernel_rfl) (by kernel_rfl) (by kernel_rfl) (fun Hq hq => Y.pick_f rfl rfl rfl) (Wd.u rfl) rfl rfl hqn32 ?_
              refine LH.one (i := 56) (by kernel_rfl) ?_
              -- call selvage/refs.must
              refine LO.call rfl rfl Tryd.call26 rfl (Wd.u rfl) rfl rfl (rmust_to (argB x) 1 (by first | exact argT g29 g35 g40 g46 g51 g58 g61 | exact argS g29 g35 g40 g46 g51 g58 g61 | exact (decide_eq_false (by rintro ⟨h1, h2, h3, h4, h5, h6, h7⟩; first | (exact absurd h1 (by assumption)) | (exact absurd h2 (by assumption)) | omega)).symm) w0 _) (fun v69 H69 r69 => ?_)
              obtain ⟨rfl, hs69⟩ := r69
              replace mx := mx.nw hs69
              replace hl := hl.nw hs69
              replace va := va.nw hs69
              replace hm0 := hm0.tr hs69
              replace hcm6 := hcm6.tr hs69
              have hz62 := hs69.size
              have hq69 := hqn32.tr hs69
              refine ⟨.inr hq69, LH.narrow (SH2 := fun Hq => Nw H69 Hq) (fun Hq hq => hq69.tr hq) ?_⟩
              have hqn69 := Nw.refl H69
              refine LH.one (i := 59) (by kernel_rfl) ?_
              -- call selvage/refs.must
              refine LO.call rfl rfl Tryd.call26 rfl (Wd.u rfl) rfl rfl (rmust_to (decide (x.td.length ≤ 100)) 4 (by first | (exact (decide_eq_true (by omega)).symm) | (exact (decide_eq_false (by omega)).symm) | (exact decide_eq_decide.2 (by omega))) w0 _) (fun v72 H72 r72 => ?_)
              obtain ⟨rfl, hs72⟩ := r72
              replace mx := mx.nw hs72
              replace hl := hl.nw hs72
              replace va := va.nw hs72
              replace hm0 := hm0.tr hs72
              replace hcm6 := hcm6.tr hs72
              have hz63 := hs72.size
              have hq72 := hqn69.tr hs72
              refine ⟨.inr hq72, LH.narrow (SH2 := fun Hq => Nw H72 Hq) (fun Hq hq => hq72.tr hq) ?_⟩
              have hqn72 := Nw.refl H72
              refine LH.one (i := 60) (by kernel_rfl) ?_
              refine LO.z rfl (Z.litw _ ([mustL (decide (x.k = 1 ∨ x.k = 2)) 3, chk x.br, mustL (argB x) 1, mustL (decide (x.td.length ≤ 100)) 4]) rfl inf62 rfl rfl rfl (by decide) (by decide) fI_len fI_one (rfl)) (Wd.u rfl) rfl rfl (fun v73 H73 r73 => ?_)
              obtain ⟨ow73, hs73, ob73, hH73⟩ := r73
              have hzs73 : H73.size = H72.size + 1 := by rw [hH73]; simp
              have df69 := (DF.new (bf_mx.mono hm0.size) : DF _ (H72.size + 1))
              have df70 := (DF.new (bf_hl.mono hm0.size) : DF _ (H72.size + 1))
              have dj71 : Dj (H0.size + 1) (H72.size + 1) := Dj.new va.lt
              have nx72 : Nx 0 H0.size (H72.size + 1) := Nx.new hm0.size
              have nx73 : Nx 0 H1.size (H72.size + 1) := Nx.new hcm6.size
              replace mx := mx.nw hs73
              replace hl := hl.nw hs73
              replace va := va.nw hs73
              replace hm0 := hm0.tr hs73
              replace hcm6 := hcm6.tr hs73
              have hz64 := hs73.size
              have hq73 := hqn72.tr hs73
              refine ⟨.inr hq73, LH.narrow (SH2 := fun Hq => Nw H73 Hq) (fun Hq hq => hq73.tr hq) ?_⟩
              have hqn73 := Nw.refl H73
              refine LH.one (i := 61) (by kernel_rfl) ?_
              -- call selvage/refs.first
              refine LO.call rfl rfl Tryd.call27 rfl (Wd.u rfl) rfl rfl (rfirst_ct _ [mustL (decide (x.k = 1 ∨ x.k = 2)) 3, chk x.br, mustL (argB x) 1, mustL (decide (x.td.length ≤ 100)) 4] w0 _ ow73.rd.any) (fun v74 H74 r74 => ?_)
              obtain ⟨rfl, hs74⟩ := r74
              replace mx := mx.nw hs74
              replace hl := hl.nw hs74
              replace va := va.nw hs74
              replace ow73 := ow73.nw hs74
              replace hm0 := hm0.tr hs74
              replace hcm6 := hcm6.tr hs74
              have hz65 := hs74.size
              have hq74 := hqn73.tr hs74
              refine ⟨.inr hq74, LH.narrow (SH2 := fun Hq => Nw H74 Hq) (fun Hq hq => hq74.tr hq) ?_⟩
              have hqn74 := Nw.refl H74
              refine LH.take 62 (by kernel_rfl) rfl (by kernel_rfl) (by kernel_rfl) (by kernel_rfl) (fun Hq hq => Y.assign rfl rfl) (Wd.u rfl) rfl rfl hqn74 ?_
              refine LH.done (by kernel_rfl) ?_
              have hqe := hqn74
              refine QN.sub (hK6 (headE x) _ ?_) ⟨rfl, rfl, trivial⟩
              exact ⟨rfl, hcm6⟩
          ·
            refine LH.gs 23 (by kernel_rfl) rfl (by kernel_rfl) (by kernel_rfl) (by kernel_rfl) rfl rfl rfl rfl rfl rfl hqn32 ?_
            refine LH.gs 24 (by kernel_rfl) rfl (by kernel_rfl) (by kernel_rfl) (by kernel_rfl) rfl rfl rfl rfl rfl rfl hqn32 ?_
            refine LH.gs 25 (by kernel_rfl) rfl (by kernel_rfl) (by kernel_rfl) (by kernel_rfl) rfl rfl rfl rfl rfl rfl hqn32 ?_
            refine LH.take 26 (by kernel_rfl) rfl (by kernel_rfl) (by kernel_rfl) (by kernel_rfl) (fun Hq hq => Y.pick_f rfl rfl rfl) (Wd.u rfl) rfl rfl hqn32 ?_
            refine LH.take 27 (by kernel_rfl) rfl (by kernel_rfl) (by kernel_rfl) (by kernel_rfl) (fun Hq hq => Y.move rfl rfl) (Wd.u rfl) rfl rfl hqn32 ?_
            refine LH.gs 28 (by kernel_rfl) rfl (by kernel_rfl) (by kernel_rfl) (by kernel_rfl) rfl rfl rfl rfl rfl rfl hqn32 ?_
            refine LH.gs 29 (by kernel_rfl) rfl (by kernel_rfl) (by kernel_rfl) (by kernel_rfl) rfl rfl rfl rfl rfl rfl hqn32 ?_
            refine LH.gs 30 (by kernel_rfl) rfl (by kernel_rfl) (by kernel_rfl) (by kernel_rfl) rfl rfl rfl rfl rfl rfl hqn32 ?_
            refine LH.gs 31 (by kernel_rfl) rfl (by kernel_rfl) (by kernel_rfl) (by kernel_rfl) rfl rfl rfl rfl rfl rfl hqn32 ?_
            refine LH.take 32 (by kernel_rfl) rfl (by kernel_rfl) (by kernel_rfl) (by kernel_rfl) (fun Hq hq => Y.pick_f rfl rfl rfl) (Wd.u rfl) rfl rfl hqn32 ?_
            refine LH.take 33 (by kernel_rfl) rfl (by kernel_rfl) (by kernel_rfl) (by kernel_rfl) (fun Hq hq => Y.move rfl rfl) (Wd.u rfl) rfl rfl hqn32 ?_
            refine LH.gs 34 (by kernel_rfl) rfl (by kernel_rfl) (by kernel_rfl) (by kernel_rfl) rfl rfl rfl rfl rfl rfl hqn32 ?_
            refine LH.gs 35 (by kernel_rfl) rfl (by kernel_rfl) (by kernel_rfl) (by kernel_rfl) rfl rfl rfl rfl rfl rfl hqn32 ?_
            refine LH.gs 36 (by kernel_rfl) rfl (by kernel_rfl) (by kernel_rfl) (by kernel_rfl) rfl rfl rfl rfl rfl rfl hqn32 ?_
            refine LH.take 37 (by kernel_rfl) rfl (by kernel_rfl) (by kernel_rfl) (by kernel_rfl) (fun Hq hq => Y.pick_f rfl rfl rfl) (Wd.u rfl) rfl rfl hqn32 ?_
            refine LH.take 38 (by kernel_rfl) rfl (by kernel_rfl) (by kernel_rfl) (by kernel_rfl) (fun Hq hq => Y.move rfl rfl) (Wd.u rfl) rfl rfl hqn32 ?_
            refine LH.gs 39 (by kernel_rfl) rfl (by kernel_rfl) (by kernel_rfl) (by kernel_rfl) rfl rfl rfl rfl rfl rfl hqn32 ?_
            refine LH.gs 40 (by kernel_rfl) rfl (by kernel_rfl) (by kernel_rfl) (by kernel_rfl) rfl rfl rfl rfl rfl rfl hqn32 ?_
            refine LH.gs 41 (by kernel_rfl) rfl (by kernel_rfl) (by kernel_rfl) (by kernel_rfl) rfl rfl rfl rfl rfl rfl hqn32 ?_
            refine LH.gs 42 (by kernel_rfl) rfl (by kernel_rfl) (by kernel_rfl) (by kernel_rfl) rfl rfl rfl rfl rfl rfl hqn32 ?_
            refine LH.gs 43 (by kernel_rfl) rfl (by kernel_rfl) (by kernel_rfl) (by kernel_rfl) rfl rfl rfl rfl rfl rfl hqn32 ?_
            refine LH.take 44 (by kernel_rfl) rfl (by kernel_rfl) (by kernel_rfl) (by kernel_rfl) (fun Hq hq => Y.pick_f rfl rfl rfl) (Wd.u rfl) rfl rfl hqn32 ?_
            refine LH.take 45 (by kernel_rfl) rfl (by kernel_rfl) (by kernel_rfl) (by kernel_rfl) (fun Hq hq => Y.move rfl rfl) (Wd.u rfl) rfl rfl hqn32 ?_
            refine LH.gs 46 (by kernel_rfl) rfl (by kernel_rfl) (by kernel_rfl) (by kernel_rfl) rfl rfl rfl rfl rfl rfl hqn32 ?_
            refine LH.gs 47 (by kernel_rfl) rfl (by kernel_rfl) (by kernel_rfl) (by kernel_rfl) rfl rfl rfl rfl rfl rfl hqn32 ?_
            refine LH.gs 48 (by kernel_rfl) rfl (by kernel_rfl) (by kernel_rfl) (by kernel_rfl) rfl rfl rfl rfl rfl rfl hqn32 ?_
            refine LH.gsu 49 (by kernel_rfl) rfl (by kernel_rfl) (by kernel_rfl) (by kernel_rfl) rfl rfl rfl rfl rfl hqn32 ?_
            refine LH.gsu 50 (by kernel_rfl) rfl (by kernel_rfl) (by kernel_rfl) (by kernel_rfl) rfl rfl rfl rfl rfl hqn32 ?_
            refine LH.gsu 51 (by kernel_rfl) rfl (by kernel_rfl) (by kernel_rfl) (by kernel_rfl) rfl rfl rfl rfl rfl hqn32 ?_
            refine LH.gsu 52 (by kernel_rfl) rfl (by kernel_rfl) (by kernel_rfl) (by kernel_rfl) rfl rfl rfl rfl rfl hqn32 ?_
            refine LH.gs 53 (by kernel_rfl) rfl (by kernel_rfl) (by kernel_rfl) (by kernel_rfl) rfl rfl rfl rfl rfl rfl hqn32 ?_
            refine LH.gs 54 (by kernel_rfl) rfl (by kernel_rfl) (by kernel_rfl) (by kernel_rfl) rfl rfl rfl rfl rfl rfl hqn32 ?_
            refine LH.take 55 (by kernel_rfl) rfl (by kernel_rfl) (by kernel_rfl) (by kernel_rfl) (fun Hq hq => Y.pick_f rfl rfl rfl) (Wd.u rfl) rfl rfl hqn32 ?_
            refine LH.one (i := 56) (by kernel_rfl) ?_
            -- call selvage/refs.must
            refine LO.call rfl rfl Tryd.call26 rfl (Wd.u rfl) rfl rfl (rmust_to (argB x) 1 (by first | exact argT g29 g35 g40 g46 g51 g58 g61 | exact argS g29 g35 g40 g46 g51 g58 g61 | exact (decide_eq_false (by rintro ⟨h1, h2, h3, h4, h5, h6, h7⟩; first | (exact absurd h1 (by assumption)) | (exact absurd h2 (by assumption)) | omega)).symm) w0 _) (fun v69 H69 r69 => ?_)
            obtain ⟨rfl, hs69⟩ := r69
            replace mx := mx.nw hs69
            replace hl := hl.nw hs69
            replace va := va.nw hs69
            replace hm0 := hm0.tr hs69
            replace hcm6 := hcm6.tr hs69
            have hz66 := hs69.size
            have hq69 := hqn32.tr hs69
            refine ⟨.inr hq69, LH.narrow (SH2 := fun Hq => Nw H69 Hq) (fun Hq hq => hq69.tr hq) ?_⟩
            have hqn69 := Nw.refl H69
            refine LH.one (i := 59) (by kernel_rfl) ?_
            -- call selvage/refs.must
            refine LO.call rfl rfl Tryd.call26 rfl (Wd.u rfl) rfl rfl (rmust_to (decide (x.td.length ≤ 100)) 4 (by first | (exact (decide_eq_true (by omega)).symm) | (exact (decide_eq_false (by omega)).symm) | (exact decide_eq_decide.2 (by omega))) w0 _) (fun v72 H72 r72 => ?_)
            obtain ⟨rfl, hs72⟩ := r72
            replace mx := mx.nw hs72
            replace hl := hl.nw hs72
            replace va := va.nw hs72
            replace hm0 := hm0.tr hs72
            replace hcm6 := hcm6.tr hs72
            have hz67 := hs72.size
            have hq72 := hqn69.tr hs72
            refine ⟨.inr hq72, LH.narrow (SH2 := fun Hq => Nw H72 Hq) (fun Hq hq => hq72.tr hq) ?_⟩
            have hqn72 := Nw.refl H72
            refine LH.one (i := 60) (by kernel_rfl) ?_
            refine LO.z rfl (Z.litw _ ([mustL (decide (x.k = 1 ∨ x.k = 2)) 3, chk x.br, mustL (argB x) 1, mustL (decide (x.td.length ≤ 100)) 4]) rfl inf62 rfl rfl rfl (by decide) (by decide) fI_len fI_one (rfl)) (Wd.u rfl) rfl rfl (fun v73 H73 r73 => ?_)
            obtain ⟨ow73, hs73, ob73, hH73⟩ := r73
            have hzs73 : H73.size = H72.size + 1 := by rw [hH73]; simp
            have df74 := (DF.new (bf_mx.mono hm0.size) : DF _ (H72.size + 1))
            have df75 := (DF.new (bf_hl.mono hm0.size) : DF _ (H72.size + 1))
            have dj76 : Dj (H0.size + 1) (H72.size + 1) := Dj.new va.lt
            have nx77 : Nx 0 H0.size (H72.size + 1) := Nx.new hm0.size
            have nx78 : Nx 0 H1.size (H72.size + 1) := Nx.new hcm6.size
            replace mx := mx.nw hs73
            replace hl := hl.nw hs73
            replace va := va.nw hs73
            replace hm0 := hm0.tr hs73
            replace hcm6 := hcm6.tr hs73
            have hz68 := hs73.size
            have hq73 := hqn72.tr hs73
            refine ⟨.inr hq73, LH.narrow (SH2 := fun Hq => Nw H73 Hq) (fun Hq hq => hq73.tr hq) ?_⟩
            have hqn73 := Nw.refl H73
            refine LH.one (i := 61) (by kernel_rfl) ?_
            -- call selvage/refs.first
            refine LO.call rfl rfl Tryd.call27 rfl (Wd.u rfl) rfl rfl (rfirst_ct _ [mustL (decide (x.k = 1 ∨ x.k = 2)) 3, chk x.br, mustL (argB x) 1, mustL (decide (x.td.length ≤ 100)) 4] w0 _ ow73.rd.any) (fun v74 H74 r74 => ?_)
            obtain ⟨rfl, hs74⟩ := r74
            replace mx := mx.nw hs74
            replace hl := hl.nw hs74
            replace va := va.nw hs74
            replace ow73 := ow73.nw hs74
            replace hm0 := hm0.tr hs74
            replace hcm6 := hcm6.tr hs74
            have hz69 := hs74.size
            have hq74 := hqn73.tr hs74
            refine ⟨.inr hq74, LH.narrow (SH2 := fun Hq => Nw H74 Hq) (fun Hq hq => hq74.tr hq) ?_⟩
            have hqn74 := Nw.refl H74
            refine LH.take 62 (by kernel_rfl) rfl (by kernel_rfl) (by kernel_rfl) (by kernel_rfl) (fun Hq hq => Y.assign rfl rfl) (Wd.u rfl) rfl rfl hqn74 ?_
            refine LH.done (by kernel_rfl) ?_
            have hqe := hqn74
            refine QN.sub (hK6 (headE x) _ ?_) ⟨rfl, rfl, trivial⟩
            exact ⟨rfl, hcm6⟩
        ·
          refine LH.gs 17 (by kernel_rfl) rfl (by kernel_rfl) (by kernel_rfl) (by kernel_rfl) rfl rfl rfl rfl rfl rfl hqn27 ?_
          refine LH.gs 18 (by kernel_rfl) rfl (by kernel_rfl) (by kernel_rfl) (by kernel_rfl) rfl rfl rfl rfl rfl rfl hqn27 ?_
          refine LH.gs 19 (by kernel_rfl) rfl (by kernel_rfl) (by kernel_rfl) (by kernel_rfl) rfl rfl rfl rfl rfl rfl hqn27 ?_
          refine LH.gs 20 (by kernel_rfl) rfl (by kernel_rfl) (by kernel_rfl) (by kernel_rfl) rfl rfl rfl rfl rfl rfl hqn27 ?_
          refine LH.take 21 (by kernel_rfl) rfl (by kernel_rfl) (by kernel_rfl) (by kernel_rfl) (fun Hq hq => Y.pick_f rfl rfl rfl) (Wd.u rfl) rfl rfl hqn27 ?_
          refine LH.take 22 (by kernel_rfl) rfl (by kernel_rfl) (by kernel_rfl) (by kernel_rfl) (fun Hq hq => Y.move rfl rfl) (Wd.u rfl) rfl rfl hqn27 ?_
          refine LH.gs 23 (by kernel_rfl) rfl (by kernel_rfl) (by kernel_rfl) (by kernel_rfl) rfl rfl rfl rfl rfl rfl hqn27 ?_
          refine LH.gs 24 (by kernel_rfl) rfl (by kernel_rfl) (by kernel_rfl) (by kernel_rfl) rfl rfl rfl rfl rfl rfl hqn27 ?_
          refine LH.gs 25 (by kernel_rfl) rfl (by kernel_rfl) (by kernel_rfl) (by kernel_rfl) rfl rfl rfl rfl rfl rfl hqn27 ?_
          refine LH.take 26 (by kernel_rfl) rfl (by kernel_rfl) (by kernel_rfl) (by kernel_rfl) (fun Hq hq => Y.pick_f rfl rfl rfl) (Wd.u rfl) rfl rfl hqn27 ?_
          refine LH.take 27 (by kernel_rfl) rfl (by kernel_rfl) (by kernel_rfl) (by kernel_rfl) (fun Hq hq => Y.move rfl rfl) (Wd.u rfl) rfl rfl hqn27 ?_
          refine LH.gs 28 (by kernel_rfl) rfl (by kernel_rfl) (by kernel_rfl) (by kernel_rfl) rfl rfl rfl rfl rfl rfl hqn27 ?_
          refine LH.gs 29 (by kernel_rfl) rfl (by kernel_rfl) (by kernel_rfl) (by kernel_rfl) rfl rfl rfl rfl rfl rfl hqn27 ?_
          refine LH.gs 30 (by kernel_rfl) rfl (by kernel_rfl) (by kernel_rfl) (by kernel_rfl) rfl rfl rfl rfl rfl rfl hqn27 ?_
          refine LH.gs 31 (by kernel_rfl) rfl (by kernel_rfl) (by kernel_rfl) (by kernel_rfl) rfl rfl rfl rfl rfl rfl hqn27 ?_
          refine LH.take 32 (by kernel_rfl) rfl (by kernel_rfl) (by kernel_rfl) (by kernel_rfl) (fun Hq hq => Y.pick_f rfl rfl rfl) (Wd.u rfl) rfl rfl hqn27 ?_
          refine LH.take 33 (by kernel_rfl) rfl (by kernel_rfl) (by kernel_rfl) (by kernel_rfl) (fun Hq hq => Y.move rfl rfl) (Wd.u rfl) rfl rfl hqn27 ?_
          refine LH.gs 34 (by kernel_rfl) rfl (by kernel_rfl) (by kernel_rfl) (by kernel_rfl) rfl rfl rfl rfl rfl rfl hqn27 ?_
          refine LH.gs 35 (by kernel_rfl) rfl (by kernel_rfl) (by kernel_rfl) (by kernel_rfl) rfl rfl rfl rfl rfl rfl hqn27 ?_
          refine LH.gs 36 (by kernel_rfl) rfl (by kernel_rfl) (by kernel_rfl) (by kernel_rfl) rfl rfl rfl rfl rfl rfl hqn27 ?_
          refine LH.take 37 (by kernel_rfl) rfl (by kernel_rfl) (by kernel_rfl) (by kernel_rfl) (fun Hq hq => Y.pick_f rfl rfl rfl) (Wd.u rfl) rfl rfl hqn27 ?_
          refine LH.take 38 (by kernel_rfl) rfl (by kernel_rfl) (by kernel_rfl) (by kernel_rfl) (fun Hq hq => Y.move rfl rfl) (Wd.u rfl) rfl rfl hqn27 ?_
          refine LH.gs 39 (by kernel_rfl) rfl (by kernel_rfl) (by kernel_rfl) (by kernel_rfl) rfl rfl rfl rfl rfl rfl hqn27 ?_
          refine LH.gs 40 (by kernel_rfl) rfl (by kernel_rfl) (by kernel_rfl) (by kernel_rfl) rfl rfl rfl rfl rfl rfl hqn27 ?_
          refine LH.gs 41 (by kernel_rfl) rfl (by kernel_rfl) (by kernel_rfl) (by kernel_rfl) rfl rfl rfl rfl rfl rfl hqn27 ?_
          refine LH.gs 42 (by kernel_rfl) rfl (by kernel_rfl) (by kernel_rfl) (by kernel_rfl) rfl rfl rfl rfl rfl rfl hqn27 ?_
          refine LH.gs 43 (by kernel_rfl) rfl (by kernel_rfl) (by kernel_rfl) (by kernel_rfl) rfl rfl rfl rfl rfl rfl hqn27 ?_
          refine LH.take 44 (by kernel_rfl) rfl (by kernel_rfl) (by kernel_rfl) (by kernel_rfl) (fun Hq hq => Y.pick_f rfl rfl rfl) (Wd.u rfl) rfl rfl hqn27 ?_
          refine LH.take 45 (by kernel_rfl) rfl (by kernel_rfl) (by kernel_rfl) (by kernel_rfl) (fun Hq hq => Y.move rfl rfl) (Wd.u rfl) rfl rfl hqn27 ?_
          refine LH.gs 46 (by kernel_rfl) rfl (by kernel_rfl) (by kernel_rfl) (by kernel_rfl) rfl rfl rfl rfl rfl rfl hqn27 ?_
          refine LH.gs 47 (by kernel_rfl) rfl (by kernel_rfl) (by kernel_rfl) (by kernel_rfl) rfl rfl rfl rfl rfl rfl hqn27 ?_
          refine LH.gs 48 (by kernel_rfl) rfl (by kernel_rfl) (by kernel_rfl) (by kernel_rfl) rfl rfl rfl rfl rfl rfl hqn27 ?_
          refine LH.gsu 49 (by kernel_rfl) rfl (by kernel_rfl) (by kernel_rfl) (by kernel_rfl) rfl rfl rfl rfl rfl hqn27 ?_
          refine LH.gsu 50 (by kernel_rfl) rfl (by kernel_rfl) (by kernel_rfl) (by kernel_rfl) rfl rfl rfl rfl rfl hqn27 ?_
          refine LH.gsu 51 (by kernel_rfl) rfl (by kernel_rfl) (by kernel_rfl) (by kernel_rfl) rfl rfl rfl rfl rfl hqn27 ?_
          refine LH.gsu 52 (by kernel_rfl) rfl (by kernel_rfl) (by kernel_rfl) (by kernel_rfl) rfl rfl rfl rfl rfl hqn27 ?_
          refine LH.gs 53 (by kernel_rfl) rfl (by kernel_rfl) (by kernel_rfl) (by kernel_rfl) rfl rfl rfl rfl rfl rfl hqn27 ?_
          refine LH.gs 54 (by kernel_rfl) rfl (by kernel_rfl) (by kernel_rfl) (by kernel_rfl) rfl rfl rfl rfl rfl rfl hqn27 ?_
          refine LH.take 55 (by kernel_rfl) rfl (by kernel_rfl) (by kernel_rfl) (by kernel_rfl) (fun Hq hq => Y.pick_f rfl rfl rfl) (Wd.u rfl) rfl rfl hqn27 ?_
          refine LH.one (i := 56) (by kernel_rfl) ?_
          -- call selvage/refs.must
          refine LO.call rfl rfl Tryd.call26 rfl (Wd.u rfl) rfl rfl (rmust_to (argB x) 1 (by first | exact argT g29 g35 g40 g46 g51 g58 g61 | exact argS g29 g35 g40 g46 g51 g58 g61 | exact (decide_eq_false (by rintro ⟨h1, h2, h3, h4, h5, h6, h7⟩; first | (exact absurd h1 (by assumption)) | (exact absurd h2 (by assumption)) | omega)).symm) w0 _) (fun v69 H69 r69 => ?_)
          obtain ⟨rfl, hs69⟩ := r69
          replace mx := mx.nw hs69
          replace hl := hl.nw hs69
          replace va := va.nw hs69
          replace hm0 := hm0.tr hs69
          replace hcm6 := hcm6.tr hs69
          have hz70 := hs69.size
          have hq69 := hqn27.tr hs69
          refine ⟨.inr hq69, LH.narrow (SH2 := fun Hq => Nw H69 Hq) (fun Hq hq => hq69.tr hq) ?_⟩
          have hqn69 := Nw.refl H69
          refine LH.one (i := 59) (by kernel_rfl) ?_
          -- call selvage/refs.must
          refine LO.call rfl rfl Tryd.call26 rfl (Wd.u rfl) rfl rfl (rmust_to (decide (x.td.length ≤ 100)) 4 (by first | (exact (decide_eq_true (by omega)).symm) | (exact (decide_eq_false (by omega)).symm) | (exact decide_eq_decide.2 (by omega))) w0 _) (fun v72 H72 r72 => ?_)
          obtain ⟨rfl, hs72⟩ := r72
          replace mx := mx.nw hs72
          replace hl := hl.nw hs72
          replace va := va.nw hs72
          replace hm0 := hm0.tr hs72
          replace hcm6 := hcm6.tr hs72
          have hz71 := hs72.size
          have hq72 := hqn69.tr hs72
          refine ⟨.inr hq72, LH.narrow (SH2 := fun Hq => Nw H72 Hq) (fun Hq hq => hq72.tr hq) ?_⟩
          have hqn72 := Nw.refl H72
          refine LH.one (i := 60) (by kernel_rfl) ?_
          refine LO.z rfl (Z.litw _ ([mustL (decide (x.k = 1 ∨ x.k = 2)) 3, chk x.br, mustL (argB x) 1, mustL (decide (x.td.length ≤ 100)) 4]) rfl inf62 rfl rfl rfl (by decide) (by decide) fI_len fI_one (rfl)) (Wd.u rfl) rfl rfl (fun v73 H73 r73 => ?_)
          obtain ⟨ow73, hs73, ob73, hH73⟩ := r73
          have hzs73 : H73.size = H72.size + 1 := by rw [hH73]; simp
          have df79 := (DF.new (bf_mx.mono hm0.size) : DF _ (H72.size + 1))
          have df80 := (DF.new (bf_hl.mono hm0.size) : DF _ (H72.size + 1))
          have dj81 : Dj (H0.size + 1) (H72.size + 1) := Dj.new va.lt
          have nx82 : Nx 0 H0.size (H72.size + 1) := Nx.new hm0.size
          have nx83 : Nx 0 H1.size (H72.size + 1) := Nx.new hcm6.size
          replace mx := mx.nw hs73
          replace hl := hl.nw hs73
          replace va := va.nw hs73
          replace hm0 := hm0.tr hs73
          replace hcm6 := hcm6.tr hs73
          have hz72 := hs73.size
          have hq73 := hqn72.tr hs73
          refine ⟨.inr hq73, LH.narrow (SH2 := fun Hq => Nw H73 Hq) (fun Hq hq => hq73.tr hq) ?_⟩
          have hqn73 := Nw.refl H73
          refine LH.one (i := 61) (by kernel_rfl) ?_
          -- call selvage/refs.first
          refine LO.call rfl rfl Tryd.call27 rfl (Wd.u rfl) rfl rfl (rfirst_ct _ [mustL (decide (x.k = 1 ∨ x.k = 2)) 3, chk x.br, mustL (argB x) 1, mustL (decide (x.td.length ≤ 100)) 4] w0 _ ow73.rd.any) (fun v74 H74 r74 => ?_)
          obtain ⟨rfl, hs74⟩ := r74
          replace mx := mx.nw hs74
          replace hl := hl.nw hs74
          replace va := va.nw hs74
          replace ow73 := ow73.nw hs74
          replace hm0 := hm0.tr hs74
          replace hcm6 := hcm6.tr hs74
          have hz73 := hs74.size
          have hq74 := hqn73.tr hs74
          refine ⟨.inr hq74, LH.narrow (SH2 := fun Hq => Nw H74 Hq) (fun Hq hq => hq74.tr hq) ?_⟩
          have hqn74 := Nw.refl H74
          refine LH.take 62 (by kernel_rfl) rfl (by kernel_rfl) (by kernel_rfl) (by kernel_rfl) (fun Hq hq => Y.assign rfl rfl) (Wd.u rfl) rfl rfl hqn74 ?_
          refine LH.done (by kernel_rfl) ?_
          have hqe := hqn74
          refine QN.sub (hK6 (headE x) _ ?_) ⟨rfl, rfl, trivial⟩
          exact ⟨rfl, hcm6⟩
    ·
      intro e0 Hcutr4 hIcutr4
      obtain ⟨he0, hlmcutr4⟩ := hIcutr4
      replace mx := mx.nw hlmcutr4
      replace hl := hl.nw hlmcutr4
      replace va := va.nw hlmcutr4
      replace hm0 := hm0.tr hlmcutr4
      have hz74 := hlmcutr4.size
      refine CW.seq (fun K7 hK7 hE7 => ?_)
      refine CW.seq (fun K8 hK8 hE8 => ?_)
      refine CW.region ?_
      refine LR.v (Y.fieldAddr va.pt rfl Tryd.runUnderlying26 rfl rfl Tryd.sizeOf24 (by decide) rfl) (Wd.u rfl) rfl rfl ?_
      refine LR.v (Y.load1 va.pt.q66 rfl Tryd.isAgg24 rfl) (Wd.u rfl) rfl rfl ?_
      refine LR.v (Y.len hl rfl Tryd.runUnderlying24 rfl) (Wd.u rfl) rfl rfl ?_
      refine LR.v (Y.move rfl rfl) (Wd.u rfl) rfl rfl ?_
      refine LR.nil ?_
      refine hK8 _ _ ?_
      refine CW.block (fun K9 hK9 hX9 hE9 => ?_)
      refine CW.loop (fun (s_ : (Nat) × (Int)) => match s_ with | (i, e) => [(4, .int .i64 e), (76, x.tv.v), (77, .int .i64 x.td.length), (78, .int .i64 i)])
        (fun (s_ : (Nat) × (Int)) (H : Heap) => match s_ with | (i, e) => (i ≤ x.td.length) ∧ (e = if headE x ≠ 0 then headE x else todoE (x.td.take i)) ∧ Nw Hcutr4 H)
        (fun (s_ : (Nat) × (Int)) => match s_ with | (i, e) => x.td.length - i) (0, e0) ⟨rfl, rfl, rfl, rfl, trivial⟩ ?_ ?_
      ·
        exact ⟨(by omega), (by rw [he0]; split; rfl; rename_i h; simpa [todoE] using h), Mo.refl _ _⟩
      rintro ⟨i, e⟩ HL1 hI1 K10 hN10 hE10
      obtain ⟨hi, he, hlm1⟩ := hI1
      replace mx := mx.nw hlm1
      replace hl := hl.nw hlm1
      replace hm0 := hm0.tr hlm1
      have hz75 := hlm1.size
      refine CW.seq (fun K11 hK11 hE11 => ?_)
      refine CW.region ?_
      refine LR.v (Y.lss rfl rfl rfl) (Wd.u rfl) rfl rfl ?_
      refine LR.nil ?_
      refine hK11 _ _ ?_
      refine CW.seq (fun K12 hK12 hE12 => ?_)
      refine CW.condp rfl (fun c79 => ?_) (fun c79 => ?_)
      ·
        refine CW.skip ?_
        refine hK12 _ _ ?_
        refine CW.seq (fun K13 hK13 hE13 => ?_)
        refine CW.block (fun K14 hK14 hX14 hE14 => ?_)
        refine CW.seq (fun K15 hK15 hE15 => ?_)
        refine CW.region ?_
        have hil : i < x.td.length := by omega
        have hti := hw.ht x.td[i] (List.getElem_mem hil)
        refine LR.e (g := fun ad => .pointer (some ad)) (Y.indexAddrF hl (i) rfl Tryd.runUnderlying24 Tryd.sizeOf29 rfl rfl (by first | rfl | omega) (by first | omega | (simp; omega) | (simp; done))) (Wd.u rfl) rfl rfl (fun ad80 pt80 => ?_)
        have bf_pt80 := bf_hl
        refine LR.v (Y.loadN pt80.pt rfl Tryd.isAgg29 Tryd.sizeOf29 (fT_len _) rfl) (Wd.u rfl) rfl rfl ?_
        refine LR.z (Z.allocv rfl Tryd.zeroValue29) (Wd.u rfl) rfl rfl (fun v6 H6 r6 => ?_)
        obtain ⟨rfl, vt, hs6, ob6, hH6⟩ := r6
        have hzs6 : H6.size = HL1.size + 1 := by rw [hH6]; simp
        have df84 := (DF.new (bf_mx.mono hm0.size) : DF _ (HL1.size + 1))
        have df85 := (DF.new (bf_hl.mono hm0.size) : DF _ (HL1.size + 1))
        have df86 := (DF.new (bf_pt80.mono hm0.size) : DF _ (HL1.size + 1))
        have nx87 : Nx 0 H0.size (HL1.size + 1) := Nx.new hm0.size
        have nx88 : Nx 0 Hcutr4.size (HL1.size + 1) := Nx.new hlm1.size
        replace mx := mx.nw hs6
        replace hl := hl.nw hs6
        replace pt80 := pt80.nw hs6
        replace hm0 := hm0.tr hs6
        replace hlm1 := hlm1.tr hs6
        have hz76 := hs6.size
        refine LR.s (S.var vt (_) (fT x.td[i]) rfl rfl rfl rfl (fT_one x.td[i]) Tryd.sizeOf29 (fT_len _) (by decide) ((splice_all2 (fT_len _).symm))) (Wd.u rfl) rfl (fun H7_3 r7_3 => ?_)
        obtain ⟨vt, hs7_3⟩ := r7_3
        replace hs7_3 := hs7_3.md1
        replace mx := mx.upL hs7_3 (DFL.cons df84 DFL.nil)
        replace hl := hl.upL hs7_3 (DFL.cons df85 DFL.nil)
        replace pt80 := pt80.upL hs7_3 (DFL.cons df86 DFL.nil)
        replace hm0 := (Mo.trL (ks := []) (hm0.mdn []) hs7_3 (MIL.cons (MI.app MI.z (nx87) (Nat.le_refl _)) MIL.nil)).nil
        replace hlm1 := (Mo.trL (ks := []) (hlm1.mdn []) hs7_3 (MIL.cons (MI.app MI.z (nx88) (Nat.le_refl _)) MIL.nil)).nil
        have hz77 := hs7_3.size
        refine LR.nil ?_
        refine hK15 _ _ ?_
        refine CW.region_any (fun Hq => Nw H7_3 Hq) [] rfl ?_
        have hqs := Nw.refl H7_3
        refine LH.take 0 (by kernel_rfl) rfl (by kernel_rfl) (by kernel_rfl) (by kernel_rfl) (fun Hq hq => Y.move rfl rfl) (Wd.u rfl) rfl rfl hqs ?_
        refine LH.take 1 (by kernel_rfl) rfl (by kernel_rfl) (by kernel_rfl) (by kernel_rfl) (fun Hq hq => Y.fieldAddr (vt.pt.nw hq) rfl Tryd.runUnderlying29 rfl rfl Tryd.sizeOf3 (by decide) rfl) (Wd.u rfl) rfl rfl hqs ?_
        refine LH.take 2 (by kernel_rfl) rfl (by kernel_rfl) (by kernel_rfl) (by kernel_rfl) (fun Hq hq => Y.load1 (vt.pt.nw hq) rfl Tryd.isAgg3 rfl) (Wd.u rfl) rfl rfl hqs ?_
        refine LH.take 3 (by kernel_rfl) rfl (by kernel_rfl) (by kernel_rfl) (by kernel_rfl) (fun Hq hq => Y.geq rfl rfl rfl) (Wd.u rfl) rfl rfl hqs ?_
        refine LH.take 4 (by kernel_rfl) rfl (by kernel_rfl) (by kernel_rfl) (by kernel_rfl) (fun Hq hq => Y.move rfl rfl) (Wd.u rfl) rfl rfl hqs ?_
        refine LH.splitp (d := 86) rfl (fun g86 => ?_) (fun g86 => ?_)
        ·
          refine LH.take 5 (by kernel_rfl) rfl (by kernel_rfl) (by kernel_rfl) (by kernel_rfl) (fun Hq hq => Y.fieldAddr (vt.pt.nw hq) rfl Tryd.runUnderlying29 rfl rfl Tryd.sizeOf3 (by decide) rfl) (Wd.g rfl rfl rfl) rfl rfl hqs ?_
          refine LH.take 6 (by kernel_rfl) rfl (by kernel_rfl) (by kernel_rfl) (by kernel_rfl) (fun Hq hq => Y.load1 (vt.pt.nw hq) rfl Tryd.isAgg3 rfl) (Wd.g rfl rfl rfl) rfl rfl hqs ?_
          refine LH.take 7 (by kernel_rfl) rfl (by kernel_rfl) (by kernel_rfl) (by kernel_rfl) (fun Hq hq => Y.leq rfl rfl rfl) (Wd.g rfl rfl rfl) rfl rfl hqs ?_
          refine LH.take 8 (by kernel_rfl) rfl (by kernel_rfl) (by kernel_rfl) (by kernel_rfl) (fun Hq hq => Y.pick_t rfl rfl rfl) (Wd.u rfl) rfl rfl hqs ?_
          refine LH.take 10 (by kernel_rfl) rfl (by kernel_rfl) (by kernel_rfl) (by kernel_rfl) (fun Hq hq => Y.fieldAddr (vt.pt.nw hq) rfl Tryd.runUnderlying29 rfl rfl Tryd.sizeOf23 (by decide) rfl) (Wd.u rfl) rfl rfl hqs ?_
          refine LH.take 11 (by kernel_rfl) rfl (by kernel_rfl) (by kernel_rfl) (by kernel_rfl) (fun Hq hq => Y.cast (v2 := idV x.td[i].i) (Y.loadN ((vt.pt.drop 1).nw hq) rfl Tryd.isAgg23 Tryd.sizeOf23 (by simp [fT]) rfl) (congrArg (fun z : List Value => Value.agg z.toArray) (kc_eq hti))) (Wd.u rfl) rfl rfl hqs ?_
          refine LH.one (i := 9) (by kernel_rfl) ?_
          -- call selvage/refs.must
          refine LO.call rfl rfl Tryd.call26 rfl (Wd.u rfl) rfl rfl (rmust_to (decide (1 ≤ x.td[i].d ∧ x.td[i].d ≤ 3)) 3 (by first | (exact (decide_eq_true (by omega)).symm) | (exact (decide_eq_false (by omega)).symm) | (exact decide_eq_decide.2 (by omega))) w0 _) (fun v91 H91 r91 => ?_)
          obtain ⟨rfl, hs91⟩ := r91
          replace mx := mx.nw hs91
          replace hl := hl.nw hs91
          replace vt := vt.nw hs91
          replace hm0 := hm0.tr hs91
          replace hlm1 := hlm1.tr hs91
          have hz78 := hs91.size
          have hq91 := hqs.tr hs91
          refine ⟨.inr hq91, LH.narrow (SH2 := fun Hq => Nw H91 Hq) (fun Hq hq => hq91.tr hq) ?_⟩
          have hqn91 := Nw.refl H91
          refine LH.one (i := 12) (by kernel_rfl) ?_
          -- call selvage/refs.none
          refine LO.call rfl rfl Tryd.call46 rfl (Wd.u rfl) rfl rfl (rnone_ct x.td[i].i w0 _ hti) (fun v94 H94 r94 => ?_)
          obtain ⟨rfl, hs94⟩ := r94
          replace mx := mx.nw hs94
          replace hl := hl.nw hs94
          replace vt := vt.nw hs94
          replace hm0 := hm0.tr hs94
          replace hlm1 := hlm1.tr hs94
          have hz79 := hs94.size
          have hq94 := hqn91.tr hs94
          refine ⟨.inr hq94, LH.narrow (SH2 := fun Hq => Nw H94 Hq) (fun Hq hq => hq94.tr hq) ?_⟩
          have hqn94 := Nw.refl H94
          refine LH.take 13 (by kernel_rfl) rfl (by kernel_rfl) (by kernel_rfl) (by kernel_rfl) (fun Hq hq => Y.notp rfl rfl) (Wd.u rfl) rfl rfl hqn94 ?_
          refine LH.one (i := 14) (by kernel_rfl) ?_
          -- call selvage/refs.must
          refine LO.call rfl rfl Tryd.call26 rfl (Wd.u rfl) rfl rfl (rmust_to (decide (¬ x.td[i].i = Z32)) 1 rfl w0 _) (fun v96 H96 r96 => ?_)
          obtain ⟨rfl, hs96⟩ := r96
          replace mx := mx.nw hs96
          replace hl := hl.nw hs96
          replace vt := vt.nw hs96
          replace hm0 := hm0.tr hs96
          replace hlm1 := hlm1.tr hs96
          have hz80 := hs96.size
          have hq96 := hqn94.tr hs96
          refine ⟨.inr hq96, LH.narrow (SH2 := fun Hq => Nw H96 Hq) (fun Hq hq => hq96.tr hq) ?_⟩
          have hqn96 := Nw.refl H96
          refine LH.one (i := 15) (by kernel_rfl) ?_
          refine LO.z rfl (Z.litw _ ([e, mustL (decide (1 ≤ x.td[i].d ∧ x.td[i].d ≤ 3)) 3, mustL (decide (¬ x.td[i].i = Z32)) 1]) rfl inf62 rfl rfl rfl (by decide) (by decide) fI_len fI_one (rfl)) (Wd.u rfl) rfl rfl (fun v97 H97 r97 => ?_)
          obtain ⟨ow97, hs97, ob97, hH97⟩ := r97
          have hzs97 : H97.size = H96.size + 1 := by rw [hH97]; simp
          have df89 := (DF.new (bf_mx.mono hm0.size) : DF _ (H96.size + 1))
          have df90 := (DF.new (bf_hl.mono hm0.size) : DF _ (H96.size + 1))
          have dj91 : Dj (HL1.size + 1) (H96.size + 1) := Dj.new vt.lt
          have nx92 : Nx 0 H0.size (H96.size + 1) := Nx.new hm0.size
          have nx93 : Nx 0 Hcutr4.size (H96.size + 1) := Nx.new hlm1.size
          replace mx := mx.nw hs97
          replace hl := hl.nw hs97
          replace vt := vt.nw hs97
          replace hm0 := hm0.tr hs97
          replace hlm1 := hlm1.tr hs97
          have hz81 := hs97.size
          have hq97 := hqn96.tr hs97
          refine ⟨.inr hq97, LH.narrow (SH2 := fun Hq => Nw H97 Hq) (fun Hq hq => hq97.tr hq) ?_⟩
          have hqn97 := Nw.refl H97
          refine LH.one (i := 16) (by kernel_rfl) ?_
          -- call selvage/refs.first
          refine LO.call rfl rfl Tryd.call27 rfl (Wd.u rfl) rfl rfl (rfirst_ct _ [e, mustL (decide (1 ≤ x.td[i].d ∧ x.td[i].d ≤ 3)) 3, mustL (decide (¬ x.td[i].i = Z32)) 1] w0 _ ow97.rd.any) (fun v98 H98 r98 => ?_)
          obtain ⟨rfl, hs98⟩ := r98
          replace mx := mx.nw hs98
          replace hl := hl.nw hs98
          replace vt := vt.nw hs98
          replace ow97 := ow97.nw hs98
          replace hm0 := hm0.tr hs98
          replace hlm1 := hlm1.tr hs98
          have hz82 := hs98.size
          rw [step_first]
          have hq98 := hqn97.tr hs98
          refine ⟨.inr hq98, LH.narrow (SH2 := fun Hq => Nw H98 Hq) (fun Hq hq => hq98.tr hq) ?_⟩
          have hqn98 := Nw.refl H98
          refine LH.take 17 (by kernel_rfl) rfl (by kernel_rfl) (by kernel_rfl) (by kernel_rfl) (fun Hq hq => Y.assign rfl rfl) (Wd.u rfl) rfl rfl hqn98 ?_
          refine LH.done (by kernel_rfl) ?_
          have hqe := hqn98
          refine hK14 _ _ ?_
          refine hK13 _ _ ?_
          refine CW.region ?_
          refine LR.v (Y.addi rfl rfl rfl (by omega)) (Wd.u rfl) rfl rfl ?_
          refine LR.v (Y.move rfl rfl) (Wd.u rfl) rfl rfl ?_
          refine LR.nil ?_
          refine QN.sub (hN10 (i + 1, if e ≠ 0 then e else stepE x.td[i]) _ ?_ ?_) ⟨(iv (by omega)), rfl, (iv (by omega)), (iv (by omega)), trivial⟩
          · exact ⟨(by omega), (by rw [he, todoE_take hil]; split <;> simp_all), hlm1⟩
          · first | omega | (simp only; omega) | (simp; omega)
        ·
          refine LH.gs 5 (by kernel_rfl) rfl (by kernel_rfl) (by kernel_rfl) (by kernel_rfl) rfl rfl rfl rfl rfl rfl hqs ?_
          refine LH.gs 6 (by kernel_rfl) rfl (by kernel_rfl) (by kernel_rfl) (by kernel_rfl) rfl rfl rfl rfl rfl rfl hqs ?_
          refine LH.gs 7 (by kernel_rfl) rfl (by kernel_rfl) (by kernel_rfl) (by kernel_rfl) rfl rfl rfl rfl rfl rfl hqs ?_
          refine LH.take 8 (by kernel_rfl) rfl (by kernel_rfl) (by kernel_rfl) (by kernel_rfl) (fun Hq hq => Y.pick_f rfl rfl rfl) (Wd.u rfl) rfl rfl hqs ?_
          refine LH.take 10 (by kernel_rfl) rfl (by kernel_rfl) (by kernel_rfl) (by kernel_rfl) (fun Hq hq => Y.fieldAddr (vt.pt.nw hq) rfl Tryd.runUnderlying29 rfl rfl Tryd.sizeOf23 (by decide) rfl) (Wd.u rfl) rfl rfl hqs ?_
          refine LH.take 11 (by kernel_rfl) rfl (by kernel_rfl) (by kernel_rfl) (by kernel_rfl) (fun Hq hq => Y.cast (v2 := idV x.td[i].i) (Y.loadN ((vt.pt.drop 1).nw hq) rfl Tryd.isAgg23 Tryd.sizeOf23 (by simp [fT]) rfl) (congrArg (fun z : List Value => Value.agg z.toArray) (kc_eq hti))) (Wd.u rfl) rfl rfl hqs ?_
          refine LH.one (i := 9) (by kernel_rfl) ?_
          -- call selvage/refs.must
          refine LO.call rfl rfl Tryd.call26 rfl (Wd.u rfl) rfl rfl (rmust_to (decide (1 ≤ x.td[i].d ∧ x.td[i].d ≤ 3)) 3 (by first | (exact (decide_eq_true (by omega)).symm) | (exact (decide_eq_false (by omega)).symm) | (exact decide_eq_decide.2 (by omega))) w0 _) (fun v91 H91 r91 => ?_)
          obtain ⟨rfl, hs91⟩ := r91
          replace mx := mx.nw hs91
          replace hl := hl.nw hs91
          replace vt := vt.nw hs91
          replace hm0 := hm0.tr hs91
          replace hlm1 := hlm1.tr hs91
          have hz83 := hs91.size
          have hq91 := hqs.tr hs91
          refine ⟨.inr hq91, LH.narrow (SH2 := fun Hq => Nw H91 Hq) (fun Hq hq => hq91.tr hq) ?_⟩
          have hqn91 := Nw.refl H91
          refine LH.one (i := 12) (by kernel_rfl) ?_
          -- call selvage/refs.none
          refine LO.call rfl rfl Tryd.call46 rfl (Wd.u rfl) rfl rfl (rnone_ct x.td[i].i w0 _ hti) (fun v94 H94 r94 => ?_)
          obtain ⟨rfl, hs94⟩ := r94
          replace mx := mx.nw hs94
          replace hl := hl.nw hs94
          replace vt := vt.nw hs94
          replace hm0 := hm0.tr hs94
          replace hlm1 := hlm1.tr hs94
          have hz84 := hs94.size
          have hq94 := hqn91.tr hs94
          refine ⟨.inr hq94, LH.narrow (SH2 := fun Hq => Nw H94 Hq) (fun Hq hq => hq94.tr hq) ?_⟩
          have hqn94 := Nw.refl H94
          refine LH.take 13 (by kernel_rfl) rfl (by kernel_rfl) (by kernel_rfl) (by kernel_rfl) (fun Hq hq => Y.notp rfl rfl) (Wd.u rfl) rfl rfl hqn94 ?_
          refine LH.one (i := 14) (by kernel_rfl) ?_
          -- call selvage/refs.must
          refine LO.call rfl rfl Tryd.call26 rfl (Wd.u rfl) rfl rfl (rmust_to (decide (¬ x.td[i].i = Z32)) 1 rfl w0 _) (fun v96 H96 r96 => ?_)
          obtain ⟨rfl, hs96⟩ := r96
          replace mx := mx.nw hs96
          replace hl := hl.nw hs96
          replace vt := vt.nw hs96
          replace hm0 := hm0.tr hs96
          replace hlm1 := hlm1.tr hs96
          have hz85 := hs96.size
          have hq96 := hqn94.tr hs96
          refine ⟨.inr hq96, LH.narrow (SH2 := fun Hq => Nw H96 Hq) (fun Hq hq => hq96.tr hq) ?_⟩
          have hqn96 := Nw.refl H96
          refine LH.one (i := 15) (by kernel_rfl) ?_
          refine LO.z rfl (Z.litw _ ([e, mustL (decide (1 ≤ x.td[i].d ∧ x.td[i].d ≤ 3)) 3, mustL (decide (¬ x.td[i].i = Z32)) 1]) rfl inf62 rfl rfl rfl (by decide) (by decide) fI_len fI_one (rfl)) (Wd.u rfl) rfl rfl (fun v97 H97 r97 => ?_)
          obtain ⟨ow97, hs97, ob97, hH97⟩ := r97
          have hzs97 : H97.size = H96.size + 1 := by rw [hH97]; simp
          have df94 := (DF.new (bf_mx.mono hm0.size) : DF _ (H96.size + 1))
          have df95 := (DF.new (bf_hl.mono hm0.size) : DF _ (H96.size + 1))
          have dj96 : Dj (HL1.size + 1) (H96.size + 1) := Dj.new vt.lt
          have nx97 : Nx 0 H0.size (H96.size + 1) := Nx.new hm0.size
          have nx98 : Nx 0 Hcutr4.size (H96.size + 1) := Nx.new hlm1.size
          replace mx := mx.nw hs97
          replace hl := hl.nw hs97
          replace vt := vt.nw hs97
          replace hm0 := hm0.tr hs97
          replace hlm1 := hlm1.tr hs97
          have hz86 := hs97.size
          have hq97 := hqn96.tr hs97
          refine ⟨.inr hq97, LH.narrow (SH2 := fun Hq => Nw H97 Hq) (fun Hq hq => hq97.tr hq) ?_⟩
          have hqn97 := Nw.refl H97
          refine LH.one (i := 16) (by kernel_rfl) ?_
          -- call selvage/refs.first
          refine LO.call rfl rfl Tryd.call27 rfl (Wd.u rfl) rfl rfl (rfirst_ct _ [e, mustL (decide (1 ≤ x.td[i].d ∧ x.td[i].d ≤ 3)) 3, mustL (decide (¬ x.td[i].i = Z32)) 1] w0 _ ow97.rd.any) (fun v98 H98 r98 => ?_)
          obtain ⟨rfl, hs98⟩ := r98
          replace mx := mx.nw hs98
          replace hl := hl.nw hs98
          replace vt := vt.nw hs98
          replace ow97 := ow97.nw hs98
          replace hm0 := hm0.tr hs98
          replace hlm1 := hlm1.tr hs98
          have hz87 := hs98.size
          rw [step_first]
          have hq98 := hqn97.tr hs98
          refine ⟨.inr hq98, LH.narrow (SH2 := fun Hq => Nw H98 Hq) (fun Hq hq => hq98.tr hq) ?_⟩
          have hqn98 := Nw.refl H98
          refine LH.take 17 (by kernel_rfl) rfl (by kernel_rfl) (by kernel_rfl) (by kernel_rfl) (fun Hq hq => Y.assign rfl rfl) (Wd.u rfl) rfl rfl hqn98 ?_
          refine LH.done (by kernel_rfl) ?_
          have hqe := hqn98
          refine hK14 _ _ ?_
          refine hK13 _ _ ?_
          refine CW.region ?_
          refine LR.v (Y.addi rfl rfl rfl (by omega)) (Wd.u rfl) rfl rfl ?_
          refine LR.v (Y.move rfl rfl) (Wd.u rfl) rfl rfl ?_
          refine LR.nil ?_
          refine QN.sub (hN10 (i + 1, if e ≠ 0 then e else stepE x.td[i]) _ ?_ ?_) ⟨(iv (by omega)), rfl, (iv (by omega)), (iv (by omega)), trivial⟩
          · exact ⟨(by omega), (by rw [he, todoE_take hil]; split <;> simp_all), hlm1⟩
          · first | omega | (simp only; omega) | (simp; omega)
      ·
        refine CW.exit (hE12 (.exit 0) nofun _ _ (hE10 (.exit 0) nofun _ _ (hX9 _ _ ?_)))
        refine hK7 _ _ ?_
        refine CW.seq (fun K16 hK16 hE16 => ?_)
        refine CW.region ?_
        refine LR.v (Y.move rfl rfl) (Wd.u rfl) rfl rfl ?_
        refine LR.v (Y.assign rfl rfl) (Wd.u rfl) rfl rfl ?_
        refine LR.nil ?_
        refine hK16 _ _ ?_
        refine CW.ret (hret .ret (.inr rfl) _ _ _ (res1 rfl rfl) ?_)
        exact ⟨by rw [he, seqE_head, List.take_of_length_le (by omega)], hm0⟩

end Go.Proofs.YtabopjdbgkhacaaDoor.SeqB
