/-
  Sequences: as many steps as are left lead to the end.
-/
import Derived.Test.YtabopjdbgkhacaaDoorSeqO
import Derived.Test.YtabopjdbgkhacaaDoorSeqN
namespace Go.Proofs.YtabopjdbgkhacaaDoor.SeqP
open Go.Proofs.YtabopjdbgkhacaaDoor.E Go.RowKit Go.Proofs.YtabopjdbgkhacaaDoor.NamA Go.Proofs.YtabopjdbgkhacaaDoor.NamB Go.Proofs.YtabopjdbgkhacaaDoor.NamC Go.Proofs.YtabopjdbgkhacaaDoor.NamD Go.Proofs.YtabopjdbgkhacaaDoor.SeqA Go.Proofs.YtabopjdbgkhacaaDoor.SeqB Go.Proofs.YtabopjdbgkhacaaDoor.SeqC Go.Proofs.YtabopjdbgkhacaaDoor.SeqD Go.Proofs.YtabopjdbgkhacaaDoor.SeqE Go.Proofs.YtabopjdbgkhacaaDoor.SeqF Go.Proofs.YtabopjdbgkhacaaDoor.SeqG Go.Proofs.YtabopjdbgkhacaaDoor.SeqH Go.Proofs.YtabopjdbgkhacaaDoor.SeqI Go.Proofs.YtabopjdbgkhacaaDoor.SeqJ Go.Proofs.YtabopjdbgkhacaaDoor.SeqK Go.Proofs.YtabopjdbgkhacaaDoor.SeqL Go.Proofs.YtabopjdbgkhacaaDoor.SeqM Go.Proofs.YtabopjdbgkhacaaDoor.SeqN Go.Proofs.YtabopjdbgkhacaaDoor.SeqO Go.Proofs.YtabopjdbgkhacaaDoor.Num
set_option maxRecDepth 20000
set_option linter.unusedVariables false
set_option linter.unusedSimpArgs false
set_option linter.unusedSectionVars false

theorem _root_.Go.Proofs.YtabopjdbgkhacaaDoor.E.Nx.z {j n k : Nat} (h : Nx 0 n k) : Nx j n k := by
  rcases h with h | h | h
  · exact .inl h
  · exact .inl h
  · exact .inr (.inr h)
def stB (x : Sq) : Nat := if x.st = true then 1 else 0
/-- a steps are done, m commits made, of the good sequence g; q tells it -/
def EI (g q : Sq) (a : Nat) (m : Int) : Prop := (a < g.td.length ∧ GoodS q ∧ q.dn = (a : Int) ∧ q.md = m ∧ q.td = g.td) ∨ (a = g.td.length ∧ q = zQ)
theorem EI.w {g q : Sq} {a : Nat} {m : Int} (h : EI g q a m) : SqW q := by
  rcases h with h | h
  · exact h.2.1.w
  · rw [h.2]; exact zW
theorem EI.here {g q : Sq} {a : Nat} {m : Int} (h : EI g q a m) (ha : a < g.td.length) : GoodS q ∧ q.dn = (a : Int) ∧ q.md = m ∧ q.td = g.td := by
  rcases h with h | h
  · exact h.2
  · omega
theorem EI.fin {g q : Sq} {a : Nat} {m : Int} (h : EI g q a m) (ha : ¬ a < g.td.length) : q = zQ := by
  rcases h with h | h
  · omega
  · exact h.2
theorem stB_f {x : Sq} (h : x.st = false) : stB x = 0 := by simp [stB, h]
theorem next_g {g q : Sq} {a : Nat} (h0 : sqChk q = 0) (hqd : q.dn = (a : Int)) (hqt : q.td = g.td) (ha : a < g.td.length) : nextF q = (if g.td[a].d = 3 ∧ q.md = 0 then ⟨1, g.td[a].i⟩ else g.td[a], true) := by
  unfold nextF
  rw [if_neg (fun h => h h0), hqt, hqd, Int.toNat_natCast, List.getElem?_eq_getElem ha]
  rfl
theorem nextg1 {g q : Sq} {a : Nat} (h0 : sqChk q = 0) (hqd : q.dn = (a : Int)) (hqt : q.td = g.td) (ha : a < g.td.length) (h1 : g.td[a].d = 3) (h2 : q.md = 0) : (⟨1, g.td[a].i⟩ : Td) = (nextF q).1 := by rw [next_g h0 hqd hqt ha, if_pos ⟨h1, h2⟩]
theorem nextg2 {g q : Sq} {a : Nat} (h0 : sqChk q = 0) (hqd : q.dn = (a : Int)) (hqt : q.td = g.td) (ha : a < g.td.length) (h1 : ¬ (g.td[a].d = 3 ∧ q.md = 0)) : g.td[a] = (nextF q).1 := by rw [next_g h0 hqd hqt ha, if_neg h1]
theorem did_go {q : Sq} (h0 : sqChk q = 0) (h1 : ¬ q.dn + 1 = q.td.length) (c : List UInt8) (m : Bool) (s : SV) : didF q c m s = { q with tv := s, dn := q.dn + 1, cu := c, st := false, md := if m = true then q.md + 1 else q.md } := if_neg (fun e => e.elim (fun e => e h0) h1)
theorem did_cu {g q q1 : Sq} {a : Nat} {c : List UInt8} {b : Bool} {s : SV} (hG : GoodS q) (hqd : q.dn = (a : Int)) (hqt : q.td = g.td) (h1 : q1 = didF q c b s) (ha : (a : Int) + 1 < g.td.length) : q1.cu = c := by
  rw [h1, did_go hG.chk_ok (by rw [hqt]; omega)]
theorem did_st {q q1 : Sq} {c : List UInt8} {b : Bool} {s : SV} (h1 : q1 = didF q c b s) : q1.st = false := by
  rw [h1]; unfold didF; split <;> rfl
theorem EI.did {g q q1 : Sq} {a : Nat} {m m' : Int} {c : List UInt8} {b : Bool} {s : SV} (ha : a < g.td.length) (hG : GoodS q) (hqd : q.dn = (a : Int)) (hqm : q.md = m) (hqt : q.td = g.td) (hc : c.length = 32) (hc2 : ¬ c = Z32) (h1 : q1 = didF q c b s) (hm : m' = if b = true then m + 1 else m) : EI g q1 (a + 1) m' := by
  have h2 := hG.dn
  have h3 := hG.md
  by_cases hl : q.dn + 1 = q.td.length
  · right
    exact ⟨by rw [hqt] at hl; omega, by rw [h1, did_no (.inr hl)]⟩
  · left
    have hl2 : (q.td.length : Int) = g.td.length := by rw [hqt]
    rw [h1, did_go hG.chk_ok hl]
    refine ⟨by omega, ⟨hG.k, hG.br, hG.og, hc2, hG.ho, hc, hG.td, hG.hl, ⟨by show 0 ≤ q.dn + 1; omega, by show q.dn + 1 < q.td.length; omega⟩, ?_⟩, by show q.dn + 1 = _; omega, ?_, hqt⟩
    · show 0 ≤ (if b = true then q.md + 1 else q.md) ∧ (if b = true then q.md + 1 else q.md) ≤ q.dn + 1
      split <;> omega
    · show (if b = true then q.md + 1 else q.md) = m'
      rw [hm, hqm]
theorem good_stop {q : Sq} (h : GoodS q) (s : SV) : GoodS { q with tv := s, st := true } := ⟨h.k, h.br, h.og, h.cu, h.ho, h.hc, h.td, h.hl, h.dn, h.md⟩

set_option maxHeartbeats 8000000 in
theorem ends_ct (x : Sq) (v1 v2 : Value) (l1 l2 : List Bool) (c : List UInt8) (mx_ : Int) (w0 : World) (H0 : Heap)
    (mx : MX mx_ H0) (bf_mx : BF (fun b => b = 0) H0.size) (hl : RdT H0 fT 33 x.tv.v x.td) (hw : SqW x) (hs1 : RdT H0 fBo 1 v1 l1) (hs2 : RdT H0 fBo 1 v2 l2) (hc : c.length = 32) :
    Ct Tryd.prog w0 4 #[qv x, v1, v2, idV c] H0 (fun r H2 => r = .bool true ∧ Nw H0 H2) := by
  refine Ct.enter (args := [qv x, v1, v2, idV c]) Tryd.func4 rfl rfl rfl ?_
  intro Q0 hret
  have hm0 : Nw H0 H0 := Mo.refl _ _
  replace hl := hl.bnd
  have bf_hl := Rd.bf hl
  replace hs1 := hs1.bnd
  have bf_hs1 := Rd.bf hs1
  replace hs2 := hs2.bnd
  have bf_hs2 := Rd.bf hs2
  have hll := hl.len
  have hsl1 := hs1.len
  have hsl2 := hs2.len
  refine CW.seq (fun K1 hK1 hE1 => ?_)
  refine CW.region ?_
  refine LR.z (Z.boxv rfl rfl) (Wd.u rfl) rfl rfl (fun v4 H4 r4 => ?_)
  obtain ⟨rfl, vx, hs4, ob4, hH4⟩ := r4
  have hzs4 : H4.size = H0.size + 1 := by rw [hH4]; simp
  have df1 := (DF.new (bf_mx.mono hm0.size) : DF _ (H0.size + 1))
  have df2 := (DF.new (bf_hl.mono hm0.size) : DF _ (H0.size + 1))
  have df3 := (DF.new (bf_hs1.mono hm0.size) : DF _ (H0.size + 1))
  have df4 := (DF.new (bf_hs2.mono hm0.size) : DF _ (H0.size + 1))
  have nx5 : Nx 0 H0.size (H0.size + 1) := Nx.new hm0.size
  replace mx := mx.nw hs4
  replace hl := hl.nw hs4
  replace hs1 := hs1.nw hs4
  replace hs2 := hs2.nw hs4
  replace hm0 := hm0.tr hs4
  have hz1 := hs4.size
  replace vx : Var 26 H4 H0.size (fQ x) := vx
  refine LR.z (Z.boxv rfl rfl) (Wd.u rfl) rfl rfl (fun v7 H7 r7 => ?_)
  obtain ⟨rfl, vi, hs7, ob7, hH7⟩ := r7
  have hzs7 : H7.size = H4.size + 1 := by rw [hH7]; simp
  have df6 := (DF.new (bf_mx.mono hm0.size) : DF _ (H4.size + 1))
  have df7 := (DF.new (bf_hl.mono hm0.size) : DF _ (H4.size + 1))
  have df8 := (DF.new (bf_hs1.mono hm0.size) : DF _ (H4.size + 1))
  have df9 := (DF.new (bf_hs2.mono hm0.size) : DF _ (H4.size + 1))
  have dj10 : Dj (H0.size + 1) (H4.size + 1) := Dj.new vx.lt
  have nx11 : Nx 0 H0.size (H4.size + 1) := Nx.new hm0.size
  replace mx := mx.nw hs7
  replace hl := hl.nw hs7
  replace hs1 := hs1.nw hs7
  replace hs2 := hs2.nw hs7
  replace vx := vx.nw hs7
  replace hm0 := hm0.tr hs7
  have hz2 := hs7.size
  replace vi : Var 23 H7 H4.size (c.map V8) := vi
  refine LR.v (Y.assign rfl rfl) (Wd.u rfl) rfl rfl ?_
  refine LR.nil ?_
  refine hK1 _ _ ?_
  refine CW.seq (fun K2 hK2 hE2 => ?_)
  refine CW.seq (fun K3 hK3 hE3 => ?_)
  refine CW.region ?_
  -- call selvage/selvagelaw20.known
  refine LR.call rfl Tryd.call5 rfl (Wd.u rfl) rfl rfl (known_ct mx_ w0 _ mx (bf_mx.mono hm0.size)) (fun v19 H19 r19 => ?_)
  obtain ⟨rfl, hs19⟩ := r19
  replace mx := mx.nw hs19
  replace hl := hl.nw hs19
  replace hs1 := hs1.nw hs19
  replace hs2 := hs2.nw hs19
  replace vx := vx.nw hs19
  replace vi := vi.nw hs19
  replace hm0 := hm0.tr hs19
  have hz3 := hs19.size
  refine LR.v (Y.not rfl rfl) (Wd.u rfl) rfl rfl ?_
  refine LR.nil ?_
  refine hK3 _ _ ?_
  refine CW.cond_f rfl ?_
  refine CW.skip ?_
  refine hK2 _ _ ?_
  refine CW.seq (fun K4 hK4 hE4 => ?_)
  refine CW.region ?_
  refine LR.v (Y.loadN vx.pt rfl Tryd.isAgg26 Tryd.sizeOf26 (fQ_len _) rfl) (Wd.u rfl) rfl rfl ?_
  -- call selvage/selvagelaw20.good
  refine LR.call rfl Tryd.call18 rfl (Wd.u rfl) rfl rfl (good_ct x w0 _ hl.any hw) (fun v22 H22 r22 => ?_)
  obtain ⟨g, kg, rfl, ow, hkg, hg, hs22⟩ := r22
  have df12 := DF.app (DF.z) (bf_mx.mono hm0.size) hkg
  have df13 := DF.app (DF.z) (bf_hl.mono hm0.size) hkg
  have df14 := DF.app (DF.z) (bf_hs1.mono hm0.size) hkg
  have df15 := DF.app (DF.z) (bf_hs2.mono hm0.size) hkg
  have dj16 : Dj (H0.size + 1) kg := Dj.app (Dj.z) vx.lt hkg
  have dj17 : Dj (H4.size + 1) kg := Dj.app (Dj.z) vi.lt hkg
  have nx18 : Nx 0 H0.size kg := Nx.tr (Nx.refl 0 _) hkg hm0.size
  replace mx := mx.nw hs22
  replace hl := hl.nw hs22
  replace hs1 := hs1.nw hs22
  replace hs2 := hs2.nw hs22
  replace vx := vx.nw hs22
  replace vi := vi.nw hs22
  replace hm0 := hm0.tr hs22
  have hz4 := hs22.size
  have hle_ow := ow.le
  refine LR.s (S.var vx (_) (fQ g) rfl rfl rfl rfl (fQ_one g) Tryd.sizeOf26 (fQ_len _) (by first | decide | simp [fQ_len]) ((splice_all2 (by first | exact (fQ_len _).symm | exact (fQ_len _).trans (fQ_len _).symm)))) (Wd.u rfl) rfl (fun H3_2 r3_2 => ?_)
  obtain ⟨vx, hs3_2⟩ := r3_2
  replace hs3_2 := hs3_2.md1
  replace mx := mx.upL hs3_2 (DFL.cons df1 DFL.nil)
  replace hl := hl.upL hs3_2 (DFL.cons df2 DFL.nil)
  replace hs1 := hs1.upL hs3_2 (DFL.cons df3 DFL.nil)
  replace hs2 := hs2.upL hs3_2 (DFL.cons df4 DFL.nil)
  replace vi := vi.upL hs3_2 (DL.cons dj10.symm DL.nil)
  replace ow := ow.upL hs3_2 (DL.cons dj16.symm DL.nil)
  replace hm0 := (Mo.trL (ks := []) (hm0.mdn []) hs3_2 (MIL.cons (MI.app MI.z (nx5) (Nat.le_refl _)) MIL.nil)).nil
  have hz5 := hs3_2.size
  refine LR.nil ?_
  refine hK4 _ _ ?_
  refine CW.seq (fun K5 hK5 hE5 => ?_)
  refine CW.region ?_
  refine LR.v (Y.arrAddr vi.pt (0) rfl Tryd.runUnderlying23 Tryd.sizeOf5 rfl rfl (by first | rfl | omega) (by first | omega | (simp; omega) | (simp; done))) (Wd.u rfl) rfl rfl ?_
  refine LR.s (S.var1 vi 0 ((c.set 0 1).map V8) rfl rfl rfl (rfl) Tryd.sizeOf5 (by simp [hc]) (by rw [List.map_set]; rfl)) (Wd.u rfl) rfl (fun H4_1 r4_1 => ?_)
  obtain ⟨vi, hs4_1⟩ := r4_1
  replace hs4_1 := hs4_1.md1
  replace mx := mx.upL hs4_1 (DFL.cons df6 DFL.nil)
  replace hl := hl.upL hs4_1 (DFL.cons df7 DFL.nil)
  replace hs1 := hs1.upL hs4_1 (DFL.cons df8 DFL.nil)
  replace hs2 := hs2.upL hs4_1 (DFL.cons df9 DFL.nil)
  replace vx := vx.upL hs4_1 (DL.cons dj10 DL.nil)
  replace ow := ow.upL hs4_1 (DL.cons dj17.symm DL.nil)
  replace hm0 := (Mo.trL (ks := []) (hm0.mdn []) hs4_1 (MIL.cons (MI.app MI.z (nx11) (Nat.le_refl _)) MIL.nil)).nil
  have hz6 := hs4_1.size
  refine LR.nil ?_
  refine hK5 _ _ ?_
  refine CW.seq (fun K6 hK6 hE6 => ?_)
  refine CW.region ?_
  refine LR.v (Y.fieldAddr vx.pt rfl Tryd.runUnderlying26 rfl rfl Tryd.sizeOf24 (by decide) rfl) (Wd.u rfl) rfl rfl ?_
  obtain ⟨cc, ecc⟩ : ∃ d : List UInt8, d = c.set 0 1 := ⟨_, rfl⟩
  rw [← ecc] at vi
  have hcc : cc.length = 32 := by rw [ecc, List.length_set]; exact hc
  have hcz : ¬ cc = Z32 := by rw [ecc]; exact set_nz hc
  have hgd := hg.dn
  have hgm := hg.md
  have hgl := hg.hl
  refine LR.v (Y.load1 vx.pt.q66 rfl Tryd.isAgg24 rfl) (Wd.u rfl) rfl rfl ?_
  refine LR.v (Y.assign rfl rfl) (Wd.u rfl) rfl rfl ?_
  refine LR.nil ?_
  refine hK6 _ _ ?_
  refine CW.seq (fun K7 hK7 hE7 => ?_)
  refine CW.region ?_
  refine LR.v (Y.fieldAddr vx.pt rfl Tryd.runUnderlying26 rfl rfl Tryd.sizeOf3 (by decide) rfl) (Wd.u rfl) rfl rfl ?_
  refine LR.v (Y.cast (v2 := .int .i64 ((g.dn.toNat : Nat) : Int)) (Y.load1 vx.pt.q67 rfl Tryd.isAgg3 rfl) (ivv (by omega))) (Wd.u rfl) rfl rfl ?_
  refine LR.v (Y.assign rfl rfl) (Wd.u rfl) rfl rfl ?_
  refine LR.nil ?_
  refine hK7 _ _ ?_
  refine CW.seq (fun K8 hK8 hE8 => ?_)
  refine CW.region ?_
  refine LR.v (Y.fieldAddr vx.pt rfl Tryd.runUnderlying26 rfl rfl Tryd.sizeOf3 (by decide) rfl) (Wd.u rfl) rfl rfl ?_
  have oq := ow
  have hle_oq := ow.le
  refine LR.v (Y.load1 (vx.pt.q67.drop 1) rfl Tryd.isAgg3 rfl) (Wd.u rfl) rfl rfl ?_
  refine LR.v (Y.assign rfl rfl) (Wd.u rfl) rfl rfl ?_
  refine LR.nil ?_
  refine hK8 _ _ ?_
  refine CW.seq (fun K9 hK9 hE9 => ?_)
  refine CW.seq (fun K10 hK10 hE10 => ?_)
  refine CW.region ?_
  refine LR.v (Y.assign rfl rfl) (Wd.u rfl) rfl rfl ?_
  refine LR.nil ?_
  refine hK10 _ _ ?_
  refine CW.block (fun K11 hK11 hX11 hE11 => ?_)
  refine CW.loop (fun (s_ : (Sq) × (Nat) × (Nat) × (Int) × (Nat)) => match s_ with | (q, kq, a, m, i) => [(1, v1), (2, v2), (4, .pointer (some ⟨H0.size, 0, none⟩)), (7, .pointer (some ⟨H4.size, 0, none⟩)), (9, g.tv.v), (10, .int .i64 (a : Int)), (11, .int .i64 m), (12, .int .i64 (i : Int))])
    (fun (s_ : (Sq) × (Nat) × (Nat) × (Int) × (Nat)) (H : Heap) => match s_ with | (q, kq, a, m, i) => (Var 26 H H0.size (fQ q)) ∧ (Ow kq 29 H fT 33 q.tv.v q.td) ∧ (EI g q a m) ∧ (a ≤ g.td.length ∧ i + (2 * (g.td.length - a) - stB q) ≤ 40) ∧ (Nx kg H4_1.size kq) ∧ (Dj (H0.size + 1) kq) ∧ Mo (Ms [(H0.size + 1)]) H4_1 H)
    (fun (s_ : (Sq) × (Nat) × (Nat) × (Int) × (Nat)) => match s_ with | (q, kq, a, m, i) => 2 * (g.td.length - a) - stB q) (g, kg, g.dn.toNat, g.md, 0) ⟨rfl, rfl, rfl, rfl, rfl, rfl, rfl, rfl, trivial⟩ ?_ ?_
  ·
    exact ⟨vx, oq, (.inl ⟨by omega, hg, by omega, rfl, rfl⟩), (by omega), Nx.refl _ _, dj16, Mo.refl _ _⟩
  rintro ⟨q, kq, a, m, i⟩ HL1 hI1 K12 hN12 hE12
  obtain ⟨vx, oq, hI, hmi, nxl_oq, dj_vx_oq, hlm1⟩ := hI1
  have df19 := DF.app (df12) (bf_mx.mono hm0.size) nxl_oq
  have df20 := DF.app (df13) (bf_hl.mono hm0.size) nxl_oq
  have df21 := DF.app (df14) (bf_hs1.mono hm0.size) nxl_oq
  have df22 := DF.app (df15) (bf_hs2.mono hm0.size) nxl_oq
  have dj23 : Dj (H4.size + 1) kq := Dj.app (dj17) vi.lt nxl_oq
  have nx24 : Nx 0 H0.size kq := Nx.tr (nx18) nxl_oq hm0.size
  replace mx := mx.upL hlm1 (DFL.cons df1 DFL.nil)
  replace hl := hl.upL hlm1 (DFL.cons df2 DFL.nil)
  replace hs1 := hs1.upL hlm1 (DFL.cons df3 DFL.nil)
  replace hs2 := hs2.upL hlm1 (DFL.cons df4 DFL.nil)
  replace vi := vi.upL hlm1 (DL.cons dj10.symm DL.nil)
  replace ow := ow.upL hlm1 (DL.cons dj16.symm DL.nil)
  replace hm0 := (Mo.trL (ks := []) (hm0.mdn []) hlm1 (MIL.cons (MI.app MI.z (nx5) (Nat.le_refl _)) MIL.nil)).nil
  have hz7 := hlm1.size
  have hle_oq := oq.le
  have dj25 := dj_vx_oq
  have nx_hlm1_vx := Nx.refl (H0.size + 1) H4_1.size
  have nx26 := nxl_oq
  have hqw := hI.w
  have hsb : stB q ≤ 1 := by unfold stB; split <;> omega
  refine CW.seq (fun K13 hK13 hE13 => ?_)
  refine CW.seq (fun K14 hK14 hE14 => ?_)
  refine CW.region ?_
  refine LR.v (Y.move rfl rfl) (Wd.u rfl) rfl rfl ?_
  refine LR.v (Y.move rfl rfl) (Wd.u rfl) rfl rfl ?_
  refine LR.v (Y.len ow.rd rfl Tryd.runUnderlying24 rfl) (Wd.u rfl) rfl rfl ?_
  refine LR.v (Y.lss rfl rfl rfl) (Wd.u rfl) rfl rfl ?_
  refine LR.nil ?_
  refine hK14 _ _ ?_
  refine CW.condp rfl (fun c33 => ?_) (fun c33 => ?_)
  ·
    obtain ⟨hG, hqd, hqm, hqt⟩ := hI.here (by omega)
    have hal : a < g.td.length := by omega
    have h0 := hG.chk_ok
    have hGd := hG.dn
    have hGm := hG.md
    have hgl := hg.hl
    refine CW.skip ?_
    refine hK13 _ _ ?_
    refine CW.seq (fun K15 hK15 hE15 => ?_)
    refine CW.block (fun K16 hK16 hX16 hE16 => ?_)
    refine CW.seq (fun K17 hK17 hE17 => ?_)
    refine CW.seq (fun K18 hK18 hE18 => ?_)
    refine CW.region ?_
    refine LR.v (Y.loadN vx.pt rfl Tryd.isAgg26 Tryd.sizeOf26 (fQ_len _) rfl) (Wd.u rfl) rfl rfl ?_
    -- call selvage/seq.Check
    refine LR.call rfl Tryd.call8 rfl (Wd.u rfl) rfl rfl (sqchk_ct q mx_ w0 _ mx (bf_mx.mono hm0.size) oq.rd.any hqw) (fun v37 H37 r37 => ?_)
    obtain ⟨rfl, hs37⟩ := r37
    replace mx := mx.nw hs37
    replace hl := hl.nw hs37
    replace hs1 := hs1.nw hs37
    replace hs2 := hs2.nw hs37
    replace vi := vi.nw hs37
    replace ow := ow.nw hs37
    replace oq := oq.nw hs37
    replace vx := vx.nw hs37
    replace hm0 := hm0.tr hs37
    replace hlm1 := hlm1.trN hs37
    have hz8 := hs37.size
    rw [h0]
    refine LR.v ((Y.neq rfl rfl rfl).isF ((fun h => h rfl))) (Wd.u rfl) rfl rfl ?_
    refine LR.v (Y.move rfl rfl) (Wd.u rfl) rfl rfl ?_
    refine LR.v (Y.fieldAddr vx.pt rfl Tryd.runUnderlying26 rfl rfl Tryd.sizeOf3 (by decide) rfl) (Wd.g rfl rfl rfl) rfl rfl ?_
    refine LR.v (Y.cast (v2 := .int .i64 (a : Int)) (Y.load1 vx.pt.q67 rfl Tryd.isAgg3 rfl) (ivv (by omega))) (Wd.g rfl rfl rfl) rfl rfl ?_
    refine LR.v (Y.move rfl rfl) (Wd.g rfl rfl rfl) rfl rfl ?_
    refine LR.v ((Y.neq rfl rfl rfl).isF ((fun h => h rfl))) (Wd.g rfl rfl rfl) rfl rfl ?_
    refine LR.v (Y.pick_f rfl rfl rfl) (Wd.u rfl) rfl rfl ?_
    refine LR.v (Y.move rfl rfl) (Wd.u rfl) rfl rfl ?_
    refine LR.v (Y.fieldAddr vx.pt rfl Tryd.runUnderlying26 rfl rfl Tryd.sizeOf3 (by decide) rfl) (Wd.g rfl rfl rfl) rfl rfl ?_
    refine LR.v (Y.cast (v2 := .int .i64 m) (Y.load1 (vx.pt.q67.drop 1) rfl Tryd.isAgg3 rfl) (ivv hqm)) (Wd.g rfl rfl rfl) rfl rfl ?_
    refine LR.v (Y.move rfl rfl) (Wd.g rfl rfl rfl) rfl rfl ?_
    refine LR.v ((Y.neq rfl rfl rfl).isF ((fun h => h rfl))) (Wd.g rfl rfl rfl) rfl rfl ?_
    refine LR.v (Y.pick_f rfl rfl rfl) (Wd.u rfl) rfl rfl ?_
    refine LR.nil ?_
    refine hK18 _ _ ?_
    refine CW.cond_f rfl ?_
    refine CW.skip ?_
    refine hK17 _ _ ?_
    refine CW.seq (fun K19 hK19 hE19 => ?_)
    refine CW.region ?_
    refine LR.v (Y.loadN vx.pt rfl Tryd.isAgg26 Tryd.sizeOf26 (fQ_len _) rfl) (Wd.u rfl) rfl rfl ?_
    -- call selvage/seq.Next
    refine LR.call rfl Tryd.call6 rfl (Wd.u rfl) rfl rfl (next_ct q mx_ w0 _ mx (bf_mx.mono hm0.size) oq.rd.any hqw) (fun v53 H53 r53 => ?_)
    obtain ⟨rfl, hs53⟩ := r53
    replace mx := mx.nw hs53
    replace hl := hl.nw hs53
    replace hs1 := hs1.nw hs53
    replace hs2 := hs2.nw hs53
    replace vi := vi.nw hs53
    replace ow := ow.nw hs53
    replace oq := oq.nw hs53
    replace vx := vx.nw hs53
    replace hm0 := hm0.tr hs53
    replace hlm1 := hlm1.trN hs53
    have hz9 := hs53.size
    rw [show (nextF q).2 = true from by rw [next_g h0 hqd hqt hal]]
    refine LR.v (Y.move rfl rfl) (Wd.u rfl) rfl rfl ?_
    refine LR.v (Y.extract rfl rfl rfl) (Wd.u rfl) rfl rfl ?_
    refine LR.v (Y.extract rfl rfl rfl) (Wd.u rfl) rfl rfl ?_
    refine LR.z (Z.allocv rfl Tryd.zeroValue29) (Wd.u rfl) rfl rfl (fun v13 H13 r13 => ?_)
    obtain ⟨rfl, vt, hs13, ob13, hH13⟩ := r13
    have hzs13 : H13.size = H53.size + 1 := by rw [hH13]; simp
    have df27 := (DF.new (bf_mx.mono hm0.size) : DF _ (H53.size + 1))
    have df28 := (DF.new (bf_hl.mono hm0.size) : DF _ (H53.size + 1))
    have df29 := (DF.new (bf_hs1.mono hm0.size) : DF _ (H53.size + 1))
    have df30 := (DF.new (bf_hs2.mono hm0.size) : DF _ (H53.size + 1))
    have dj31 : Dj (H4.size + 1) (H53.size + 1) := Dj.new vi.lt
    have dj32 : Dj kg (H53.size + 1) := Dj.new ow.le
    have dj33 : Dj kq (H53.size + 1) := Dj.new oq.le
    have dj34 : Dj (H0.size + 1) (H53.size + 1) := Dj.new vx.lt
    have nx35 : Nx 0 H0.size (H53.size + 1) := Nx.new hm0.size
    have nx36 : Nx 0 H4_1.size (H53.size + 1) := Nx.new hlm1.size
    replace mx := mx.nw hs13
    replace hl := hl.nw hs13
    replace hs1 := hs1.nw hs13
    replace hs2 := hs2.nw hs13
    replace vi := vi.nw hs13
    replace ow := ow.nw hs13
    replace oq := oq.nw hs13
    replace vx := vx.nw hs13
    replace hm0 := hm0.tr hs13
    replace hlm1 := hlm1.trN hs13
    have hz10 := hs13.size
    refine LR.s (S.var vt (_) (fT (nextF q).1) rfl rfl rfl rfl (fT_one (nextF q).1) Tryd.sizeOf29 (fT_len _) (by first | decide | simp [fT_len]) ((splice_all2 (by first | exact (fT_len _).symm | exact (fT_len _).trans (fT_len _).symm)))) (Wd.u rfl) rfl (fun H13_6 r13_6 => ?_)
    obtain ⟨vt, hs13_6⟩ := r13_6
    replace hs13_6 := hs13_6.md1
    replace mx := mx.upL hs13_6 (DFL.cons df27 DFL.nil)
    replace hl := hl.upL hs13_6 (DFL.cons df28 DFL.nil)
    replace hs1 := hs1.upL hs13_6 (DFL.cons df29 DFL.nil)
    replace hs2 := hs2.upL hs13_6 (DFL.cons df30 DFL.nil)
    replace vi := vi.upL hs13_6 (DL.cons dj31 DL.nil)
    replace ow := ow.upL hs13_6 (DL.cons dj32 DL.nil)
    replace oq := oq.upL hs13_6 (DL.cons dj33 DL.nil)
    replace vx := vx.upL hs13_6 (DL.cons dj34 DL.nil)
    replace hm0 := (Mo.trL (ks := []) (hm0.mdn []) hs13_6 (MIL.cons (MI.app MI.z (nx35) (Nat.le_refl _)) MIL.nil)).nil
    replace hlm1 := hlm1.trL hs13_6 (MIL.cons (MI.app MI.z (nx36) (Nat.le_refl _)) MIL.nil)
    have hz11 := hs13_6.size
    refine LR.v (Y.assign rfl rfl) (Wd.u rfl) rfl rfl ?_
    refine LR.nil ?_
    refine hK19 _ _ ?_
    refine CW.seq (fun K20 hK20 hE20 => ?_)
    refine CW.region ?_
    refine LR.v (Y.move rfl rfl) (Wd.u rfl) rfl rfl ?_
    refine LR.v (Y.move rfl rfl) (Wd.u rfl) rfl rfl ?_
    refine LR.e (g := fun ad => .pointer (some ad)) (Y.indexAddr ow.rd (a) rfl Tryd.runUnderlying24 Tryd.sizeOf29 rfl rfl (by first | rfl | omega) (by first | omega | (simp; omega) | (simp; done))) (Wd.u rfl) rfl rfl (fun ad58 pt58 => ?_)
    refine LR.v (Y.loadN pt58 rfl Tryd.isAgg29 Tryd.sizeOf29 (fT_len _) rfl) (Wd.u rfl) rfl rfl ?_
    refine LR.z (Z.allocv rfl Tryd.zeroValue29) (Wd.u rfl) rfl rfl (fun v15 H15 r15 => ?_)
    obtain ⟨rfl, vw, hs15, ob15, hH15⟩ := r15
    have hzs15 : H15.size = H13_6.size + 1 := by rw [hH15]; simp
    have df37 := (DF.new (bf_mx.mono hm0.size) : DF _ (H13_6.size + 1))
    have df38 := (DF.new (bf_hl.mono hm0.size) : DF _ (H13_6.size + 1))
    have df39 := (DF.new (bf_hs1.mono hm0.size) : DF _ (H13_6.size + 1))
    have df40 := (DF.new (bf_hs2.mono hm0.size) : DF _ (H13_6.size + 1))
    have dj41 : Dj (H4.size + 1) (H13_6.size + 1) := Dj.new vi.lt
    have dj42 : Dj kg (H13_6.size + 1) := Dj.new ow.le
    have dj43 : Dj kq (H13_6.size + 1) := Dj.new oq.le
    have dj44 : Dj (H0.size + 1) (H13_6.size + 1) := Dj.new vx.lt
    have dj45 : Dj (H53.size + 1) (H13_6.size + 1) := Dj.new vt.lt
    have nx46 : Nx 0 H0.size (H13_6.size + 1) := Nx.new hm0.size
    have nx47 : Nx 0 H4_1.size (H13_6.size + 1) := Nx.new hlm1.size
    replace mx := mx.nw hs15
    replace hl := hl.nw hs15
    replace hs1 := hs1.nw hs15
    replace hs2 := hs2.nw hs15
    replace vi := vi.nw hs15
    replace ow := ow.nw hs15
    replace oq := oq.nw hs15
    replace vx := vx.nw hs15
    replace vt := vt.nw hs15
    replace hm0 := hm0.tr hs15
    replace hlm1 := hlm1.trN hs15
    have hz12 := hs15.size
    refine LR.s (S.var vw (_) (fT g.td[a]) rfl rfl rfl rfl (fT_one g.td[a]) Tryd.sizeOf29 (fT_len _) (by first | decide | simp [fT_len]) ((splice_all2 (by first | exact (fT_len _).symm | exact (fT_len _).trans (fT_len _).symm)))) (Wd.u rfl) rfl (fun H14_5 r14_5 => ?_)
    obtain ⟨vw, hs14_5⟩ := r14_5
    replace hs14_5 := hs14_5.md1
    replace mx := mx.upL hs14_5 (DFL.cons df37 DFL.nil)
    replace hl := hl.upL hs14_5 (DFL.cons df38 DFL.nil)
    replace hs1 := hs1.upL hs14_5 (DFL.cons df39 DFL.nil)
    replace hs2 := hs2.upL hs14_5 (DFL.cons df40 DFL.nil)
    replace vi := vi.upL hs14_5 (DL.cons dj41 DL.nil)
    replace ow := ow.upL hs14_5 (DL.cons dj42 DL.nil)
    replace oq := oq.upL hs14_5 (DL.cons dj43 DL.nil)
    replace vx := vx.upL hs14_5 (DL.cons dj44 DL.nil)
    replace vt := vt.upL hs14_5 (DL.cons dj45 DL.nil)
    replace hm0 := (Mo.trL (ks := []) (hm0.mdn []) hs14_5 (MIL.cons (MI.app MI.z (nx46) (Nat.le_refl _)) MIL.nil)).nil
    replace hlm1 := hlm1.trL hs14_5 (MIL.cons (MI.app MI.z (nx47) (Nat.le_refl _)) MIL.nil)
    have hz13 := hs14_5.size
    refine LR.nil ?_
    refine hK20 _ _ ?_
    refine CW.seq (fun K21 hK21 hE21 => ?_)
    refine CW.seq (fun K22 hK22 hE22 => ?_)
    refine CW.region ?_
    refine LR.v (Y.fieldAddr vw.pt rfl Tryd.runUnderlying29 rfl rfl Tryd.sizeOf3 (by decide) rfl) (Wd.u rfl) rfl rfl ?_
    refine LR.v (Y.load1 vw.pt rfl Tryd.isAgg3 rfl) (Wd.u rfl) rfl rfl ?_
    refine LR.v (Y.eql rfl rfl rfl) (Wd.u rfl) rfl rfl ?_
    refine LR.v (Y.move rfl rfl) (Wd.u rfl) rfl rfl ?_
    refine LR.splitp (d := 63) rfl (fun g63 => ?_) (fun g63 => ?_)
    ·
      refine LR.v (Y.move rfl rfl) (Wd.g rfl rfl rfl) rfl rfl ?_
      refine LR.v (Y.eql rfl rfl rfl) (Wd.g rfl rfl rfl) rfl rfl ?_
      refine LR.v (Y.pick_t rfl rfl rfl) (Wd.u rfl) rfl rfl ?_
      refine LR.nil ?_
      refine hK22 _ _ ?_
      refine CW.condp rfl (fun c66 => ?_) (fun c66 => ?_)
      ·
        refine CW.region ?_
        refine LR.v (Y.fieldAddr vw.pt rfl Tryd.runUnderlying29 rfl rfl Tryd.sizeOf3 (by decide) rfl) (Wd.u rfl) rfl rfl ?_
        refine LR.s (S.var1 vw 0 (fT ⟨1, g.td[a].i⟩) rfl rfl rfl (rfl) Tryd.sizeOf3 (by simp [fT_len]) (rfl)) (Wd.u rfl) rfl (fun H16_1 r16_1 => ?_)
        obtain ⟨vw, hs16_1⟩ := r16_1
        replace hs16_1 := hs16_1.md1
        replace mx := mx.upL hs16_1 (DFL.cons df37 DFL.nil)
        replace hl := hl.upL hs16_1 (DFL.cons df38 DFL.nil)
        replace hs1 := hs1.upL hs16_1 (DFL.cons df39 DFL.nil)
        replace hs2 := hs2.upL hs16_1 (DFL.cons df40 DFL.nil)
        replace vi := vi.upL hs16_1 (DL.cons dj41 DL.nil)
        replace ow := ow.upL hs16_1 (DL.cons dj42 DL.nil)
        replace oq := oq.upL hs16_1 (DL.cons dj43 DL.nil)
        replace vx := vx.upL hs16_1 (DL.cons dj44 DL.nil)
        replace vt := vt.upL hs16_1 (DL.cons dj45 DL.nil)
        replace hm0 := (Mo.trL (ks := []) (hm0.mdn []) hs16_1 (MIL.cons (MI.app MI.z (nx46) (Nat.le_refl _)) MIL.nil)).nil
        replace hlm1 := hlm1.trL hs16_1 (MIL.cons (MI.app MI.z (nx47) (Nat.le_refl _)) MIL.nil)
        have hz14 := hs16_1.size
        refine LR.nil ?_
        refine hK21 _ _ ?_
        refine CW.seq (fun K23 hK23 hE23 => ?_)
        refine CW.seq (fun K24 hK24 hE24 => ?_)
        refine CW.region ?_
        obtain ⟨w1, hw1, vw⟩ : ∃ t : Td, t = (nextF q).1 ∧ Var 29 _ _ (fT t) := ⟨_, by first | (exact nextg1 h0 hqd hqt hal (by assumption) (by omega)) | (exact nextg2 h0 hqd hqt hal (by omega)), vw⟩
        refine LR.v (Y.move rfl rfl) (Wd.u rfl) rfl rfl ?_
        refine LR.v (Y.not rfl rfl) (Wd.u rfl) rfl rfl ?_
        refine LR.v (Y.move rfl rfl) (Wd.u rfl) rfl rfl ?_
        refine LR.v (Y.loadN vt.pt rfl Tryd.isAgg29 Tryd.sizeOf29 (fT_len _) rfl) (Wd.g rfl rfl rfl) rfl rfl ?_
        refine LR.v (Y.loadN vw.pt rfl Tryd.isAgg29 Tryd.sizeOf29 (fT_len _) rfl) (Wd.g rfl rfl rfl) rfl rfl ?_
        refine LR.v ((Y.aneq rfl Tryd.eqGuardType29 (fun w => eqTd' (next_w hqw) (by rw [hw1]; exact next_w hqw) w) rfl rfl).isF ((fun h => h hw1.symm))) (Wd.g rfl rfl rfl) rfl rfl ?_
        refine LR.v (Y.pick_f rfl rfl rfl) (Wd.u rfl) rfl rfl ?_
        refine LR.nil ?_
        refine hK24 _ _ ?_
        refine CW.cond_f rfl ?_
        refine CW.skip ?_
        refine hK23 _ _ ?_
        refine CW.cut (fun (_ : Unit) => [(1, v1), (2, v2), (4, .pointer (some ⟨H0.size, 0, none⟩)), (7, .pointer (some ⟨H4.size, 0, none⟩)), (9, g.tv.v), (10, .int .i64 (a : Int)), (11, .int .i64 m), (12, .int .i64 (i : Int))])
          (fun (_ : Unit) (H : Heap) => (True) ∧ Nw H16_1 H) (fun K25 hK25 hE25 => ?_) ?_
        ·
          have hcm25 : Nw H16_1 H16_1 := Mo.refl _ _
          refine CW.seq (fun K26 hK26 hE26 => ?_)
          refine CW.region ?_
          refine LR.v (Y.move rfl rfl) (Wd.u rfl) rfl rfl ?_
          refine LR.v (Y.move rfl rfl) (Wd.u rfl) rfl rfl ?_
          refine LR.v (Y.len hs1 rfl Tryd.runUnderlying39 rfl) (Wd.u rfl) rfl rfl ?_
          refine LR.v (Y.lss rfl rfl rfl) (Wd.u rfl) rfl rfl ?_
          refine LR.v (Y.move rfl rfl) (Wd.u rfl) rfl rfl ?_
          refine LR.splitp (d := 79) rfl (fun g79 => ?_) (fun g79 => ?_)
          ·
            refine LR.v (Y.move rfl rfl) (Wd.g rfl rfl rfl) rfl rfl ?_
            refine LR.v (Y.move rfl rfl) (Wd.g rfl rfl rfl) rfl rfl ?_
            refine LR.e (g := fun ad => .pointer (some ad)) (Y.indexAddrF hs1 (i) rfl Tryd.runUnderlying39 Tryd.sizeOf4 rfl rfl (by first | rfl | omega) (by first | omega | (simp; omega) | (simp; done))) (Wd.g rfl rfl rfl) rfl rfl (fun ad82 pt82 => ?_)
            have bf_pt82 := bf_hs1
            refine LR.v (Y.load1 pt82.pt rfl Tryd.isAgg4 rfl) (Wd.g rfl rfl rfl) rfl rfl ?_
            refine LR.v (Y.pick_t rfl rfl rfl) (Wd.u rfl) rfl rfl ?_
            refine LR.v (Y.move rfl rfl) (Wd.u rfl) rfl rfl ?_
            refine LR.split (d := 85) rfl (fun g85 => ?_) (fun g85 => ?_)
            ·
              refine LR.v (Y.fieldAddr vx.pt rfl Tryd.runUnderlying26 rfl rfl Tryd.sizeOf4 (by decide) rfl) (Wd.g rfl rfl rfl) rfl rfl ?_
              refine LR.v (Y.load1 (vx.pt.q67.drop 2) rfl Tryd.isAgg4 rfl) (Wd.g rfl rfl rfl) rfl rfl ?_
              refine LR.v (Y.not rfl rfl) (Wd.g rfl rfl rfl) rfl rfl ?_
              refine LR.v (Y.pick_t rfl rfl rfl) (Wd.u rfl) rfl rfl ?_
              refine LR.nil ?_
              refine hK26 _ _ ?_
              refine CW.cond rfl (fun c89 => ?_) (fun c89 => ?_)
              ·
                have hst : q.st = false := by simpa using c89
                refine CW.seq (fun K27 hK27 hE27 => ?_)
                refine CW.region ?_
                refine LR.v (Y.loadN vx.pt rfl Tryd.isAgg26 Tryd.sizeOf26 (fQ_len _) rfl) (Wd.u rfl) rfl rfl ?_
                -- call selvage/seq.Stop
                refine LR.call rfl Tryd.call14 rfl (Wd.u rfl) rfl rfl (stop_ct q mx_ w0 _ mx (bf_mx.mono hm0.size) oq.rd.any hqw) (fun v91 H91 r91 => ?_)
                have ql48 := vi.lt
                have ql49 := ow.le
                have ql50 := oq.le
                have ql51 := vx.lt
                obtain ⟨s91, k91, rfl, oq, hk91, hs91⟩ := r91
                have df52 := DF.app (DF.z) (bf_mx.mono hm0.size) hk91
                have df53 := DF.app (DF.z) (bf_hl.mono hm0.size) hk91
                have df54 := DF.app (DF.z) (bf_hs1.mono hm0.size) hk91
                have df55 := DF.app (DF.z) (bf_hs2.mono hm0.size) hk91
                have dj56 : Dj (H4.size + 1) k91 := Dj.app (Dj.z) ql48 hk91
                have dj57 : Dj kg k91 := Dj.app (Dj.z) ql49 hk91
                have dj58 : Dj kq k91 := Dj.app (Dj.z) ql50 hk91
                have dj59 : Dj (H0.size + 1) k91 := Dj.app (Dj.z) ql51 hk91
                have nx60 : Nx 0 H0.size k91 := Nx.tr (Nx.refl 0 _) hk91 hm0.size
                have nx61 : Nx 0 H4_1.size k91 := Nx.tr (Nx.refl 0 _) hk91 hlm1.size
                have nx62 : Nx 0 H16_1.size k91 := Nx.tr (Nx.refl 0 _) hk91 hcm25.size
                replace mx := mx.nw hs91
                replace hl := hl.nw hs91
                replace hs1 := hs1.nw hs91
                replace hs2 := hs2.nw hs91
                replace vi := vi.nw hs91
                replace ow := ow.nw hs91
                replace vx := vx.nw hs91
                replace hm0 := hm0.tr hs91
                replace hlm1 := hlm1.trN hs91
                replace hcm25 := hcm25.tr hs91
                have hz15 := hs91.size
                have hle_oq := oq.le
                rw [stop_ok h0] at oq ⊢
                refine LR.s (S.var vx (_) (fQ { q with tv := s91, st := true }) rfl rfl rfl rfl (fQ_one { q with tv := s91, st := true }) Tryd.sizeOf26 (fQ_len _) (by first | decide | simp [fQ_len]) ((splice_all2 (by first | exact (fQ_len _).symm | exact (fQ_len _).trans (fQ_len _).symm)))) (Wd.u rfl) rfl (fun H20_2 r20_2 => ?_)
                obtain ⟨vx, hs20_2⟩ := r20_2
                replace hs20_2 := hs20_2.md1
                replace mx := mx.upL hs20_2 (DFL.cons df1 DFL.nil)
                replace hl := hl.upL hs20_2 (DFL.cons df2 DFL.nil)
                replace hs1 := hs1.upL hs20_2 (DFL.cons df3 DFL.nil)
                replace hs2 := hs2.upL hs20_2 (DFL.cons df4 DFL.nil)
                replace vi := vi.upL hs20_2 (DL.cons dj10.symm DL.nil)
                replace ow := ow.upL hs20_2 (DL.cons dj16.symm DL.nil)
                replace oq := oq.upL hs20_2 (DL.cons dj59.symm DL.nil)
                replace hm0 := (Mo.trL (ks := []) (hm0.mdn []) hs20_2 (MIL.cons (MI.app MI.z (nx5) (Nat.le_refl _)) MIL.nil)).nil
                replace hlm1 := hlm1.trL hs20_2 (MIL.cons (MI.app (MI.root (by simp)) (nx_hlm1_vx) (Nat.le_refl _)) MIL.nil)
                -- LOST hcm25
                have hz16 := hs20_2.size
                refine LR.nil ?_
                refine hK27 _ _ ?_
                refine CW.seq (fun K28 hK28 hE28 => ?_)
                refine CW.seq (fun K29 hK29 hE29 => ?_)
                refine CW.region ?_
                refine LR.v (Y.fieldAddr vx.pt rfl Tryd.runUnderlying26 rfl rfl Tryd.sizeOf4 (by decide) rfl) (Wd.u rfl) rfl rfl ?_
                refine LR.v (Y.cast (v2 := .bool true) (Y.load1 (vx.pt.q67.drop 2) rfl Tryd.isAgg4 rfl) (rfl)) (Wd.u rfl) rfl rfl ?_
                refine LR.v (Y.not rfl rfl) (Wd.u rfl) rfl rfl ?_
                refine LR.nil ?_
                refine hK29 _ _ ?_
                refine CW.cond_f rfl ?_
                refine CW.skip ?_
                refine hK28 _ _ ?_
                refine CW.exit (hE25 (.exit 1) nofun _ _ (hX16 _ _ ?_))
                refine hK15 _ _ ?_
                refine CW.region ?_
                refine LR.v (Y.move rfl rfl) (Wd.u rfl) rfl rfl ?_
                refine LR.v (Y.addi rfl rfl rfl (by omega)) (Wd.u rfl) rfl rfl ?_
                refine LR.v (Y.assign rfl rfl) (Wd.u rfl) rfl rfl ?_
                refine LR.nil ?_
                have e1 := stB_f hst
                have e2 : stB ({ q with tv := s91, st := true } : Sq) = 1 := rfl
                refine QN.sub (hN12 ({ q with tv := s91, st := true }, k91, a, m, i + 1) _ ?_ ?_) ⟨rfl, rfl, rfl, rfl, rfl, (iv (by omega)), (iv (by omega)), (iv (by omega)), trivial⟩
                · exact ⟨vx, oq, (.inl ⟨hal, good_stop hG s91, hqd, hqm, hqt⟩), (by omega), (Nx.z (nx61)), dj59, hlm1⟩
                · first | omega | (simp only; omega) | (simp; omega)
              ·
                refine CW.skip ?_
                refine QN.sub (hK25 () _ ?_) ⟨rfl, rfl, rfl, rfl, rfl, (iv (by omega)), (iv (by omega)), (iv (by omega)), trivial⟩
                exact ⟨trivial, hcm25⟩
            ·
              refine LR.gs rfl rfl rfl rfl rfl rfl ?_
              refine LR.gs rfl rfl rfl rfl rfl rfl ?_
              refine LR.gs rfl rfl rfl rfl rfl rfl ?_
              refine LR.v (Y.pick_f rfl rfl rfl) (Wd.u rfl) rfl rfl ?_
              refine LR.nil ?_
              refine hK26 _ _ ?_
              refine CW.cond_f rfl ?_
              refine CW.skip ?_
              refine QN.sub (hK25 () _ ?_) ⟨rfl, rfl, rfl, rfl, rfl, (iv (by omega)), (iv (by omega)), (iv (by omega)), trivial⟩
              exact ⟨trivial, hcm25⟩
          ·
            refine LR.gs rfl rfl rfl rfl rfl rfl ?_
            refine LR.gs rfl rfl rfl rfl rfl rfl ?_
            refine LR.gs rfl rfl rfl rfl rfl rfl ?_
            refine LR.gs rfl rfl rfl rfl rfl rfl ?_
            refine LR.v (Y.pick_f rfl rfl rfl) (Wd.u rfl) rfl rfl ?_
            refine LR.v (Y.move rfl rfl) (Wd.u rfl) rfl rfl ?_
            refine LR.gs rfl rfl rfl rfl rfl rfl ?_
            refine LR.gs rfl rfl rfl rfl rfl rfl ?_
            refine LR.gs rfl rfl rfl rfl rfl rfl ?_
            refine LR.v (Y.pick_f rfl rfl rfl) (Wd.u rfl) rfl rfl ?_
            refine LR.nil ?_
            refine hK26 _ _ ?_
            refine CW.cond_f rfl ?_
            refine CW.skip ?_
            refine QN.sub (hK25 () _ ?_) ⟨rfl, rfl, rfl, rfl, rfl, (iv (by omega)), (iv (by omega)), (iv (by omega)), trivial⟩
            exact ⟨trivial, hcm25⟩
        ·
          intro _ Hcutc89 hIcutc89
          obtain ⟨hT, hlmcutc89⟩ := hIcutc89
          replace mx := mx.nw hlmcutc89
          replace hl := hl.nw hlmcutc89
          replace hs1 := hs1.nw hlmcutc89
          replace hs2 := hs2.nw hlmcutc89
          replace vi := vi.nw hlmcutc89
          replace ow := ow.nw hlmcutc89
          replace oq := oq.nw hlmcutc89
          replace vx := vx.nw hlmcutc89
          replace hm0 := hm0.tr hlmcutc89
          replace hlm1 := hlm1.trN hlmcutc89
          have hz17 := hlmcutc89.size
          refine CW.seq (fun K30 hK30 hE30 => ?_)
          refine CW.cut (fun (sk : (Bool)) => [(1, v1), (2, v2), (4, .pointer (some ⟨H0.size, 0, none⟩)), (7, .pointer (some ⟨H4.size, 0, none⟩)), (9, g.tv.v), (10, .int .i64 (a : Int)), (11, .int .i64 m), (12, .int .i64 (i : Int)), (104, .bool sk)])
            (fun (sk : (Bool)) (H : Heap) => (True) ∧ Nw Hcutc89 H) (fun K31 hK31 hE31 => ?_) ?_
          ·
            have hcm31 : Nw Hcutc89 Hcutc89 := Mo.refl _ _
            refine CW.region ?_
            refine LR.v (Y.move rfl rfl) (Wd.u rfl) rfl rfl ?_
            refine LR.v (Y.move rfl rfl) (Wd.u rfl) rfl rfl ?_
            refine LR.v (Y.len hs2 rfl Tryd.runUnderlying39 rfl) (Wd.u rfl) rfl rfl ?_
            refine LR.v (Y.lss rfl rfl rfl) (Wd.u rfl) rfl rfl ?_
            refine LR.v (Y.move rfl rfl) (Wd.u rfl) rfl rfl ?_
            refine LR.splitp (d := 99) rfl (fun g99 => ?_) (fun g99 => ?_)
            ·
              refine LR.v (Y.move rfl rfl) (Wd.g rfl rfl rfl) rfl rfl ?_
              refine LR.v (Y.move rfl rfl) (Wd.g rfl rfl rfl) rfl rfl ?_
              refine LR.e (g := fun ad => .pointer (some ad)) (Y.indexAddrF hs2 (i) rfl Tryd.runUnderlying39 Tryd.sizeOf4 rfl rfl (by first | rfl | omega) (by first | omega | (simp; omega) | (simp; done))) (Wd.g rfl rfl rfl) rfl rfl (fun ad102 pt102 => ?_)
              have bf_pt102 := bf_hs2
              refine LR.v (Y.load1 pt102.pt rfl Tryd.isAgg4 rfl) (Wd.g rfl rfl rfl) rfl rfl ?_
              refine LR.v (Y.pick_t rfl rfl rfl) (Wd.u rfl) rfl rfl ?_
              refine LR.nil ?_
              refine QN.sub (hK31 (l2[i]) _ ?_) ⟨rfl, rfl, rfl, rfl, rfl, (iv (by omega)), (iv (by omega)), (iv (by omega)), rfl, trivial⟩
              exact ⟨trivial, hcm31⟩
            ·
              refine LR.gs rfl rfl rfl rfl rfl rfl ?_
              refine LR.gs rfl rfl rfl rfl rfl rfl ?_
              refine LR.gs rfl rfl rfl rfl rfl rfl ?_
              refine LR.gs rfl rfl rfl rfl rfl rfl ?_
              refine LR.v (Y.pick_f rfl rfl rfl) (Wd.u rfl) rfl rfl ?_
              refine LR.nil ?_
              refine QN.sub (hK31 false _ ?_) ⟨rfl, rfl, rfl, rfl, rfl, (iv (by omega)), (iv (by omega)), (iv (by omega)), rfl, trivial⟩
              exact ⟨trivial, hcm31⟩
          ·
            intro sk Hcutr23 hIcutr23
            obtain ⟨hT2, hlmcutr23⟩ := hIcutr23
            replace mx := mx.nw hlmcutr23
            replace hl := hl.nw hlmcutr23
            replace hs1 := hs1.nw hlmcutr23
            replace hs2 := hs2.nw hlmcutr23
            replace vi := vi.nw hlmcutr23
            replace ow := ow.nw hlmcutr23
            replace oq := oq.nw hlmcutr23
            replace vx := vx.nw hlmcutr23
            replace hm0 := hm0.tr hlmcutr23
            replace hlm1 := hlm1.trN hlmcutr23
            have hz18 := hlmcutr23.size
            refine CW.cond rfl (fun c104 => ?_) (fun c104 => ?_)
            ·
              refine CW.seq (fun K32 hK32 hE32 => ?_)
              refine CW.region ?_
              refine LR.v (Y.fieldAddr vx.pt rfl Tryd.runUnderlying26 rfl rfl Tryd.sizeOf23 (by decide) rfl) (Wd.u rfl) rfl rfl ?_
              refine LR.v (Y.cast (v2 := idV q.cu) (Y.loadN ((vx.pt.drop 34).take 32) rfl Tryd.isAgg23 Tryd.sizeOf23 (by simp [fQ_len]) rfl) (congrArg (fun z : List Value => Value.agg z.toArray) ((fQ_cu _).trans (kc_eq hqw.hc)))) (Wd.u rfl) rfl rfl ?_
              refine LR.z (Z.allocv rfl Tryd.zeroValue23) (Wd.u rfl) rfl rfl (fun v16 H16 r16 => ?_)
              obtain ⟨rfl, vc, hs16, ob16, hH16⟩ := r16
              have hzs16 : H16.size = Hcutr23.size + 1 := by rw [hH16]; simp
              have df63 := (DF.new (bf_mx.mono hm0.size) : DF _ (Hcutr23.size + 1))
              have df64 := (DF.new (bf_hl.mono hm0.size) : DF _ (Hcutr23.size + 1))
              have df65 := (DF.new (bf_hs1.mono hm0.size) : DF _ (Hcutr23.size + 1))
              have df66 := (DF.new (bf_hs2.mono hm0.size) : DF _ (Hcutr23.size + 1))
              have dj67 : Dj (H4.size + 1) (Hcutr23.size + 1) := Dj.new vi.lt
              have dj68 : Dj kg (Hcutr23.size + 1) := Dj.new ow.le
              have dj69 : Dj kq (Hcutr23.size + 1) := Dj.new oq.le
              have dj70 : Dj (H0.size + 1) (Hcutr23.size + 1) := Dj.new vx.lt
              have nx71 : Nx 0 H0.size (Hcutr23.size + 1) := Nx.new hm0.size
              have nx72 : Nx 0 H4_1.size (Hcutr23.size + 1) := Nx.new hlm1.size
              replace mx := mx.nw hs16
              replace hl := hl.nw hs16
              replace hs1 := hs1.nw hs16
              replace hs2 := hs2.nw hs16
              replace vi := vi.nw hs16
              replace ow := ow.nw hs16
              replace oq := oq.nw hs16
              replace vx := vx.nw hs16
              replace hm0 := hm0.tr hs16
              replace hlm1 := hlm1.trN hs16
              have hz19 := hs16.size
              refine LR.s (S.var vc (q.cu.map V8) (q.cu.map V8) rfl rfl rfl rfl (by rw [← kc_eq hqw.hc]; exact kc_one _) Tryd.sizeOf23 (by simp [hqw.hc]) (by decide) ((splice_all2 (by rw [List.length_map, hqw.hc]; rfl)))) (Wd.u rfl) rfl (fun H24_3 r24_3 => ?_)
              obtain ⟨vc, hs24_3⟩ := r24_3
              replace hs24_3 := hs24_3.md1
              replace mx := mx.upL hs24_3 (DFL.cons df63 DFL.nil)
              replace hl := hl.upL hs24_3 (DFL.cons df64 DFL.nil)
              replace hs1 := hs1.upL hs24_3 (DFL.cons df65 DFL.nil)
              replace hs2 := hs2.upL hs24_3 (DFL.cons df66 DFL.nil)
              replace vi := vi.upL hs24_3 (DL.cons dj67 DL.nil)
              replace ow := ow.upL hs24_3 (DL.cons dj68 DL.nil)
              replace oq := oq.upL hs24_3 (DL.cons dj69 DL.nil)
              replace vx := vx.upL hs24_3 (DL.cons dj70 DL.nil)
              replace hm0 := (Mo.trL (ks := []) (hm0.mdn []) hs24_3 (MIL.cons (MI.app MI.z (nx71) (Nat.le_refl _)) MIL.nil)).nil
              replace hlm1 := hlm1.trL hs24_3 (MIL.cons (MI.app MI.z (nx72) (Nat.le_refl _)) MIL.nil)
              have hz20 := hs24_3.size
              refine LR.nil ?_
              refine hK32 _ _ ?_
              refine CW.seq (fun K33 hK33 hE33 => ?_)
              refine CW.region ?_
              refine LR.v (Y.loadN vx.pt rfl Tryd.isAgg26 Tryd.sizeOf26 (fQ_len _) rfl) (Wd.u rfl) rfl rfl ?_
              -- call selvage/seq.Skip
              refine LR.call rfl Tryd.call16 rfl (Wd.u rfl) rfl rfl (skip_ct q mx_ w0 _ mx (bf_mx.mono hm0.size) oq.rd.any hqw) (fun v108 H108 r108 => ?_)
              have ql73 := vi.lt
              have ql74 := ow.le
              have ql75 := oq.le
              have ql76 := vx.lt
              have ql77 := vc.lt
              obtain ⟨s108, k108, rfl, oq, hk108, hs108⟩ := r108
              have df78 := DF.app (DF.z) (bf_mx.mono hm0.size) hk108
              have df79 := DF.app (DF.z) (bf_hl.mono hm0.size) hk108
              have df80 := DF.app (DF.z) (bf_hs1.mono hm0.size) hk108
              have df81 := DF.app (DF.z) (bf_hs2.mono hm0.size) hk108
              have dj82 : Dj (H4.size + 1) k108 := Dj.app (Dj.z) ql73 hk108
              have dj83 : Dj kg k108 := Dj.app (Dj.z) ql74 hk108
              have dj84 : Dj kq k108 := Dj.app (Dj.z) ql75 hk108
              have dj85 : Dj (H0.size + 1) k108 := Dj.app (Dj.z) ql76 hk108
              have dj86 : Dj (Hcutr23.size + 1) k108 := Dj.app (Dj.z) ql77 hk108
              have nx87 : Nx 0 H0.size k108 := Nx.tr (Nx.refl 0 _) hk108 hm0.size
              have nx88 : Nx 0 H4_1.size k108 := Nx.tr (Nx.refl 0 _) hk108 hlm1.size
              replace mx := mx.nw hs108
              replace hl := hl.nw hs108
              replace hs1 := hs1.nw hs108
              replace hs2 := hs2.nw hs108
              replace vi := vi.nw hs108
              replace ow := ow.nw hs108
              replace vx := vx.nw hs108
              replace vc := vc.nw hs108
              replace hm0 := hm0.tr hs108
              replace hlm1 := hlm1.trN hs108
              have hz21 := hs108.size
              have hle_oq := oq.le
              obtain ⟨q1, hq1⟩ : ∃ y : Sq, y = didF q q.cu false s108 := ⟨_, rfl⟩
              rw [← hq1] at oq ⊢
              have hw1q : SqW q1 := by rw [hq1]; exact did_w hqw hqw.hc _ _
              refine LR.s (S.var vx (_) (fQ q1) rfl rfl rfl rfl (fQ_one q1) Tryd.sizeOf26 (fQ_len _) (by first | decide | simp [fQ_len]) ((splice_all2 (by first | exact (fQ_len _).symm | exact (fQ_len _).trans (fQ_len _).symm)))) (Wd.u rfl) rfl (fun H25_2 r25_2 => ?_)
              obtain ⟨vx, hs25_2⟩ := r25_2
              replace hs25_2 := hs25_2.md1
              replace mx := mx.upL hs25_2 (DFL.cons df1 DFL.nil)
              replace hl := hl.upL hs25_2 (DFL.cons df2 DFL.nil)
              replace hs1 := hs1.upL hs25_2 (DFL.cons df3 DFL.nil)
              replace hs2 := hs2.upL hs25_2 (DFL.cons df4 DFL.nil)
              replace vi := vi.upL hs25_2 (DL.cons dj10.symm DL.nil)
              replace ow := ow.upL hs25_2 (DL.cons dj16.symm DL.nil)
              replace oq := oq.upL hs25_2 (DL.cons dj85.symm DL.nil)
              replace vc := vc.upL hs25_2 (DL.cons dj70.symm DL.nil)
              replace hm0 := (Mo.trL (ks := []) (hm0.mdn []) hs25_2 (MIL.cons (MI.app MI.z (nx5) (Nat.le_refl _)) MIL.nil)).nil
              replace hlm1 := hlm1.trL hs25_2 (MIL.cons (MI.app (MI.root (by simp)) (nx_hlm1_vx) (Nat.le_refl _)) MIL.nil)
              have hz22 := hs25_2.size
              refine LR.nil ?_
              refine hK33 _ _ ?_
              refine CW.seq (fun K34 hK34 hE34 => ?_)
              refine CW.region ?_
              refine LR.v (Y.move rfl rfl) (Wd.u rfl) rfl rfl ?_
              refine LR.v (Y.addi rfl rfl rfl (by omega)) (Wd.u rfl) rfl rfl ?_
              refine LR.v (Y.move rfl rfl) (Wd.u rfl) rfl rfl ?_
              refine LR.v (Y.len ow.rd rfl Tryd.runUnderlying24 rfl) (Wd.u rfl) rfl rfl ?_
              refine LR.v (Y.lss rfl rfl rfl) (Wd.u rfl) rfl rfl ?_
              refine LR.v (Y.move rfl rfl) (Wd.u rfl) rfl rfl ?_
              refine LR.splitp (d := 114) rfl (fun g114 => ?_) (fun g114 => ?_)
              ·
                refine LR.v (Y.fieldAddr vx.pt rfl Tryd.runUnderlying26 rfl rfl Tryd.sizeOf23 (by decide) rfl) (Wd.g rfl rfl rfl) rfl rfl ?_
                refine LR.v (Y.cast (v2 := idV q1.cu) (Y.loadN ((vx.pt.drop 34).take 32) rfl Tryd.isAgg23 Tryd.sizeOf23 (by simp [fQ_len]) rfl) (congrArg (fun z : List Value => Value.agg z.toArray) ((fQ_cu _).trans (kc_eq hw1q.hc)))) (Wd.g rfl rfl rfl) rfl rfl ?_
                refine LR.v (Y.cast (v2 := idV q.cu) (Y.loadN vc.pt rfl Tryd.isAgg23 Tryd.sizeOf23 (by simp [hqw.hc]) rfl) (rfl)) (Wd.g rfl rfl rfl) rfl rfl ?_
                refine LR.v ((Y.aneq rfl Tryd.eqGuardType23 (fun w => run_equalIn_id 9998 Tryd.underlying23 Tryd.underlying5 Tryd.sizeOf5 Tryd.isAgg5 (hw1q.hc) (hqw.hc) w) rfl rfl).isF ((fun h => h (did_cu hG hqd hqt hq1 (by omega))))) (Wd.g rfl rfl rfl) rfl rfl ?_
                refine LR.v (Y.pick_t rfl rfl rfl) (Wd.u rfl) rfl rfl ?_
                refine LR.nil ?_
                refine hK34 _ _ ?_
                refine CW.cond_f rfl ?_
                refine CW.skip ?_
                refine hK30 _ _ ?_
                refine CW.region ?_
                refine LR.v (Y.move rfl rfl) (Wd.u rfl) rfl rfl ?_
                refine LR.v (Y.addi rfl rfl rfl (by omega)) (Wd.u rfl) rfl rfl ?_
                refine LR.v (Y.assign rfl rfl) (Wd.u rfl) rfl rfl ?_
                refine LR.nil ?_
                refine hK16 _ _ ?_
                refine hK15 _ _ ?_
                refine CW.region ?_
                refine LR.v (Y.move rfl rfl) (Wd.u rfl) rfl rfl ?_
                refine LR.v (Y.addi rfl rfl rfl (by omega)) (Wd.u rfl) rfl rfl ?_
                refine LR.v (Y.assign rfl rfl) (Wd.u rfl) rfl rfl ?_
                refine LR.nil ?_
                have e1 := stB_f (did_st hq1)
                refine QN.sub (hN12 (q1, k108, a + 1, m, i + 1) _ ?_ ?_) ⟨rfl, rfl, rfl, rfl, rfl, (iv (by omega)), (iv (by omega)), (iv (by omega)), trivial⟩
                · exact ⟨vx, oq, (EI.did hal hG hqd hqm hqt hqw.hc hG.cu hq1 (by rfl)), (by omega), (Nx.z (nx88)), dj85, hlm1⟩
                · first | omega | (simp only; omega) | (simp; omega)
              ·
                refine LR.gs rfl rfl rfl rfl rfl rfl ?_
                refine LR.gs rfl rfl rfl rfl rfl rfl ?_
                refine LR.gs rfl rfl rfl rfl rfl rfl ?_
                refine LR.gs rfl rfl rfl rfl rfl rfl ?_
                refine LR.v (Y.pick_f rfl rfl rfl) (Wd.u rfl) rfl rfl ?_
                refine LR.nil ?_
                refine hK34 _ _ ?_
                refine CW.cond_f rfl ?_
                refine CW.skip ?_
                refine hK30 _ _ ?_
                refine CW.region ?_
                refine LR.v (Y.move rfl rfl) (Wd.u rfl) rfl rfl ?_
                refine LR.v (Y.addi rfl rfl rfl (by omega)) (Wd.u rfl) rfl rfl ?_
                refine LR.v (Y.assign rfl rfl) (Wd.u rfl) rfl rfl ?_
                refine LR.nil ?_
                refine hK16 _ _ ?_
                refine hK15 _ _ ?_
                refine CW.region ?_
                refine LR.v (Y.move rfl rfl) (Wd.u rfl) rfl rfl ?_
                refine LR.v (Y.addi rfl rfl rfl (by omega)) (Wd.u rfl) rfl rfl ?_
                refine LR.v (Y.assign rfl rfl) (Wd.u rfl) rfl rfl ?_
                refine LR.nil ?_
                have e1 := stB_f (did_st hq1)
                refine QN.sub (hN12 (q1, k108, a + 1, m, i + 1) _ ?_ ?_) ⟨rfl, rfl, rfl, rfl, rfl, (iv (by omega)), (iv (by omega)), (iv (by omega)), trivial⟩
                · exact ⟨vx, oq, (EI.did hal hG hqd hqm hqt hqw.hc hG.cu hq1 (by rfl)), (by omega), (Nx.z (nx88)), dj85, hlm1⟩
                · first | omega | (simp only; omega) | (simp; omega)
            ·
              refine CW.seq (fun K35 hK35 hE35 => ?_)
              refine CW.region ?_
              refine LR.v (Y.loadN vx.pt rfl Tryd.isAgg26 Tryd.sizeOf26 (fQ_len _) rfl) (Wd.u rfl) rfl rfl ?_
              refine LR.v (Y.cast (v2 := idV cc) (Y.loadN vi.pt rfl Tryd.isAgg23 Tryd.sizeOf23 (by simp [hcc]) rfl) (rfl)) (Wd.u rfl) rfl rfl ?_
              refine LR.v (Y.move rfl rfl) (Wd.u rfl) rfl rfl ?_
              refine LR.v (Y.remi rfl rfl rfl (by omega)) (Wd.u rfl) rfl rfl ?_
              refine LR.v (Y.eql rfl rfl rfl) (Wd.u rfl) rfl rfl ?_
              -- call selvage/seq.Did
              refine LR.call rfl Tryd.call12 rfl (Wd.u rfl) rfl rfl (did_ct q cc (decide ((i : Int) % 2 = 0)) mx_ w0 _ mx (bf_mx.mono hm0.size) oq.rd.any hqw hcc) (fun v125 H125 r125 => ?_)
              have ql89 := vi.lt
              have ql90 := ow.le
              have ql91 := oq.le
              have ql92 := vx.lt
              obtain ⟨s125, k125, rfl, oq, hk125, hs125⟩ := r125
              have df93 := DF.app (DF.z) (bf_mx.mono hm0.size) hk125
              have df94 := DF.app (DF.z) (bf_hl.mono hm0.size) hk125
              have df95 := DF.app (DF.z) (bf_hs1.mono hm0.size) hk125
              have df96 := DF.app (DF.z) (bf_hs2.mono hm0.size) hk125
              have dj97 : Dj (H4.size + 1) k125 := Dj.app (Dj.z) ql89 hk125
              have dj98 : Dj kg k125 := Dj.app (Dj.z) ql90 hk125
              have dj99 : Dj kq k125 := Dj.app (Dj.z) ql91 hk125
              have dj100 : Dj (H0.size + 1) k125 := Dj.app (Dj.z) ql92 hk125
              have nx101 : Nx 0 H0.size k125 := Nx.tr (Nx.refl 0 _) hk125 hm0.size
              have nx102 : Nx 0 H4_1.size k125 := Nx.tr (Nx.refl 0 _) hk125 hlm1.size
              replace mx := mx.nw hs125
              replace hl := hl.nw hs125
              replace hs1 := hs1.nw hs125
              replace hs2 := hs2.nw hs125
              replace vi := vi.nw hs125
              replace ow := ow.nw hs125
              replace vx := vx.nw hs125
              replace hm0 := hm0.tr hs125
              replace hlm1 := hlm1.trN hs125
              have hz23 := hs125.size
              have hle_oq := oq.le
              obtain ⟨q1, hq1⟩ : ∃ y : Sq, y = didF q cc (decide ((i : Int) % 2 = 0)) s125 := ⟨_, rfl⟩
              rw [← hq1] at oq ⊢
              have hw1q : SqW q1 := by rw [hq1]; exact did_w hqw hcc _ _
              refine LR.s (S.var vx (_) (fQ q1) rfl rfl rfl rfl (fQ_one q1) Tryd.sizeOf26 (fQ_len _) (by first | decide | simp [fQ_len]) ((splice_all2 (by first | exact (fQ_len _).symm | exact (fQ_len _).trans (fQ_len _).symm)))) (Wd.u rfl) rfl (fun H28_6 r28_6 => ?_)
              obtain ⟨vx, hs28_6⟩ := r28_6
              replace hs28_6 := hs28_6.md1
              replace mx := mx.upL hs28_6 (DFL.cons df1 DFL.nil)
              replace hl := hl.upL hs28_6 (DFL.cons df2 DFL.nil)
              replace hs1 := hs1.upL hs28_6 (DFL.cons df3 DFL.nil)
              replace hs2 := hs2.upL hs28_6 (DFL.cons df4 DFL.nil)
              replace vi := vi.upL hs28_6 (DL.cons dj10.symm DL.nil)
              replace ow := ow.upL hs28_6 (DL.cons dj16.symm DL.nil)
              replace oq := oq.upL hs28_6 (DL.cons dj100.symm DL.nil)
              replace hm0 := (Mo.trL (ks := []) (hm0.mdn []) hs28_6 (MIL.cons (MI.app MI.z (nx5) (Nat.le_refl _)) MIL.nil)).nil
              replace hlm1 := hlm1.trL hs28_6 (MIL.cons (MI.app (MI.root (by simp)) (nx_hlm1_vx) (Nat.le_refl _)) MIL.nil)
              have hz24 := hs28_6.size
              refine LR.nil ?_
              refine hK35 _ _ ?_
              refine CW.seq (fun K36 hK36 hE36 => ?_)
              refine CW.seq (fun K37 hK37 hE37 => ?_)
              refine CW.region ?_
              refine LR.v (Y.move rfl rfl) (Wd.u rfl) rfl rfl ?_
              refine LR.v (Y.remi rfl rfl rfl (by omega)) (Wd.u rfl) rfl rfl ?_
              refine LR.v (Y.eql rfl rfl rfl) (Wd.u rfl) rfl rfl ?_
              refine LR.nil ?_
              refine hK37 _ _ ?_
              refine CW.condp rfl (fun c128 => ?_) (fun c128 => ?_)
              ·
                refine CW.region ?_
                refine LR.v (Y.move rfl rfl) (Wd.u rfl) rfl rfl ?_
                refine LR.v (Y.addi rfl rfl rfl (by omega)) (Wd.u rfl) rfl rfl ?_
                refine LR.v (Y.assign rfl rfl) (Wd.u rfl) rfl rfl ?_
                refine LR.nil ?_
                refine hK36 _ _ ?_
                refine CW.seq (fun K38 hK38 hE38 => ?_)
                refine CW.region ?_
                refine LR.v (Y.move rfl rfl) (Wd.u rfl) rfl rfl ?_
                refine LR.v (Y.addi rfl rfl rfl (by omega)) (Wd.u rfl) rfl rfl ?_
                refine LR.v (Y.move rfl rfl) (Wd.u rfl) rfl rfl ?_
                refine LR.v (Y.len ow.rd rfl Tryd.runUnderlying24 rfl) (Wd.u rfl) rfl rfl ?_
                refine LR.v (Y.lss rfl rfl rfl) (Wd.u rfl) rfl rfl ?_
                refine LR.v (Y.move rfl rfl) (Wd.u rfl) rfl rfl ?_
                refine LR.splitp (d := 136) rfl (fun g136 => ?_) (fun g136 => ?_)
                ·
                  refine LR.v (Y.fieldAddr vx.pt rfl Tryd.runUnderlying26 rfl rfl Tryd.sizeOf23 (by decide) rfl) (Wd.g rfl rfl rfl) rfl rfl ?_
                  refine LR.v (Y.cast (v2 := idV q1.cu) (Y.loadN ((vx.pt.drop 34).take 32) rfl Tryd.isAgg23 Tryd.sizeOf23 (by simp [fQ_len]) rfl) (congrArg (fun z : List Value => Value.agg z.toArray) ((fQ_cu _).trans (kc_eq hw1q.hc)))) (Wd.g rfl rfl rfl) rfl rfl ?_
                  refine LR.v (Y.cast (v2 := idV cc) (Y.loadN vi.pt rfl Tryd.isAgg23 Tryd.sizeOf23 (by simp [hcc]) rfl) (rfl)) (Wd.g rfl rfl rfl) rfl rfl ?_
                  refine LR.v ((Y.aneq rfl Tryd.eqGuardType23 (fun w => run_equalIn_id 9998 Tryd.underlying23 Tryd.underlying5 Tryd.sizeOf5 Tryd.isAgg5 (hw1q.hc) (hcc) w) rfl rfl).isF ((fun h => h (did_cu hG hqd hqt hq1 (by omega))))) (Wd.g rfl rfl rfl) rfl rfl ?_
                  refine LR.v (Y.move rfl rfl) (Wd.g rfl rfl rfl) rfl rfl ?_
                  refine LR.v (Y.fieldAddr vx.pt rfl Tryd.runUnderlying26 rfl rfl Tryd.sizeOf4 (by decide) rfl) (Wd.g rfl rfl rfl) rfl rfl ?_
                  refine LR.v (Y.cast (v2 := .bool false) (Y.load1 (vx.pt.q67.drop 2) rfl Tryd.isAgg4 rfl) (congrArg Value.bool (did_st hq1))) (Wd.g rfl rfl rfl) rfl rfl ?_
                  refine LR.v (Y.pick_f rfl rfl rfl) (Wd.g rfl rfl rfl) rfl rfl ?_
                  refine LR.v (Y.pick_t rfl rfl rfl) (Wd.u rfl) rfl rfl ?_
                  refine LR.nil ?_
                  refine hK38 _ _ ?_
                  refine CW.cond_f rfl ?_
                  refine CW.skip ?_
                  refine hK30 _ _ ?_
                  refine CW.region ?_
                  refine LR.v (Y.move rfl rfl) (Wd.u rfl) rfl rfl ?_
                  refine LR.v (Y.addi rfl rfl rfl (by omega)) (Wd.u rfl) rfl rfl ?_
                  refine LR.v (Y.assign rfl rfl) (Wd.u rfl) rfl rfl ?_
                  refine LR.nil ?_
                  refine hK16 _ _ ?_
                  refine hK15 _ _ ?_
                  refine CW.region ?_
                  refine LR.v (Y.move rfl rfl) (Wd.u rfl) rfl rfl ?_
                  refine LR.v (Y.addi rfl rfl rfl (by omega)) (Wd.u rfl) rfl rfl ?_
                  refine LR.v (Y.assign rfl rfl) (Wd.u rfl) rfl rfl ?_
                  refine LR.nil ?_
                  have e1 := stB_f (did_st hq1)
                  refine QN.sub (hN12 (q1, k125, a + 1, m + 1, i + 1) _ ?_ ?_) ⟨rfl, rfl, rfl, rfl, rfl, (iv (by omega)), (iv (by omega)), (iv (by omega)), trivial⟩
                  · exact ⟨vx, oq, (EI.did hal hG hqd hqm hqt hcc hcz hq1 (by simp; omega)), (by omega), (Nx.z (nx102)), dj100, hlm1⟩
                  · first | omega | (simp only; omega) | (simp; omega)
                ·
                  refine LR.gs rfl rfl rfl rfl rfl rfl ?_
                  refine LR.gs rfl rfl rfl rfl rfl rfl ?_
                  refine LR.gs rfl rfl rfl rfl rfl rfl ?_
                  refine LR.gs rfl rfl rfl rfl rfl rfl ?_
                  refine LR.gs rfl rfl rfl rfl rfl rfl ?_
                  refine LR.gsu rfl rfl rfl rfl rfl ?_
                  refine LR.gsu rfl rfl rfl rfl rfl ?_
                  refine LR.gs rfl rfl rfl rfl rfl rfl ?_
                  refine LR.v (Y.pick_f rfl rfl rfl) (Wd.u rfl) rfl rfl ?_
                  refine LR.nil ?_
                  refine hK38 _ _ ?_
                  refine CW.cond_f rfl ?_
                  refine CW.skip ?_
                  refine hK30 _ _ ?_
                  refine CW.region ?_
                  refine LR.v (Y.move rfl rfl) (Wd.u rfl) rfl rfl ?_
                  refine LR.v (Y.addi rfl rfl rfl (by omega)) (Wd.u rfl) rfl rfl ?_
                  refine LR.v (Y.assign rfl rfl) (Wd.u rfl) rfl rfl ?_
                  refine LR.nil ?_
                  refine hK16 _ _ ?_
                  refine hK15 _ _ ?_
                  refine CW.region ?_
                  refine LR.v (Y.move rfl rfl) (Wd.u rfl) rfl rfl ?_
                  refine LR.v (Y.addi rfl rfl rfl (by omega)) (Wd.u rfl) rfl rfl ?_
                  refine LR.v (Y.assign rfl rfl) (Wd.u rfl) rfl rfl ?_
                  refine LR.nil ?_
                  have e1 := stB_f (did_st hq1)
                  refine QN.sub (hN12 (q1, k125, a + 1, m + 1, i + 1) _ ?_ ?_) ⟨rfl, rfl, rfl, rfl, rfl, (iv (by omega)), (iv (by omega)), (iv (by omega)), trivial⟩
                  · exact ⟨vx, oq, (EI.did hal hG hqd hqm hqt hcc hcz hq1 (by simp; omega)), (by omega), (Nx.z (nx102)), dj100, hlm1⟩
                  · first | omega | (simp only; omega) | (simp; omega)
              ·
                refine CW.skip ?_
                refine hK36 _ _ ?_
                refine CW.seq (fun K39 hK39 hE39 => ?_)
                refine CW.region ?_
                refine LR.v (Y.move rfl rfl) (Wd.u rfl) rfl rfl ?_
                refine LR.v (Y.addi rfl rfl rfl (by omega)) (Wd.u rfl) rfl rfl ?_
                refine LR.v (Y.move rfl rfl) (Wd.u rfl) rfl rfl ?_
                refine LR.v (Y.len ow.rd rfl Tryd.runUnderlying24 rfl) (Wd.u rfl) rfl rfl ?_
                refine LR.v (Y.lss rfl rfl rfl) (Wd.u rfl) rfl rfl ?_
                refine LR.v (Y.move rfl rfl) (Wd.u rfl) rfl rfl ?_
                refine LR.splitp (d := 136) rfl (fun g136 => ?_) (fun g136 => ?_)
                ·
                  refine LR.v (Y.fieldAddr vx.pt rfl Tryd.runUnderlying26 rfl rfl Tryd.sizeOf23 (by decide) rfl) (Wd.g rfl rfl rfl) rfl rfl ?_
                  refine LR.v (Y.cast (v2 := idV q1.cu) (Y.loadN ((vx.pt.drop 34).take 32) rfl Tryd.isAgg23 Tryd.sizeOf23 (by simp [fQ_len]) rfl) (congrArg (fun z : List Value => Value.agg z.toArray) ((fQ_cu _).trans (kc_eq hw1q.hc)))) (Wd.g rfl rfl rfl) rfl rfl ?_
                  refine LR.v (Y.cast (v2 := idV cc) (Y.loadN vi.pt rfl Tryd.isAgg23 Tryd.sizeOf23 (by simp [hcc]) rfl) (rfl)) (Wd.g rfl rfl rfl) rfl rfl ?_
                  refine LR.v ((Y.aneq rfl Tryd.eqGuardType23 (fun w => run_equalIn_id 9998 Tryd.underlying23 Tryd.underlying5 Tryd.sizeOf5 Tryd.isAgg5 (hw1q.hc) (hcc) w) rfl rfl).isF ((fun h => h (did_cu hG hqd hqt hq1 (by omega))))) (Wd.g rfl rfl rfl) rfl rfl ?_
                  refine LR.v (Y.move rfl rfl) (Wd.g rfl rfl rfl) rfl rfl ?_
                  refine LR.v (Y.fieldAddr vx.pt rfl Tryd.runUnderlying26 rfl rfl Tryd.sizeOf4 (by decide) rfl) (Wd.g rfl rfl rfl) rfl rfl ?_
                  refine LR.v (Y.cast (v2 := .bool false) (Y.load1 (vx.pt.q67.drop 2) rfl Tryd.isAgg4 rfl) (congrArg Value.bool (did_st hq1))) (Wd.g rfl rfl rfl) rfl rfl ?_
                  refine LR.v (Y.pick_f rfl rfl rfl) (Wd.g rfl rfl rfl) rfl rfl ?_
                  refine LR.v (Y.pick_t rfl rfl rfl) (Wd.u rfl) rfl rfl ?_
                  refine LR.nil ?_
                  refine hK39 _ _ ?_
                  refine CW.cond_f rfl ?_
                  refine CW.skip ?_
                  refine hK30 _ _ ?_
                  refine CW.region ?_
                  refine LR.v (Y.move rfl rfl) (Wd.u rfl) rfl rfl ?_
                  refine LR.v (Y.addi rfl rfl rfl (by omega)) (Wd.u rfl) rfl rfl ?_
                  refine LR.v (Y.assign rfl rfl) (Wd.u rfl) rfl rfl ?_
                  refine LR.nil ?_
                  refine hK16 _ _ ?_
                  refine hK15 _ _ ?_
                  refine CW.region ?_
                  refine LR.v (Y.move rfl rfl) (Wd.u rfl) rfl rfl ?_
                  refine LR.v (Y.addi rfl rfl rfl (by omega)) (Wd.u rfl) rfl rfl ?_
                  refine LR.v (Y.assign rfl rfl) (Wd.u rfl) rfl rfl ?_
                  refine LR.nil ?_
                  have e1 := stB_f (did_st hq1)
                  refine QN.sub (hN12 (q1, k125, a + 1, m, i + 1) _ ?_ ?_) ⟨rfl, rfl, rfl, rfl, rfl, (iv (by omega)), (iv (by omega)), (iv (by omega)), trivial⟩
                  · exact ⟨vx, oq, (EI.did hal hG hqd hqm hqt hcc hcz hq1 (by simp; omega)), (by omega), (Nx.z (nx102)), dj100, hlm1⟩
                  · first | omega | (simp only; omega) | (simp; omega)
                ·
                  refine LR.gs rfl rfl rfl rfl rfl rfl ?_
                  refine LR.gs rfl rfl rfl rfl rfl rfl ?_
                  refine LR.gs rfl rfl rfl rfl rfl rfl ?_
                  refine LR.gs rfl rfl rfl rfl rfl rfl ?_
                  refine LR.gs rfl rfl rfl rfl rfl rfl ?_
                  refine LR.gsu rfl rfl rfl rfl rfl ?_
                  refine LR.gsu rfl rfl rfl rfl rfl ?_
                  refine LR.gs rfl rfl rfl rfl rfl rfl ?_
                  refine LR.v (Y.pick_f rfl rfl rfl) (Wd.u rfl) rfl rfl ?_
                  refine LR.nil ?_
                  refine hK39 _ _ ?_
                  refine CW.cond_f rfl ?_
                  refine CW.skip ?_
                  refine hK30 _ _ ?_
                  refine CW.region ?_
                  refine LR.v (Y.move rfl rfl) (Wd.u rfl) rfl rfl ?_
                  refine LR.v (Y.addi rfl rfl rfl (by omega)) (Wd.u rfl) rfl rfl ?_
                  refine LR.v (Y.assign rfl rfl) (Wd.u rfl) rfl rfl ?_
                  refine LR.nil ?_
                  refine hK16 _ _ ?_
                  refine hK15 _ _ ?_
                  refine CW.region ?_
                  refine LR.v (Y.move rfl rfl) (Wd.u rfl) rfl rfl ?_
                  refine LR.v (Y.addi rfl rfl rfl (by omega)) (Wd.u rfl) rfl rfl ?_
                  refine LR.v (Y.assign rfl rfl) (Wd.u rfl) rfl rfl ?_
                  refine LR.nil ?_
                  have e1 := stB_f (did_st hq1)
                  refine QN.sub (hN12 (q1, k125, a + 1, m, i + 1) _ ?_ ?_) ⟨rfl, rfl, rfl, rfl, rfl, (iv (by omega)), (iv (by omega)), (iv (by omega)), trivial⟩
                  · exact ⟨vx, oq, (EI.did hal hG hqd hqm hqt hcc hcz hq1 (by simp; omega)), (by omega), (Nx.z (nx102)), dj100, hlm1⟩
                  · first | omega | (simp only; omega) | (simp; omega)
      ·
        refine CW.skip ?_
        refine hK21 _ _ ?_
        refine CW.seq (fun K40 hK40 hE40 => ?_)
        refine CW.seq (fun K41 hK41 hE41 => ?_)
        refine CW.region ?_
        obtain ⟨w1, hw1, vw⟩ : ∃ t : Td, t = (nextF q).1 ∧ Var 29 _ _ (fT t) := ⟨_, by first | (exact nextg1 h0 hqd hqt hal (by assumption) (by omega)) | (exact nextg2 h0 hqd hqt hal (by omega)), vw⟩
        refine LR.v (Y.move rfl rfl) (Wd.u rfl) rfl rfl ?_
        refine LR.v (Y.not rfl rfl) (Wd.u rfl) rfl rfl ?_
        refine LR.v (Y.move rfl rfl) (Wd.u rfl) rfl rfl ?_
        refine LR.v (Y.loadN vt.pt rfl Tryd.isAgg29 Tryd.sizeOf29 (fT_len _) rfl) (Wd.g rfl rfl rfl) rfl rfl ?_
        refine LR.v (Y.loadN vw.pt rfl Tryd.isAgg29 Tryd.sizeOf29 (fT_len _) rfl) (Wd.g rfl rfl rfl) rfl rfl ?_
        refine LR.v ((Y.aneq rfl Tryd.eqGuardType29 (fun w => eqTd' (next_w hqw) (by rw [hw1]; exact next_w hqw) w) rfl rfl).isF ((fun h => h hw1.symm))) (Wd.g rfl rfl rfl) rfl rfl ?_
        refine LR.v (Y.pick_f rfl rfl rfl) (Wd.u rfl) rfl rfl ?_
        refine LR.nil ?_
        refine hK41 _ _ ?_
        refine CW.cond_f rfl ?_
        refine CW.skip ?_
        refine hK40 _ _ ?_
        refine CW.cut (fun (_ : Unit) => [(1, v1), (2, v2), (4, .pointer (some ⟨H0.size, 0, none⟩)), (7, .pointer (some ⟨H4.size, 0, none⟩)), (9, g.tv.v), (10, .int .i64 (a : Int)), (11, .int .i64 m), (12, .int .i64 (i : Int))])
          (fun (_ : Unit) (H : Heap) => (True) ∧ Nw H14_5 H) (fun K42 hK42 hE42 => ?_) ?_
        ·
          have hcm42 : Nw H14_5 H14_5 := Mo.refl _ _
          refine CW.seq (fun K43 hK43 hE43 => ?_)
          refine CW.region ?_
          refine LR.v (Y.move rfl rfl) (Wd.u rfl) rfl rfl ?_
          refine LR.v (Y.move rfl rfl) (Wd.u rfl) rfl rfl ?_
          refine LR.v (Y.len hs1 rfl Tryd.runUnderlying39 rfl) (Wd.u rfl) rfl rfl ?_
          refine LR.v (Y.lss rfl rfl rfl) (Wd.u rfl) rfl rfl ?_
          refine LR.v (Y.move rfl rfl) (Wd.u rfl) rfl rfl ?_
          refine LR.splitp (d := 79) rfl (fun g79 => ?_) (fun g79 => ?_)
          ·
            refine LR.v (Y.move rfl rfl) (Wd.g rfl rfl rfl) rfl rfl ?_
            refine LR.v (Y.move rfl rfl) (Wd.g rfl rfl rfl) rfl rfl ?_
            refine LR.e (g := fun ad => .pointer (some ad)) (Y.indexAddrF hs1 (i) rfl Tryd.runUnderlying39 Tryd.sizeOf4 rfl rfl (by first | rfl | omega) (by first | omega | (simp; omega) | (simp; done))) (Wd.g rfl rfl rfl) rfl rfl (fun ad82 pt82 => ?_)
            have bf_pt82 := bf_hs1
            refine LR.v (Y.load1 pt82.pt rfl Tryd.isAgg4 rfl) (Wd.g rfl rfl rfl) rfl rfl ?_
            refine LR.v (Y.pick_t rfl rfl rfl) (Wd.u rfl) rfl rfl ?_
            refine LR.v (Y.move rfl rfl) (Wd.u rfl) rfl rfl ?_
            refine LR.split (d := 85) rfl (fun g85 => ?_) (fun g85 => ?_)
            ·
              refine LR.v (Y.fieldAddr vx.pt rfl Tryd.runUnderlying26 rfl rfl Tryd.sizeOf4 (by decide) rfl) (Wd.g rfl rfl rfl) rfl rfl ?_
              refine LR.v (Y.load1 (vx.pt.q67.drop 2) rfl Tryd.isAgg4 rfl) (Wd.g rfl rfl rfl) rfl rfl ?_
              refine LR.v (Y.not rfl rfl) (Wd.g rfl rfl rfl) rfl rfl ?_
              refine LR.v (Y.pick_t rfl rfl rfl) (Wd.u rfl) rfl rfl ?_
              refine LR.nil ?_
              refine hK43 _ _ ?_
              refine CW.cond rfl (fun c89 => ?_) (fun c89 => ?_)
              ·
                have hst : q.st = false := by simpa using c89
                refine CW.seq (fun K44 hK44 hE44 => ?_)
                refine CW.region ?_
                refine LR.v (Y.loadN vx.pt rfl Tryd.isAgg26 Tryd.sizeOf26 (fQ_len _) rfl) (Wd.u rfl) rfl rfl ?_
                -- call selvage/seq.Stop
                refine LR.call rfl Tryd.call14 rfl (Wd.u rfl) rfl rfl (stop_ct q mx_ w0 _ mx (bf_mx.mono hm0.size) oq.rd.any hqw) (fun v91 H91 r91 => ?_)
                have ql103 := vi.lt
                have ql104 := ow.le
                have ql105 := oq.le
                have ql106 := vx.lt
                obtain ⟨s91, k91, rfl, oq, hk91, hs91⟩ := r91
                have df107 := DF.app (DF.z) (bf_mx.mono hm0.size) hk91
                have df108 := DF.app (DF.z) (bf_hl.mono hm0.size) hk91
                have df109 := DF.app (DF.z) (bf_hs1.mono hm0.size) hk91
                have df110 := DF.app (DF.z) (bf_hs2.mono hm0.size) hk91
                have dj111 : Dj (H4.size + 1) k91 := Dj.app (Dj.z) ql103 hk91
                have dj112 : Dj kg k91 := Dj.app (Dj.z) ql104 hk91
                have dj113 : Dj kq k91 := Dj.app (Dj.z) ql105 hk91
                have dj114 : Dj (H0.size + 1) k91 := Dj.app (Dj.z) ql106 hk91
                have nx115 : Nx 0 H0.size k91 := Nx.tr (Nx.refl 0 _) hk91 hm0.size
                have nx116 : Nx 0 H4_1.size k91 := Nx.tr (Nx.refl 0 _) hk91 hlm1.size
                have nx117 : Nx 0 H14_5.size k91 := Nx.tr (Nx.refl 0 _) hk91 hcm42.size
                replace mx := mx.nw hs91
                replace hl := hl.nw hs91
                replace hs1 := hs1.nw hs91
                replace hs2 := hs2.nw hs91
                replace vi := vi.nw hs91
                replace ow := ow.nw hs91
                replace vx := vx.nw hs91
                replace hm0 := hm0.tr hs91
                replace hlm1 := hlm1.trN hs91
                replace hcm42 := hcm42.tr hs91
                have hz25 := hs91.size
                have hle_oq := oq.le
                rw [stop_ok h0] at oq ⊢
                refine LR.s (S.var vx (_) (fQ { q with tv := s91, st := true }) rfl rfl rfl rfl (fQ_one { q with tv := s91, st := true }) Tryd.sizeOf26 (fQ_len _) (by first | decide | simp [fQ_len]) ((splice_all2 (by first | exact (fQ_len _).symm | exact (fQ_len _).trans (fQ_len _).symm)))) (Wd.u rfl) rfl (fun H20_2 r20_2 => ?_)
                obtain ⟨vx, hs20_2⟩ := r20_2
                replace hs20_2 := hs20_2.md1
                replace mx := mx.upL hs20_2 (DFL.cons df1 DFL.nil)
                replace hl := hl.upL hs20_2 (DFL.cons df2 DFL.nil)
                replace hs1 := hs1.upL hs20_2 (DFL.cons df3 DFL.nil)
                replace hs2 := hs2.upL hs20_2 (DFL.cons df4 DFL.nil)
                replace vi := vi.upL hs20_2 (DL.cons dj10.symm DL.nil)
                replace ow := ow.upL hs20_2 (DL.cons dj16.symm DL.nil)
                replace oq := oq.upL hs20_2 (DL.cons dj114.symm DL.nil)
                replace hm0 := (Mo.trL (ks := []) (hm0.mdn []) hs20_2 (MIL.cons (MI.app MI.z (nx5) (Nat.le_refl _)) MIL.nil)).nil
                replace hlm1 := hlm1.trL hs20_2 (MIL.cons (MI.app (MI.root (by simp)) (nx_hlm1_vx) (Nat.le_refl _)) MIL.nil)
                -- LOST hcm42
                have hz26 := hs20_2.size
                refine LR.nil ?_
                refine hK44 _ _ ?_
                refine CW.seq (fun K45 hK45 hE45 => ?_)
                refine CW.seq (fun K46 hK46 hE46 => ?_)
                refine CW.region ?_
                refine LR.v (Y.fieldAddr vx.pt rfl Tryd.runUnderlying26 rfl rfl Tryd.sizeOf4 (by decide) rfl) (Wd.u rfl) rfl rfl ?_
                refine LR.v (Y.cast (v2 := .bool true) (Y.load1 (vx.pt.q67.drop 2) rfl Tryd.isAgg4 rfl) (rfl)) (Wd.u rfl) rfl rfl ?_
                refine LR.v (Y.not rfl rfl) (Wd.u rfl) rfl rfl ?_
                refine LR.nil ?_
                refine hK46 _ _ ?_
                refine CW.cond_f rfl ?_
                refine CW.skip ?_
                refine hK45 _ _ ?_
                refine CW.exit (hE42 (.exit 1) nofun _ _ (hX16 _ _ ?_))
                refine hK15 _ _ ?_
                refine CW.region ?_
                refine LR.v (Y.move rfl rfl) (Wd.u rfl) rfl rfl ?_
                refine LR.v (Y.addi rfl rfl rfl (by omega)) (Wd.u rfl) rfl rfl ?_
                refine LR.v (Y.assign rfl rfl) (Wd.u rfl) rfl rfl ?_
                refine LR.nil ?_
                have e1 := stB_f hst
                have e2 : stB ({ q with tv := s91, st := true } : Sq) = 1 := rfl
                refine QN.sub (hN12 ({ q with tv := s91, st := true }, k91, a, m, i + 1) _ ?_ ?_) ⟨rfl, rfl, rfl, rfl, rfl, (iv (by omega)), (iv (by omega)), (iv (by omega)), trivial⟩
                · exact ⟨vx, oq, (.inl ⟨hal, good_stop hG s91, hqd, hqm, hqt⟩), (by omega), (Nx.z (nx116)), dj114, hlm1⟩
                · first | omega | (simp only; omega) | (simp; omega)
              ·
                refine CW.skip ?_
                refine QN.sub (hK42 () _ ?_) ⟨rfl, rfl, rfl, rfl, rfl, (iv (by omega)), (iv (by omega)), (iv (by omega)), trivial⟩
                exact ⟨trivial, hcm42⟩
            ·
              refine LR.gs rfl rfl rfl rfl rfl rfl ?_
              refine LR.gs rfl rfl rfl rfl rfl rfl ?_
              refine LR.gs rfl rfl rfl rfl rfl rfl ?_
              refine LR.v (Y.pick_f rfl rfl rfl) (Wd.u rfl) rfl rfl ?_
              refine LR.nil ?_
              refine hK43 _ _ ?_
              refine CW.cond_f rfl ?_
              refine CW.skip ?_
              refine QN.sub (hK42 () _ ?_) ⟨rfl, rfl, rfl, rfl, rfl, (iv (by omega)), (iv (by omega)), (iv (by omega)), trivial⟩
              exact ⟨trivial, hcm42⟩
          ·
            refine LR.gs rfl rfl rfl rfl rfl rfl ?_
            refine LR.gs rfl rfl rfl rfl rfl rfl ?_
            refine LR.gs rfl rfl rfl rfl rfl rfl ?_
            refine LR.gs rfl rfl rfl rfl rfl rfl ?_
            refine LR.v (Y.pick_f rfl rfl rfl) (Wd.u rfl) rfl rfl ?_
            refine LR.v (Y.move rfl rfl) (Wd.u rfl) rfl rfl ?_
            refine LR.gs rfl rfl rfl rfl rfl rfl ?_
            refine LR.gs rfl rfl rfl rfl rfl rfl ?_
            refine LR.gs rfl rfl rfl rfl rfl rfl ?_
            refine LR.v (Y.pick_f rfl rfl rfl) (Wd.u rfl) rfl rfl ?_
            refine LR.nil ?_
            refine hK43 _ _ ?_
            refine CW.cond_f rfl ?_
            refine CW.skip ?_
            refine QN.sub (hK42 () _ ?_) ⟨rfl, rfl, rfl, rfl, rfl, (iv (by omega)), (iv (by omega)), (iv (by omega)), trivial⟩
            exact ⟨trivial, hcm42⟩
        ·
          intro _ Hcutc89 hIcutc89
          obtain ⟨hT, hlmcutc89⟩ := hIcutc89
          replace mx := mx.nw hlmcutc89
          replace hl := hl.nw hlmcutc89
          replace hs1 := hs1.nw hlmcutc89
          replace hs2 := hs2.nw hlmcutc89
          replace vi := vi.nw hlmcutc89
          replace ow := ow.nw hlmcutc89
          replace oq := oq.nw hlmcutc89
          replace vx := vx.nw hlmcutc89
          replace hm0 := hm0.tr hlmcutc89
          replace hlm1 := hlm1.trN hlmcutc89
          have hz27 := hlmcutc89.size
          refine CW.seq (fun K47 hK47 hE47 => ?_)
          refine CW.cut (fun (sk : (Bool)) => [(1, v1), (2, v2), (4, .pointer (some ⟨H0.size, 0, none⟩)), (7, .pointer (some ⟨H4.size, 0, none⟩)), (9, g.tv.v), (10, .int .i64 (a : Int)), (11, .int .i64 m), (12, .int .i64 (i : Int)), (104, .bool sk)])
            (fun (sk : (Bool)) (H : Heap) => (True) ∧ Nw Hcutc89 H) (fun K48 hK48 hE48 => ?_) ?_
          ·
            have hcm48 : Nw Hcutc89 Hcutc89 := Mo.refl _ _
            refine CW.region ?_
            refine LR.v (Y.move rfl rfl) (Wd.u rfl) rfl rfl ?_
            refine LR.v (Y.move rfl rfl) (Wd.u rfl) rfl rfl ?_
            refine LR.v (Y.len hs2 rfl Tryd.runUnderlying39 rfl) (Wd.u rfl) rfl rfl ?_
            refine LR.v (Y.lss rfl rfl rfl) (Wd.u rfl) rfl rfl ?_
            refine LR.v (Y.move rfl rfl) (Wd.u rfl) rfl rfl ?_
            refine LR.splitp (d := 99) rfl (fun g99 => ?_) (fun g99 => ?_)
            ·
              refine LR.v (Y.move rfl rfl) (Wd.g rfl rfl rfl) rfl rfl ?_
              refine LR.v (Y.move rfl rfl) (Wd.g rfl rfl rfl) rfl rfl ?_
              refine LR.e (g := fun ad => .pointer (some ad)) (Y.indexAddrF hs2 (i) rfl Tryd.runUnderlying39 Tryd.sizeOf4 rfl rfl (by first | rfl | omega) (by first | omega | (simp; omega) | (simp; done))) (Wd.g rfl rfl rfl) rfl rfl (fun ad102 pt102 => ?_)
              have bf_pt102 := bf_hs2
              refine LR.v (Y.load1 pt102.pt rfl Tryd.isAgg4 rfl) (Wd.g rfl rfl rfl) rfl rfl ?_
              refine LR.v (Y.pick_t rfl rfl rfl) (Wd.u rfl) rfl rfl ?_
              refine LR.nil ?_
              refine QN.sub (hK48 (l2[i]) _ ?_) ⟨rfl, rfl, rfl, rfl, rfl, (iv (by omega)), (iv (by omega)), (iv (by omega)), rfl, trivial⟩
              exact ⟨trivial, hcm48⟩
            ·
              refine LR.gs rfl rfl rfl rfl rfl rfl ?_
              refine LR.gs rfl rfl rfl rfl rfl rfl ?_
              refine LR.gs rfl rfl rfl rfl rfl rfl ?_
              refine LR.gs rfl rfl rfl rfl rfl rfl ?_
              refine LR.v (Y.pick_f rfl rfl rfl) (Wd.u rfl) rfl rfl ?_
              refine LR.nil ?_
              refine QN.sub (hK48 false _ ?_) ⟨rfl, rfl, rfl, rfl, rfl, (iv (by omega)), (iv (by omega)), (iv (by omega)), rfl, trivial⟩
              exact ⟨trivial, hcm48⟩
          ·
            intro sk Hcutr23 hIcutr23
            obtain ⟨hT2, hlmcutr23⟩ := hIcutr23
            replace mx := mx.nw hlmcutr23
            replace hl := hl.nw hlmcutr23
            replace hs1 := hs1.nw hlmcutr23
            replace hs2 := hs2.nw hlmcutr23
            replace vi := vi.nw hlmcutr23
            replace ow := ow.nw hlmcutr23
            replace oq := oq.nw hlmcutr23
            replace vx := vx.nw hlmcutr23
            replace hm0 := hm0.tr hlmcutr23
            replace hlm1 := hlm1.trN hlmcutr23
            have hz28 := hlmcutr23.size
            refine CW.cond rfl (fun c104 => ?_) (fun c104 => ?_)
            ·
              refine CW.seq (fun K49 hK49 hE49 => ?_)
              refine CW.region ?_
              refine LR.v (Y.fieldAddr vx.pt rfl Tryd.runUnderlying26 rfl rfl Tryd.sizeOf23 (by decide) rfl) (Wd.u rfl) rfl rfl ?_
              refine LR.v (Y.cast (v2 := idV q.cu) (Y.loadN ((vx.pt.drop 34).take 32) rfl Tryd.isAgg23 Tryd.sizeOf23 (by simp [fQ_len]) rfl) (congrArg (fun z : List Value => Value.agg z.toArray) ((fQ_cu _).trans (kc_eq hqw.hc)))) (Wd.u rfl) rfl rfl ?_
              refine LR.z (Z.allocv rfl Tryd.zeroValue23) (Wd.u rfl) rfl rfl (fun v16 H16 r16 => ?_)
              obtain ⟨rfl, vc, hs16, ob16, hH16⟩ := r16
              have hzs16 : H16.size = Hcutr23.size + 1 := by rw [hH16]; simp
              have df118 := (DF.new (bf_mx.mono hm0.size) : DF _ (Hcutr23.size + 1))
              have df119 := (DF.new (bf_hl.mono hm0.size) : DF _ (Hcutr23.size + 1))
              have df120 := (DF.new (bf_hs1.mono hm0.size) : DF _ (Hcutr23.size + 1))
              have df121 := (DF.new (bf_hs2.mono hm0.size) : DF _ (Hcutr23.size + 1))
              have dj122 : Dj (H4.size + 1) (Hcutr23.size + 1) := Dj.new vi.lt
              have dj123 : Dj kg (Hcutr23.size + 1) := Dj.new ow.le
              have dj124 : Dj kq (Hcutr23.size + 1) := Dj.new oq.le
              have dj125 : Dj (H0.size + 1) (Hcutr23.size + 1) := Dj.new vx.lt
              have nx126 : Nx 0 H0.size (Hcutr23.size + 1) := Nx.new hm0.size
              have nx127 : Nx 0 H4_1.size (Hcutr23.size + 1) := Nx.new hlm1.size
              replace mx := mx.nw hs16
              replace hl := hl.nw hs16
              replace hs1 := hs1.nw hs16
              replace hs2 := hs2.nw hs16
              replace vi := vi.nw hs16
              replace ow := ow.nw hs16
              replace oq := oq.nw hs16
              replace vx := vx.nw hs16
              replace hm0 := hm0.tr hs16
              replace hlm1 := hlm1.trN hs16
              have hz29 := hs16.size
              refine LR.s (S.var vc (q.cu.map V8) (q.cu.map V8) rfl rfl rfl rfl (by rw [← kc_eq hqw.hc]; exact kc_one _) Tryd.sizeOf23 (by simp [hqw.hc]) (by decide) ((splice_all2 (by rw [List.length_map, hqw.hc]; rfl)))) (Wd.u rfl) rfl (fun H24_3 r24_3 => ?_)
              obtain ⟨vc, hs24_3⟩ := r24_3
              replace hs24_3 := hs24_3.md1
              replace mx := mx.upL hs24_3 (DFL.cons df118 DFL.nil)
              replace hl := hl.upL hs24_3 (DFL.cons df119 DFL.nil)
              replace hs1 := hs1.upL hs24_3 (DFL.cons df120 DFL.nil)
              replace hs2 := hs2.upL hs24_3 (DFL.cons df121 DFL.nil)
              replace vi := vi.upL hs24_3 (DL.cons dj122 DL.nil)
              replace ow := ow.upL hs24_3 (DL.cons dj123 DL.nil)
              replace oq := oq.upL hs24_3 (DL.cons dj124 DL.nil)
              replace vx := vx.upL hs24_3 (DL.cons dj125 DL.nil)
              replace hm0 := (Mo.trL (ks := []) (hm0.mdn []) hs24_3 (MIL.cons (MI.app MI.z (nx126) (Nat.le_refl _)) MIL.nil)).nil
              replace hlm1 := hlm1.trL hs24_3 (MIL.cons (MI.app MI.z (nx127) (Nat.le_refl _)) MIL.nil)
              have hz30 := hs24_3.size
              refine LR.nil ?_
              refine hK49 _ _ ?_
              refine CW.seq (fun K50 hK50 hE50 => ?_)
              refine CW.region ?_
              refine LR.v (Y.loadN vx.pt rfl Tryd.isAgg26 Tryd.sizeOf26 (fQ_len _) rfl) (Wd.u rfl) rfl rfl ?_
              -- call selvage/seq.Skip
              refine LR.call rfl Tryd.call16 rfl (Wd.u rfl) rfl rfl (skip_ct q mx_ w0 _ mx (bf_mx.mono hm0.size) oq.rd.any hqw) (fun v108 H108 r108 => ?_)
              have ql128 := vi.lt
              have ql129 := ow.le
              have ql130 := oq.le
              have ql131 := vx.lt
              have ql132 := vc.lt
              obtain ⟨s108, k108, rfl, oq, hk108, hs108⟩ := r108
              have df133 := DF.app (DF.z) (bf_mx.mono hm0.size) hk108
              have df134 := DF.app (DF.z) (bf_hl.mono hm0.size) hk108
              have df135 := DF.app (DF.z) (bf_hs1.mono hm0.size) hk108
              have df136 := DF.app (DF.z) (bf_hs2.mono hm0.size) hk108
              have dj137 : Dj (H4.size + 1) k108 := Dj.app (Dj.z) ql128 hk108
              have dj138 : Dj kg k108 := Dj.app (Dj.z) ql129 hk108
              have dj139 : Dj kq k108 := Dj.app (Dj.z) ql130 hk108
              have dj140 : Dj (H0.size + 1) k108 := Dj.app (Dj.z) ql131 hk108
              have dj141 : Dj (Hcutr23.size + 1) k108 := Dj.app (Dj.z) ql132 hk108
              have nx142 : Nx 0 H0.size k108 := Nx.tr (Nx.refl 0 _) hk108 hm0.size
              have nx143 : Nx 0 H4_1.size k108 := Nx.tr (Nx.refl 0 _) hk108 hlm1.size
              replace mx := mx.nw hs108
              replace hl := hl.nw hs108
              replace hs1 := hs1.nw hs108
              replace hs2 := hs2.nw hs108
              replace vi := vi.nw hs108
              replace ow := ow.nw hs108
              replace vx := vx.nw hs108
              replace vc := vc.nw hs108
              replace hm0 := hm0.tr hs108
              replace hlm1 := hlm1.trN hs108
              have hz31 := hs108.size
              have hle_oq := oq.le
              obtain ⟨q1, hq1⟩ : ∃ y : Sq, y = didF q q.cu false s108 := ⟨_, rfl⟩
              rw [← hq1] at oq ⊢
              have hw1q : SqW q1 := by rw [hq1]; exact did_w hqw hqw.hc _ _
              refine LR.s (S.var vx (_) (fQ q1) rfl rfl rfl rfl (fQ_one q1) Tryd.sizeOf26 (fQ_len _) (by first | decide | simp [fQ_len]) ((splice_all2 (by first | exact (fQ_len _).symm | exact (fQ_len _).trans (fQ_len _).symm)))) (Wd.u rfl) rfl (fun H25_2 r25_2 => ?_)
              obtain ⟨vx, hs25_2⟩ := r25_2
              replace hs25_2 := hs25_2.md1
              replace mx := mx.upL hs25_2 (DFL.cons df1 DFL.nil)
              replace hl := hl.upL hs25_2 (DFL.cons df2 DFL.nil)
              replace hs1 := hs1.upL hs25_2 (DFL.cons df3 DFL.nil)
              replace hs2 := hs2.upL hs25_2 (DFL.cons df4 DFL.nil)
              replace vi := vi.upL hs25_2 (DL.cons dj10.symm DL.nil)
              replace ow := ow.upL hs25_2 (DL.cons dj16.symm DL.nil)
              replace oq := oq.upL hs25_2 (DL.cons dj140.symm DL.nil)
              replace vc := vc.upL hs25_2 (DL.cons dj125.symm DL.nil)
              replace hm0 := (Mo.trL (ks := []) (hm0.mdn []) hs25_2 (MIL.cons (MI.app MI.z (nx5) (Nat.le_refl _)) MIL.nil)).nil
              replace hlm1 := hlm1.trL hs25_2 (MIL.cons (MI.app (MI.root (by simp)) (nx_hlm1_vx) (Nat.le_refl _)) MIL.nil)
              have hz32 := hs25_2.size
              refine LR.nil ?_
              refine hK50 _ _ ?_
              refine CW.seq (fun K51 hK51 hE51 => ?_)
              refine CW.region ?_
              refine LR.v (Y.move rfl rfl) (Wd.u rfl) rfl rfl ?_
              refine LR.v (Y.addi rfl rfl rfl (by omega)) (Wd.u rfl) rfl rfl ?_
              refine LR.v (Y.move rfl rfl) (Wd.u rfl) rfl rfl ?_
              refine LR.v (Y.len ow.rd rfl Tryd.runUnderlying24 rfl) (Wd.u rfl) rfl rfl ?_
              refine LR.v (Y.lss rfl rfl rfl) (Wd.u rfl) rfl rfl ?_
              refine LR.v (Y.move rfl rfl) (Wd.u rfl) rfl rfl ?_
              refine LR.splitp (d := 114) rfl (fun g114 => ?_) (fun g114 => ?_)
              ·
                refine LR.v (Y.fieldAddr vx.pt rfl Tryd.runUnderlying26 rfl rfl Tryd.sizeOf23 (by decide) rfl) (Wd.g rfl rfl rfl) rfl rfl ?_
                refine LR.v (Y.cast (v2 := idV q1.cu) (Y.loadN ((vx.pt.drop 34).take 32) rfl Tryd.isAgg23 Tryd.sizeOf23 (by simp [fQ_len]) rfl) (congrArg (fun z : List Value => Value.agg z.toArray) ((fQ_cu _).trans (kc_eq hw1q.hc)))) (Wd.g rfl rfl rfl) rfl rfl ?_
                refine LR.v (Y.cast (v2 := idV q.cu) (Y.loadN vc.pt rfl Tryd.isAgg23 Tryd.sizeOf23 (by simp [hqw.hc]) rfl) (rfl)) (Wd.g rfl rfl rfl) rfl rfl ?_
                refine LR.v ((Y.aneq rfl Tryd.eqGuardType23 (fun w => run_equalIn_id 9998 Tryd.underlying23 Tryd.underlying5 Tryd.sizeOf5 Tryd.isAgg5 (hw1q.hc) (hqw.hc) w) rfl rfl).isF ((fun h => h (did_cu hG hqd hqt hq1 (by omega))))) (Wd.g rfl rfl rfl) rfl rfl ?_
                refine LR.v (Y.pick_t rfl rfl rfl) (Wd.u rfl) rfl rfl ?_
                refine LR.nil ?_
                refine hK51 _ _ ?_
                refine CW.cond_f rfl ?_
                refine CW.skip ?_
                refine hK47 _ _ ?_
                refine CW.region ?_
                refine LR.v (Y.move rfl rfl) (Wd.u rfl) rfl rfl ?_
                refine LR.v (Y.addi rfl rfl rfl (by omega)) (Wd.u rfl) rfl rfl ?_
                refine LR.v (Y.assign rfl rfl) (Wd.u rfl) rfl rfl ?_
                refine LR.nil ?_
                refine hK16 _ _ ?_
                refine hK15 _ _ ?_
                refine CW.region ?_
                refine LR.v (Y.move rfl rfl) (Wd.u rfl) rfl rfl ?_
                refine LR.v (Y.addi rfl rfl rfl (by omega)) (Wd.u rfl) rfl rfl ?_
                refine LR.v (Y.assign rfl rfl) (Wd.u rfl) rfl rfl ?_
                refine LR.nil ?_
                have e1 := stB_f (did_st hq1)
                refine QN.sub (hN12 (q1, k108, a + 1, m, i + 1) _ ?_ ?_) ⟨rfl, rfl, rfl, rfl, rfl, (iv (by omega)), (iv (by omega)), (iv (by omega)), trivial⟩
                · exact ⟨vx, oq, (EI.did hal hG hqd hqm hqt hqw.hc hG.cu hq1 (by rfl)), (by omega), (Nx.z (nx143)), dj140, hlm1⟩
                · first | omega | (simp only; omega) | (simp; omega)
              ·
                refine LR.gs rfl rfl rfl rfl rfl rfl ?_
                refine LR.gs rfl rfl rfl rfl rfl rfl ?_
                refine LR.gs rfl rfl rfl rfl rfl rfl ?_
                refine LR.gs rfl rfl rfl rfl rfl rfl ?_
                refine LR.v (Y.pick_f rfl rfl rfl) (Wd.u rfl) rfl rfl ?_
                refine LR.nil ?_
                refine hK51 _ _ ?_
                refine CW.cond_f rfl ?_
                refine CW.skip ?_
                refine hK47 _ _ ?_
                refine CW.region ?_
                refine LR.v (Y.move rfl rfl) (Wd.u rfl) rfl rfl ?_
                refine LR.v (Y.addi rfl rfl rfl (by omega)) (Wd.u rfl) rfl rfl ?_
                refine LR.v (Y.assign rfl rfl) (Wd.u rfl) rfl rfl ?_
                refine LR.nil ?_
                refine hK16 _ _ ?_
                refine hK15 _ _ ?_
                refine CW.region ?_
                refine LR.v (Y.move rfl rfl) (Wd.u rfl) rfl rfl ?_
                refine LR.v (Y.addi rfl rfl rfl (by omega)) (Wd.u rfl) rfl rfl ?_
                refine LR.v (Y.assign rfl rfl) (Wd.u rfl) rfl rfl ?_
                refine LR.nil ?_
                have e1 := stB_f (did_st hq1)
                refine QN.sub (hN12 (q1, k108, a + 1, m, i + 1) _ ?_ ?_) ⟨rfl, rfl, rfl, rfl, rfl, (iv (by omega)), (iv (by omega)), (iv (by omega)), trivial⟩
                · exact ⟨vx, oq, (EI.did hal hG hqd hqm hqt hqw.hc hG.cu hq1 (by rfl)), (by omega), (Nx.z (nx143)), dj140, hlm1⟩
                · first | omega | (simp only; omega) | (simp; omega)
            ·
              refine CW.seq (fun K52 hK52 hE52 => ?_)
              refine CW.region ?_
              refine LR.v (Y.loadN vx.pt rfl Tryd.isAgg26 Tryd.sizeOf26 (fQ_len _) rfl) (Wd.u rfl) rfl rfl ?_
              refine LR.v (Y.cast (v2 := idV cc) (Y.loadN vi.pt rfl Tryd.isAgg23 Tryd.sizeOf23 (by simp [hcc]) rfl) (rfl)) (Wd.u rfl) rfl rfl ?_
              refine LR.v (Y.move rfl rfl) (Wd.u rfl) rfl rfl ?_
              refine LR.v (Y.remi rfl rfl rfl (by omega)) (Wd.u rfl) rfl rfl ?_
              refine LR.v (Y.eql rfl rfl rfl) (Wd.u rfl) rfl rfl ?_
              -- call selvage/seq.Did
              refine LR.call rfl Tryd.call12 rfl (Wd.u rfl) rfl rfl (did_ct q cc (decide ((i : Int) % 2 = 0)) mx_ w0 _ mx (bf_mx.mono hm0.size) oq.rd.any hqw hcc) (fun v125 H125 r125 => ?_)
              have ql144 := vi.lt
              have ql145 := ow.le
              have ql146 := oq.le
              have ql147 := vx.lt
              obtain ⟨s125, k125, rfl, oq, hk125, hs125⟩ := r125
              have df148 := DF.app (DF.z) (bf_mx.mono hm0.size) hk125
              have df149 := DF.app (DF.z) (bf_hl.mono hm0.size) hk125
              have df150 := DF.app (DF.z) (bf_hs1.mono hm0.size) hk125
              have df151 := DF.app (DF.z) (bf_hs2.mono hm0.size) hk125
              have dj152 : Dj (H4.size + 1) k125 := Dj.app (Dj.z) ql144 hk125
              have dj153 : Dj kg k125 := Dj.app (Dj.z) ql145 hk125
              have dj154 : Dj kq k125 := Dj.app (Dj.z) ql146 hk125
              have dj155 : Dj (H0.size + 1) k125 := Dj.app (Dj.z) ql147 hk125
              have nx156 : Nx 0 H0.size k125 := Nx.tr (Nx.refl 0 _) hk125 hm0.size
              have nx157 : Nx 0 H4_1.size k125 := Nx.tr (Nx.refl 0 _) hk125 hlm1.size
              replace mx := mx.nw hs125
              replace hl := hl.nw hs125
              replace hs1 := hs1.nw hs125
              replace hs2 := hs2.nw hs125
              replace vi := vi.nw hs125
              replace ow := ow.nw hs125
              replace vx := vx.nw hs125
              replace hm0 := hm0.tr hs125
              replace hlm1 := hlm1.trN hs125
              have hz33 := hs125.size
              have hle_oq := oq.le
              obtain ⟨q1, hq1⟩ : ∃ y : Sq, y = didF q cc (decide ((i : Int) % 2 = 0)) s125 := ⟨_, rfl⟩
              rw [← hq1] at oq ⊢
              have hw1q : SqW q1 := by rw [hq1]; exact did_w hqw hcc _ _
              refine LR.s (S.var vx (_) (fQ q1) rfl rfl rfl rfl (fQ_one q1) Tryd.sizeOf26 (fQ_len _) (by first | decide | simp [fQ_len]) ((splice_all2 (by first | exact (fQ_len _).symm | exact (fQ_len _).trans (fQ_len _).symm)))) (Wd.u rfl) rfl (fun H28_6 r28_6 => ?_)
              obtain ⟨vx, hs28_6⟩ := r28_6
              replace hs28_6 := hs28_6.md1
              replace mx := mx.upL hs28_6 (DFL.cons df1 DFL.nil)
              replace hl := hl.upL hs28_6 (DFL.cons df2 DFL.nil)
              replace hs1 := hs1.upL hs28_6 (DFL.cons df3 DFL.nil)
              replace hs2 := hs2.upL hs28_6 (DFL.cons df4 DFL.nil)
              replace vi := vi.upL hs28_6 (DL.cons dj10.symm DL.nil)
              replace ow := ow.upL hs28_6 (DL.cons dj16.symm DL.nil)
              replace oq := oq.upL hs28_6 (DL.cons dj155.symm DL.nil)
              replace hm0 := (Mo.trL (ks := []) (hm0.mdn []) hs28_6 (MIL.cons (MI.app MI.z (nx5) (Nat.le_refl _)) MIL.nil)).nil
              replace hlm1 := hlm1.trL hs28_6 (MIL.cons (MI.app (MI.root (by simp)) (nx_hlm1_vx) (Nat.le_refl _)) MIL.nil)
              have hz34 := hs28_6.size
              refine LR.nil ?_
              refine hK52 _ _ ?_
              refine CW.seq (fun K53 hK53 hE53 => ?_)
              refine CW.seq (fun K54 hK54 hE54 => ?_)
              refine CW.region ?_
              refine LR.v (Y.move rfl rfl) (Wd.u rfl) rfl rfl ?_
              refine LR.v (Y.remi rfl rfl rfl (by omega)) (Wd.u rfl) rfl rfl ?_
              refine LR.v (Y.eql rfl rfl rfl) (Wd.u rfl) rfl rfl ?_
              refine LR.nil ?_
              refine hK54 _ _ ?_
              refine CW.condp rfl (fun c128 => ?_) (fun c128 => ?_)
              ·
                refine CW.region ?_
                refine LR.v (Y.move rfl rfl) (Wd.u rfl) rfl rfl ?_
                refine LR.v (Y.addi rfl rfl rfl (by omega)) (Wd.u rfl) rfl rfl ?_
                refine LR.v (Y.assign rfl rfl) (Wd.u rfl) rfl rfl ?_
                refine LR.nil ?_
                refine hK53 _ _ ?_
                refine CW.seq (fun K55 hK55 hE55 => ?_)
                refine CW.region ?_
                refine LR.v (Y.move rfl rfl) (Wd.u rfl) rfl rfl ?_
                refine LR.v (Y.addi rfl rfl rfl (by omega)) (Wd.u rfl) rfl rfl ?_
                refine LR.v (Y.move rfl rfl) (Wd.u rfl) rfl rfl ?_
                refine LR.v (Y.len ow.rd rfl Tryd.runUnderlying24 rfl) (Wd.u rfl) rfl rfl ?_
                refine LR.v (Y.lss rfl rfl rfl) (Wd.u rfl) rfl rfl ?_
                refine LR.v (Y.move rfl rfl) (Wd.u rfl) rfl rfl ?_
                refine LR.splitp (d := 136) rfl (fun g136 => ?_) (fun g136 => ?_)
                ·
                  refine LR.v (Y.fieldAddr vx.pt rfl Tryd.runUnderlying26 rfl rfl Tryd.sizeOf23 (by decide) rfl) (Wd.g rfl rfl rfl) rfl rfl ?_
                  refine LR.v (Y.cast (v2 := idV q1.cu) (Y.loadN ((vx.pt.drop 34).take 32) rfl Tryd.isAgg23 Tryd.sizeOf23 (by simp [fQ_len]) rfl) (congrArg (fun z : List Value => Value.agg z.toArray) ((fQ_cu _).trans (kc_eq hw1q.hc)))) (Wd.g rfl rfl rfl) rfl rfl ?_
                  refine LR.v (Y.cast (v2 := idV cc) (Y.loadN vi.pt rfl Tryd.isAgg23 Tryd.sizeOf23 (by simp [hcc]) rfl) (rfl)) (Wd.g rfl rfl rfl) rfl rfl ?_
                  refine LR.v ((Y.aneq rfl Tryd.eqGuardType23 (fun w => run_equalIn_id 9998 Tryd.underlying23 Tryd.underlying5 Tryd.sizeOf5 Tryd.isAgg5 (hw1q.hc) (hcc) w) rfl rfl).isF ((fun h => h (did_cu hG hqd hqt hq1 (by omega))))) (Wd.g rfl rfl rfl) rfl rfl ?_
                  refine LR.v (Y.move rfl rfl) (Wd.g rfl rfl rfl) rfl rfl ?_
                  refine LR.v (Y.fieldAddr vx.pt rfl Tryd.runUnderlying26 rfl rfl Tryd.sizeOf4 (by decide) rfl) (Wd.g rfl rfl rfl) rfl rfl ?_
                  refine LR.v (Y.cast (v2 := .bool false) (Y.load1 (vx.pt.q67.drop 2) rfl Tryd.isAgg4 rfl) (congrArg Value.bool (did_st hq1))) (Wd.g rfl rfl rfl) rfl rfl ?_
                  refine LR.v (Y.pick_f rfl rfl rfl) (Wd.g rfl rfl rfl) rfl rfl ?_
                  refine LR.v (Y.pick_t rfl rfl rfl) (Wd.u rfl) rfl rfl ?_
                  refine LR.nil ?_
                  refine hK55 _ _ ?_
                  refine CW.cond_f rfl ?_
                  refine CW.skip ?_
                  refine hK47 _ _ ?_
                  refine CW.region ?_
                  refine LR.v (Y.move rfl rfl) (Wd.u rfl) rfl rfl ?_
                  refine LR.v (Y.addi rfl rfl rfl (by omega)) (Wd.u rfl) rfl rfl ?_
                  refine LR.v (Y.assign rfl rfl) (Wd.u rfl) rfl rfl ?_
                  refine LR.nil ?_
                  refine hK16 _ _ ?_
                  refine hK15 _ _ ?_
                  refine CW.region ?_
                  refine LR.v (Y.move rfl rfl) (Wd.u rfl) rfl rfl ?_
                  refine LR.v (Y.addi rfl rfl rfl (by omega)) (Wd.u rfl) rfl rfl ?_
                  refine LR.v (Y.assign rfl rfl) (Wd.u rfl) rfl rfl ?_
                  refine LR.nil ?_
                  have e1 := stB_f (did_st hq1)
                  refine QN.sub (hN12 (q1, k125, a + 1, m + 1, i + 1) _ ?_ ?_) ⟨rfl, rfl, rfl, rfl, rfl, (iv (by omega)), (iv (by omega)), (iv (by omega)), trivial⟩
                  · exact ⟨vx, oq, (EI.did hal hG hqd hqm hqt hcc hcz hq1 (by simp; omega)), (by omega), (Nx.z (nx157)), dj155, hlm1⟩
                  · first | omega | (simp only; omega) | (simp; omega)
                ·
                  refine LR.gs rfl rfl rfl rfl rfl rfl ?_
                  refine LR.gs rfl rfl rfl rfl rfl rfl ?_
                  refine LR.gs rfl rfl rfl rfl rfl rfl ?_
                  refine LR.gs rfl rfl rfl rfl rfl rfl ?_
                  refine LR.gs rfl rfl rfl rfl rfl rfl ?_
                  refine LR.gsu rfl rfl rfl rfl rfl ?_
                  refine LR.gsu rfl rfl rfl rfl rfl ?_
                  refine LR.gs rfl rfl rfl rfl rfl rfl ?_
                  refine LR.v (Y.pick_f rfl rfl rfl) (Wd.u rfl) rfl rfl ?_
                  refine LR.nil ?_
                  refine hK55 _ _ ?_
                  refine CW.cond_f rfl ?_
                  refine CW.skip ?_
                  refine hK47 _ _ ?_
                  refine CW.region ?_
                  refine LR.v (Y.move rfl rfl) (Wd.u rfl) rfl rfl ?_
                  refine LR.v (Y.addi rfl rfl rfl (by omega)) (Wd.u rfl) rfl rfl ?_
                  refine LR.v (Y.assign rfl rfl) (Wd.u rfl) rfl rfl ?_
                  refine LR.nil ?_
                  refine hK16 _ _ ?_
                  refine hK15 _ _ ?_
                  refine CW.region ?_
                  refine LR.v (Y.move rfl rfl) (Wd.u rfl) rfl rfl ?_
                  refine LR.v (Y.addi rfl rfl rfl (by omega)) (Wd.u rfl) rfl rfl ?_
                  refine LR.v (Y.assign rfl rfl) (Wd.u rfl) rfl rfl ?_
                  refine LR.nil ?_
                  have e1 := stB_f (did_st hq1)
                  refine QN.sub (hN12 (q1, k125, a + 1, m + 1, i + 1) _ ?_ ?_) ⟨rfl, rfl, rfl, rfl, rfl, (iv (by omega)), (iv (by omega)), (iv (by omega)), trivial⟩
                  · exact ⟨vx, oq, (EI.did hal hG hqd hqm hqt hcc hcz hq1 (by simp; omega)), (by omega), (Nx.z (nx157)), dj155, hlm1⟩
                  · first | omega | (simp only; omega) | (simp; omega)
              ·
                refine CW.skip ?_
                refine hK53 _ _ ?_
                refine CW.seq (fun K56 hK56 hE56 => ?_)
                refine CW.region ?_
                refine LR.v (Y.move rfl rfl) (Wd.u rfl) rfl rfl ?_
                refine LR.v (Y.addi rfl rfl rfl (by omega)) (Wd.u rfl) rfl rfl ?_
                refine LR.v (Y.move rfl rfl) (Wd.u rfl) rfl rfl ?_
                refine LR.v (Y.len ow.rd rfl Tryd.runUnderlying24 rfl) (Wd.u rfl) rfl rfl ?_
                refine LR.v (Y.lss rfl rfl rfl) (Wd.u rfl) rfl rfl ?_
                refine LR.v (Y.move rfl rfl) (Wd.u rfl) rfl rfl ?_
                refine LR.splitp (d := 136) rfl (fun g136 => ?_) (fun g136 => ?_)
                ·
                  refine LR.v (Y.fieldAddr vx.pt rfl Tryd.runUnderlying26 rfl rfl Tryd.sizeOf23 (by decide) rfl) (Wd.g rfl rfl rfl) rfl rfl ?_
                  refine LR.v (Y.cast (v2 := idV q1.cu) (Y.loadN ((vx.pt.drop 34).take 32) rfl Tryd.isAgg23 Tryd.sizeOf23 (by simp [fQ_len]) rfl) (congrArg (fun z : List Value => Value.agg z.toArray) ((fQ_cu _).trans (kc_eq hw1q.hc)))) (Wd.g rfl rfl rfl) rfl rfl ?_
                  refine LR.v (Y.cast (v2 := idV cc) (Y.loadN vi.pt rfl Tryd.isAgg23 Tryd.sizeOf23 (by simp [hcc]) rfl) (rfl)) (Wd.g rfl rfl rfl) rfl rfl ?_
                  refine LR.v ((Y.aneq rfl Tryd.eqGuardType23 (fun w => run_equalIn_id 9998 Tryd.underlying23 Tryd.underlying5 Tryd.sizeOf5 Tryd.isAgg5 (hw1q.hc) (hcc) w) rfl rfl).isF ((fun h => h (did_cu hG hqd hqt hq1 (by omega))))) (Wd.g rfl rfl rfl) rfl rfl ?_
                  refine LR.v (Y.move rfl rfl) (Wd.g rfl rfl rfl) rfl rfl ?_
                  refine LR.v (Y.fieldAddr vx.pt rfl Tryd.runUnderlying26 rfl rfl Tryd.sizeOf4 (by decide) rfl) (Wd.g rfl rfl rfl) rfl rfl ?_
                  refine LR.v (Y.cast (v2 := .bool false) (Y.load1 (vx.pt.q67.drop 2) rfl Tryd.isAgg4 rfl) (congrArg Value.bool (did_st hq1))) (Wd.g rfl rfl rfl) rfl rfl ?_
                  refine LR.v (Y.pick_f rfl rfl rfl) (Wd.g rfl rfl rfl) rfl rfl ?_
                  refine LR.v (Y.pick_t rfl rfl rfl) (Wd.u rfl) rfl rfl ?_
                  refine LR.nil ?_
                  refine hK56 _ _ ?_
                  refine CW.cond_f rfl ?_
                  refine CW.skip ?_
                  refine hK47 _ _ ?_
                  refine CW.region ?_
                  refine LR.v (Y.move rfl rfl) (Wd.u rfl) rfl rfl ?_
                  refine LR.v (Y.addi rfl rfl rfl (by omega)) (Wd.u rfl) rfl rfl ?_
                  refine LR.v (Y.assign rfl rfl) (Wd.u rfl) rfl rfl ?_
                  refine LR.nil ?_
                  refine hK16 _ _ ?_
                  refine hK15 _ _ ?_
                  refine CW.region ?_
                  refine LR.v (Y.move rfl rfl) (Wd.u rfl) rfl rfl ?_
                  refine LR.v (Y.addi rfl rfl rfl (by omega)) (Wd.u rfl) rfl rfl ?_
                  refine LR.v (Y.assign rfl rfl) (Wd.u rfl) rfl rfl ?_
                  refine LR.nil ?_
                  have e1 := stB_f (did_st hq1)
                  refine QN.sub (hN12 (q1, k125, a + 1, m, i + 1) _ ?_ ?_) ⟨rfl, rfl, rfl, rfl, rfl, (iv (by omega)), (iv (by omega)), (iv (by omega)), trivial⟩
                  · exact ⟨vx, oq, (EI.did hal hG hqd hqm hqt hcc hcz hq1 (by simp; omega)), (by omega), (Nx.z (nx157)), dj155, hlm1⟩
                  · first | omega | (simp only; omega) | (simp; omega)
                ·
                  refine LR.gs rfl rfl rfl rfl rfl rfl ?_
                  refine LR.gs rfl rfl rfl rfl rfl rfl ?_
                  refine LR.gs rfl rfl rfl rfl rfl rfl ?_
                  refine LR.gs rfl rfl rfl rfl rfl rfl ?_
                  refine LR.gs rfl rfl rfl rfl rfl rfl ?_
                  refine LR.gsu rfl rfl rfl rfl rfl ?_
                  refine LR.gsu rfl rfl rfl rfl rfl ?_
                  refine LR.gs rfl rfl rfl rfl rfl rfl ?_
                  refine LR.v (Y.pick_f rfl rfl rfl) (Wd.u rfl) rfl rfl ?_
                  refine LR.nil ?_
                  refine hK56 _ _ ?_
                  refine CW.cond_f rfl ?_
                  refine CW.skip ?_
                  refine hK47 _ _ ?_
                  refine CW.region ?_
                  refine LR.v (Y.move rfl rfl) (Wd.u rfl) rfl rfl ?_
                  refine LR.v (Y.addi rfl rfl rfl (by omega)) (Wd.u rfl) rfl rfl ?_
                  refine LR.v (Y.assign rfl rfl) (Wd.u rfl) rfl rfl ?_
                  refine LR.nil ?_
                  refine hK16 _ _ ?_
                  refine hK15 _ _ ?_
                  refine CW.region ?_
                  refine LR.v (Y.move rfl rfl) (Wd.u rfl) rfl rfl ?_
                  refine LR.v (Y.addi rfl rfl rfl (by omega)) (Wd.u rfl) rfl rfl ?_
                  refine LR.v (Y.assign rfl rfl) (Wd.u rfl) rfl rfl ?_
                  refine LR.nil ?_
                  have e1 := stB_f (did_st hq1)
                  refine QN.sub (hN12 (q1, k125, a + 1, m, i + 1) _ ?_ ?_) ⟨rfl, rfl, rfl, rfl, rfl, (iv (by omega)), (iv (by omega)), (iv (by omega)), trivial⟩
                  · exact ⟨vx, oq, (EI.did hal hG hqd hqm hqt hcc hcz hq1 (by simp; omega)), (by omega), (Nx.z (nx157)), dj155, hlm1⟩
                  · first | omega | (simp only; omega) | (simp; omega)
    ·
      refine LR.gs rfl rfl rfl rfl rfl rfl ?_
      refine LR.gs rfl rfl rfl rfl rfl rfl ?_
      refine LR.v (Y.pick_f rfl rfl rfl) (Wd.u rfl) rfl rfl ?_
      refine LR.nil ?_
      refine hK22 _ _ ?_
      refine CW.cond_f rfl ?_
      refine CW.skip ?_
      refine hK21 _ _ ?_
      refine CW.seq (fun K57 hK57 hE57 => ?_)
      refine CW.seq (fun K58 hK58 hE58 => ?_)
      refine CW.region ?_
      obtain ⟨w1, hw1, vw⟩ : ∃ t : Td, t = (nextF q).1 ∧ Var 29 _ _ (fT t) := ⟨_, by first | (exact nextg1 h0 hqd hqt hal (by assumption) (by omega)) | (exact nextg2 h0 hqd hqt hal (by omega)), vw⟩
      refine LR.v (Y.move rfl rfl) (Wd.u rfl) rfl rfl ?_
      refine LR.v (Y.not rfl rfl) (Wd.u rfl) rfl rfl ?_
      refine LR.v (Y.move rfl rfl) (Wd.u rfl) rfl rfl ?_
      refine LR.v (Y.loadN vt.pt rfl Tryd.isAgg29 Tryd.sizeOf29 (fT_len _) rfl) (Wd.g rfl rfl rfl) rfl rfl ?_
      refine LR.v (Y.loadN vw.pt rfl Tryd.isAgg29 Tryd.sizeOf29 (fT_len _) rfl) (Wd.g rfl rfl rfl) rfl rfl ?_
      refine LR.v ((Y.aneq rfl Tryd.eqGuardType29 (fun w => eqTd' (next_w hqw) (by rw [hw1]; exact next_w hqw) w) rfl rfl).isF ((fun h => h hw1.symm))) (Wd.g rfl rfl rfl) rfl rfl ?_
      refine LR.v (Y.pick_f rfl rfl rfl) (Wd.u rfl) rfl rfl ?_
      refine LR.nil ?_
      refine hK58 _ _ ?_
      refine CW.cond_f rfl ?_
      refine CW.skip ?_
      refine hK57 _ _ ?_
      refine CW.cut (fun (_ : Unit) => [(1, v1), (2, v2), (4, .pointer (some ⟨H0.size, 0, none⟩)), (7, .pointer (some ⟨H4.size, 0, none⟩)), (9, g.tv.v), (10, .int .i64 (a : Int)), (11, .int .i64 m), (12, .int .i64 (i : Int))])
        (fun (_ : Unit) (H : Heap) => (True) ∧ Nw H14_5 H) (fun K59 hK59 hE59 => ?_) ?_
      ·
        have hcm59 : Nw H14_5 H14_5 := Mo.refl _ _
        refine CW.seq (fun K60 hK60 hE60 => ?_)
        refine CW.region ?_
        refine LR.v (Y.move rfl rfl) (Wd.u rfl) rfl rfl ?_
        refine LR.v (Y.move rfl rfl) (Wd.u rfl) rfl rfl ?_
        refine LR.v (Y.len hs1 rfl Tryd.runUnderlying39 rfl) (Wd.u rfl) rfl rfl ?_
        refine LR.v (Y.lss rfl rfl rfl) (Wd.u rfl) rfl rfl ?_
        refine LR.v (Y.move rfl rfl) (Wd.u rfl) rfl rfl ?_
        refine LR.splitp (d := 79) rfl (fun g79 => ?_) (fun g79 => ?_)
        ·
          refine LR.v (Y.move rfl rfl) (Wd.g rfl rfl rfl) rfl rfl ?_
          refine LR.v (Y.move rfl rfl) (Wd.g rfl rfl rfl) rfl rfl ?_
          refine LR.e (g := fun ad => .pointer (some ad)) (Y.indexAddrF hs1 (i) rfl Tryd.runUnderlying39 Tryd.sizeOf4 rfl rfl (by first | rfl | omega) (by first | omega | (simp; omega) | (simp; done))) (Wd.g rfl rfl rfl) rfl rfl (fun ad82 pt82 => ?_)
          have bf_pt82 := bf_hs1
          refine LR.v (Y.load1 pt82.pt rfl Tryd.isAgg4 rfl) (Wd.g rfl rfl rfl) rfl rfl ?_
          refine LR.v (Y.pick_t rfl rfl rfl) (Wd.u rfl) rfl rfl ?_
          refine LR.v (Y.move rfl rfl) (Wd.u rfl) rfl rfl ?_
          refine LR.split (d := 85) rfl (fun g85 => ?_) (fun g85 => ?_)
          ·
            refine LR.v (Y.fieldAddr vx.pt rfl Tryd.runUnderlying26 rfl rfl Tryd.sizeOf4 (by decide) rfl) (Wd.g rfl rfl rfl) rfl rfl ?_
            refine LR.v (Y.load1 (vx.pt.q67.drop 2) rfl Tryd.isAgg4 rfl) (Wd.g rfl rfl rfl) rfl rfl ?_
            refine LR.v (Y.not rfl rfl) (Wd.g rfl rfl rfl) rfl rfl ?_
            refine LR.v (Y.pick_t rfl rfl rfl) (Wd.u rfl) rfl rfl ?_
            refine LR.nil ?_
            refine hK60 _ _ ?_
            refine CW.cond rfl (fun c89 => ?_) (fun c89 => ?_)
            ·
              have hst : q.st = false := by simpa using c89
              refine CW.seq (fun K61 hK61 hE61 => ?_)
              refine CW.region ?_
              refine LR.v (Y.loadN vx.pt rfl Tryd.isAgg26 Tryd.sizeOf26 (fQ_len _) rfl) (Wd.u rfl) rfl rfl ?_
              -- call selvage/seq.Stop
              refine LR.call rfl Tryd.call14 rfl (Wd.u rfl) rfl rfl (stop_ct q mx_ w0 _ mx (bf_mx.mono hm0.size) oq.rd.any hqw) (fun v91 H91 r91 => ?_)
              have ql158 := vi.lt
              have ql159 := ow.le
              have ql160 := oq.le
              have ql161 := vx.lt
              obtain ⟨s91, k91, rfl, oq, hk91, hs91⟩ := r91
              have df162 := DF.app (DF.z) (bf_mx.mono hm0.size) hk91
              have df163 := DF.app (DF.z) (bf_hl.mono hm0.size) hk91
              have df164 := DF.app (DF.z) (bf_hs1.mono hm0.size) hk91
              have df165 := DF.app (DF.z) (bf_hs2.mono hm0.size) hk91
              have dj166 : Dj (H4.size + 1) k91 := Dj.app (Dj.z) ql158 hk91
              have dj167 : Dj kg k91 := Dj.app (Dj.z) ql159 hk91
              have dj168 : Dj kq k91 := Dj.app (Dj.z) ql160 hk91
              have dj169 : Dj (H0.size + 1) k91 := Dj.app (Dj.z) ql161 hk91
              have nx170 : Nx 0 H0.size k91 := Nx.tr (Nx.refl 0 _) hk91 hm0.size
              have nx171 : Nx 0 H4_1.size k91 := Nx.tr (Nx.refl 0 _) hk91 hlm1.size
              have nx172 : Nx 0 H14_5.size k91 := Nx.tr (Nx.refl 0 _) hk91 hcm59.size
              replace mx := mx.nw hs91
              replace hl := hl.nw hs91
              replace hs1 := hs1.nw hs91
              replace hs2 := hs2.nw hs91
              replace vi := vi.nw hs91
              replace ow := ow.nw hs91
              replace vx := vx.nw hs91
              replace hm0 := hm0.tr hs91
              replace hlm1 := hlm1.trN hs91
              replace hcm59 := hcm59.tr hs91
              have hz35 := hs91.size
              have hle_oq := oq.le
              rw [stop_ok h0] at oq ⊢
              refine LR.s (S.var vx (_) (fQ { q with tv := s91, st := true }) rfl rfl rfl rfl (fQ_one { q with tv := s91, st := true }) Tryd.sizeOf26 (fQ_len _) (by first | decide | simp [fQ_len]) ((splice_all2 (by first | exact (fQ_len _).symm | exact (fQ_len _).trans (fQ_len _).symm)))) (Wd.u rfl) rfl (fun H20_2 r20_2 => ?_)
              obtain ⟨vx, hs20_2⟩ := r20_2
              replace hs20_2 := hs20_2.md1
              replace mx := mx.upL hs20_2 (DFL.cons df1 DFL.nil)
              replace hl := hl.upL hs20_2 (DFL.cons df2 DFL.nil)
              replace hs1 := hs1.upL hs20_2 (DFL.cons df3 DFL.nil)
              replace hs2 := hs2.upL hs20_2 (DFL.cons df4 DFL.nil)
              replace vi := vi.upL hs20_2 (DL.cons dj10.symm DL.nil)
              replace ow := ow.upL hs20_2 (DL.cons dj16.symm DL.nil)
              replace oq := oq.upL hs20_2 (DL.cons dj169.symm DL.nil)
              replace hm0 := (Mo.trL (ks := []) (hm0.mdn []) hs20_2 (MIL.cons (MI.app MI.z (nx5) (Nat.le_refl _)) MIL.nil)).nil
              replace hlm1 := hlm1.trL hs20_2 (MIL.cons (MI.app (MI.root (by simp)) (nx_hlm1_vx) (Nat.le_refl _)) MIL.nil)
              -- LOST hcm59
              have hz36 := hs20_2.size
              refine LR.nil ?_
              refine hK61 _ _ ?_
              refine CW.seq (fun K62 hK62 hE62 => ?_)
              refine CW.seq (fun K63 hK63 hE63 => ?_)
              refine CW.region ?_
              refine LR.v (Y.fieldAddr vx.pt rfl Tryd.runUnderlying26 rfl rfl Tryd.sizeOf4 (by decide) rfl) (Wd.u rfl) rfl rfl ?_
              refine LR.v (Y.cast (v2 := .bool true) (Y.load1 (vx.pt.q67.drop 2) rfl Tryd.isAgg4 rfl) (rfl)) (Wd.u rfl) rfl rfl ?_
              refine LR.v (Y.not rfl rfl) (Wd.u rfl) rfl rfl ?_
              refine LR.nil ?_
              refine hK63 _ _ ?_
              refine CW.cond_f rfl ?_
              refine CW.skip ?_
              refine hK62 _ _ ?_
              refine CW.exit (hE59 (.exit 1) nofun _ _ (hX16 _ _ ?_))
              refine hK15 _ _ ?_
              refine CW.region ?_
              refine LR.v (Y.move rfl rfl) (Wd.u rfl) rfl rfl ?_
              refine LR.v (Y.addi rfl rfl rfl (by omega)) (Wd.u rfl) rfl rfl ?_
              refine LR.v (Y.assign rfl rfl) (Wd.u rfl) rfl rfl ?_
              refine LR.nil ?_
              have e1 := stB_f hst
              have e2 : stB ({ q with tv := s91, st := true } : Sq) = 1 := rfl
              refine QN.sub (hN12 ({ q with tv := s91, st := true }, k91, a, m, i + 1) _ ?_ ?_) ⟨rfl, rfl, rfl, rfl, rfl, (iv (by omega)), (iv (by omega)), (iv (by omega)), trivial⟩
              · exact ⟨vx, oq, (.inl ⟨hal, good_stop hG s91, hqd, hqm, hqt⟩), (by omega), (Nx.z (nx171)), dj169, hlm1⟩
              · first | omega | (simp only; omega) | (simp; omega)
            ·
              refine CW.skip ?_
              refine QN.sub (hK59 () _ ?_) ⟨rfl, rfl, rfl, rfl, rfl, (iv (by omega)), (iv (by omega)), (iv (by omega)), trivial⟩
              exact ⟨trivial, hcm59⟩
          ·
            refine LR.gs rfl rfl rfl rfl rfl rfl ?_
            refine LR.gs rfl rfl rfl rfl rfl rfl ?_
            refine LR.gs rfl rfl rfl rfl rfl rfl ?_
            refine LR.v (Y.pick_f rfl rfl rfl) (Wd.u rfl) rfl rfl ?_
            refine LR.nil ?_
            refine hK60 _ _ ?_
            refine CW.cond_f rfl ?_
            refine CW.skip ?_
            refine QN.sub (hK59 () _ ?_) ⟨rfl, rfl, rfl, rfl, rfl, (iv (by omega)), (iv (by omega)), (iv (by omega)), trivial⟩
            exact ⟨trivial, hcm59⟩
        ·
          refine LR.gs rfl rfl rfl rfl rfl rfl ?_
          refine LR.gs rfl rfl rfl rfl rfl rfl ?_
          refine LR.gs rfl rfl rfl rfl rfl rfl ?_
          refine LR.gs rfl rfl rfl rfl rfl rfl ?_
          refine LR.v (Y.pick_f rfl rfl rfl) (Wd.u rfl) rfl rfl ?_
          refine LR.v (Y.move rfl rfl) (Wd.u rfl) rfl rfl ?_
          refine LR.gs rfl rfl rfl rfl rfl rfl ?_
          refine LR.gs rfl rfl rfl rfl rfl rfl ?_
          refine LR.gs rfl rfl rfl rfl rfl rfl ?_
          refine LR.v (Y.pick_f rfl rfl rfl) (Wd.u rfl) rfl rfl ?_
          refine LR.nil ?_
          refine hK60 _ _ ?_
          refine CW.cond_f rfl ?_
          refine CW.skip ?_
          refine QN.sub (hK59 () _ ?_) ⟨rfl, rfl, rfl, rfl, rfl, (iv (by omega)), (iv (by omega)), (iv (by omega)), trivial⟩
          exact ⟨trivial, hcm59⟩
      ·
        intro _ Hcutc89 hIcutc89
        obtain ⟨hT, hlmcutc89⟩ := hIcutc89
        replace mx := mx.nw hlmcutc89
        replace hl := hl.nw hlmcutc89
        replace hs1 := hs1.nw hlmcutc89
        replace hs2 := hs2.nw hlmcutc89
        replace vi := vi.nw hlmcutc89
        replace ow := ow.nw hlmcutc89
        replace oq := oq.nw hlmcutc89
        replace vx := vx.nw hlmcutc89
        replace hm0 := hm0.tr hlmcutc89
        replace hlm1 := hlm1.trN hlmcutc89
        have hz37 := hlmcutc89.size
        refine CW.seq (fun K64 hK64 hE64 => ?_)
        refine CW.cut (fun (sk : (Bool)) => [(1, v1), (2, v2), (4, .pointer (some ⟨H0.size, 0, none⟩)), (7, .pointer (some ⟨H4.size, 0, none⟩)), (9, g.tv.v), (10, .int .i64 (a : Int)), (11, .int .i64 m), (12, .int .i64 (i : Int)), (104, .bool sk)])
          (fun (sk : (Bool)) (H : Heap) => (True) ∧ Nw Hcutc89 H) (fun K65 hK65 hE65 => ?_) ?_
        ·
          have hcm65 : Nw Hcutc89 Hcutc89 := Mo.refl _ _
          refine CW.region ?_
          refine LR.v (Y.move rfl rfl) (Wd.u rfl) rfl rfl ?_
          refine LR.v (Y.move rfl rfl) (Wd.u rfl) rfl rfl ?_
          refine LR.v (Y.len hs2 rfl Tryd.runUnderlying39 rfl) (Wd.u rfl) rfl rfl ?_
          refine LR.v (Y.lss rfl rfl rfl) (Wd.u rfl) rfl rfl ?_
          refine LR.v (Y.move rfl rfl) (Wd.u rfl) rfl rfl ?_
          refine LR.splitp (d := 99) rfl (fun g99 => ?_) (fun g99 => ?_)
          ·
            refine LR.v (Y.move rfl rfl) (Wd.g rfl rfl rfl) rfl rfl ?_
            refine LR.v (Y.move rfl rfl) (Wd.g rfl rfl rfl) rfl rfl ?_
            refine LR.e (g := fun ad => .pointer (some ad)) (Y.indexAddrF hs2 (i) rfl Tryd.runUnderlying39 Tryd.sizeOf4 rfl rfl (by first | rfl | omega) (by first | omega | (simp; omega) | (simp; done))) (Wd.g rfl rfl rfl) rfl rfl (fun ad102 pt102 => ?_)
            have bf_pt102 := bf_hs2
            refine LR.v (Y.load1 pt102.pt rfl Tryd.isAgg4 rfl) (Wd.g rfl rfl rfl) rfl rfl ?_
            refine LR.v (Y.pick_t rfl rfl rfl) (Wd.u rfl) rfl rfl ?_
            refine LR.nil ?_
            refine QN.sub (hK65 (l2[i]) _ ?_) ⟨rfl, rfl, rfl, rfl, rfl, (iv (by omega)), (iv (by omega)), (iv (by omega)), rfl, trivial⟩
            exact ⟨trivial, hcm65⟩
          ·
            refine LR.gs rfl rfl rfl rfl rfl rfl ?_
            refine LR.gs rfl rfl rfl rfl rfl rfl ?_
            refine LR.gs rfl rfl rfl rfl rfl rfl ?_
            refine LR.gs rfl rfl rfl rfl rfl rfl ?_
            refine LR.v (Y.pick_f rfl rfl rfl) (Wd.u rfl) rfl rfl ?_
            refine LR.nil ?_
            refine QN.sub (hK65 false _ ?_) ⟨rfl, rfl, rfl, rfl, rfl, (iv (by omega)), (iv (by omega)), (iv (by omega)), rfl, trivial⟩
            exact ⟨trivial, hcm65⟩
        ·
          intro sk Hcutr23 hIcutr23
          obtain ⟨hT2, hlmcutr23⟩ := hIcutr23
          replace mx := mx.nw hlmcutr23
          replace hl := hl.nw hlmcutr23
          replace hs1 := hs1.nw hlmcutr23
          replace hs2 := hs2.nw hlmcutr23
          replace vi := vi.nw hlmcutr23
          replace ow := ow.nw hlmcutr23
          replace oq := oq.nw hlmcutr23
          replace vx := vx.nw hlmcutr23
          replace hm0 := hm0.tr hlmcutr23
          replace hlm1 := hlm1.trN hlmcutr23
          have hz38 := hlmcutr23.size
          refine CW.cond rfl (fun c104 => ?_) (fun c104 => ?_)
          ·
            refine CW.seq (fun K66 hK66 hE66 => ?_)
            refine CW.region ?_
            refine LR.v (Y.fieldAddr vx.pt rfl Tryd.runUnderlying26 rfl rfl Tryd.sizeOf23 (by decide) rfl) (Wd.u rfl) rfl rfl ?_
            refine LR.v (Y.cast (v2 := idV q.cu) (Y.loadN ((vx.pt.drop 34).take 32) rfl Tryd.isAgg23 Tryd.sizeOf23 (by simp [fQ_len]) rfl) (congrArg (fun z : List Value => Value.agg z.toArray) ((fQ_cu _).trans (kc_eq hqw.hc)))) (Wd.u rfl) rfl rfl ?_
            refine LR.z (Z.allocv rfl Tryd.zeroValue23) (Wd.u rfl) rfl rfl (fun v16 H16 r16 => ?_)
            obtain ⟨rfl, vc, hs16, ob16, hH16⟩ := r16
            have hzs16 : H16.size = Hcutr23.size + 1 := by rw [hH16]; simp
            have df173 := (DF.new (bf_mx.mono hm0.size) : DF _ (Hcutr23.size + 1))
            have df174 := (DF.new (bf_hl.mono hm0.size) : DF _ (Hcutr23.size + 1))
            have df175 := (DF.new (bf_hs1.mono hm0.size) : DF _ (Hcutr23.size + 1))
            have df176 := (DF.new (bf_hs2.mono hm0.size) : DF _ (Hcutr23.size + 1))
            have dj177 : Dj (H4.size + 1) (Hcutr23.size + 1) := Dj.new vi.lt
            have dj178 : Dj kg (Hcutr23.size + 1) := Dj.new ow.le
            have dj179 : Dj kq (Hcutr23.size + 1) := Dj.new oq.le
            have dj180 : Dj (H0.size + 1) (Hcutr23.size + 1) := Dj.new vx.lt
            have nx181 : Nx 0 H0.size (Hcutr23.size + 1) := Nx.new hm0.size
            have nx182 : Nx 0 H4_1.size (Hcutr23.size + 1) := Nx.new hlm1.size
            replace mx := mx.nw hs16
            replace hl := hl.nw hs16
            replace hs1 := hs1.nw hs16
            replace hs2 := hs2.nw hs16
            replace vi := vi.nw hs16
            replace ow := ow.nw hs16
            replace oq := oq.nw hs16
            replace vx := vx.nw hs16
            replace hm0 := hm0.tr hs16
            replace hlm1 := hlm1.trN hs16
            have hz39 := hs16.size
            refine LR.s (S.var vc (q.cu.map V8) (q.cu.map V8) rfl rfl rfl rfl (by rw [← kc_eq hqw.hc]; exact kc_one _) Tryd.sizeOf23 (by simp [hqw.hc]) (by decide) ((splice_all2 (by rw [List.length_map, hqw.hc]; rfl)))) (Wd.u rfl) rfl (fun H24_3 r24_3 => ?_)
            obtain ⟨vc, hs24_3⟩ := r24_3
            replace hs24_3 := hs24_3.md1
            replace mx := mx.upL hs24_3 (DFL.cons df173 DFL.nil)
            replace hl := hl.upL hs24_3 (DFL.cons df174 DFL.nil)
            replace hs1 := hs1.upL hs24_3 (DFL.cons df175 DFL.nil)
            replace hs2 := hs2.upL hs24_3 (DFL.cons df176 DFL.nil)
            replace vi := vi.upL hs24_3 (DL.cons dj177 DL.nil)
            replace ow := ow.upL hs24_3 (DL.cons dj178 DL.nil)
            replace oq := oq.upL hs24_3 (DL.cons dj179 DL.nil)
            replace vx := vx.upL hs24_3 (DL.cons dj180 DL.nil)
            replace hm0 := (Mo.trL (ks := []) (hm0.mdn []) hs24_3 (MIL.cons (MI.app MI.z (nx181) (Nat.le_refl _)) MIL.nil)).nil
            replace hlm1 := hlm1.trL hs24_3 (MIL.cons (MI.app MI.z (nx182) (Nat.le_refl _)) MIL.nil)
            have hz40 := hs24_3.size
            refine LR.nil ?_
            refine hK66 _ _ ?_
            refine CW.seq (fun K67 hK67 hE67 => ?_)
            refine CW.region ?_
            refine LR.v (Y.loadN vx.pt rfl Tryd.isAgg26 Tryd.sizeOf26 (fQ_len _) rfl) (Wd.u rfl) rfl rfl ?_
            -- call selvage/seq.Skip
            refine LR.call rfl Tryd.call16 rfl (Wd.u rfl) rfl rfl (skip_ct q mx_ w0 _ mx (bf_mx.mono hm0.size) oq.rd.any hqw) (fun v108 H108 r108 => ?_)
            have ql183 := vi.lt
            have ql184 := ow.le
            have ql185 := oq.le
            have ql186 := vx.lt
            have ql187 := vc.lt
            obtain ⟨s108, k108, rfl, oq, hk108, hs108⟩ := r108
            have df188 := DF.app (DF.z) (bf_mx.mono hm0.size) hk108
            have df189 := DF.app (DF.z) (bf_hl.mono hm0.size) hk108
            have df190 := DF.app (DF.z) (bf_hs1.mono hm0.size) hk108
            have df191 := DF.app (DF.z) (bf_hs2.mono hm0.size) hk108
            have dj192 : Dj (H4.size + 1) k108 := Dj.app (Dj.z) ql183 hk108
            have dj193 : Dj kg k108 := Dj.app (Dj.z) ql184 hk108
            have dj194 : Dj kq k108 := Dj.app (Dj.z) ql185 hk108
            have dj195 : Dj (H0.size + 1) k108 := Dj.app (Dj.z) ql186 hk108
            have dj196 : Dj (Hcutr23.size + 1) k108 := Dj.app (Dj.z) ql187 hk108
            have nx197 : Nx 0 H0.size k108 := Nx.tr (Nx.refl 0 _) hk108 hm0.size
            have nx198 : Nx 0 H4_1.size k108 := Nx.tr (Nx.refl 0 _) hk108 hlm1.size
            replace mx := mx.nw hs108
            replace hl := hl.nw hs108
            replace hs1 := hs1.nw hs108
            replace hs2 := hs2.nw hs108
            replace vi := vi.nw hs108
            replace ow := ow.nw hs108
            replace vx := vx.nw hs108
            replace vc := vc.nw hs108
            replace hm0 := hm0.tr hs108
            replace hlm1 := hlm1.trN hs108
            have hz41 := hs108.size
            have hle_oq := oq.le
            obtain ⟨q1, hq1⟩ : ∃ y : Sq, y = didF q q.cu false s108 := ⟨_, rfl⟩
            rw [← hq1] at oq ⊢
            have hw1q : SqW q1 := by rw [hq1]; exact did_w hqw hqw.hc _ _
            refine LR.s (S.var vx (_) (fQ q1) rfl rfl rfl rfl (fQ_one q1) Tryd.sizeOf26 (fQ_len _) (by first | decide | simp [fQ_len]) ((splice_all2 (by first | exact (fQ_len _).symm | exact (fQ_len _).trans (fQ_len _).symm)))) (Wd.u rfl) rfl (fun H25_2 r25_2 => ?_)
            obtain ⟨vx, hs25_2⟩ := r25_2
            replace hs25_2 := hs25_2.md1
            replace mx := mx.upL hs25_2 (DFL.cons df1 DFL.nil)
            replace hl := hl.upL hs25_2 (DFL.cons df2 DFL.nil)
            replace hs1 := hs1.upL hs25_2 (DFL.cons df3 DFL.nil)
            replace hs2 := hs2.upL hs25_2 (DFL.cons df4 DFL.nil)
            replace vi := vi.upL hs25_2 (DL.cons dj10.symm DL.nil)
            replace ow := ow.upL hs25_2 (DL.cons dj16.symm DL.nil)
            replace oq := oq.upL hs25_2 (DL.cons dj195.symm DL.nil)
            replace vc := vc.upL hs25_2 (DL.cons dj180.symm DL.nil)
            replace hm0 := (Mo.trL (ks := []) (hm0.mdn []) hs25_2 (MIL.cons (MI.app MI.z (nx5) (Nat.le_refl _)) MIL.nil)).nil
            replace hlm1 := hlm1.trL hs25_2 (MIL.cons (MI.app (MI.root (by simp)) (nx_hlm1_vx) (Nat.le_refl _)) MIL.nil)
            have hz42 := hs25_2.size
            refine LR.nil ?_
            refine hK67 _ _ ?_
            refine CW.seq (fun K68 hK68 hE68 => ?_)
            refine CW.region ?_
            refine LR.v (Y.move rfl rfl) (Wd.u rfl) rfl rfl ?_
            refine LR.v (Y.addi rfl rfl rfl (by omega)) (Wd.u rfl) rfl rfl ?_
            refine LR.v (Y.move rfl rfl) (Wd.u rfl) rfl rfl ?_
            refine LR.v (Y.len ow.rd rfl Tryd.runUnderlying24 rfl) (Wd.u rfl) rfl rfl ?_
            refine LR.v (Y.lss rfl rfl rfl) (Wd.u rfl) rfl rfl ?_
            refine LR.v (Y.move rfl rfl) (Wd.u rfl) rfl rfl ?_
            refine LR.splitp (d := 114) rfl (fun g114 => ?_) (fun g114 => ?_)
            ·
              refine LR.v (Y.fieldAddr vx.pt rfl Tryd.runUnderlying26 rfl rfl Tryd.sizeOf23 (by decide) rfl) (Wd.g rfl rfl rfl) rfl rfl ?_
              refine LR.v (Y.cast (v2 := idV q1.cu) (Y.loadN ((vx.pt.drop 34).take 32) rfl Tryd.isAgg23 Tryd.sizeOf23 (by simp [fQ_len]) rfl) (congrArg (fun z : List Value => Value.agg z.toArray) ((fQ_cu _).trans (kc_eq hw1q.hc)))) (Wd.g rfl rfl rfl) rfl rfl ?_
              refine LR.v (Y.cast (v2 := idV q.cu) (Y.loadN vc.pt rfl Tryd.isAgg23 Tryd.sizeOf23 (by simp [hqw.hc]) rfl) (rfl)) (Wd.g rfl rfl rfl) rfl rfl ?_
              refine LR.v ((Y.aneq rfl Tryd.eqGuardType23 (fun w => run_equalIn_id 9998 Tryd.underlying23 Tryd.underlying5 Tryd.sizeOf5 Tryd.isAgg5 (hw1q.hc) (hqw.hc) w) rfl rfl).isF ((fun h => h (did_cu hG hqd hqt hq1 (by omega))))) (Wd.g rfl rfl rfl) rfl rfl ?_
              refine LR.v (Y.pick_t rfl rfl rfl) (Wd.u rfl) rfl rfl ?_
              refine LR.nil ?_
              refine hK68 _ _ ?_
              refine CW.cond_f rfl ?_
              refine CW.skip ?_
              refine hK64 _ _ ?_
              refine CW.region ?_
              refine LR.v (Y.move rfl rfl) (Wd.u rfl) rfl rfl ?_
              refine LR.v (Y.addi rfl rfl rfl (by omega)) (Wd.u rfl) rfl rfl ?_
              refine LR.v (Y.assign rfl rfl) (Wd.u rfl) rfl rfl ?_
              refine LR.nil ?_
              refine hK16 _ _ ?_
              refine hK15 _ _ ?_
              refine CW.region ?_
              refine LR.v (Y.move rfl rfl) (Wd.u rfl) rfl rfl ?_
              refine LR.v (Y.addi rfl rfl rfl (by omega)) (Wd.u rfl) rfl rfl ?_
              refine LR.v (Y.assign rfl rfl) (Wd.u rfl) rfl rfl ?_
              refine LR.nil ?_
              have e1 := stB_f (did_st hq1)
              refine QN.sub (hN12 (q1, k108, a + 1, m, i + 1) _ ?_ ?_) ⟨rfl, rfl, rfl, rfl, rfl, (iv (by omega)), (iv (by omega)), (iv (by omega)), trivial⟩
              · exact ⟨vx, oq, (EI.did hal hG hqd hqm hqt hqw.hc hG.cu hq1 (by rfl)), (by omega), (Nx.z (nx198)), dj195, hlm1⟩
              · first | omega | (simp only; omega) | (simp; omega)
            ·
              refine LR.gs rfl rfl rfl rfl rfl rfl ?_
              refine LR.gs rfl rfl rfl rfl rfl rfl ?_
              refine LR.gs rfl rfl rfl rfl rfl rfl ?_
              refine LR.gs rfl rfl rfl rfl rfl rfl ?_
              refine LR.v (Y.pick_f rfl rfl rfl) (Wd.u rfl) rfl rfl ?_
              refine LR.nil ?_
              refine hK68 _ _ ?_
              refine CW.cond_f rfl ?_
              refine CW.skip ?_
              refine hK64 _ _ ?_
              refine CW.region ?_
              refine LR.v (Y.move rfl rfl) (Wd.u rfl) rfl rfl ?_
              refine LR.v (Y.addi rfl rfl rfl (by omega)) (Wd.u rfl) rfl rfl ?_
              refine LR.v (Y.assign rfl rfl) (Wd.u rfl) rfl rfl ?_
              refine LR.nil ?_
              refine hK16 _ _ ?_
              refine hK15 _ _ ?_
              refine CW.region ?_
              refine LR.v (Y.move rfl rfl) (Wd.u rfl) rfl rfl ?_
              refine LR.v (Y.addi rfl rfl rfl (by omega)) (Wd.u rfl) rfl rfl ?_
              refine LR.v (Y.assign rfl rfl) (Wd.u rfl) rfl rfl ?_
              refine LR.nil ?_
              have e1 := stB_f (did_st hq1)
              refine QN.sub (hN12 (q1, k108, a + 1, m, i + 1) _ ?_ ?_) ⟨rfl, rfl, rfl, rfl, rfl, (iv (by omega)), (iv (by omega)), (iv (by omega)), trivial⟩
              · exact ⟨vx, oq, (EI.did hal hG hqd hqm hqt hqw.hc hG.cu hq1 (by rfl)), (by omega), (Nx.z (nx198)), dj195, hlm1⟩
              · first | omega | (simp only; omega) | (simp; omega)
          ·
            refine CW.seq (fun K69 hK69 hE69 => ?_)
            refine CW.region ?_
            refine LR.v (Y.loadN vx.pt rfl Tryd.isAgg26 Tryd.sizeOf26 (fQ_len _) rfl) (Wd.u rfl) rfl rfl ?_
            refine LR.v (Y.cast (v2 := idV cc) (Y.loadN vi.pt rfl Tryd.isAgg23 Tryd.sizeOf23 (by simp [hcc]) rfl) (rfl)) (Wd.u rfl) rfl rfl ?_
            refine LR.v (Y.move rfl rfl) (Wd.u rfl) rfl rfl ?_
            refine LR.v (Y.remi rfl rfl rfl (by omega)) (Wd.u rfl) rfl rfl ?_
            refine LR.v (Y.eql rfl rfl rfl) (Wd.u rfl) rfl rfl ?_
            -- call selvage/seq.Did
            refine LR.call rfl Tryd.call12 rfl (Wd.u rfl) rfl rfl (did_ct q cc (decide ((i : Int) % 2 = 0)) mx_ w0 _ mx (bf_mx.mono hm0.size) oq.rd.any hqw hcc) (fun v125 H125 r125 => ?_)
            have ql199 := vi.lt
            have ql200 := ow.le
            have ql201 := oq.le
            have ql202 := vx.lt
            obtain ⟨s125, k125, rfl, oq, hk125, hs125⟩ := r125
            have df203 := DF.app (DF.z) (bf_mx.mono hm0.size) hk125
            have df204 := DF.app (DF.z) (bf_hl.mono hm0.size) hk125
            have df205 := DF.app (DF.z) (bf_hs1.mono hm0.size) hk125
            have df206 := DF.app (DF.z) (bf_hs2.mono hm0.size) hk125
            have dj207 : Dj (H4.size + 1) k125 := Dj.app (Dj.z) ql199 hk125
            have dj208 : Dj kg k125 := Dj.app (Dj.z) ql200 hk125
            have dj209 : Dj kq k125 := Dj.app (Dj.z) ql201 hk125
            have dj210 : Dj (H0.size + 1) k125 := Dj.app (Dj.z) ql202 hk125
            have nx211 : Nx 0 H0.size k125 := Nx.tr (Nx.refl 0 _) hk125 hm0.size
            have nx212 : Nx 0 H4_1.size k125 := Nx.tr (Nx.refl 0 _) hk125 hlm1.size
            replace mx := mx.nw hs125
            replace hl := hl.nw hs125
            replace hs1 := hs1.nw hs125
            replace hs2 := hs2.nw hs125
            replace vi := vi.nw hs125
            replace ow := ow.nw hs125
            replace vx := vx.nw hs125
            replace hm0 := hm0.tr hs125
            replace hlm1 := hlm1.trN hs125
            have hz43 := hs125.size
            have hle_oq := oq.le
            obtain ⟨q1, hq1⟩ : ∃ y : Sq, y = didF q cc (decide ((i : Int) % 2 = 0)) s125 := ⟨_, rfl⟩
            rw [← hq1] at oq ⊢
            have hw1q : SqW q1 := by rw [hq1]; exact did_w hqw hcc _ _
            refine LR.s (S.var vx (_) (fQ q1) rfl rfl rfl rfl (fQ_one q1) Tryd.sizeOf26 (fQ_len _) (by first | decide | simp [fQ_len]) ((splice_all2 (by first | exact (fQ_len _).symm | exact (fQ_len _).trans (fQ_len _).symm)))) (Wd.u rfl) rfl (fun H28_6 r28_6 => ?_)
            obtain ⟨vx, hs28_6⟩ := r28_6
            replace hs28_6 := hs28_6.md1
            replace mx := mx.upL hs28_6 (DFL.cons df1 DFL.nil)
            replace hl := hl.upL hs28_6 (DFL.cons df2 DFL.nil)
            replace hs1 := hs1.upL hs28_6 (DFL.cons df3 DFL.nil)
            replace hs2 := hs2.upL hs28_6 (DFL.cons df4 DFL.nil)
            replace vi := vi.upL hs28_6 (DL.cons dj10.symm DL.nil)
            replace ow := ow.upL hs28_6 (DL.cons dj16.symm DL.nil)
            replace oq := oq.upL hs28_6 (DL.cons dj210.symm DL.nil)
            replace hm0 := (Mo.trL (ks := []) (hm0.mdn []) hs28_6 (MIL.cons (MI.app MI.z (nx5) (Nat.le_refl _)) MIL.nil)).nil
            replace hlm1 := hlm1.trL hs28_6 (MIL.cons (MI.app (MI.root (by simp)) (nx_hlm1_vx) (Nat.le_refl _)) MIL.nil)
            have hz44 := hs28_6.size
            refine LR.nil ?_
            refine hK69 _ _ ?_
            refine CW.seq (fun K70 hK70 hE70 => ?_)
            refine CW.seq (fun K71 hK71 hE71 => ?_)
            refine CW.region ?_
            refine LR.v (Y.move rfl rfl) (Wd.u rfl) rfl rfl ?_
            refine LR.v (Y.remi rfl rfl rfl (by omega)) (Wd.u rfl) rfl rfl ?_
            refine LR.v (Y.eql rfl rfl rfl) (Wd.u rfl) rfl rfl ?_
            refine LR.nil ?_
            refine hK71 _ _ ?_
            refine CW.condp rfl (fun c128 => ?_) (fun c128 => ?_)
            ·
              refine CW.region ?_
              refine LR.v (Y.move rfl rfl) (Wd.u rfl) rfl rfl ?_
              refine LR.v (Y.addi rfl rfl rfl (by omega)) (Wd.u rfl) rfl rfl ?_
              refine LR.v (Y.assign rfl rfl) (Wd.u rfl) rfl rfl ?_
              refine LR.nil ?_
              refine hK70 _ _ ?_
              refine CW.seq (fun K72 hK72 hE72 => ?_)
              refine CW.region ?_
              refine LR.v (Y.move rfl rfl) (Wd.u rfl) rfl rfl ?_
              refine LR.v (Y.addi rfl rfl rfl (by omega)) (Wd.u rfl) rfl rfl ?_
              refine LR.v (Y.move rfl rfl) (Wd.u rfl) rfl rfl ?_
              refine LR.v (Y.len ow.rd rfl Tryd.runUnderlying24 rfl) (Wd.u rfl) rfl rfl ?_
              refine LR.v (Y.lss rfl rfl rfl) (Wd.u rfl) rfl rfl ?_
              refine LR.v (Y.move rfl rfl) (Wd.u rfl) rfl rfl ?_
              refine LR.splitp (d := 136) rfl (fun g136 => ?_) (fun g136 => ?_)
              ·
                refine LR.v (Y.fieldAddr vx.pt rfl Tryd.runUnderlying26 rfl rfl Tryd.sizeOf23 (by decide) rfl) (Wd.g rfl rfl rfl) rfl rfl ?_
                refine LR.v (Y.cast (v2 := idV q1.cu) (Y.loadN ((vx.pt.drop 34).take 32) rfl Tryd.isAgg23 Tryd.sizeOf23 (by simp [fQ_len]) rfl) (congrArg (fun z : List Value => Value.agg z.toArray) ((fQ_cu _).trans (kc_eq hw1q.hc)))) (Wd.g rfl rfl rfl) rfl rfl ?_
                refine LR.v (Y.cast (v2 := idV cc) (Y.loadN vi.pt rfl Tryd.isAgg23 Tryd.sizeOf23 (by simp [hcc]) rfl) (rfl)) (Wd.g rfl rfl rfl) rfl rfl ?_
                refine LR.v ((Y.aneq rfl Tryd.eqGuardType23 (fun w => run_equalIn_id 9998 Tryd.underlying23 Tryd.underlying5 Tryd.sizeOf5 Tryd.isAgg5 (hw1q.hc) (hcc) w) rfl rfl).isF ((fun h => h (did_cu hG hqd hqt hq1 (by omega))))) (Wd.g rfl rfl rfl) rfl rfl ?_
                refine LR.v (Y.move rfl rfl) (Wd.g rfl rfl rfl) rfl rfl ?_
                refine LR.v (Y.fieldAddr vx.pt rfl Tryd.runUnderlying26 rfl rfl Tryd.sizeOf4 (by decide) rfl) (Wd.g rfl rfl rfl) rfl rfl ?_
                refine LR.v (Y.cast (v2 := .bool false) (Y.load1 (vx.pt.q67.drop 2) rfl Tryd.isAgg4 rfl) (congrArg Value.bool (did_st hq1))) (Wd.g rfl rfl rfl) rfl rfl ?_
                refine LR.v (Y.pick_f rfl rfl rfl) (Wd.g rfl rfl rfl) rfl rfl ?_
                refine LR.v (Y.pick_t rfl rfl rfl) (Wd.u rfl) rfl rfl ?_
                refine LR.nil ?_
                refine hK72 _ _ ?_
                refine CW.cond_f rfl ?_
                refine CW.skip ?_
                refine hK64 _ _ ?_
                refine CW.region ?_
                refine LR.v (Y.move rfl rfl) (Wd.u rfl) rfl rfl ?_
                refine LR.v (Y.addi rfl rfl rfl (by omega)) (Wd.u rfl) rfl rfl ?_
                refine LR.v (Y.assign rfl rfl) (Wd.u rfl) rfl rfl ?_
                refine LR.nil ?_
                refine hK16 _ _ ?_
                refine hK15 _ _ ?_
                refine CW.region ?_
                refine LR.v (Y.move rfl rfl) (Wd.u rfl) rfl rfl ?_
                refine LR.v (Y.addi rfl rfl rfl (by omega)) (Wd.u rfl) rfl rfl ?_
                refine LR.v (Y.assign rfl rfl) (Wd.u rfl) rfl rfl ?_
                refine LR.nil ?_
                have e1 := stB_f (did_st hq1)
                refine QN.sub (hN12 (q1, k125, a + 1, m + 1, i + 1) _ ?_ ?_) ⟨rfl, rfl, rfl, rfl, rfl, (iv (by omega)), (iv (by omega)), (iv (by omega)), trivial⟩
                · exact ⟨vx, oq, (EI.did hal hG hqd hqm hqt hcc hcz hq1 (by simp; omega)), (by omega), (Nx.z (nx212)), dj210, hlm1⟩
                · first | omega | (simp only; omega) | (simp; omega)
              ·
                refine LR.gs rfl rfl rfl rfl rfl rfl ?_
                refine LR.gs rfl rfl rfl rfl rfl rfl ?_
                refine LR.gs rfl rfl rfl rfl rfl rfl ?_
                refine LR.gs rfl rfl rfl rfl rfl rfl ?_
                refine LR.gs rfl rfl rfl rfl rfl rfl ?_
                refine LR.gsu rfl rfl rfl rfl rfl ?_
                refine LR.gsu rfl rfl rfl rfl rfl ?_
                refine LR.gs rfl rfl rfl rfl rfl rfl ?_
                refine LR.v (Y.pick_f rfl rfl rfl) (Wd.u rfl) rfl rfl ?_
                refine LR.nil ?_
                refine hK72 _ _ ?_
                refine CW.cond_f rfl ?_
                refine CW.skip ?_
                refine hK64 _ _ ?_
                refine CW.region ?_
                refine LR.v (Y.move rfl rfl) (Wd.u rfl) rfl rfl ?_
                refine LR.v (Y.addi rfl rfl rfl (by omega)) (Wd.u rfl) rfl rfl ?_
                refine LR.v (Y.assign rfl rfl) (Wd.u rfl) rfl rfl ?_
                refine LR.nil ?_
                refine hK16 _ _ ?_
                refine hK15 _ _ ?_
                refine CW.region ?_
                refine LR.v (Y.move rfl rfl) (Wd.u rfl) rfl rfl ?_
                refine LR.v (Y.addi rfl rfl rfl (by omega)) (Wd.u rfl) rfl rfl ?_
                refine LR.v (Y.assign rfl rfl) (Wd.u rfl) rfl rfl ?_
                refine LR.nil ?_
                have e1 := stB_f (did_st hq1)
                refine QN.sub (hN12 (q1, k125, a + 1, m + 1, i + 1) _ ?_ ?_) ⟨rfl, rfl, rfl, rfl, rfl, (iv (by omega)), (iv (by omega)), (iv (by omega)), trivial⟩
                · exact ⟨vx, oq, (EI.did hal hG hqd hqm hqt hcc hcz hq1 (by simp; omega)), (by omega), (Nx.z (nx212)), dj210, hlm1⟩
                · first | omega | (simp only; omega) | (simp; omega)
            ·
              refine CW.skip ?_
              refine hK70 _ _ ?_
              refine CW.seq (fun K73 hK73 hE73 => ?_)
              refine CW.region ?_
              refine LR.v (Y.move rfl rfl) (Wd.u rfl) rfl rfl ?_
              refine LR.v (Y.addi rfl rfl rfl (by omega)) (Wd.u rfl) rfl rfl ?_
              refine LR.v (Y.move rfl rfl) (Wd.u rfl) rfl rfl ?_
              refine LR.v (Y.len ow.rd rfl Tryd.runUnderlying24 rfl) (Wd.u rfl) rfl rfl ?_
              refine LR.v (Y.lss rfl rfl rfl) (Wd.u rfl) rfl rfl ?_
              refine LR.v (Y.move rfl rfl) (Wd.u rfl) rfl rfl ?_
              refine LR.splitp (d := 136) rfl (fun g136 => ?_) (fun g136 => ?_)
              ·
                refine LR.v (Y.fieldAddr vx.pt rfl Tryd.runUnderlying26 rfl rfl Tryd.sizeOf23 (by decide) rfl) (Wd.g rfl rfl rfl) rfl rfl ?_
                refine LR.v (Y.cast (v2 := idV q1.cu) (Y.loadN ((vx.pt.drop 34).take 32) rfl Tryd.isAgg23 Tryd.sizeOf23 (by simp [fQ_len]) rfl) (congrArg (fun z : List Value => Value.agg z.toArray) ((fQ_cu _).trans (kc_eq hw1q.hc)))) (Wd.g rfl rfl rfl) rfl rfl ?_
                refine LR.v (Y.cast (v2 := idV cc) (Y.loadN vi.pt rfl Tryd.isAgg23 Tryd.sizeOf23 (by simp [hcc]) rfl) (rfl)) (Wd.g rfl rfl rfl) rfl rfl ?_
                refine LR.v ((Y.aneq rfl Tryd.eqGuardType23 (fun w => run_equalIn_id 9998 Tryd.underlying23 Tryd.underlying5 Tryd.sizeOf5 Tryd.isAgg5 (hw1q.hc) (hcc) w) rfl rfl).isF ((fun h => h (did_cu hG hqd hqt hq1 (by omega))))) (Wd.g rfl rfl rfl) rfl rfl ?_
                refine LR.v (Y.move rfl rfl) (Wd.g rfl rfl rfl) rfl rfl ?_
                refine LR.v (Y.fieldAddr vx.pt rfl Tryd.runUnderlying26 rfl rfl Tryd.sizeOf4 (by decide) rfl) (Wd.g rfl rfl rfl) rfl rfl ?_
                refine LR.v (Y.cast (v2 := .bool false) (Y.load1 (vx.pt.q67.drop 2) rfl Tryd.isAgg4 rfl) (congrArg Value.bool (did_st hq1))) (Wd.g rfl rfl rfl) rfl rfl ?_
                refine LR.v (Y.pick_f rfl rfl rfl) (Wd.g rfl rfl rfl) rfl rfl ?_
                refine LR.v (Y.pick_t rfl rfl rfl) (Wd.u rfl) rfl rfl ?_
                refine LR.nil ?_
                refine hK73 _ _ ?_
                refine CW.cond_f rfl ?_
                refine CW.skip ?_
                refine hK64 _ _ ?_
                refine CW.region ?_
                refine LR.v (Y.move rfl rfl) (Wd.u rfl) rfl rfl ?_
                refine LR.v (Y.addi rfl rfl rfl (by omega)) (Wd.u rfl) rfl rfl ?_
                refine LR.v (Y.assign rfl rfl) (Wd.u rfl) rfl rfl ?_
                refine LR.nil ?_
                refine hK16 _ _ ?_
                refine hK15 _ _ ?_
                refine CW.region ?_
                refine LR.v (Y.move rfl rfl) (Wd.u rfl) rfl rfl ?_
                refine LR.v (Y.addi rfl rfl rfl (by omega)) (Wd.u rfl) rfl rfl ?_
                refine LR.v (Y.assign rfl rfl) (Wd.u rfl) rfl rfl ?_
                refine LR.nil ?_
                have e1 := stB_f (did_st hq1)
                refine QN.sub (hN12 (q1, k125, a + 1, m, i + 1) _ ?_ ?_) ⟨rfl, rfl, rfl, rfl, rfl, (iv (by omega)), (iv (by omega)), (iv (by omega)), trivial⟩
                · exact ⟨vx, oq, (EI.did hal hG hqd hqm hqt hcc hcz hq1 (by simp; omega)), (by omega), (Nx.z (nx212)), dj210, hlm1⟩
                · first | omega | (simp only; omega) | (simp; omega)
              ·
                refine LR.gs rfl rfl rfl rfl rfl rfl ?_
                refine LR.gs rfl rfl rfl rfl rfl rfl ?_
                refine LR.gs rfl rfl rfl rfl rfl rfl ?_
                refine LR.gs rfl rfl rfl rfl rfl rfl ?_
                refine LR.gs rfl rfl rfl rfl rfl rfl ?_
                refine LR.gsu rfl rfl rfl rfl rfl ?_
                refine LR.gsu rfl rfl rfl rfl rfl ?_
                refine LR.gs rfl rfl rfl rfl rfl rfl ?_
                refine LR.v (Y.pick_f rfl rfl rfl) (Wd.u rfl) rfl rfl ?_
                refine LR.nil ?_
                refine hK73 _ _ ?_
                refine CW.cond_f rfl ?_
                refine CW.skip ?_
                refine hK64 _ _ ?_
                refine CW.region ?_
                refine LR.v (Y.move rfl rfl) (Wd.u rfl) rfl rfl ?_
                refine LR.v (Y.addi rfl rfl rfl (by omega)) (Wd.u rfl) rfl rfl ?_
                refine LR.v (Y.assign rfl rfl) (Wd.u rfl) rfl rfl ?_
                refine LR.nil ?_
                refine hK16 _ _ ?_
                refine hK15 _ _ ?_
                refine CW.region ?_
                refine LR.v (Y.move rfl rfl) (Wd.u rfl) rfl rfl ?_
                refine LR.v (Y.addi rfl rfl rfl (by omega)) (Wd.u rfl) rfl rfl ?_
                refine LR.v (Y.assign rfl rfl) (Wd.u rfl) rfl rfl ?_
                refine LR.nil ?_
                have e1 := stB_f (did_st hq1)
                refine QN.sub (hN12 (q1, k125, a + 1, m, i + 1) _ ?_ ?_) ⟨rfl, rfl, rfl, rfl, rfl, (iv (by omega)), (iv (by omega)), (iv (by omega)), trivial⟩
                · exact ⟨vx, oq, (EI.did hal hG hqd hqm hqt hcc hcz hq1 (by simp; omega)), (by omega), (Nx.z (nx212)), dj210, hlm1⟩
                · first | omega | (simp only; omega) | (simp; omega)
  ·
    have hqz := hI.fin (by omega)
    refine CW.exit (hE13 (.exit 0) nofun _ _ (hE12 (.exit 0) nofun _ _ (hX11 _ _ ?_)))
    refine hK9 _ _ ?_
    refine CW.seq (fun K74 hK74 hE74 => ?_)
    refine CW.region ?_
    refine LR.v (Y.loadN vx.pt rfl Tryd.isAgg26 Tryd.sizeOf26 (fQ_len _) rfl) (Wd.u rfl) rfl rfl ?_
    -- call selvage/seq.Next
    refine LR.call rfl Tryd.call6 rfl (Wd.u rfl) rfl rfl (next_ct q mx_ w0 _ mx (bf_mx.mono hm0.size) oq.rd.any hqw) (fun v150 H150 r150 => ?_)
    obtain ⟨rfl, hs150⟩ := r150
    replace mx := mx.nw hs150
    replace hl := hl.nw hs150
    replace hs1 := hs1.nw hs150
    replace hs2 := hs2.nw hs150
    replace vi := vi.nw hs150
    replace ow := ow.nw hs150
    replace oq := oq.nw hs150
    replace vx := vx.nw hs150
    replace hm0 := hm0.tr hs150
    have hz45 := hs150.size
    rw [show (nextF q).2 = false from by rw [hqz, next_no (by decide +kernel)]]
    refine LR.v (Y.move rfl rfl) (Wd.u rfl) rfl rfl ?_
    refine LR.v (Y.extract rfl rfl rfl) (Wd.u rfl) rfl rfl ?_
    refine LR.v (Y.extract rfl rfl rfl) (Wd.u rfl) rfl rfl ?_
    refine LR.z (Z.allocv rfl Tryd.zeroValue29) (Wd.u rfl) rfl rfl (fun v17 H17 r17 => ?_)
    obtain ⟨rfl, vz, hs17, ob17, hH17⟩ := r17
    have hzs17 : H17.size = H150.size + 1 := by rw [hH17]; simp
    have df213 := (DF.new (bf_mx.mono hm0.size) : DF _ (H150.size + 1))
    have df214 := (DF.new (bf_hl.mono hm0.size) : DF _ (H150.size + 1))
    have df215 := (DF.new (bf_hs1.mono hm0.size) : DF _ (H150.size + 1))
    have df216 := (DF.new (bf_hs2.mono hm0.size) : DF _ (H150.size + 1))
    have dj217 : Dj (H4.size + 1) (H150.size + 1) := Dj.new vi.lt
    have dj218 : Dj kg (H150.size + 1) := Dj.new ow.le
    have dj219 : Dj kq (H150.size + 1) := Dj.new oq.le
    have dj220 : Dj (H0.size + 1) (H150.size + 1) := Dj.new vx.lt
    have nx221 : Nx 0 H0.size (H150.size + 1) := Nx.new hm0.size
    replace mx := mx.nw hs17
    replace hl := hl.nw hs17
    replace hs1 := hs1.nw hs17
    replace hs2 := hs2.nw hs17
    replace vi := vi.nw hs17
    replace ow := ow.nw hs17
    replace oq := oq.nw hs17
    replace vx := vx.nw hs17
    replace hm0 := hm0.tr hs17
    have hz46 := hs17.size
    refine LR.s (S.var vz (_) (fT (nextF q).1) rfl rfl rfl rfl (fT_one (nextF q).1) Tryd.sizeOf29 (fT_len _) (by first | decide | simp [fT_len]) ((splice_all2 (by first | exact (fT_len _).symm | exact (fT_len _).trans (fT_len _).symm)))) (Wd.u rfl) rfl (fun H34_6 r34_6 => ?_)
    obtain ⟨vz, hs34_6⟩ := r34_6
    replace hs34_6 := hs34_6.md1
    replace mx := mx.upL hs34_6 (DFL.cons df213 DFL.nil)
    replace hl := hl.upL hs34_6 (DFL.cons df214 DFL.nil)
    replace hs1 := hs1.upL hs34_6 (DFL.cons df215 DFL.nil)
    replace hs2 := hs2.upL hs34_6 (DFL.cons df216 DFL.nil)
    replace vi := vi.upL hs34_6 (DL.cons dj217 DL.nil)
    replace ow := ow.upL hs34_6 (DL.cons dj218 DL.nil)
    replace oq := oq.upL hs34_6 (DL.cons dj219 DL.nil)
    replace vx := vx.upL hs34_6 (DL.cons dj220 DL.nil)
    replace hm0 := (Mo.trL (ks := []) (hm0.mdn []) hs34_6 (MIL.cons (MI.app MI.z (nx221) (Nat.le_refl _)) MIL.nil)).nil
    have hz47 := hs34_6.size
    refine LR.v (Y.assign rfl rfl) (Wd.u rfl) rfl rfl ?_
    refine LR.nil ?_
    refine hK74 _ _ ?_
    refine CW.seq (fun K75 hK75 hE75 => ?_)
    refine CW.region ?_
    refine LR.v (Y.move rfl rfl) (Wd.u rfl) rfl rfl ?_
    refine LR.v (Y.not rfl rfl) (Wd.u rfl) rfl rfl ?_
    refine LR.v (Y.move rfl rfl) (Wd.u rfl) rfl rfl ?_
    refine LR.v (Y.loadN vx.pt rfl Tryd.isAgg26 Tryd.sizeOf26 (fQ_len _) rfl) (Wd.g rfl rfl rfl) rfl rfl ?_
    refine LR.v (Y.build (v := qv zQ) rfl rfl (by intro w; kernel_rfl)) (Wd.g rfl rfl rfl) rfl rfl ?_
    -- call selvage/seq.Same
    refine LR.call rfl Tryd.call10 rfl (Wd.g rfl rfl rfl) rfl rfl (same_ct q zQ w0 _ oq.rd.any (Rd.nil _ _ _ _) hqw zW) (fun v158 H158 r158 => ?_)
    obtain ⟨rfl, hs158⟩ := r158
    replace mx := mx.nw hs158
    replace hl := hl.nw hs158
    replace hs1 := hs1.nw hs158
    replace hs2 := hs2.nw hs158
    replace ow := ow.nw hs158
    replace oq := oq.nw hs158
    replace vx := vx.nw hs158
    replace hm0 := hm0.tr hs158
    have hz48 := hs158.size
    rw [show sameB q zQ = true from by rw [hqz]; simp [sameB, SqSame]]
    refine LR.v (Y.pick_t rfl rfl rfl) (Wd.u rfl) rfl rfl ?_
    refine LR.v (Y.assign rfl rfl) (Wd.u rfl) rfl rfl ?_
    refine LR.nil ?_
    refine hK75 _ _ ?_
    refine CW.ret (hret .ret (.inr rfl) _ _ _ (res1 rfl rfl) ?_)
    exact ⟨rfl, hm0⟩

end Go.Proofs.YtabopjdbgkhacaaDoor.SeqP
