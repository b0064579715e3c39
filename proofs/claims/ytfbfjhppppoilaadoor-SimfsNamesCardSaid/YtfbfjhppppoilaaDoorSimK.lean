/-
  The keys of a map, collected into a row of one's own, and sorted.
-/
import Derived.RangeFuncLeaves
import Derived.RangeFuncRecord
import Derived.RangeFuncSeq
import Derived.Test.YtfbfjhppppoilaaDoorSimJ
namespace Go.Proofs.YtfbfjhppppoilaaDoor.SimK
open Go.Proofs.YtfbfjhppppoilaaDoor.E Go.RowKit Go.Proofs.YtfbfjhppppoilaaDoor.SimA Go.Proofs.YtfbfjhppppoilaaDoor.SimB Go.Proofs.YtfbfjhppppoilaaDoor.SimC Go.Proofs.YtfbfjhppppoilaaDoor.SimD Go.Proofs.YtfbfjhppppoilaaDoor.SimE Go.Proofs.YtfbfjhppppoilaaDoor.SimF Go.Proofs.YtfbfjhppppoilaaDoor.SimG Go.Proofs.YtfbfjhppppoilaaDoor.SimH Go.Proofs.YtfbfjhppppoilaaDoor.SimI Go.Proofs.YtfbfjhppppoilaaDoor.SimJ
set_option maxRecDepth 20000
set_option linter.unusedVariables false
set_option linter.unusedSimpArgs false
set_option linter.unusedSectionVars false
set_option maxRecDepth 100000 in
theorem inf42 : Inf Tryd.prog 42 9 1 16 := ⟨Tryd.underlying42, _, _, rfl, rfl, rfl, rfl, rfl⟩

def rfOf : Code → Code
  | .seq _ (.seq (.seq _ (.block _ c)) _) => c
  | _ => .skip
def asOf : Code → Code
  | .rangeFunc _ _ c _ => c
  | _ => .skip
def boOf : Code → Code
  | .rangeFunc _ _ _ c => c
  | _ => .skip
/-- the loop's record -/
structure ApR (r : Loop) (Bs : Nat) : Prop where
  st : r.state = .ready
  pe : r.pending = none
  ps : r.params = #[7]
  A : r.assign = asOf (rfOf (Tryd.f78.body.getD .skip))
  B : r.body = boOf (rfOf (Tryd.f78.body.getD .skip))
  fr : Fr Tryd.f78.ntmps [(2, .pointer (some ⟨Bs, 0, none⟩))] { tmps := r.tmps, defers := [] }
theorem ap_round (r : Loop) (Bs lp kr : Nat) (vr : Value) (ss : List Pth) (x : Pth) (w0 : World) (H : Heap) (hr : ApR r Bs) (hl : Lpr H lp r) (hB : Var 42 H Bs [vr]) (ho : Ow kr 9 H fS 1 vr ss) (d1 : Dj (lp + 1) (Bs + 1)) (d2 : Dj (lp + 1) kr) (d3 : Dj (Bs + 1) kr) (hlen : ss.length ≤ 1099511627776) :
    YCt Tryd.prog w0 lp [Str x] H (fun r' H2 => ∃ vr2 : Value, ∃ kr2 : Nat, r' = .bool true ∧ Lpr H2 lp r ∧ Var 42 H2 Bs [vr2] ∧ Ow kr2 9 H2 fS 1 vr2 (ss ++ [x]) ∧ Nx kr H.size kr2 ∧ Mo (Ms [lp + 1, Bs + 1, kr]) H H2) := by
  have hf7 := hr.fr.put (d := 7) rfl (Str x)
  refine YCt.of hl hr.st hr.pe hr.ps (hr.A.trans rfl) (hr.B.trans rfl) hf7 ?_
  have hlB : lp ≠ Bs := d1.ne
  have hll := hl.lt; have hBl := hB.lt; have hol := ho.le
  have hm := Mo.refl (Ms [lp + 1, Bs + 1, kr]) H
  refine LRI.v (Y.assign rfl rfl) (by intro c e; cases e) (Wd.u rfl) rfl rfl ?_
  refine LRI.nil (fun a w hf ha => ⟨rfl, _, H, hf, ha, hl, ?_⟩)
  have hs7 : Mo (fun c => c = lp) H (H.setIfInBounds lp (.loop { r with state := .busy })) := mo_set _
  have hl7 : Lpr (H.setIfInBounds lp (.loop { r with state := .busy })) lp { r with state := .busy } := ⟨by simp [hl.lt]⟩
  obtain ⟨H7, hH7⟩ : ∃ H7, H7 = H.setIfInBounds lp (.loop { r with state := .busy }) := ⟨_, rfl⟩
  rw [← hH7] at hs7 hl7 ⊢
  have hs7' := hs7.md1
  replace hm := hm.trL hs7' (MIL.cons (MI.root (by simp)) MIL.nil)
  replace hB := hB.upL hs7' (DL.cons (Dj.of (Ne.symm hlB)) DL.nil)
  replace ho := ho.upL hs7' (DL.cons d2.symm DL.nil)
  have hz7 := hs7.size
  refine LRI.v (Y.load1 hB.pt rfl Tryd.isAgg42 rfl) (by intro c e; cases e) (Wd.u rfl) rfl rfl ?_
  refine LRI.v (Y.move rfl rfl) (by intro c e; cases e) (Wd.u rfl) rfl rfl ?_
  refine LRI.z (Z.litw _ ([x]) rfl inf42 rfl rfl rfl (by decide) (by decide) fS_len fS_one rfl) (by intro c e; cases e) (Wd.u rfl) rfl rfl (fun v10 H10 r10 => ?_)
  obtain ⟨ow10, hs10, ob10, hH10⟩ := r10
  have hz10 : H10.size = H7.size + 1 := by rw [hH10]; simp
  replace hm := hm.trN hs10
  replace hl7 := hl7.nw hs10; replace hB := hB.nw hs10; replace ho := ho.nw hs10
  have hd10 : Dj kr (H7.size + 1) := Dj.new (by omega)
  have hol10 := ho.le
  refine LRI.z (Z.apnd ho ow10.rd rfl inf42 rfl rfl (by simp; omega) (by simp; omega)) (by intro c e; cases e) (Wd.u rfl) rfl rfl (fun v11 H11 r11 => ?_)
  obtain ⟨k11, ow11, hk11, hs11⟩ := r11
  replace hk11 : Nx kr H10.size k11 := hk11
  have hs11' := hs11.md
  replace hm := hm.trL hs11' (MIL.cons (MI.root (by simp)) MIL.nil)
  replace hl7 := hl7.upL hs11' (DL.cons d2 DL.nil)
  replace hB := hB.upL hs11' (DL.cons d3 DL.nil)
  have hz11 := hs11.size
  have dB : Dj (Bs + 1) k11 := Dj.app d3 (by omega) hk11
  have dl : Dj (lp + 1) k11 := Dj.app d2 (by omega) hk11
  obtain ⟨s11, hs11v⟩ : ∃ s : SV, v11 = s.v := ⟨toSV v11, ow11.sv.symm⟩
  refine LRI.s (S.var1 hB 0 ([v11]) rfl rfl rfl (by rw [hs11v]; rfl) Tryd.sizeOf42 (by simp) rfl) (by intro c e; cases e) (Wd.u rfl) rfl (fun H12 r12 => ?_)
  obtain ⟨hB, hs12⟩ := r12
  have hs12' := hs12.md1
  replace hm := hm.trL hs12' (MIL.cons (MI.root (by simp)) MIL.nil)
  replace hl7 := hl7.upL hs12' (DL.cons d1 DL.nil)
  replace ow11 := ow11.upL hs12' (DL.cons dB.symm DL.nil)
  have hz12 := hs12.size
  refine LRI.nil (fun a w hf ha => ⟨rfl, H12, ha, hl7, v11, k11, rfl, ?_, ?_, ?_, ?_, ?_⟩)
  · exact ⟨by simp [hl7.lt]⟩
  · exact hB.upL (Mo.md1 (mo_set (r := lp) _)) (DL.cons (Dj.of (Ne.symm hlB)) DL.nil)
  · exact ow11.upL (Mo.md1 (mo_set (r := lp) _)) (DL.cons dl.symm DL.nil)
  · unfold Nx at hk11 ⊢; omega
  · exact hm.trL (Mo.md1 (mo_set (r := lp) _)) (MIL.cons (MI.root (by simp)) MIL.nil)


theorem Fr.start {n : Nat} {args : List Value} (hk : args.length ≤ n) : Fr n (argL args 0) { tmps := args.toArray ++ Array.replicate (n - args.toArray.size) undef, defers := [] } := by
  refine ⟨rfl, ?_, ?_⟩
  · simp; omega
  · intro t v e
    obtain ⟨_, h2⟩ := argL_get args 0 t v e
    simp only [Nat.sub_zero] at h2
    simp only
    have hlt := (List.getElem?_eq_some_iff.1 h2).1
    rw [Array.getElem?_append_left (by simpa using hlt)]
    simpa using h2
theorem LRD.v {P : Program} {w0 : World} {Q : Exit → Act → World → Prop} {n : Nat} {l : FL} {H : Heap} {ops : Array Oper} {rest : List Oper} {o : Oper} {ds : List Deferred} {v : Value} {d : Nat} (hy : Y P w0 n l H o v) (hnd : ∀ c, o.op ≠ .defer c) (hw : Wd ops l o) (hd : o.dst = some d) (hn : Nat.blt d n = true)
    (h : ∀ a w, Fr n ((d, v) :: l) a → At w0 H w → wpListIn (FW none) 0 P ops Q rest { a with defers := ds } w) : ∀ a w, Fr n l a → At w0 H w → wpListIn (FW none) 0 P ops Q (o :: rest) { a with defers := ds } w := by
  intro a w hf ha
  have hp := hf.put hn v
  rw [← hd] at hp
  unfold wpListIn
  rw [if_pos (hw n a hf)]
  refine ⟨fun _ _ => trivial, ?_⟩
  rw [Oper.semAt_eq _ _ _ hnd]
  show Oper.uponIn _ _ _ _ _ _ _ ((execOp a.eval o).run P w)
  rw [hy a w hf ha, Oper.uponIn_value]
  have h2 := h _ w hp ha
  have e : ({ a with defers := ds } : Act).put o.dst v = { (a.put o.dst v) with defers := ds } := by rw [hd]; rfl
  rw [e]; exact h2

theorem keys1D (r_ : Loop) (lp Bs bx mb D kr : Nat) (vr : Value) (fv : Nat → Value) (mm : List (Pth × Nat)) (w0 : World) (H0 : Heap)
    (hx : Var 57 H0 bx [.map (some mb)]) (hso : Mp H0 Str fv mb mm) (hD : Dfr H0 D) (hl : Lpr H0 lp r_) (hB : Var 42 H0 Bs [vr]) (ow : Ow kr 9 H0 fS 1 vr []) (hr : ApR r_ Bs) (hmm : mm.length ≤ 1099511627776) (d_hl_hB : Dj (lp + 1) (Bs + 1)) (d_hl_ow : Dj (lp + 1) (kr)) (d_hB_ow : Dj (Bs + 1) (kr)) (d_hx_hl : Dj (bx + 1) (lp + 1)) (d_hx_hB : Dj (bx + 1) (Bs + 1)) (d_hx_ow : Dj (bx + 1) (kr)) (d_hso_hl : Dj (mb + 1) (lp + 1)) (d_hso_hB : Dj (mb + 1) (Bs + 1)) (d_hso_ow : Dj (mb + 1) (kr)) (d_hD_hl : Dj (D + 1) (lp + 1)) (d_hD_hB : Dj (D + 1) (Bs + 1)) (d_hD_ow : Dj (D + 1) (kr)) :
    Ct Tryd.prog w0 65 #[.func (.yield lp) #[] #[], .pointer (some ⟨bx, 0, none⟩)] H0 (fun r H2 => ∃ vr2 : Value, ∃ kr2 : Nat, ∃ out : List Pth, r = .tuple #[] ∧ (Lpr H2 lp r_) ∧ (Var 42 H2 Bs [vr2]) ∧ (Ow kr2 9 H2 fS 1 vr2 out) ∧ (Nx kr H0.size kr2) ∧ (out.Nodup ∧ ∀ k, k ∈ out ↔ k ∈ mm.map (·.1)) ∧ Mo (Ms [(lp + 1), (Bs + 1), kr]) H0 H2) := by
  refine Ct.enter (args := [.func (.yield lp) #[] #[], .pointer (some ⟨bx, 0, none⟩)]) Tryd.func65 rfl rfl rfl ?_
  intro Q0 hret
  have hm0 : Mo (Ms [(lp + 1), (Bs + 1), kr]) H0 H0 := Mo.refl _ _
  have nx_hm0_hx := Nx.refl (bx + 1) H0.size
  have hlt_hx := hx.lt
  have nx_hm0_hso := Nx.refl (mb + 1) H0.size
  have hlt_hso := hso.lt
  have nx_hm0_hD := Nx.refl (D + 1) H0.size
  have hlt_hD := hD.lt
  have nx_hm0_hl := Nx.refl (lp + 1) H0.size
  have hlt_hl := hl.lt
  have nx_hm0_hB := Nx.refl (Bs + 1) H0.size
  have hlt_hB := hB.lt
  have nx_hm0_ow := Nx.refl kr H0.size
  have hle_ow := ow.le
  refine CW.seq (fun K1 hK1 hE1 => ?_)
  refine CW.region ?_
  refine LR.v (Y.load1 hx.pt rfl Tryd.isAgg57 rfl) (Wd.u rfl) rfl rfl ?_
  obtain ⟨es, ck, hso⟩ := hso.raw
  refine LR.z (Z.rangeA hso rfl Tryd.runUnderlying57 rfl) (Wd.u rfl) rfl rfl (fun v5 H5 r5 => ?_)
  obtain ⟨rfl, it, hs5, ob5, hH5⟩ := r5
  have hzs5 : H5.size = H0.size + 1 := by rw [hH5]; simp
  have dj1 : Dj (bx + 1) (H0.size + 1) := Dj.new hx.lt
  have dj2 : Dj (mb + 1) (H0.size + 1) := Dj.new hso.lt
  have dj3 : Dj (D + 1) (H0.size + 1) := Dj.new hD.lt
  have dj4 : Dj (lp + 1) (H0.size + 1) := Dj.new hl.lt
  have dj5 : Dj (Bs + 1) (H0.size + 1) := Dj.new hB.lt
  have dj6 : Dj kr (H0.size + 1) := Dj.new ow.le
  have nx7 : Nx 0 H0.size (H0.size + 1) := Nx.new hm0.size
  replace hx := hx.nw hs5
  replace hso := hso.nw hs5
  replace hD := hD.nw hs5
  replace hl := hl.nw hs5
  replace hB := hB.nw hs5
  replace ow := ow.nw hs5
  replace hm0 := hm0.trN hs5
  have hz1 := hs5.size
  have hlt_it := it.lt
  refine LR.nil ?_
  refine hK1 _ _ ?_
  refine CW.block (fun K2 hK2 hX2 hE2 => ?_)
  refine CW.loop (fun (s_ : (List Pth) × (Value) × (Nat)) => match s_ with | (dn, vr3, kr3) => [(0, .func (.yield lp) #[] #[]), (5, .pointer (some ⟨H0.size, 0, none⟩))])
    (fun (s_ : (List Pth) × (Value) × (Nat)) (H : Heap) => match s_ with | (dn, vr3, kr3) => (Itr H H0.size mb Str es ck dn) ∧ (Lpr H lp r_) ∧ (Var 42 H Bs [vr3]) ∧ (Ow kr3 9 H fS 1 vr3 dn) ∧ (dn.Nodup ∧ ∀ k ∈ dn, k ∈ mm.map (·.1)) ∧ (Nx kr H5.size kr3) ∧ (Dj (H0.size + 1) kr3) ∧ (Dj (lp + 1) kr3) ∧ (Dj (Bs + 1) kr3) ∧ Mo (Ms [(H0.size + 1), (lp + 1), (Bs + 1), kr]) H5 H)
    (fun (s_ : (List Pth) × (Value) × (Nat)) => match s_ with | (dn, vr3, kr3) => mm.length - dn.length) ([], vr, kr) ⟨rfl, rfl, trivial⟩ ?_ ?_
  ·
    exact ⟨it, hl, hB, ow, ⟨List.nodup_nil, by simp⟩, Nx.refl _ _, dj6.symm, d_hl_ow, d_hB_ow, Mo.refl _ _⟩
  rintro ⟨dn, vr3, kr3⟩ HL1 hI1 K3 hN3 hE3
  obtain ⟨it, hl, hB, ow, hdn, nxl_ow, dj_it_ow, dj_hl_ow, dj_hB_ow, hlm1⟩ := hI1
  have dj8 : Dj (bx + 1) kr3 := Dj.app (d_hx_ow) hx.lt nxl_ow
  have dj9 : Dj (mb + 1) kr3 := Dj.app (d_hso_ow) hso.lt nxl_ow
  have dj10 : Dj (D + 1) kr3 := Dj.app (d_hD_ow) hD.lt nxl_ow
  have nx11 : Nx kr H0.size kr3 := Nx.tr (nx_hm0_ow) nxl_ow hm0.size
  replace hx := hx.upL hlm1 (DL.cons dj1 (DL.cons d_hx_hl (DL.cons d_hx_hB (DL.cons d_hx_ow DL.nil))))
  replace hso := hso.upL hlm1 (DL.cons dj2 (DL.cons d_hso_hl (DL.cons d_hso_hB (DL.cons d_hso_ow DL.nil))))
  replace hD := hD.upL hlm1 (DL.cons dj3 (DL.cons d_hD_hl (DL.cons d_hD_hB (DL.cons d_hD_ow DL.nil))))
  replace hm0 := hm0.trL hlm1 (MIL.cons (MI.app MI.z (nx7) (Nat.le_refl _)) (MIL.cons (MI.app (MI.root (by simp)) (nx_hm0_hl) (Nat.le_refl _)) (MIL.cons (MI.app (MI.root (by simp)) (nx_hm0_hB) (Nat.le_refl _)) (MIL.cons (MI.app (MI.root (by simp)) (nx_hm0_ow) (Nat.le_refl _)) MIL.nil))))
  have hz2 := hlm1.size
  have hle_ow := ow.le
  have dj12 := dj_it_ow
  have dj13 := dj_hl_ow
  have dj14 := dj_hB_ow
  have nx_hlm1_it := Nx.refl (H0.size + 1) H5.size
  have nx_hlm1_hl := Nx.refl (lp + 1) H5.size
  have nx_hlm1_hB := Nx.refl (Bs + 1) H5.size
  have nx15 := nxl_ow
  have hdl := nodup_le hdn.1 hdn.2
  rw [List.length_map] at hdl
  refine CW.seq (fun K4 hK4 hE4 => ?_)
  refine CW.region ?_
  refine LR.z (Z.nextA it hso keyStr.inj rfl rfl) (Wd.u rfl) rfl rfl (fun v6 H6 r6 => ?_)
  obtain ⟨qb, x, y, dn2, rfl, it, hT6, hF6, hs6⟩ := r6
  replace hs6 := hs6.md1
  replace hx := hx.upL hs6 (DL.cons dj1 DL.nil)
  replace hso := hso.upL hs6 (DL.cons dj2 DL.nil)
  replace hD := hD.upL hs6 (DL.cons dj3 DL.nil)
  replace ow := ow.upL hs6 (DL.cons dj12.symm DL.nil)
  replace hl := hl.upL hs6 (DL.cons dj4 DL.nil)
  replace hB := hB.upL hs6 (DL.cons dj5 DL.nil)
  replace hm0 := hm0.trL hs6 (MIL.cons (MI.app MI.z (nx7) (Nat.le_refl _)) MIL.nil)
  replace hlm1 := hlm1.trL hs6 (MIL.cons (MI.app (MI.root (by simp)) (nx_hlm1_it) (Nat.le_refl _)) MIL.nil)
  have hz3 := hs6.size
  refine LR.v (Y.ext0 rfl rfl) (Wd.u rfl) rfl rfl ?_
  refine LR.nil ?_
  refine hK4 _ _ ?_
  refine CW.seq (fun K5 hK5 hE5 => ?_)
  refine CW.cond rfl (fun c7 => ?_) (fun c7 => ?_)
  ·
    obtain ⟨hxy, hnd, hdq⟩ := hT6 c7
    rw [hdq] at it
    refine CW.skip ?_
    refine hK5 _ _ ?_
    refine CW.block (fun K6 hK6 hX6 hE6 => ?_)
    refine CW.seq (fun K7 hK7 hE7 => ?_)
    refine CW.region ?_
    refine LR.v (Y.entryA it hso keyStr.inj hxy rfl rfl) (Wd.u rfl) rfl rfl ?_
    refine LR.v (Y.extract rfl rfl rfl) (Wd.u rfl) rfl rfl ?_
    refine LR.v (Y.assign rfl rfl) (Wd.u rfl) rfl rfl ?_
    refine LR.nil ?_
    refine hK7 _ _ ?_
    refine CW.seq (fun K8 hK8 hE8 => ?_)
    refine CW.region_in ?_
    refine LRI.v (Y.move rfl rfl) (by intro c e; cases e) (Wd.u rfl) rfl rfl ?_
    refine LRI.v (Y.move rfl rfl) (by intro c e; cases e) (Wd.u rfl) rfl rfl ?_
    refine LRI.round rfl rfl rfl (Wd.u rfl) rfl rfl (ap_round r_ Bs lp _ _ dn x w0 _ hr hl hB ow (d_hl_hB) (dj13) (dj14) (by omega)) (fun v12 H12 r12 => ?_)
    have ql16 := hx.lt
    have ql17 := hso.lt
    have ql18 := hD.lt
    have ql19 := ow.le
    have ql20 := it.lt
    have ql21 := hl.lt
    have ql22 := hB.lt
    obtain ⟨vr12, kr12, rfl, hl, hB, ow, hk12, hs12⟩ := r12
    have dj23 : Dj (bx + 1) kr12 := Dj.app (dj8) ql16 hk12
    have dj24 : Dj (mb + 1) kr12 := Dj.app (dj9) ql17 hk12
    have dj25 : Dj (D + 1) kr12 := Dj.app (dj10) ql18 hk12
    have dj26 : Dj (H0.size + 1) kr12 := Dj.app (dj12) ql20 hk12
    have dj27 : Dj (lp + 1) kr12 := Dj.app (dj13) ql21 hk12
    have dj28 : Dj (Bs + 1) kr12 := Dj.app (dj14) ql22 hk12
    have nx29 : Nx kr H0.size kr12 := Nx.tr (nx11) hk12 hm0.size
    have nx30 : Nx kr H5.size kr12 := Nx.tr (nx15) hk12 hlm1.size
    replace hx := hx.upL hs12 (DL.cons d_hx_hl (DL.cons d_hx_hB (DL.cons dj8 DL.nil)))
    replace hso := hso.upL hs12 (DL.cons d_hso_hl (DL.cons d_hso_hB (DL.cons dj9 DL.nil)))
    replace hD := hD.upL hs12 (DL.cons d_hD_hl (DL.cons d_hD_hB (DL.cons dj10 DL.nil)))
    replace it := it.upL hs12 (DL.cons dj4.symm (DL.cons dj5.symm (DL.cons dj12 DL.nil)))
    replace hm0 := hm0.trL hs12 (MIL.cons (MI.app (MI.root (by simp)) (nx_hm0_hl) (Nat.le_refl _)) (MIL.cons (MI.app (MI.root (by simp)) (nx_hm0_hB) (Nat.le_refl _)) (MIL.cons (MI.app (MI.root (by simp)) (nx11) (Nat.le_refl _)) MIL.nil)))
    replace hlm1 := hlm1.trL hs12 (MIL.cons (MI.app (MI.root (by simp)) (nx_hlm1_hl) (Nat.le_refl _)) (MIL.cons (MI.app (MI.root (by simp)) (nx_hlm1_hB) (Nat.le_refl _)) (MIL.cons (MI.app (MI.root (by simp)) (nx15) (Nat.le_refl _)) MIL.nil)))
    have hz4 := hs12.size
    have hle_ow := ow.le
    refine LRI.v (Y.not rfl rfl) (by intro c e; cases e) (Wd.u rfl) rfl rfl ?_
    refine LRI.nil ?_
    refine hK8 _ _ ?_
    refine CW.cond_f rfl ?_
    refine CW.skip ?_
    refine hK6 _ _ ?_
    have hdn2 : (dn ++ [x]).Nodup ∧ ∀ k ∈ dn ++ [x], k ∈ mm.map (·.1) := by
      refine ⟨?_, fun k hk => ?_⟩
      · rw [List.nodup_append]
        exact ⟨hdn.1, by simp, fun a ha b hb e => by simp only [List.mem_singleton] at hb; subst hb; subst e; exact hnd ha⟩
      · rcases List.mem_append.1 hk with hk | hk
        · exact hdn.2 k hk
        · rw [List.mem_singleton.1 hk]; exact List.mem_map.2 ⟨_, hxy, rfl⟩
    have hdl2 := nodup_le hdn2.1 hdn2.2
    rw [List.length_append, List.length_map, List.length_singleton] at hdl2
    refine QN.sub (hN3 (dn ++ [x], vr12, kr12) _ ?_ ?_) ⟨rfl, rfl, trivial⟩
    · exact ⟨it, hl, hB, ow, hdn2, nx30, dj26, dj27, dj28, hlm1⟩
    · simp only [List.length_append, List.length_singleton]; omega
  ·
    obtain ⟨hall, hdq⟩ := hF6 c7
    refine CW.exit (hE5 (.exit 0) nofun _ _ (hE3 (.exit 0) nofun _ _ (hX2 _ _ ?_)))
    refine hret .normal (.inl rfl) _ _ _ (res0 rfl) ?_
    exact ⟨vr3, kr3, dn, rfl, hl, hB, ow, nx11, ⟨hdn.1, fun k => ⟨hdn.2 k, fun h => by obtain ⟨p, hp, rfl⟩ := List.mem_map.1 h; exact hall p hp⟩⟩, hm0⟩

theorem apseqD (bx mb : Nat) (fv : Nat → Value) (mm : List (Pth × Nat)) (w0 : World) (H0 : Heap) (hx : Var 57 H0 bx [.map (some mb)]) (hso : Mp H0 Str fv mb mm) (hmm : mm.length ≤ 1099511627776) :
    Ct Tryd.prog w0 78 #[.slice none 0 0, .func (.func 65) #[] #[.pointer (some ⟨bx, 0, none⟩)]] H0 (fun r H2 => ∃ s : SV, ∃ k : Nat, ∃ out : List Pth, r = s.v ∧ (Ow k 9 H2 fS 1 s.v out) ∧ (Nx 0 H0.size k) ∧ (out.Nodup ∧ ∀ k, k ∈ out ↔ k ∈ mm.map (·.1)) ∧ Nw H0 H2) := by
  intro w ha
  refine callsIn_wide.1 (callsIn_of_wp_marks (n := 0) Tryd.func78 rfl trivial ?_)
  have hf0 := Fr.start (n := Tryd.f78.ntmps) (args := [.slice none 0 0, .func (.func 65) #[] #[.pointer (some ⟨bx, 0, none⟩)]]) (Nat.le_of_ble_eq_true rfl)
  refine wpIn_seq (wpIn_wide.2 ?_)
  refine (CW.region (w0 := w0) (H := H0) (n := Tryd.f78.ntmps) (l := argL [.slice none 0 0, .func (.func 65) #[] #[.pointer (some ⟨bx, 0, none⟩)]] 0) ?_) _ w hf0 ha
  refine LR.z (Z.boxv1 rfl rfl rfl) (Wd.u rfl) rfl rfl (fun v2 H1 r2 => ?_)
  obtain ⟨rfl, hB, hs1, ob1, hH1⟩ := r2
  have hz1 : H1.size = H0.size + 1 := by rw [hH1]; simp
  have hxl := hx.lt; have hsl := hso.lt
  replace hx := hx.nw hs1; replace hso := hso.nw hs1
  refine LR.v (Y.assign rfl rfl) (Wd.u rfl) rfl rfl ?_
  refine LR.nil (fun a1 w1 hf1 ha1 => ?_)
  show (Code.seq _ _).wpIn Fence.wide 0 _ _ a1 w1
  refine wpIn_seq (wpIn_seq (wpIn_wide.2 ?_))
  refine (CW.region (w0 := w0) (H := H1) ?_) a1 w1 hf1 ha1
  refine LR.v (Y.move rfl rfl) (Wd.u rfl) rfl rfl ?_
  refine LR.nil (fun a2 w2 hf2 ha2 => ?_)
  show (Code.block _ _).wpIn Fence.wide 0 _ _ a2 w2
  refine wpIn_block (wpIn_rangeFunc (fun fn _ => ?_))
  obtain ⟨rc, hrc⟩ : ∃ rc : Loop, rc = { state := .ready, pending := none, fn, tmps := a2.tmps, params := #[7], assign := asOf (rfOf (Tryd.f78.body.getD .skip)), body := boOf (rfOf (Tryd.f78.body.getD .skip)), defers := w2.heap.size } := ⟨_, rfl⟩
  have hst : (Instr.enterLoop fn a2.tmps #[7] (asOf (rfOf (Tryd.f78.body.getD .skip))) (boOf (rfOf (Tryd.f78.body.getD .skip))) none).run Tryd.prog w2 = .ok (w2.heap.size + 1, [{ target := .collected w2.heap.size, args := #[] }]) ((w2.alloc (.deferred (some []))).alloc (.loop rc)) := by
    rw [hrc]; exact run_enterLoop_outer fn a2.tmps #[7] _ _
  have ha3 : At w0 ((H1.push (.deferred (some []))).push (.loop rc)) ((w2.alloc (.deferred (some []))).alloc (.loop rc)) := (ha2.alloc _).alloc _
  obtain ⟨w3, hw3⟩ : ∃ w3, w3 = (w2.alloc (.deferred (some []))).alloc (.loop rc) := ⟨_, rfl⟩
  rw [← hw3] at hst ha3
  obtain ⟨H3, hH3⟩ : ∃ H3, H3 = (H1.push (.deferred (some []))).push (.loop rc) := ⟨_, rfl⟩
  rw [← hH3] at ha3
  have hz3 : H3.size = H1.size + 2 := by rw [hH3]; simp
  have hw2 : w2.heap.size = H1.size := by rw [ha2.heap]
  have hs3 : Nw H1 H3 := by rw [hH3]; exact (Nw.pu _ _).tr (Nw.pu _ _)
  replace hx := hx.nw hs3; replace hso := hso.nw hs3; replace hB := hB.nw hs3
  have hD : Dfr H3 H1.size := ⟨by rw [hH3, Array.getElem?_push, if_neg (by simp)]; exact Array.getElem?_push_size⟩
  have hl : Lpr H3 (H1.size + 1) rc := ⟨by
    have h9 := Array.getElem?_push_size (xs := H1.push (.deferred (some []))) (x := Obj.loop rc)
    rw [Array.size_push, ← hH3] at h9
    exact h9⟩
  have hap : ApR rc H0.size := by
    subst hrc
    exact ⟨rfl, rfl, rfl, rfl, rfl, ⟨rfl, hf2.size, fun t v e => (hf2.sub (l' := [(2, .pointer (some ⟨H0.size, 0, none⟩))]) ⟨rfl, trivial⟩).get t v e⟩⟩
  have hyi : ∀ w, (callFunc 65 #[.func (.yield (H1.size + 1)) #[] #[], .pointer (some ⟨bx, 0, none⟩)]).run Tryd.prog w = .ok (.enter 65 #[.func (.yield (H1.size + 1)) #[] #[], .pointer (some ⟨bx, 0, none⟩)]) w := fun w => enters_of Tryd.func65 (by kernel_rfl) rfl _ w
  refine ⟨w2.heap.size + 1, [{ target := .collected w2.heap.size, args := #[] }], w3, { target := .fn (.func 65) #[.pointer (some ⟨bx, 0, none⟩)], args := #[.func (.yield (H1.size + 1)) #[] #[]] }, w3, 65, #[.func (.yield (H1.size + 1)) #[] #[], .pointer (some ⟨bx, 0, none⟩)], w3, hst, ?_, fun _ _ => trivial, ?_, fun h => (by cases h), ?_⟩
  · have h6 := hf2.get 6 (.func (.func 65) #[] #[.pointer (some ⟨bx, 0, none⟩)]) rfl
    rw [hw2]
    simp [resolve, rangeCall, Deferred.ofValue, Act.eval, h6]
  · exact hyi _
  refine callsIn_wide.2 ((keys1D rc (H1.size + 1) H0.size bx mb H1.size 0 (.slice none 0 0) fv mm w0 H3 hx hso hD hl hB (Ow.nil fS_len fS_one) hap hmm (Dj.of (by omega)) Dj.z Dj.z (Dj.of (by omega)) (Dj.of (by omega)) Dj.z (Dj.of (by omega)) (Dj.of (by omega)) Dj.z (Dj.of (by omega)) (Dj.of (by omega)) Dj.z _ ha3).mono ?_)
  rintro e w4 ⟨r4, H4, rfl, ha4, vr2, k2, out, rfl, hl4, hB4, ow4, hk4, hout, hm4⟩
  have hD4 : Dfr H4 H1.size := hD.upL hm4 (DL.cons (Dj.of (by omega)) (DL.cons (Dj.of (by omega)) (DL.cons Dj.z DL.nil)))
  have hlw : w4.heap[w2.heap.size + 1]? = some (.loop rc) := by rw [ha4.heap, hw2]; exact hl4.at_
  have hrp : rc.pending = none := hap.pe
  have hend := run_endLoop (P := Tryd.prog) hlw (by rw [hap.st]; simp)
  rw [hrp] at hend
  refine ⟨none, _, hend, ?_⟩
  have hs5 : Mo (fun c => c = H1.size + 1) H4 (H4.setIfInBounds (H1.size + 1) (.loop { rc with state := .exhausted })) := mo_set _
  have ha5 : At w0 (H4.setIfInBounds (H1.size + 1) (.loop { rc with state := .exhausted })) (w4.putObj (w2.heap.size + 1) (.loop { rc with state := .exhausted })) := by
    unfold World.putObj
    rw [ha4.heap, hw2]
    exact ha4.set
  rw [hrp] at hs5 ha5
  obtain ⟨w5, hw5⟩ : ∃ w5, w5 = w4.putObj (w2.heap.size + 1) (.loop { rc with state := .exhausted, pending := none }) := ⟨_, rfl⟩
  obtain ⟨H5, hH5⟩ : ∃ H5, H5 = H4.setIfInBounds (H1.size + 1) (.loop { rc with state := .exhausted, pending := none }) := ⟨_, rfl⟩
  rw [← hw5] at ha5
  rw [← hH5] at hs5 ha5
  rw [← hw5]
  have hz4 := hm4.size
  have hz5 := hs5.size
  have hs5' := hs5.md1
  have dk : ∀ c, c + 1 ≤ H3.size → Dj k2 (c + 1) := fun c hc q h1 h2 => by unfold Nx at hk4; omega
  replace hB4 := hB4.upL hs5' (DL.cons (Dj.of (by omega)) DL.nil)
  replace ow4 := ow4.upL hs5' (DL.cons (dk _ (by omega)) DL.nil)
  replace hD4 := hD4.upL hs5' (DL.cons (Dj.of (by omega)) DL.nil)
  have hm0 : Mo (Ms []) H0 H5 := by
    have q0 := ((Mo.refl (S := Ms []) H0).trN hs1).trN hs3
    have q1 := q0.trL hm4 (MIL.cons (MI.new (by omega)) (MIL.cons (MI.new (Nat.le_refl _)) (MIL.cons MI.z MIL.nil)))
    exact q1.trL hs5' (MIL.cons (MI.new (by omega)) MIL.nil)
  show (Code.seq _ _).wpIn Fence.wide 0 _ _ _ w5
  refine wpIn_seq (wpIn_region_lit ?_)
  refine LRD.v (w0 := w0) (H := H5) (Y.load1 hB4.pt rfl Tryd.isAgg42 rfl) (by intro c e; cases e) (Wd.u rfl) rfl rfl ?_ a2 w5 hf2 ha5
  refine LRD.v (w0 := w0) (H := H5) (Y.assign rfl rfl) (by intro c e; cases e) (Wd.u rfl) rfl rfl ?_
  intro a6 w6 hf6 ha6
  show Code.ret.wpIn Fence.wide 0 _ _ _ w6
  refine wpIn_ret ?_
  show LeavesInM Fence.wide 0 _ _ a6.tmps _ ([{ target := .collected w2.heap.size, args := #[] }] ++ a2.defers) .returning w6
  rw [hf2.defers, List.append_nil]
  have hDw : w6.heap[w2.heap.size]? = some (.deferred (some [])) := by rw [ha6.heap, hw2]; exact hD4.at_
  refine ⟨by simp, .inl ⟨_, _, rfl, run_takeDeferred (P := Tryd.prog) hDw, ?_⟩⟩
  have hs7 : Mo (fun c => c = H1.size) H5 (H5.setIfInBounds H1.size (.deferred none)) := mo_set _
  have ha7 : At w0 (H5.setIfInBounds H1.size (.deferred none)) (w6.putObj w2.heap.size (.deferred none)) := by
    unfold World.putObj
    rw [ha6.heap, hw2]
    exact ha6.set
  have hs7' := hs7.md1
  obtain ⟨s, hs⟩ : ∃ s : SV, vr2 = s.v := ⟨toSV vr2, ow4.sv.symm⟩
  refine ⟨vr2, res1 rfl rfl _ _ hf6 ha7, vr2, _, rfl, ha7, s, k2, out, hs, ?_, ?_, hout, ?_⟩
  · rw [← hs]; exact ow4.upL hs7' (DL.cons (dk _ (by omega)) DL.nil)
  · unfold Nx at hk4 ⊢; omega
  · exact (hm0.trL hs7' (MIL.cons (MI.new (by omega)) MIL.nil)).nil

theorem collectD (bx mb : Nat) (fv : Nat → Value) (mm : List (Pth × Nat)) (w0 : World) (H0 : Heap)
    (hx : Var 57 H0 bx [.map (some mb)]) (hso : Mp H0 Str fv mb mm) (hmm : mm.length ≤ 1099511627776) :
    Ct Tryd.prog w0 63 #[.func (.func 65) #[] #[.pointer (some ⟨bx, 0, none⟩)]] H0 (fun r H2 => ∃ s : SV, ∃ k : Nat, ∃ out : List Pth, r = s.v ∧ (Ow k 9 H2 fS 1 s.v out) ∧ (Nx 0 H0.size k) ∧ (out.Nodup ∧ ∀ k, k ∈ out ↔ k ∈ mm.map (·.1)) ∧ Nw H0 H2) := by
  refine Ct.enter (args := [.func (.func 65) #[] #[.pointer (some ⟨bx, 0, none⟩)]]) Tryd.func63 rfl rfl rfl ?_
  intro Q0 hret
  have hm0 : Nw H0 H0 := Mo.refl _ _
  have nx_hm0_hx := Nx.refl (bx + 1) H0.size
  have hlt_hx := hx.lt
  have nx_hm0_hso := Nx.refl (mb + 1) H0.size
  have hlt_hso := hso.lt
  refine CW.seq (fun K1 hK1 hE1 => ?_)
  refine CW.region ?_
  refine LR.v (Y.assign rfl rfl) (Wd.u rfl) rfl rfl ?_
  refine LR.nil ?_
  refine hK1 _ _ ?_
  refine CW.seq (fun K2 hK2 hE2 => ?_)
  refine CW.region ?_
  refine LR.v (Y.move rfl rfl) (Wd.u rfl) rfl rfl ?_
  -- call slices.AppendSeq[[]string,string]
  refine LR.call rfl Tryd.call78 rfl (Wd.u rfl) rfl rfl (apseqD bx mb fv mm w0 _ hx hso hmm) (fun v4 H4 r4 => ?_)
  obtain ⟨s4, k4, out4, rfl, ow4, hk4, hout4, hs4⟩ := r4
  have dj1 : Dj (bx + 1) k4 := Dj.app (Dj.z) hx.lt hk4
  have dj2 : Dj (mb + 1) k4 := Dj.app (Dj.z) hso.lt hk4
  have nx3 : Nx 0 H0.size k4 := Nx.tr (Nx.refl 0 _) hk4 hm0.size
  replace hx := hx.nw hs4
  replace hso := hso.nw hs4
  replace hm0 := hm0.tr hs4
  have hz1 := hs4.size
  have hle_ow4 := ow4.le
  refine LR.v (Y.assign rfl rfl) (Wd.u rfl) rfl rfl ?_
  refine LR.nil ?_
  refine hK2 _ _ ?_
  refine CW.ret (hret .ret (.inr rfl) _ _ _ (res1 rfl rfl) ?_)
  exact ⟨s4, k4, out4, rfl, ow4, nx3, hout4, hm0⟩

theorem keysD (mb : Nat) (w0 : World) (H0 : Heap)
     :
    Ct Tryd.prog w0 42 #[.map (some mb)] H0 (fun r H2 => ∃ bx : Nat, r = .func (.func 65) #[] #[.pointer (some ⟨bx, 0, none⟩)] ∧ (Var 57 H2 bx [.map (some mb)]) ∧ (Nx 0 H0.size (bx + 1)) ∧ Nw H0 H2) := by
  refine Ct.enter (args := [.map (some mb)]) Tryd.func42 rfl rfl rfl ?_
  intro Q0 hret
  have hm0 : Nw H0 H0 := Mo.refl _ _
  refine CW.seq (fun K1 hK1 hE1 => ?_)
  refine CW.region ?_
  refine LR.z (Z.boxv1 rfl rfl (rfl)) (Wd.u rfl) rfl rfl (fun v1 H1 r1 => ?_)
  obtain ⟨rfl, hx, hs1, ob1, hH1⟩ := r1
  have hzs1 : H1.size = H0.size + 1 := by rw [hH1]; simp
  have nx1 : Nx 0 H0.size (H0.size + 1) := Nx.new hm0.size
  replace hm0 := hm0.tr hs1
  have hz1 := hs1.size
  replace hx : Var 57 H1 H0.size ([.map (some mb)]) := hx
  refine LR.v (Y.assign rfl rfl) (Wd.u rfl) rfl rfl ?_
  refine LR.nil ?_
  refine hK1 _ _ ?_
  refine CW.seq (fun K2 hK2 hE2 => ?_)
  refine CW.region ?_
  refine LR.v (Y.makeFunc rfl rfl) (Wd.u rfl) rfl rfl ?_
  refine LR.v (Y.assign rfl rfl) (Wd.u rfl) rfl rfl ?_
  refine LR.nil ?_
  refine hK2 _ _ ?_
  refine CW.ret (hret .ret (.inr rfl) _ _ _ (res1 rfl rfl) ?_)
  exact ⟨_, rfl, hx, Nx.new (Nat.le_refl _), hm0⟩

theorem sortedD (bx mb : Nat) (fv : Nat → Value) (mm : List (Pth × Nat)) (w0 : World) (H0 : Heap)
    (hx : Var 57 H0 bx [.map (some mb)]) (hso : Mp H0 Str fv mb mm) (hmm : mm.length ≤ 1099511627776) :
    Ct Tryd.prog w0 41 #[.func (.func 65) #[] #[.pointer (some ⟨bx, 0, none⟩)]] H0 (fun r H2 => ∃ s : SV, ∃ k : Nat, ∃ out : List Pth, r = s.v ∧ (Ow k 9 H2 fS 1 s.v out) ∧ (Nx 0 H0.size k) ∧ (Rise out ∧ ∀ k, k ∈ out ↔ k ∈ mm.map (·.1)) ∧ Nw H0 H2) := by
  refine Ct.enter (args := [.func (.func 65) #[] #[.pointer (some ⟨bx, 0, none⟩)]]) Tryd.func41 rfl rfl rfl ?_
  intro Q0 hret
  have hm0 : Nw H0 H0 := Mo.refl _ _
  have nx_hm0_hx := Nx.refl (bx + 1) H0.size
  have hlt_hx := hx.lt
  have nx_hm0_hso := Nx.refl (mb + 1) H0.size
  have hlt_hso := hso.lt
  refine CW.seq (fun K1 hK1 hE1 => ?_)
  refine CW.region ?_
  refine LR.v (Y.assign rfl rfl) (Wd.u rfl) rfl rfl ?_
  refine LR.nil ?_
  refine hK1 _ _ ?_
  refine CW.seq (fun K2 hK2 hE2 => ?_)
  refine CW.region ?_
  refine LR.v (Y.move rfl rfl) (Wd.u rfl) rfl rfl ?_
  -- call slices.Collect[string]
  refine LR.call rfl Tryd.call63 rfl (Wd.u rfl) rfl rfl (collectD bx mb fv mm w0 _ hx hso hmm) (fun v5 H5 r5 => ?_)
  obtain ⟨s5, k5, out5, rfl, ow, hk5, hout5, hs5⟩ := r5
  have dj1 : Dj (bx + 1) k5 := Dj.app (Dj.z) hx.lt hk5
  have dj2 : Dj (mb + 1) k5 := Dj.app (Dj.z) hso.lt hk5
  have nx3 : Nx 0 H0.size k5 := Nx.tr (Nx.refl 0 _) hk5 hm0.size
  replace hx := hx.nw hs5
  replace hso := hso.nw hs5
  replace hm0 := hm0.tr hs5
  have hz1 := hs5.size
  have hle_ow := ow.le
  have hol := nodup_le hout5.1 (fun k hk => (hout5.2 k).1 hk)
  rw [List.length_map] at hol
  refine LR.v (Y.assign rfl rfl) (Wd.u rfl) rfl rfl ?_
  refine LR.nil ?_
  refine hK2 _ _ ?_
  refine CW.seq (fun K3 hK3 hE3 => ?_)
  refine CW.region ?_
  refine LR.v (Y.move rfl rfl) (Wd.u rfl) rfl rfl ?_
  -- call slices.Sort[[]string,string]
  refine LR.call rfl Tryd.call64 rfl (Wd.u rfl) rfl rfl (sortS_ct k5 _ out5 w0 _ ow (by omega)) (fun v7 H7 r7 => ?_)
  have ql4 := hx.lt
  have ql5 := hso.lt
  have ql6 := ow.le
  obtain ⟨l2, k2, rfl, ow, hk7, hp7, hs7⟩ := r7
  have dj7 : Dj (bx + 1) k2 := Dj.app (dj1) ql4 hk7
  have dj8 : Dj (mb + 1) k2 := Dj.app (dj2) ql5 hk7
  have nx9 : Nx 0 H0.size k2 := Nx.tr (nx3) hk7 hm0.size
  replace hx := hx.upL hs7 (DL.cons dj1 DL.nil)
  replace hso := hso.upL hs7 (DL.cons dj2 DL.nil)
  replace hm0 := (Mo.trL (ks := []) (hm0.mdn []) hs7 (MIL.cons (MI.app MI.z (nx3) (Nat.le_refl _)) MIL.nil)).nil
  have hz2 := hs7.size
  have hle_ow := ow.le
  refine LR.nil ?_
  refine hK3 _ _ ?_
  refine CW.seq (fun K4 hK4 hE4 => ?_)
  refine CW.region ?_
  refine LR.v (Y.move rfl rfl) (Wd.u rfl) rfl rfl ?_
  refine LR.v (Y.assign rfl rfl) (Wd.u rfl) rfl rfl ?_
  refine LR.nil ?_
  refine hK4 _ _ ?_
  refine CW.ret (hret .ret (.inr rfl) _ _ _ (res1 rfl rfl) ?_)
  obtain ⟨hp1, hp2⟩ := sorted_rise hout5.1 hp7
  exact ⟨s5, k2, l2, rfl, ow, nx9, ⟨hp1, fun k => by rw [hp2.mem_iff, hout5.2]⟩, hm0⟩

theorem keys1N (r_ : Loop) (lp Bs bx mb D kr : Nat) (vr : Value) (fv : Nat → Value) (mm : List (Pth × Nat)) (w0 : World) (H0 : Heap)
    (hx : Var 79 H0 bx [.map (some mb)]) (hso : Mp H0 Str fv mb mm) (hD : Dfr H0 D) (hl : Lpr H0 lp r_) (hB : Var 42 H0 Bs [vr]) (ow : Ow kr 9 H0 fS 1 vr []) (hr : ApR r_ Bs) (hmm : mm.length ≤ 1099511627776) (d_hl_hB : Dj (lp + 1) (Bs + 1)) (d_hl_ow : Dj (lp + 1) (kr)) (d_hB_ow : Dj (Bs + 1) (kr)) (d_hx_hl : Dj (bx + 1) (lp + 1)) (d_hx_hB : Dj (bx + 1) (Bs + 1)) (d_hx_ow : Dj (bx + 1) (kr)) (d_hso_hl : Dj (mb + 1) (lp + 1)) (d_hso_hB : Dj (mb + 1) (Bs + 1)) (d_hso_ow : Dj (mb + 1) (kr)) (d_hD_hl : Dj (D + 1) (lp + 1)) (d_hD_hB : Dj (D + 1) (Bs + 1)) (d_hD_ow : Dj (D + 1) (kr)) :
    Ct Tryd.prog w0 66 #[.func (.yield lp) #[] #[], .pointer (some ⟨bx, 0, none⟩)] H0 (fun r H2 => ∃ vr2 : Value, ∃ kr2 : Nat, ∃ out : List Pth, r = .tuple #[] ∧ (Lpr H2 lp r_) ∧ (Var 42 H2 Bs [vr2]) ∧ (Ow kr2 9 H2 fS 1 vr2 out) ∧ (Nx kr H0.size kr2) ∧ (out.Nodup ∧ ∀ k, k ∈ out ↔ k ∈ mm.map (·.1)) ∧ Mo (Ms [(lp + 1), (Bs + 1), kr]) H0 H2) := by
  refine Ct.enter (args := [.func (.yield lp) #[] #[], .pointer (some ⟨bx, 0, none⟩)]) Tryd.func66 rfl rfl rfl ?_
  intro Q0 hret
  have hm0 : Mo (Ms [(lp + 1), (Bs + 1), kr]) H0 H0 := Mo.refl _ _
  have nx_hm0_hx := Nx.refl (bx + 1) H0.size
  have hlt_hx := hx.lt
  have nx_hm0_hso := Nx.refl (mb + 1) H0.size
  have hlt_hso := hso.lt
  have nx_hm0_hD := Nx.refl (D + 1) H0.size
  have hlt_hD := hD.lt
  have nx_hm0_hl := Nx.refl (lp + 1) H0.size
  have hlt_hl := hl.lt
  have nx_hm0_hB := Nx.refl (Bs + 1) H0.size
  have hlt_hB := hB.lt
  have nx_hm0_ow := Nx.refl kr H0.size
  have hle_ow := ow.le
  refine CW.seq (fun K1 hK1 hE1 => ?_)
  refine CW.region ?_
  refine LR.v (Y.load1 hx.pt rfl Tryd.isAgg79 rfl) (Wd.u rfl) rfl rfl ?_
  obtain ⟨es, ck, hso⟩ := hso.raw
  refine LR.z (Z.rangeA hso rfl Tryd.runUnderlying79 rfl) (Wd.u rfl) rfl rfl (fun v5 H5 r5 => ?_)
  obtain ⟨rfl, it, hs5, ob5, hH5⟩ := r5
  have hzs5 : H5.size = H0.size + 1 := by rw [hH5]; simp
  have dj1 : Dj (bx + 1) (H0.size + 1) := Dj.new hx.lt
  have dj2 : Dj (mb + 1) (H0.size + 1) := Dj.new hso.lt
  have dj3 : Dj (D + 1) (H0.size + 1) := Dj.new hD.lt
  have dj4 : Dj (lp + 1) (H0.size + 1) := Dj.new hl.lt
  have dj5 : Dj (Bs + 1) (H0.size + 1) := Dj.new hB.lt
  have dj6 : Dj kr (H0.size + 1) := Dj.new ow.le
  have nx7 : Nx 0 H0.size (H0.size + 1) := Nx.new hm0.size
  replace hx := hx.nw hs5
  replace hso := hso.nw hs5
  replace hD := hD.nw hs5
  replace hl := hl.nw hs5
  replace hB := hB.nw hs5
  replace ow := ow.nw hs5
  replace hm0 := hm0.trN hs5
  have hz1 := hs5.size
  have hlt_it := it.lt
  refine LR.nil ?_
  refine hK1 _ _ ?_
  refine CW.block (fun K2 hK2 hX2 hE2 => ?_)
  refine CW.loop (fun (s_ : (List Pth) × (Value) × (Nat)) => match s_ with | (dn, vr3, kr3) => [(0, .func (.yield lp) #[] #[]), (5, .pointer (some ⟨H0.size, 0, none⟩))])
    (fun (s_ : (List Pth) × (Value) × (Nat)) (H : Heap) => match s_ with | (dn, vr3, kr3) => (Itr H H0.size mb Str es ck dn) ∧ (Lpr H lp r_) ∧ (Var 42 H Bs [vr3]) ∧ (Ow kr3 9 H fS 1 vr3 dn) ∧ (dn.Nodup ∧ ∀ k ∈ dn, k ∈ mm.map (·.1)) ∧ (Nx kr H5.size kr3) ∧ (Dj (H0.size + 1) kr3) ∧ (Dj (lp + 1) kr3) ∧ (Dj (Bs + 1) kr3) ∧ Mo (Ms [(H0.size + 1), (lp + 1), (Bs + 1), kr]) H5 H)
    (fun (s_ : (List Pth) × (Value) × (Nat)) => match s_ with | (dn, vr3, kr3) => mm.length - dn.length) ([], vr, kr) ⟨rfl, rfl, trivial⟩ ?_ ?_
  ·
    exact ⟨it, hl, hB, ow, ⟨List.nodup_nil, by simp⟩, Nx.refl _ _, dj6.symm, d_hl_ow, d_hB_ow, Mo.refl _ _⟩
  rintro ⟨dn, vr3, kr3⟩ HL1 hI1 K3 hN3 hE3
  obtain ⟨it, hl, hB, ow, hdn, nxl_ow, dj_it_ow, dj_hl_ow, dj_hB_ow, hlm1⟩ := hI1
  have dj8 : Dj (bx + 1) kr3 := Dj.app (d_hx_ow) hx.lt nxl_ow
  have dj9 : Dj (mb + 1) kr3 := Dj.app (d_hso_ow) hso.lt nxl_ow
  have dj10 : Dj (D + 1) kr3 := Dj.app (d_hD_ow) hD.lt nxl_ow
  have nx11 : Nx kr H0.size kr3 := Nx.tr (nx_hm0_ow) nxl_ow hm0.size
  replace hx := hx.upL hlm1 (DL.cons dj1 (DL.cons d_hx_hl (DL.cons d_hx_hB (DL.cons d_hx_ow DL.nil))))
  replace hso := hso.upL hlm1 (DL.cons dj2 (DL.cons d_hso_hl (DL.cons d_hso_hB (DL.cons d_hso_ow DL.nil))))
  replace hD := hD.upL hlm1 (DL.cons dj3 (DL.cons d_hD_hl (DL.cons d_hD_hB (DL.cons d_hD_ow DL.nil))))
  replace hm0 := hm0.trL hlm1 (MIL.cons (MI.app MI.z (nx7) (Nat.le_refl _)) (MIL.cons (MI.app (MI.root (by simp)) (nx_hm0_hl) (Nat.le_refl _)) (MIL.cons (MI.app (MI.root (by simp)) (nx_hm0_hB) (Nat.le_refl _)) (MIL.cons (MI.app (MI.root (by simp)) (nx_hm0_ow) (Nat.le_refl _)) MIL.nil))))
  have hz2 := hlm1.size
  have hle_ow := ow.le
  have dj12 := dj_it_ow
  have dj13 := dj_hl_ow
  have dj14 := dj_hB_ow
  have nx_hlm1_it := Nx.refl (H0.size + 1) H5.size
  have nx_hlm1_hl := Nx.refl (lp + 1) H5.size
  have nx_hlm1_hB := Nx.refl (Bs + 1) H5.size
  have nx15 := nxl_ow
  have hdl := nodup_le hdn.1 hdn.2
  rw [List.length_map] at hdl
  refine CW.seq (fun K4 hK4 hE4 => ?_)
  refine CW.region ?_
  refine LR.z (Z.nextA it hso keyStr.inj rfl rfl) (Wd.u rfl) rfl rfl (fun v6 H6 r6 => ?_)
  obtain ⟨qb, x, y, dn2, rfl, it, hT6, hF6, hs6⟩ := r6
  replace hs6 := hs6.md1
  replace hx := hx.upL hs6 (DL.cons dj1 DL.nil)
  replace hso := hso.upL hs6 (DL.cons dj2 DL.nil)
  replace hD := hD.upL hs6 (DL.cons dj3 DL.nil)
  replace ow := ow.upL hs6 (DL.cons dj12.symm DL.nil)
  replace hl := hl.upL hs6 (DL.cons dj4 DL.nil)
  replace hB := hB.upL hs6 (DL.cons dj5 DL.nil)
  replace hm0 := hm0.trL hs6 (MIL.cons (MI.app MI.z (nx7) (Nat.le_refl _)) MIL.nil)
  replace hlm1 := hlm1.trL hs6 (MIL.cons (MI.app (MI.root (by simp)) (nx_hlm1_it) (Nat.le_refl _)) MIL.nil)
  have hz3 := hs6.size
  refine LR.v (Y.ext0 rfl rfl) (Wd.u rfl) rfl rfl ?_
  refine LR.nil ?_
  refine hK4 _ _ ?_
  refine CW.seq (fun K5 hK5 hE5 => ?_)
  refine CW.cond rfl (fun c7 => ?_) (fun c7 => ?_)
  ·
    obtain ⟨hxy, hnd, hdq⟩ := hT6 c7
    rw [hdq] at it
    refine CW.skip ?_
    refine hK5 _ _ ?_
    refine CW.block (fun K6 hK6 hX6 hE6 => ?_)
    refine CW.seq (fun K7 hK7 hE7 => ?_)
    refine CW.region ?_
    refine LR.v (Y.entryA it hso keyStr.inj hxy rfl rfl) (Wd.u rfl) rfl rfl ?_
    refine LR.v (Y.extract rfl rfl rfl) (Wd.u rfl) rfl rfl ?_
    refine LR.v (Y.assign rfl rfl) (Wd.u rfl) rfl rfl ?_
    refine LR.nil ?_
    refine hK7 _ _ ?_
    refine CW.seq (fun K8 hK8 hE8 => ?_)
    refine CW.region_in ?_
    refine LRI.v (Y.move rfl rfl) (by intro c e; cases e) (Wd.u rfl) rfl rfl ?_
    refine LRI.v (Y.move rfl rfl) (by intro c e; cases e) (Wd.u rfl) rfl rfl ?_
    refine LRI.round rfl rfl rfl (Wd.u rfl) rfl rfl (ap_round r_ Bs lp _ _ dn x w0 _ hr hl hB ow (d_hl_hB) (dj13) (dj14) (by omega)) (fun v12 H12 r12 => ?_)
    have ql16 := hx.lt
    have ql17 := hso.lt
    have ql18 := hD.lt
    have ql19 := ow.le
    have ql20 := it.lt
    have ql21 := hl.lt
    have ql22 := hB.lt
    obtain ⟨vr12, kr12, rfl, hl, hB, ow, hk12, hs12⟩ := r12
    have dj23 : Dj (bx + 1) kr12 := Dj.app (dj8) ql16 hk12
    have dj24 : Dj (mb + 1) kr12 := Dj.app (dj9) ql17 hk12
    have dj25 : Dj (D + 1) kr12 := Dj.app (dj10) ql18 hk12
    have dj26 : Dj (H0.size + 1) kr12 := Dj.app (dj12) ql20 hk12
    have dj27 : Dj (lp + 1) kr12 := Dj.app (dj13) ql21 hk12
    have dj28 : Dj (Bs + 1) kr12 := Dj.app (dj14) ql22 hk12
    have nx29 : Nx kr H0.size kr12 := Nx.tr (nx11) hk12 hm0.size
    have nx30 : Nx kr H5.size kr12 := Nx.tr (nx15) hk12 hlm1.size
    replace hx := hx.upL hs12 (DL.cons d_hx_hl (DL.cons d_hx_hB (DL.cons dj8 DL.nil)))
    replace hso := hso.upL hs12 (DL.cons d_hso_hl (DL.cons d_hso_hB (DL.cons dj9 DL.nil)))
    replace hD := hD.upL hs12 (DL.cons d_hD_hl (DL.cons d_hD_hB (DL.cons dj10 DL.nil)))
    replace it := it.upL hs12 (DL.cons dj4.symm (DL.cons dj5.symm (DL.cons dj12 DL.nil)))
    replace hm0 := hm0.trL hs12 (MIL.cons (MI.app (MI.root (by simp)) (nx_hm0_hl) (Nat.le_refl _)) (MIL.cons (MI.app (MI.root (by simp)) (nx_hm0_hB) (Nat.le_refl _)) (MIL.cons (MI.app (MI.root (by simp)) (nx11) (Nat.le_refl _)) MIL.nil)))
    replace hlm1 := hlm1.trL hs12 (MIL.cons (MI.app (MI.root (by simp)) (nx_hlm1_hl) (Nat.le_refl _)) (MIL.cons (MI.app (MI.root (by simp)) (nx_hlm1_hB) (Nat.le_refl _)) (MIL.cons (MI.app (MI.root (by simp)) (nx15) (Nat.le_refl _)) MIL.nil)))
    have hz4 := hs12.size
    have hle_ow := ow.le
    refine LRI.v (Y.not rfl rfl) (by intro c e; cases e) (Wd.u rfl) rfl rfl ?_
    refine LRI.nil ?_
    refine hK8 _ _ ?_
    refine CW.cond_f rfl ?_
    refine CW.skip ?_
    refine hK6 _ _ ?_
    have hdn2 : (dn ++ [x]).Nodup ∧ ∀ k ∈ dn ++ [x], k ∈ mm.map (·.1) := by
      refine ⟨?_, fun k hk => ?_⟩
      · rw [List.nodup_append]
        exact ⟨hdn.1, by simp, fun a ha b hb e => by simp only [List.mem_singleton] at hb; subst hb; subst e; exact hnd ha⟩
      · rcases List.mem_append.1 hk with hk | hk
        · exact hdn.2 k hk
        · rw [List.mem_singleton.1 hk]; exact List.mem_map.2 ⟨_, hxy, rfl⟩
    have hdl2 := nodup_le hdn2.1 hdn2.2
    rw [List.length_append, List.length_map, List.length_singleton] at hdl2
    refine QN.sub (hN3 (dn ++ [x], vr12, kr12) _ ?_ ?_) ⟨rfl, rfl, trivial⟩
    · exact ⟨it, hl, hB, ow, hdn2, nx30, dj26, dj27, dj28, hlm1⟩
    · simp only [List.length_append, List.length_singleton]; omega
  ·
    obtain ⟨hall, hdq⟩ := hF6 c7
    refine CW.exit (hE5 (.exit 0) nofun _ _ (hE3 (.exit 0) nofun _ _ (hX2 _ _ ?_)))
    refine hret .normal (.inl rfl) _ _ _ (res0 rfl) ?_
    exact ⟨vr3, kr3, dn, rfl, hl, hB, ow, nx11, ⟨hdn.1, fun k => ⟨hdn.2 k, fun h => by obtain ⟨p, hp, rfl⟩ := List.mem_map.1 h; exact hall p hp⟩⟩, hm0⟩

theorem apseqN (bx mb : Nat) (fv : Nat → Value) (mm : List (Pth × Nat)) (w0 : World) (H0 : Heap) (hx : Var 79 H0 bx [.map (some mb)]) (hso : Mp H0 Str fv mb mm) (hmm : mm.length ≤ 1099511627776) :
    Ct Tryd.prog w0 78 #[.slice none 0 0, .func (.func 66) #[] #[.pointer (some ⟨bx, 0, none⟩)]] H0 (fun r H2 => ∃ s : SV, ∃ k : Nat, ∃ out : List Pth, r = s.v ∧ (Ow k 9 H2 fS 1 s.v out) ∧ (Nx 0 H0.size k) ∧ (out.Nodup ∧ ∀ k, k ∈ out ↔ k ∈ mm.map (·.1)) ∧ Nw H0 H2) := by
  intro w ha
  refine callsIn_wide.1 (callsIn_of_wp_marks (n := 0) Tryd.func78 rfl trivial ?_)
  have hf0 := Fr.start (n := Tryd.f78.ntmps) (args := [.slice none 0 0, .func (.func 66) #[] #[.pointer (some ⟨bx, 0, none⟩)]]) (Nat.le_of_ble_eq_true rfl)
  refine wpIn_seq (wpIn_wide.2 ?_)
  refine (CW.region (w0 := w0) (H := H0) (n := Tryd.f78.ntmps) (l := argL [.slice none 0 0, .func (.func 66) #[] #[.pointer (some ⟨bx, 0, none⟩)]] 0) ?_) _ w hf0 ha
  refine LR.z (Z.boxv1 rfl rfl rfl) (Wd.u rfl) rfl rfl (fun v2 H1 r2 => ?_)
  obtain ⟨rfl, hB, hs1, ob1, hH1⟩ := r2
  have hz1 : H1.size = H0.size + 1 := by rw [hH1]; simp
  have hxl := hx.lt; have hsl := hso.lt
  replace hx := hx.nw hs1; replace hso := hso.nw hs1
  refine LR.v (Y.assign rfl rfl) (Wd.u rfl) rfl rfl ?_
  refine LR.nil (fun a1 w1 hf1 ha1 => ?_)
  show (Code.seq _ _).wpIn Fence.wide 0 _ _ a1 w1
  refine wpIn_seq (wpIn_seq (wpIn_wide.2 ?_))
  refine (CW.region (w0 := w0) (H := H1) ?_) a1 w1 hf1 ha1
  refine LR.v (Y.move rfl rfl) (Wd.u rfl) rfl rfl ?_
  refine LR.nil (fun a2 w2 hf2 ha2 => ?_)
  show (Code.block _ _).wpIn Fence.wide 0 _ _ a2 w2
  refine wpIn_block (wpIn_rangeFunc (fun fn _ => ?_))
  obtain ⟨rc, hrc⟩ : ∃ rc : Loop, rc = { state := .ready, pending := none, fn, tmps := a2.tmps, params := #[7], assign := asOf (rfOf (Tryd.f78.body.getD .skip)), body := boOf (rfOf (Tryd.f78.body.getD .skip)), defers := w2.heap.size } := ⟨_, rfl⟩
  have hst : (Instr.enterLoop fn a2.tmps #[7] (asOf (rfOf (Tryd.f78.body.getD .skip))) (boOf (rfOf (Tryd.f78.body.getD .skip))) none).run Tryd.prog w2 = .ok (w2.heap.size + 1, [{ target := .collected w2.heap.size, args := #[] }]) ((w2.alloc (.deferred (some []))).alloc (.loop rc)) := by
    rw [hrc]; exact run_enterLoop_outer fn a2.tmps #[7] _ _
  have ha3 : At w0 ((H1.push (.deferred (some []))).push (.loop rc)) ((w2.alloc (.deferred (some []))).alloc (.loop rc)) := (ha2.alloc _).alloc _
  obtain ⟨w3, hw3⟩ : ∃ w3, w3 = (w2.alloc (.deferred (some []))).alloc (.loop rc) := ⟨_, rfl⟩
  rw [← hw3] at hst ha3
  obtain ⟨H3, hH3⟩ : ∃ H3, H3 = (H1.push (.deferred (some []))).push (.loop rc) := ⟨_, rfl⟩
  rw [← hH3] at ha3
  have hz3 : H3.size = H1.size + 2 := by rw [hH3]; simp
  have hw2 : w2.heap.size = H1.size := by rw [ha2.heap]
  have hs3 : Nw H1 H3 := by rw [hH3]; exact (Nw.pu _ _).tr (Nw.pu _ _)
  replace hx := hx.nw hs3; replace hso := hso.nw hs3; replace hB := hB.nw hs3
  have hD : Dfr H3 H1.size := ⟨by rw [hH3, Array.getElem?_push, if_neg (by simp)]; exact Array.getElem?_push_size⟩
  have hl : Lpr H3 (H1.size + 1) rc := ⟨by
    have h9 := Array.getElem?_push_size (xs := H1.push (.deferred (some []))) (x := Obj.loop rc)
    rw [Array.size_push, ← hH3] at h9
    exact h9⟩
  have hap : ApR rc H0.size := by
    subst hrc
    exact ⟨rfl, rfl, rfl, rfl, rfl, ⟨rfl, hf2.size, fun t v e => (hf2.sub (l' := [(2, .pointer (some ⟨H0.size, 0, none⟩))]) ⟨rfl, trivial⟩).get t v e⟩⟩
  have hyi : ∀ w, (callFunc 66 #[.func (.yield (H1.size + 1)) #[] #[], .pointer (some ⟨bx, 0, none⟩)]).run Tryd.prog w = .ok (.enter 66 #[.func (.yield (H1.size + 1)) #[] #[], .pointer (some ⟨bx, 0, none⟩)]) w := fun w => enters_of Tryd.func66 (by kernel_rfl) rfl _ w
  refine ⟨w2.heap.size + 1, [{ target := .collected w2.heap.size, args := #[] }], w3, { target := .fn (.func 66) #[.pointer (some ⟨bx, 0, none⟩)], args := #[.func (.yield (H1.size + 1)) #[] #[]] }, w3, 66, #[.func (.yield (H1.size + 1)) #[] #[], .pointer (some ⟨bx, 0, none⟩)], w3, hst, ?_, fun _ _ => trivial, ?_, fun h => (by cases h), ?_⟩
  · have h6 := hf2.get 6 (.func (.func 66) #[] #[.pointer (some ⟨bx, 0, none⟩)]) rfl
    rw [hw2]
    simp [resolve, rangeCall, Deferred.ofValue, Act.eval, h6]
  · exact hyi _
  refine callsIn_wide.2 ((keys1N rc (H1.size + 1) H0.size bx mb H1.size 0 (.slice none 0 0) fv mm w0 H3 hx hso hD hl hB (Ow.nil fS_len fS_one) hap hmm (Dj.of (by omega)) Dj.z Dj.z (Dj.of (by omega)) (Dj.of (by omega)) Dj.z (Dj.of (by omega)) (Dj.of (by omega)) Dj.z (Dj.of (by omega)) (Dj.of (by omega)) Dj.z _ ha3).mono ?_)
  rintro e w4 ⟨r4, H4, rfl, ha4, vr2, k2, out, rfl, hl4, hB4, ow4, hk4, hout, hm4⟩
  have hD4 : Dfr H4 H1.size := hD.upL hm4 (DL.cons (Dj.of (by omega)) (DL.cons (Dj.of (by omega)) (DL.cons Dj.z DL.nil)))
  have hlw : w4.heap[w2.heap.size + 1]? = some (.loop rc) := by rw [ha4.heap, hw2]; exact hl4.at_
  have hrp : rc.pending = none := hap.pe
  have hend := run_endLoop (P := Tryd.prog) hlw (by rw [hap.st]; simp)
  rw [hrp] at hend
  refine ⟨none, _, hend, ?_⟩
  have hs5 : Mo (fun c => c = H1.size + 1) H4 (H4.setIfInBounds (H1.size + 1) (.loop { rc with state := .exhausted })) := mo_set _
  have ha5 : At w0 (H4.setIfInBounds (H1.size + 1) (.loop { rc with state := .exhausted })) (w4.putObj (w2.heap.size + 1) (.loop { rc with state := .exhausted })) := by
    unfold World.putObj
    rw [ha4.heap, hw2]
    exact ha4.set
  rw [hrp] at hs5 ha5
  obtain ⟨w5, hw5⟩ : ∃ w5, w5 = w4.putObj (w2.heap.size + 1) (.loop { rc with state := .exhausted, pending := none }) := ⟨_, rfl⟩
  obtain ⟨H5, hH5⟩ : ∃ H5, H5 = H4.setIfInBounds (H1.size + 1) (.loop { rc with state := .exhausted, pending := none }) := ⟨_, rfl⟩
  rw [← hw5] at ha5
  rw [← hH5] at hs5 ha5
  rw [← hw5]
  have hz4 := hm4.size
  have hz5 := hs5.size
  have hs5' := hs5.md1
  have dk : ∀ c, c + 1 ≤ H3.size → Dj k2 (c + 1) := fun c hc q h1 h2 => by unfold Nx at hk4; omega
  replace hB4 := hB4.upL hs5' (DL.cons (Dj.of (by omega)) DL.nil)
  replace ow4 := ow4.upL hs5' (DL.cons (dk _ (by omega)) DL.nil)
  replace hD4 := hD4.upL hs5' (DL.cons (Dj.of (by omega)) DL.nil)
  have hm0 : Mo (Ms []) H0 H5 := by
    have q0 := ((Mo.refl (S := Ms []) H0).trN hs1).trN hs3
    have q1 := q0.trL hm4 (MIL.cons (MI.new (by omega)) (MIL.cons (MI.new (Nat.le_refl _)) (MIL.cons MI.z MIL.nil)))
    exact q1.trL hs5' (MIL.cons (MI.new (by omega)) MIL.nil)
  show (Code.seq _ _).wpIn Fence.wide 0 _ _ _ w5
  refine wpIn_seq (wpIn_region_lit ?_)
  refine LRD.v (w0 := w0) (H := H5) (Y.load1 hB4.pt rfl Tryd.isAgg42 rfl) (by intro c e; cases e) (Wd.u rfl) rfl rfl ?_ a2 w5 hf2 ha5
  refine LRD.v (w0 := w0) (H := H5) (Y.assign rfl rfl) (by intro c e; cases e) (Wd.u rfl) rfl rfl ?_
  intro a6 w6 hf6 ha6
  show Code.ret.wpIn Fence.wide 0 _ _ _ w6
  refine wpIn_ret ?_
  show LeavesInM Fence.wide 0 _ _ a6.tmps _ ([{ target := .collected w2.heap.size, args := #[] }] ++ a2.defers) .returning w6
  rw [hf2.defers, List.append_nil]
  have hDw : w6.heap[w2.heap.size]? = some (.deferred (some [])) := by rw [ha6.heap, hw2]; exact hD4.at_
  refine ⟨by simp, .inl ⟨_, _, rfl, run_takeDeferred (P := Tryd.prog) hDw, ?_⟩⟩
  have hs7 : Mo (fun c => c = H1.size) H5 (H5.setIfInBounds H1.size (.deferred none)) := mo_set _
  have ha7 : At w0 (H5.setIfInBounds H1.size (.deferred none)) (w6.putObj w2.heap.size (.deferred none)) := by
    unfold World.putObj
    rw [ha6.heap, hw2]
    exact ha6.set
  have hs7' := hs7.md1
  obtain ⟨s, hs⟩ : ∃ s : SV, vr2 = s.v := ⟨toSV vr2, ow4.sv.symm⟩
  refine ⟨vr2, res1 rfl rfl _ _ hf6 ha7, vr2, _, rfl, ha7, s, k2, out, hs, ?_, ?_, hout, ?_⟩
  · rw [← hs]; exact ow4.upL hs7' (DL.cons (dk _ (by omega)) DL.nil)
  · unfold Nx at hk4 ⊢; omega
  · exact (hm0.trL hs7' (MIL.cons (MI.new (by omega)) MIL.nil)).nil

theorem collectN (bx mb : Nat) (fv : Nat → Value) (mm : List (Pth × Nat)) (w0 : World) (H0 : Heap)
    (hx : Var 79 H0 bx [.map (some mb)]) (hso : Mp H0 Str fv mb mm) (hmm : mm.length ≤ 1099511627776) :
    Ct Tryd.prog w0 63 #[.func (.func 66) #[] #[.pointer (some ⟨bx, 0, none⟩)]] H0 (fun r H2 => ∃ s : SV, ∃ k : Nat, ∃ out : List Pth, r = s.v ∧ (Ow k 9 H2 fS 1 s.v out) ∧ (Nx 0 H0.size k) ∧ (out.Nodup ∧ ∀ k, k ∈ out ↔ k ∈ mm.map (·.1)) ∧ Nw H0 H2) := by
  refine Ct.enter (args := [.func (.func 66) #[] #[.pointer (some ⟨bx, 0, none⟩)]]) Tryd.func63 rfl rfl rfl ?_
  intro Q0 hret
  have hm0 : Nw H0 H0 := Mo.refl _ _
  have nx_hm0_hx := Nx.refl (bx + 1) H0.size
  have hlt_hx := hx.lt
  have nx_hm0_hso := Nx.refl (mb + 1) H0.size
  have hlt_hso := hso.lt
  refine CW.seq (fun K1 hK1 hE1 => ?_)
  refine CW.region ?_
  refine LR.v (Y.assign rfl rfl) (Wd.u rfl) rfl rfl ?_
  refine LR.nil ?_
  refine hK1 _ _ ?_
  refine CW.seq (fun K2 hK2 hE2 => ?_)
  refine CW.region ?_
  refine LR.v (Y.move rfl rfl) (Wd.u rfl) rfl rfl ?_
  -- call slices.AppendSeq[[]string,string]
  refine LR.call rfl Tryd.call78 rfl (Wd.u rfl) rfl rfl (apseqN bx mb fv mm w0 _ hx hso hmm) (fun v4 H4 r4 => ?_)
  obtain ⟨s4, k4, out4, rfl, ow4, hk4, hout4, hs4⟩ := r4
  have dj1 : Dj (bx + 1) k4 := Dj.app (Dj.z) hx.lt hk4
  have dj2 : Dj (mb + 1) k4 := Dj.app (Dj.z) hso.lt hk4
  have nx3 : Nx 0 H0.size k4 := Nx.tr (Nx.refl 0 _) hk4 hm0.size
  replace hx := hx.nw hs4
  replace hso := hso.nw hs4
  replace hm0 := hm0.tr hs4
  have hz1 := hs4.size
  have hle_ow4 := ow4.le
  refine LR.v (Y.assign rfl rfl) (Wd.u rfl) rfl rfl ?_
  refine LR.nil ?_
  refine hK2 _ _ ?_
  refine CW.ret (hret .ret (.inr rfl) _ _ _ (res1 rfl rfl) ?_)
  exact ⟨s4, k4, out4, rfl, ow4, nx3, hout4, hm0⟩

theorem keysN (mb : Nat) (w0 : World) (H0 : Heap)
     :
    Ct Tryd.prog w0 46 #[.map (some mb)] H0 (fun r H2 => ∃ bx : Nat, r = .func (.func 66) #[] #[.pointer (some ⟨bx, 0, none⟩)] ∧ (Var 79 H2 bx [.map (some mb)]) ∧ (Nx 0 H0.size (bx + 1)) ∧ Nw H0 H2) := by
  refine Ct.enter (args := [.map (some mb)]) Tryd.func46 rfl rfl rfl ?_
  intro Q0 hret
  have hm0 : Nw H0 H0 := Mo.refl _ _
  refine CW.seq (fun K1 hK1 hE1 => ?_)
  refine CW.region ?_
  refine LR.z (Z.boxv1 rfl rfl (rfl)) (Wd.u rfl) rfl rfl (fun v1 H1 r1 => ?_)
  obtain ⟨rfl, hx, hs1, ob1, hH1⟩ := r1
  have hzs1 : H1.size = H0.size + 1 := by rw [hH1]; simp
  have nx1 : Nx 0 H0.size (H0.size + 1) := Nx.new hm0.size
  replace hm0 := hm0.tr hs1
  have hz1 := hs1.size
  replace hx : Var 79 H1 H0.size ([.map (some mb)]) := hx
  refine LR.v (Y.assign rfl rfl) (Wd.u rfl) rfl rfl ?_
  refine LR.nil ?_
  refine hK1 _ _ ?_
  refine CW.seq (fun K2 hK2 hE2 => ?_)
  refine CW.region ?_
  refine LR.v (Y.makeFunc rfl rfl) (Wd.u rfl) rfl rfl ?_
  refine LR.v (Y.assign rfl rfl) (Wd.u rfl) rfl rfl ?_
  refine LR.nil ?_
  refine hK2 _ _ ?_
  refine CW.ret (hret .ret (.inr rfl) _ _ _ (res1 rfl rfl) ?_)
  exact ⟨_, rfl, hx, Nx.new (Nat.le_refl _), hm0⟩

theorem sortedN (bx mb : Nat) (fv : Nat → Value) (mm : List (Pth × Nat)) (w0 : World) (H0 : Heap)
    (hx : Var 79 H0 bx [.map (some mb)]) (hso : Mp H0 Str fv mb mm) (hmm : mm.length ≤ 1099511627776) :
    Ct Tryd.prog w0 41 #[.func (.func 66) #[] #[.pointer (some ⟨bx, 0, none⟩)]] H0 (fun r H2 => ∃ s : SV, ∃ k : Nat, ∃ out : List Pth, r = s.v ∧ (Ow k 9 H2 fS 1 s.v out) ∧ (Nx 0 H0.size k) ∧ (Rise out ∧ ∀ k, k ∈ out ↔ k ∈ mm.map (·.1)) ∧ Nw H0 H2) := by
  refine Ct.enter (args := [.func (.func 66) #[] #[.pointer (some ⟨bx, 0, none⟩)]]) Tryd.func41 rfl rfl rfl ?_
  intro Q0 hret
  have hm0 : Nw H0 H0 := Mo.refl _ _
  have nx_hm0_hx := Nx.refl (bx + 1) H0.size
  have hlt_hx := hx.lt
  have nx_hm0_hso := Nx.refl (mb + 1) H0.size
  have hlt_hso := hso.lt
  refine CW.seq (fun K1 hK1 hE1 => ?_)
  refine CW.region ?_
  refine LR.v (Y.assign rfl rfl) (Wd.u rfl) rfl rfl ?_
  refine LR.nil ?_
  refine hK1 _ _ ?_
  refine CW.seq (fun K2 hK2 hE2 => ?_)
  refine CW.region ?_
  refine LR.v (Y.move rfl rfl) (Wd.u rfl) rfl rfl ?_
  -- call slices.Collect[string]
  refine LR.call rfl Tryd.call63 rfl (Wd.u rfl) rfl rfl (collectN bx mb fv mm w0 _ hx hso hmm) (fun v5 H5 r5 => ?_)
  obtain ⟨s5, k5, out5, rfl, ow, hk5, hout5, hs5⟩ := r5
  have dj1 : Dj (bx + 1) k5 := Dj.app (Dj.z) hx.lt hk5
  have dj2 : Dj (mb + 1) k5 := Dj.app (Dj.z) hso.lt hk5
  have nx3 : Nx 0 H0.size k5 := Nx.tr (Nx.refl 0 _) hk5 hm0.size
  replace hx := hx.nw hs5
  replace hso := hso.nw hs5
  replace hm0 := hm0.tr hs5
  have hz1 := hs5.size
  have hle_ow := ow.le
  have hol := nodup_le hout5.1 (fun k hk => (hout5.2 k).1 hk)
  rw [List.length_map] at hol
  refine LR.v (Y.assign rfl rfl) (Wd.u rfl) rfl rfl ?_
  refine LR.nil ?_
  refine hK2 _ _ ?_
  refine CW.seq (fun K3 hK3 hE3 => ?_)
  refine CW.region ?_
  refine LR.v (Y.move rfl rfl) (Wd.u rfl) rfl rfl ?_
  -- call slices.Sort[[]string,string]
  refine LR.call rfl Tryd.call64 rfl (Wd.u rfl) rfl rfl (sortS_ct k5 _ out5 w0 _ ow (by omega)) (fun v7 H7 r7 => ?_)
  have ql4 := hx.lt
  have ql5 := hso.lt
  have ql6 := ow.le
  obtain ⟨l2, k2, rfl, ow, hk7, hp7, hs7⟩ := r7
  have dj7 : Dj (bx + 1) k2 := Dj.app (dj1) ql4 hk7
  have dj8 : Dj (mb + 1) k2 := Dj.app (dj2) ql5 hk7
  have nx9 : Nx 0 H0.size k2 := Nx.tr (nx3) hk7 hm0.size
  replace hx := hx.upL hs7 (DL.cons dj1 DL.nil)
  replace hso := hso.upL hs7 (DL.cons dj2 DL.nil)
  replace hm0 := (Mo.trL (ks := []) (hm0.mdn []) hs7 (MIL.cons (MI.app MI.z (nx3) (Nat.le_refl _)) MIL.nil)).nil
  have hz2 := hs7.size
  have hle_ow := ow.le
  refine LR.nil ?_
  refine hK3 _ _ ?_
  refine CW.seq (fun K4 hK4 hE4 => ?_)
  refine CW.region ?_
  refine LR.v (Y.move rfl rfl) (Wd.u rfl) rfl rfl ?_
  refine LR.v (Y.assign rfl rfl) (Wd.u rfl) rfl rfl ?_
  refine LR.nil ?_
  refine hK4 _ _ ?_
  refine CW.ret (hret .ret (.inr rfl) _ _ _ (res1 rfl rfl) ?_)
  obtain ⟨hp1, hp2⟩ := sorted_rise hout5.1 hp7
  exact ⟨s5, k2, l2, rfl, ow, nx9, ⟨hp1, fun k => by rw [hp2.mem_iff, hout5.2]⟩, hm0⟩

end Go.Proofs.YtfbfjhppppoilaaDoor.SimK
