/-
  Contracts of functions of the program, and plain laws: put together of several texts.
-/
import Derived.RangeFuncLeaves
import Derived.RangeFuncRecord
import Derived.RangeFuncSeq
import Derived.Test.YtdliddjkacbggaaGreatDoorGd
import Derived.Shelf.Vars
/-
  The keys of a map, collected into a row of one's own, and sorted.
-/
namespace Go.Proofs.YtdliddjkacbggaaGreatDoor.SimK
open Go.Proofs.YtdliddjkacbggaaGreatDoor.E Go.RowKit Go.Proofs.YtdliddjkacbggaaGreatDoor.SimA Go.Proofs.YtdliddjkacbggaaGreatDoor.SimB Go.Proofs.YtdliddjkacbggaaGreatDoor.SimC Go.Proofs.YtdliddjkacbggaaGreatDoor.SimD Go.Proofs.YtdliddjkacbggaaGreatDoor.SimE Go.Proofs.YtdliddjkacbggaaGreatDoor.SimF Go.Proofs.YtdliddjkacbggaaGreatDoor.SimG Go.Proofs.YtdliddjkacbggaaGreatDoor.SimH Go.Proofs.YtdliddjkacbggaaGreatDoor.SimI Go.Proofs.YtdliddjkacbggaaGreatDoor.SimJ
set_option maxRecDepth 20000
set_option linter.unusedVariables false
set_option linter.unusedSimpArgs false
set_option linter.unusedSectionVars false
set_option maxRecDepth 100000 in
theorem inf87 : Inf Tryz.prog 87 9 1 16 := ⟨Tryz.underlying87, _, _, rfl, rfl, rfl, rfl, rfl⟩

def rfOf : Code → Code
  | .seq _ (.seq (.seq _ (.block _ c)) _) => c
  | _ => .skip
def asOf : Code → Code
  | .rangeFunc _ _ c _ => c
  | _ => .skip
def boOf : Code → Code
  | .rangeFunc _ _ _ c => c
  | _ => .skip
/-- the loop's record -/
structure ApR (r : Loop) (Bs : Nat) : Prop where
  st : r.state = .ready
  pe : r.pending = none
  ps : r.params = #[7]
  A : r.assign = asOf (rfOf (Tryz.f115.body.getD .skip))
  B : r.body = boOf (rfOf (Tryz.f115.body.getD .skip))
  fr : Fr Tryz.f115.ntmps [(2, .pointer (some ⟨Bs, 0, none⟩))] { tmps := r.tmps, defers := [] }
theorem ap_round (r : Loop) (Bs lp kr : Nat) (vr : Value) (ss : List Pth) (x : Pth) (w0 : World) (H : Heap) (hr : ApR r Bs) (hl : Lpr H lp r) (hB : Var 87 H Bs [vr]) (ho : Ow kr 9 H fS 1 vr ss) (d1 : Dj (lp + 1) (Bs + 1)) (d2 : Dj (lp + 1) kr) (d3 : Dj (Bs + 1) kr) (hlen : ss.length ≤ 1099511627776) :
    YCt Tryz.prog w0 lp [Str x] H (fun r' H2 => ∃ vr2 : Value, ∃ kr2 : Nat, r' = .bool true ∧ Lpr H2 lp r ∧ Var 87 H2 Bs [vr2] ∧ Ow kr2 9 H2 fS 1 vr2 (ss ++ [x]) ∧ Nx kr H.size kr2 ∧ Mo (Ms [lp + 1, Bs + 1, kr]) H H2) := by
  have hf7 := hr.fr.put (d := 7) rfl (Str x)
  refine YCt.of hl hr.st hr.pe hr.ps (hr.A.trans rfl) (hr.B.trans rfl) hf7 ?_
  have hlB : lp ≠ Bs := d1.ne
  have hll := hl.lt; have hBl := hB.lt; have hol := ho.le
  have hm := Mo.refl (Ms [lp + 1, Bs + 1, kr]) H
  refine LRI.v (Y.assign rfl rfl) (by intro c e; cases e) (Wd.u rfl) rfl rfl ?_
  refine LRI.nil (fun a w hf ha => ⟨rfl, _, H, hf, ha, hl, ?_⟩)
  have hs7 : Mo (fun c => c = lp) H (H.setIfInBounds lp (.loop { r with state := .busy })) := mo_set _
  have hl7 : Lpr (H.setIfInBounds lp (.loop { r with state := .busy })) lp { r with state := .busy } := ⟨by simp [hl.lt]⟩
  obtain ⟨H7, hH7⟩ : ∃ H7, H7 = H.setIfInBounds lp (.loop { r with state := .busy }) := ⟨_, rfl⟩
  rw [← hH7] at hs7 hl7 ⊢
  have hs7' := hs7.md1
  replace hm := hm.trL hs7' (MIL.cons (MI.root (by simp)) MIL.nil)
  replace hB := hB.upL hs7' (DL.cons (Dj.of (Ne.symm hlB)) DL.nil)
  replace ho := ho.upL hs7' (DL.cons d2.symm DL.nil)
  have hz7 := hs7.size
  refine LRI.v (Y.load1 hB.pt rfl Tryz.isAgg87 rfl) (by intro c e; cases e) (Wd.u rfl) rfl rfl ?_
  refine LRI.v (Y.move rfl rfl) (by intro c e; cases e) (Wd.u rfl) rfl rfl ?_
  refine LRI.z (Z.litw _ ([x]) rfl inf87 rfl rfl rfl (by decide) (by decide) fS_len fS_one rfl) (by intro c e; cases e) (Wd.u rfl) rfl rfl (fun v10 H10 r10 => ?_)
  obtain ⟨ow10, hs10, ob10, hH10⟩ := r10
  have hz10 : H10.size = H7.size + 1 := by rw [hH10]; simp
  replace hm := hm.trN hs10
  replace hl7 := hl7.nw hs10; replace hB := hB.nw hs10; replace ho := ho.nw hs10
  have hd10 : Dj kr (H7.size + 1) := Dj.new (by omega)
  have hol10 := ho.le
  refine LRI.z (Z.apnd ho ow10.rd rfl inf87 rfl rfl (by simp; omega) (by simp; omega)) (by intro c e; cases e) (Wd.u rfl) rfl rfl (fun v11 H11 r11 => ?_)
  obtain ⟨k11, ow11, hk11, hs11⟩ := r11
  replace hk11 : Nx kr H10.size k11 := hk11
  have hs11' := hs11.md
  replace hm := hm.trL hs11' (MIL.cons (MI.root (by simp)) MIL.nil)
  replace hl7 := hl7.upL hs11' (DL.cons d2 DL.nil)
  replace hB := hB.upL hs11' (DL.cons d3 DL.nil)
  have hz11 := hs11.size
  have dB : Dj (Bs + 1) k11 := Dj.app d3 (by omega) hk11
  have dl : Dj (lp + 1) k11 := Dj.app d2 (by omega) hk11
  obtain ⟨s11, hs11v⟩ : ∃ s : SV, v11 = s.v := ⟨toSV v11, ow11.sv.symm⟩
  refine LRI.s (S.var1 hB 0 ([v11]) rfl rfl rfl (by rw [hs11v]; rfl) Tryz.sizeOf87 (by simp) rfl) (by intro c e; cases e) (Wd.u rfl) rfl (fun H12 r12 => ?_)
  obtain ⟨hB, hs12⟩ := r12
  have hs12' := hs12.md1
  replace hm := hm.trL hs12' (MIL.cons (MI.root (by simp)) MIL.nil)
  replace hl7 := hl7.upL hs12' (DL.cons d1 DL.nil)
  replace ow11 := ow11.upL hs12' (DL.cons dB.symm DL.nil)
  have hz12 := hs12.size
  refine LRI.nil (fun a w hf ha => ⟨rfl, H12, ha, hl7, v11, k11, rfl, ?_, ?_, ?_, ?_, ?_⟩)
  · exact ⟨by simp [hl7.lt]⟩
  · exact hB.upL (Mo.md1 (mo_set (r := lp) _)) (DL.cons (Dj.of (Ne.symm hlB)) DL.nil)
  · exact ow11.upL (Mo.md1 (mo_set (r := lp) _)) (DL.cons dl.symm DL.nil)
  · unfold Nx at hk11 ⊢; omega
  · exact hm.trL (Mo.md1 (mo_set (r := lp) _)) (MIL.cons (MI.root (by simp)) MIL.nil)


theorem Fr.start {n : Nat} {args : List Value} (hk : args.length ≤ n) : Fr n (argL args 0) { tmps := args.toArray ++ Array.replicate (n - args.toArray.size) undef, defers := [] } := by
  refine ⟨rfl, ?_, ?_⟩
  · simp; omega
  · intro t v e
    obtain ⟨_, h2⟩ := argL_get args 0 t v e
    simp only [Nat.sub_zero] at h2
    simp only
    have hlt := (List.getElem?_eq_some_iff.1 h2).1
    rw [Array.getElem?_append_left (by simpa using hlt)]
    simpa using h2
theorem LRD.v {P : Program} {w0 : World} {Q : Exit → Act → World → Prop} {n : Nat} {l : FL} {H : Heap} {ops : Array Oper} {rest : List Oper} {o : Oper} {ds : List Deferred} {v : Value} {d : Nat} (hy : Y P w0 n l H o v) (hnd : ∀ c, o.op ≠ .defer c) (hw : Wd ops l o) (hd : o.dst = some d) (hn : Nat.blt d n = true)
    (h : ∀ a w, Fr n ((d, v) :: l) a → At w0 H w → wpListIn (FW none) 0 P ops Q rest { a with defers := ds } w) : ∀ a w, Fr n l a → At w0 H w → wpListIn (FW none) 0 P ops Q (o :: rest) { a with defers := ds } w := by
  intro a w hf ha
  have hp := hf.put hn v
  rw [← hd] at hp
  unfold wpListIn
  rw [if_pos (hw n a hf)]
  refine ⟨fun _ _ => trivial, ?_⟩
  rw [Oper.semAt_eq _ _ _ hnd]
  show Oper.uponIn _ _ _ _ _ _ _ ((execOp a.eval o).run P w)
  rw [hy a w hf ha, Oper.uponIn_value]
  have h2 := h _ w hp ha
  have e : ({ a with defers := ds } : Act).put o.dst v = { (a.put o.dst v) with defers := ds } := by rw [hd]; rfl
  rw [e]; exact h2

theorem keys1D (r_ : Loop) (lp Bs bx mb D kr : Nat) (vr : Value) (fv : Nat → Value) (mm : List (Pth × Nat)) (w0 : World) (H0 : Heap)
    (hx : Var 66 H0 bx [.map (some mb)]) (hso : Mp H0 Str fv mb mm) (hD : Dfr H0 D) (hl : Lpr H0 lp r_) (hB : Var 87 H0 Bs [vr]) (ow : Ow kr 9 H0 fS 1 vr []) (hr : ApR r_ Bs) (hmm : mm.length ≤ 1099511627776) (d_hl_hB : Dj (lp + 1) (Bs + 1)) (d_hl_ow : Dj (lp + 1) (kr)) (d_hB_ow : Dj (Bs + 1) (kr)) (d_hx_hl : Dj (bx + 1) (lp + 1)) (d_hx_hB : Dj (bx + 1) (Bs + 1)) (d_hx_ow : Dj (bx + 1) (kr)) (d_hso_hl : Dj (mb + 1) (lp + 1)) (d_hso_hB : Dj (mb + 1) (Bs + 1)) (d_hso_ow : Dj (mb + 1) (kr)) (d_hD_hl : Dj (D + 1) (lp + 1)) (d_hD_hB : Dj (D + 1) (Bs + 1)) (d_hD_ow : Dj (D + 1) (kr)) :
    Ct Tryz.prog w0 79 #[.func (.yield lp) #[] #[], .pointer (some ⟨bx, 0, none⟩)] H0 (fun r H2 => ∃ vr2 : Value, ∃ kr2 : Nat, ∃ out : List Pth, r = .tuple #[] ∧ (Lpr H2 lp r_) ∧ (Var 87 H2 Bs [vr2]) ∧ (Ow kr2 9 H2 fS 1 vr2 out) ∧ (Nx kr H0.size kr2) ∧ (out.Nodup ∧ ∀ k, k ∈ out ↔ k ∈ mm.map (·.1)) ∧ Mo (Ms [(lp + 1), (Bs + 1), kr]) H0 H2) := by
  refine Ct.enter (args := [.func (.yield lp) #[] #[], .pointer (some ⟨bx, 0, none⟩)]) Tryz.func79 rfl rfl rfl ?_
  intro Q0 hret
  have hm0 : Mo (Ms [(lp + 1), (Bs + 1), kr]) H0 H0 := Mo.refl _ _
  have nx_hm0_hx := Nx.refl (bx + 1) H0.size
  have hlt_hx := hx.lt
  have nx_hm0_hso := Nx.refl (mb + 1) H0.size
  have hlt_hso := hso.lt
  have nx_hm0_hD := Nx.refl (D + 1) H0.size
  have hlt_hD := hD.lt
  have nx_hm0_hl := Nx.refl (lp + 1) H0.size
  have hlt_hl := hl.lt
  have nx_hm0_hB := Nx.refl (Bs + 1) H0.size
  have hlt_hB := hB.lt
  have nx_hm0_ow := Nx.refl kr H0.size
  have hle_ow := ow.le
  refine CW.seq (fun K1 hK1 hE1 => ?_)
  refine CW.region ?_
  refine LR.v (Y.load1 hx.pt rfl Tryz.isAgg66 rfl) (Wd.u rfl) rfl rfl ?_
  obtain ⟨es, ck, hso⟩ := hso.raw
  refine LR.z (Z.rangeA hso rfl Tryz.runUnderlying66 rfl) (Wd.u rfl) rfl rfl (fun v5 H5 r5 => ?_)
  obtain ⟨rfl, it, hs5, ob5, hH5⟩ := r5
  have hzs5 : H5.size = H0.size + 1 := by rw [hH5]; simp
  have dj1 : Dj (bx + 1) (H0.size + 1) := Dj.new hx.lt
  have dj2 : Dj (mb + 1) (H0.size + 1) := Dj.new hso.lt
  have dj3 : Dj (D + 1) (H0.size + 1) := Dj.new hD.lt
  have dj4 : Dj (lp + 1) (H0.size + 1) := Dj.new hl.lt
  have dj5 : Dj (Bs + 1) (H0.size + 1) := Dj.new hB.lt
  have dj6 : Dj kr (H0.size + 1) := Dj.new ow.le
  have nx7 : Nx 0 H0.size (H0.size + 1) := Nx.new hm0.size
  replace hx := hx.nw hs5
  replace hso := hso.nw hs5
  replace hD := hD.nw hs5
  replace hl := hl.nw hs5
  replace hB := hB.nw hs5
  replace ow := ow.nw hs5
  replace hm0 := hm0.trN hs5
  have hz1 := hs5.size
  have hlt_it := it.lt
  refine LR.nil ?_
  refine hK1 _ _ ?_
  refine CW.block (fun K2 hK2 hX2 hE2 => ?_)
  refine CW.loop (fun (s_ : (List Pth) × (Value) × (Nat)) => match s_ with | (dn, vr3, kr3) => [(0, .func (.yield lp) #[] #[]), (5, .pointer (some ⟨H0.size, 0, none⟩))])
    (fun (s_ : (List Pth) × (Value) × (Nat)) (H : Heap) => match s_ with | (dn, vr3, kr3) => (Itr H H0.size mb Str es ck dn) ∧ (Lpr H lp r_) ∧ (Var 87 H Bs [vr3]) ∧ (Ow kr3 9 H fS 1 vr3 dn) ∧ (dn.Nodup ∧ ∀ k ∈ dn, k ∈ mm.map (·.1)) ∧ (Nx kr H5.size kr3) ∧ (Dj (H0.size + 1) kr3) ∧ (Dj (lp + 1) kr3) ∧ (Dj (Bs + 1) kr3) ∧ Mo (Ms [(H0.size + 1), (lp + 1), (Bs + 1), kr]) H5 H)
    (fun (s_ : (List Pth) × (Value) × (Nat)) => match s_ with | (dn, vr3, kr3) => mm.length - dn.length) ([], vr, kr) ⟨rfl, rfl, trivial⟩ ?_ ?_
  ·
    exact ⟨it, hl, hB, ow, ⟨List.nodup_nil, by simp⟩, Nx.refl _ _, dj6.symm, d_hl_ow, d_hB_ow, Mo.refl _ _⟩
  rintro ⟨dn, vr3, kr3⟩ HL1 hI1 K3 hN3 hE3
  obtain ⟨it, hl, hB, ow, hdn, nxl_ow, dj_it_ow, dj_hl_ow, dj_hB_ow, hlm1⟩ := hI1
  have dj8 : Dj (bx + 1) kr3 := Dj.app (d_hx_ow) hx.lt nxl_ow
  have dj9 : Dj (mb + 1) kr3 := Dj.app (d_hso_ow) hso.lt nxl_ow
  have dj10 : Dj (D + 1) kr3 := Dj.app (d_hD_ow) hD.lt nxl_ow
  have nx11 : Nx kr H0.size kr3 := Nx.tr (nx_hm0_ow) nxl_ow hm0.size
  replace hx := hx.upL hlm1 (DL.cons dj1 (DL.cons d_hx_hl (DL.cons d_hx_hB (DL.cons d_hx_ow DL.nil))))
  replace hso := hso.upL hlm1 (DL.cons dj2 (DL.cons d_hso_hl (DL.cons d_hso_hB (DL.cons d_hso_ow DL.nil))))
  replace hD := hD.upL hlm1 (DL.cons dj3 (DL.cons d_hD_hl (DL.cons d_hD_hB (DL.cons d_hD_ow DL.nil))))
  replace hm0 := hm0.trL hlm1 (MIL.cons (MI.app MI.z (nx7) (Nat.le_refl _)) (MIL.cons (MI.app (MI.root (by simp)) (nx_hm0_hl) (Nat.le_refl _)) (MIL.cons (MI.app (MI.root (by simp)) (nx_hm0_hB) (Nat.le_refl _)) (MIL.cons (MI.app (MI.root (by simp)) (nx_hm0_ow) (Nat.le_refl _)) MIL.nil))))
  have hz2 := hlm1.size
  have hle_ow := ow.le
  have dj12 := dj_it_ow
  have dj13 := dj_hl_ow
  have dj14 := dj_hB_ow
  have nx_hlm1_it := Nx.refl (H0.size + 1) H5.size
  have nx_hlm1_hl := Nx.refl (lp + 1) H5.size
  have nx_hlm1_hB := Nx.refl (Bs + 1) H5.size
  have nx15 := nxl_ow
  have hdl := nodup_le hdn.1 hdn.2
  rw [List.length_map] at hdl
  refine CW.seq (fun K4 hK4 hE4 => ?_)
  refine CW.region ?_
  refine LR.z (Z.nextA it hso keyStr.inj rfl rfl) (Wd.u rfl) rfl rfl (fun v6 H6 r6 => ?_)
  obtain ⟨qb, x, y, dn2, rfl, it, hT6, hF6, hs6⟩ := r6
  replace hs6 := hs6.md1
  replace hx := hx.upL hs6 (DL.cons dj1 DL.nil)
  replace hso := hso.upL hs6 (DL.cons dj2 DL.nil)
  replace hD := hD.upL hs6 (DL.cons dj3 DL.nil)
  replace ow := ow.upL hs6 (DL.cons dj12.symm DL.nil)
  replace hl := hl.upL hs6 (DL.cons dj4 DL.nil)
  replace hB := hB.upL hs6 (DL.cons dj5 DL.nil)
  replace hm0 := hm0.trL hs6 (MIL.cons (MI.app MI.z (nx7) (Nat.le_refl _)) MIL.nil)
  replace hlm1 := hlm1.trL hs6 (MIL.cons (MI.app (MI.root (by simp)) (nx_hlm1_it) (Nat.le_refl _)) MIL.nil)
  have hz3 := hs6.size
  refine LR.v (Y.ext0 rfl rfl) (Wd.u rfl) rfl rfl ?_
  refine LR.nil ?_
  refine hK4 _ _ ?_
  refine CW.seq (fun K5 hK5 hE5 => ?_)
  refine CW.cond rfl (fun c7 => ?_) (fun c7 => ?_)
  ·
    obtain ⟨hxy, hnd, hdq⟩ := hT6 c7
    rw [hdq] at it
    refine CW.skip ?_
    refine hK5 _ _ ?_
    refine CW.block (fun K6 hK6 hX6 hE6 => ?_)
    refine CW.seq (fun K7 hK7 hE7 => ?_)
    refine CW.region ?_
    refine LR.v (Y.entryA it hso keyStr.inj hxy rfl rfl) (Wd.u rfl) rfl rfl ?_
    refine LR.v (Y.extract rfl rfl rfl) (Wd.u rfl) rfl rfl ?_
    refine LR.v (Y.assign rfl rfl) (Wd.u rfl) rfl rfl ?_
    refine LR.nil ?_
    refine hK7 _ _ ?_
    refine CW.seq (fun K8 hK8 hE8 => ?_)
    refine CW.region_in ?_
    refine LRI.v (Y.move rfl rfl) (by intro c e; cases e) (Wd.u rfl) rfl rfl ?_
    refine LRI.v (Y.move rfl rfl) (by intro c e; cases e) (Wd.u rfl) rfl rfl ?_
    refine LRI.round rfl rfl rfl (Wd.u rfl) rfl rfl (ap_round r_ Bs lp _ _ dn x w0 _ hr hl hB ow (d_hl_hB) (dj13) (dj14) (by omega)) (fun v12 H12 r12 => ?_)
    have ql16 := hx.lt
    have ql17 := hso.lt
    have ql18 := hD.lt
    have ql19 := ow.le
    have ql20 := it.lt
    have ql21 := hl.lt
    have ql22 := hB.lt
    obtain ⟨vr12, kr12, rfl, hl, hB, ow, hk12, hs12⟩ := r12
    have dj23 : Dj (bx + 1) kr12 := Dj.app (dj8) ql16 hk12
    have dj24 : Dj (mb + 1) kr12 := Dj.app (dj9) ql17 hk12
    have dj25 : Dj (D + 1) kr12 := Dj.app (dj10) ql18 hk12
    have dj26 : Dj (H0.size + 1) kr12 := Dj.app (dj12) ql20 hk12
    have dj27 : Dj (lp + 1) kr12 := Dj.app (dj13) ql21 hk12
    have dj28 : Dj (Bs + 1) kr12 := Dj.app (dj14) ql22 hk12
    have nx29 : Nx kr H0.size kr12 := Nx.tr (nx11) hk12 hm0.size
    have nx30 : Nx kr H5.size kr12 := Nx.tr (nx15) hk12 hlm1.size
    replace hx := hx.upL hs12 (DL.cons d_hx_hl (DL.cons d_hx_hB (DL.cons dj8 DL.nil)))
    replace hso := hso.upL hs12 (DL.cons d_hso_hl (DL.cons d_hso_hB (DL.cons dj9 DL.nil)))
    replace hD := hD.upL hs12 (DL.cons d_hD_hl (DL.cons d_hD_hB (DL.cons dj10 DL.nil)))
    replace it := it.upL hs12 (DL.cons dj4.symm (DL.cons dj5.symm (DL.cons dj12 DL.nil)))
    replace hm0 := hm0.trL hs12 (MIL.cons (MI.app (MI.root (by simp)) (nx_hm0_hl) (Nat.le_refl _)) (MIL.cons (MI.app (MI.root (by simp)) (nx_hm0_hB) (Nat.le_refl _)) (MIL.cons (MI.app (MI.root (by simp)) (nx11) (Nat.le_refl _)) MIL.nil)))
    replace hlm1 := hlm1.trL hs12 (MIL.cons (MI.app (MI.root (by simp)) (nx_hlm1_hl) (Nat.le_refl _)) (MIL.cons (MI.app (MI.root (by simp)) (nx_hlm1_hB) (Nat.le_refl _)) (MIL.cons (MI.app (MI.root (by simp)) (nx15) (Nat.le_refl _)) MIL.nil)))
    have hz4 := hs12.size
    have hle_ow := ow.le
    refine LRI.v (Y.not rfl rfl) (by intro c e; cases e) (Wd.u rfl) rfl rfl ?_
    refine LRI.nil ?_
    refine hK8 _ _ ?_
    refine CW.cond_f rfl ?_
    refine CW.skip ?_
    refine hK6 _ _ ?_
    have hdn2 : (dn ++ [x]).Nodup ∧ ∀ k ∈ dn ++ [x], k ∈ mm.map (·.1) := by
      refine ⟨?_, fun k hk => ?_⟩
      · rw [List.nodup_append]
        exact ⟨hdn.1, by simp, fun a ha b hb e => by simp only [List.mem_singleton] at hb; subst hb; subst e; exact hnd ha⟩
      · rcases List.mem_append.1 hk with hk | hk
        · exact hdn.2 k hk
        · rw [List.mem_singleton.1 hk]; exact List.mem_map.2 ⟨_, hxy, rfl⟩
    have hdl2 := nodup_le hdn2.1 hdn2.2
    rw [List.length_append, List.length_map, List.length_singleton] at hdl2
    refine QN.sub (hN3 (dn ++ [x], vr12, kr12) _ ?_ ?_) ⟨rfl, rfl, trivial⟩
    · exact ⟨it, hl, hB, ow, hdn2, nx30, dj26, dj27, dj28, hlm1⟩
    · simp only [List.length_append, List.length_singleton]; omega
  ·
    obtain ⟨hall, hdq⟩ := hF6 c7
    refine CW.exit (hE5 (.exit 0) nofun _ _ (hE3 (.exit 0) nofun _ _ (hX2 _ _ ?_)))
    refine hret .normal (.inl rfl) _ _ _ (res0 rfl) ?_
    exact ⟨vr3, kr3, dn, rfl, hl, hB, ow, nx11, ⟨hdn.1, fun k => ⟨hdn.2 k, fun h => by obtain ⟨p, hp, rfl⟩ := List.mem_map.1 h; exact hall p hp⟩⟩, hm0⟩

theorem apseqD (bx mb : Nat) (fv : Nat → Value) (mm : List (Pth × Nat)) (w0 : World) (H0 : Heap) (hx : Var 66 H0 bx [.map (some mb)]) (hso : Mp H0 Str fv mb mm) (hmm : mm.length ≤ 1099511627776) :
    Ct Tryz.prog w0 115 #[.slice none 0 0, .func (.func 79) #[] #[.pointer (some ⟨bx, 0, none⟩)]] H0 (fun r H2 => ∃ s : SV, ∃ k : Nat, ∃ out : List Pth, r = s.v ∧ (Ow k 9 H2 fS 1 s.v out) ∧ (Nx 0 H0.size k) ∧ (out.Nodup ∧ ∀ k, k ∈ out ↔ k ∈ mm.map (·.1)) ∧ Nw H0 H2) := by
  intro w ha
  refine callsIn_wide.1 (callsIn_of_wp_marks (n := 0) Tryz.func115 rfl trivial ?_)
  have hf0 := Fr.start (n := Tryz.f115.ntmps) (args := [.slice none 0 0, .func (.func 79) #[] #[.pointer (some ⟨bx, 0, none⟩)]]) (Nat.le_of_ble_eq_true rfl)
  refine wpIn_seq (wpIn_wide.2 ?_)
  refine (CW.region (w0 := w0) (H := H0) (n := Tryz.f115.ntmps) (l := argL [.slice none 0 0, .func (.func 79) #[] #[.pointer (some ⟨bx, 0, none⟩)]] 0) ?_) _ w hf0 ha
  refine LR.z (Z.boxv1 rfl rfl rfl) (Wd.u rfl) rfl rfl (fun v2 H1 r2 => ?_)
  obtain ⟨rfl, hB, hs1, ob1, hH1⟩ := r2
  have hz1 : H1.size = H0.size + 1 := by rw [hH1]; simp
  have hxl := hx.lt; have hsl := hso.lt
  replace hx := hx.nw hs1; replace hso := hso.nw hs1
  refine LR.v (Y.assign rfl rfl) (Wd.u rfl) rfl rfl ?_
  refine LR.nil (fun a1 w1 hf1 ha1 => ?_)
  show (Code.seq _ _).wpIn Fence.wide 0 _ _ a1 w1
  refine wpIn_seq (wpIn_seq (wpIn_wide.2 ?_))
  refine (CW.region (w0 := w0) (H := H1) ?_) a1 w1 hf1 ha1
  refine LR.v (Y.move rfl rfl) (Wd.u rfl) rfl rfl ?_
  refine LR.nil (fun a2 w2 hf2 ha2 => ?_)
  show (Code.block _ _).wpIn Fence.wide 0 _ _ a2 w2
  refine wpIn_block (wpIn_rangeFunc (fun fn _ => ?_))
  obtain ⟨rc, hrc⟩ : ∃ rc : Loop, rc = { state := .ready, pending := none, fn, tmps := a2.tmps, params := #[7], assign := asOf (rfOf (Tryz.f115.body.getD .skip)), body := boOf (rfOf (Tryz.f115.body.getD .skip)), defers := w2.heap.size } := ⟨_, rfl⟩
  have hst : (Instr.enterLoop fn a2.tmps #[7] (asOf (rfOf (Tryz.f115.body.getD .skip))) (boOf (rfOf (Tryz.f115.body.getD .skip))) none).run Tryz.prog w2 = .ok (w2.heap.size + 1, [{ target := .collected w2.heap.size, args := #[] }]) ((w2.alloc (.deferred (some []))).alloc (.loop rc)) := by
    rw [hrc]; exact run_enterLoop_outer fn a2.tmps #[7] _ _
  have ha3 : At w0 ((H1.push (.deferred (some []))).push (.loop rc)) ((w2.alloc (.deferred (some []))).alloc (.loop rc)) := (ha2.alloc _).alloc _
  obtain ⟨w3, hw3⟩ : ∃ w3, w3 = (w2.alloc (.deferred (some []))).alloc (.loop rc) := ⟨_, rfl⟩
  rw [← hw3] at hst ha3
  obtain ⟨H3, hH3⟩ : ∃ H3, H3 = (H1.push (.deferred (some []))).push (.loop rc) := ⟨_, rfl⟩
  rw [← hH3] at ha3
  have hz3 : H3.size = H1.size + 2 := by rw [hH3]; simp
  have hw2 : w2.heap.size = H1.size := by rw [ha2.heap]
  have hs3 : Nw H1 H3 := by rw [hH3]; exact (Nw.pu _ _).tr (Nw.pu _ _)
  replace hx := hx.nw hs3; replace hso := hso.nw hs3; replace hB := hB.nw hs3
  have hD : Dfr H3 H1.size := ⟨by rw [hH3, Array.getElem?_push, if_neg (by simp)]; exact Array.getElem?_push_size⟩
  have hl : Lpr H3 (H1.size + 1) rc := ⟨by
    have h9 := Array.getElem?_push_size (xs := H1.push (.deferred (some []))) (x := Obj.loop rc)
    rw [Array.size_push, ← hH3] at h9
    exact h9⟩
  have hap : ApR rc H0.size := by
    subst hrc
    exact ⟨rfl, rfl, rfl, rfl, rfl, ⟨rfl, hf2.size, fun t v e => (hf2.sub (l' := [(2, .pointer (some ⟨H0.size, 0, none⟩))]) ⟨rfl, trivial⟩).get t v e⟩⟩
  have hyi : ∀ w, (callFunc 79 #[.func (.yield (H1.size + 1)) #[] #[], .pointer (some ⟨bx, 0, none⟩)]).run Tryz.prog w = .ok (.enter 79 #[.func (.yield (H1.size + 1)) #[] #[], .pointer (some ⟨bx, 0, none⟩)]) w := fun w => enters_of Tryz.func79 (by kernel_rfl) rfl _ w
  refine ⟨w2.heap.size + 1, [{ target := .collected w2.heap.size, args := #[] }], w3, { target := .fn (.func 79) #[.pointer (some ⟨bx, 0, none⟩)], args := #[.func (.yield (H1.size + 1)) #[] #[]] }, w3, 79, #[.func (.yield (H1.size + 1)) #[] #[], .pointer (some ⟨bx, 0, none⟩)], w3, hst, ?_, fun _ _ => trivial, ?_, fun h => (by cases h), ?_⟩
  · have h6 := hf2.get 6 (.func (.func 79) #[] #[.pointer (some ⟨bx, 0, none⟩)]) rfl
    rw [hw2]
    simp [resolve, rangeCall, Deferred.ofValue, Act.eval, h6]
  · exact hyi _
  refine callsIn_wide.2 ((keys1D rc (H1.size + 1) H0.size bx mb H1.size 0 (.slice none 0 0) fv mm w0 H3 hx hso hD hl hB (Ow.nil fS_len fS_one) hap hmm (Dj.of (by omega)) Dj.z Dj.z (Dj.of (by omega)) (Dj.of (by omega)) Dj.z (Dj.of (by omega)) (Dj.of (by omega)) Dj.z (Dj.of (by omega)) (Dj.of (by omega)) Dj.z _ ha3).mono ?_)
  rintro e w4 ⟨r4, H4, rfl, ha4, vr2, k2, out, rfl, hl4, hB4, ow4, hk4, hout, hm4⟩
  have hD4 : Dfr H4 H1.size := hD.upL hm4 (DL.cons (Dj.of (by omega)) (DL.cons (Dj.of (by omega)) (DL.cons Dj.z DL.nil)))
  have hlw : w4.heap[w2.heap.size + 1]? = some (.loop rc) := by rw [ha4.heap, hw2]; exact hl4.at_
  have hrp : rc.pending = none := hap.pe
  have hend := run_endLoop (P := Tryz.prog) hlw (by rw [hap.st]; simp)
  rw [hrp] at hend
  refine ⟨none, _, hend, ?_⟩
  have hs5 : Mo (fun c => c = H1.size + 1) H4 (H4.setIfInBounds (H1.size + 1) (.loop { rc with state := .exhausted })) := mo_set _
  have ha5 : At w0 (H4.setIfInBounds (H1.size + 1) (.loop { rc with state := .exhausted })) (w4.putObj (w2.heap.size + 1) (.loop { rc with state := .exhausted })) := by
    unfold World.putObj
    rw [ha4.heap, hw2]
    exact ha4.set
  rw [hrp] at hs5 ha5
  obtain ⟨w5, hw5⟩ : ∃ w5, w5 = w4.putObj (w2.heap.size + 1) (.loop { rc with state := .exhausted, pending := none }) := ⟨_, rfl⟩
  obtain ⟨H5, hH5⟩ : ∃ H5, H5 = H4.setIfInBounds (H1.size + 1) (.loop { rc with state := .exhausted, pending := none }) := ⟨_, rfl⟩
  rw [← hw5] at ha5
  rw [← hH5] at hs5 ha5
  rw [← hw5]
  have hz4 := hm4.size
  have hz5 := hs5.size
  have hs5' := hs5.md1
  have dk : ∀ c, c + 1 ≤ H3.size → Dj k2 (c + 1) := fun c hc q h1 h2 => by unfold Nx at hk4; omega
  replace hB4 := hB4.upL hs5' (DL.cons (Dj.of (by omega)) DL.nil)
  replace ow4 := ow4.upL hs5' (DL.cons (dk _ (by omega)) DL.nil)
  replace hD4 := hD4.upL hs5' (DL.cons (Dj.of (by omega)) DL.nil)
  have hm0 : Mo (Ms []) H0 H5 := by
    have q0 := ((Mo.refl (S := Ms []) H0).trN hs1).trN hs3
    have q1 := q0.trL hm4 (MIL.cons (MI.new (by omega)) (MIL.cons (MI.new (Nat.le_refl _)) (MIL.cons MI.z MIL.nil)))
    exact q1.trL hs5' (MIL.cons (MI.new (by omega)) MIL.nil)
  show (Code.seq _ _).wpIn Fence.wide 0 _ _ _ w5
  refine wpIn_seq (wpIn_region_lit ?_)
  refine LRD.v (w0 := w0) (H := H5) (Y.load1 hB4.pt rfl Tryz.isAgg87 rfl) (by intro c e; cases e) (Wd.u rfl) rfl rfl ?_ a2 w5 hf2 ha5
  refine LRD.v (w0 := w0) (H := H5) (Y.assign rfl rfl) (by intro c e; cases e) (Wd.u rfl) rfl rfl ?_
  intro a6 w6 hf6 ha6
  show Code.ret.wpIn Fence.wide 0 _ _ _ w6
  refine wpIn_ret ?_
  show LeavesInM Fence.wide 0 _ _ a6.tmps _ ([{ target := .collected w2.heap.size, args := #[] }] ++ a2.defers) .returning w6
  rw [hf2.defers, List.append_nil]
  have hDw : w6.heap[w2.heap.size]? = some (.deferred (some [])) := by rw [ha6.heap, hw2]; exact hD4.at_
  refine ⟨by simp, .inl ⟨_, _, rfl, run_takeDeferred (P := Tryz.prog) hDw, ?_⟩⟩
  have hs7 : Mo (fun c => c = H1.size) H5 (H5.setIfInBounds H1.size (.deferred none)) := mo_set _
  have ha7 : At w0 (H5.setIfInBounds H1.size (.deferred none)) (w6.putObj w2.heap.size (.deferred none)) := by
    unfold World.putObj
    rw [ha6.heap, hw2]
    exact ha6.set
  have hs7' := hs7.md1
  obtain ⟨s, hs⟩ : ∃ s : SV, vr2 = s.v := ⟨toSV vr2, ow4.sv.symm⟩
  refine ⟨vr2, res1 rfl rfl _ _ hf6 ha7, vr2, _, rfl, ha7, s, k2, out, hs, ?_, ?_, hout, ?_⟩
  · rw [← hs]; exact ow4.upL hs7' (DL.cons (dk _ (by omega)) DL.nil)
  · unfold Nx at hk4 ⊢; omega
  · exact (hm0.trL hs7' (MIL.cons (MI.new (by omega)) MIL.nil)).nil

theorem collectD (bx mb : Nat) (fv : Nat → Value) (mm : List (Pth × Nat)) (w0 : World) (H0 : Heap)
    (hx : Var 66 H0 bx [.map (some mb)]) (hso : Mp H0 Str fv mb mm) (hmm : mm.length ≤ 1099511627776) :
    Ct Tryz.prog w0 77 #[.func (.func 79) #[] #[.pointer (some ⟨bx, 0, none⟩)]] H0 (fun r H2 => ∃ s : SV, ∃ k : Nat, ∃ out : List Pth, r = s.v ∧ (Ow k 9 H2 fS 1 s.v out) ∧ (Nx 0 H0.size k) ∧ (out.Nodup ∧ ∀ k, k ∈ out ↔ k ∈ mm.map (·.1)) ∧ Nw H0 H2) := by
  refine Ct.enter (args := [.func (.func 79) #[] #[.pointer (some ⟨bx, 0, none⟩)]]) Tryz.func77 rfl rfl rfl ?_
  intro Q0 hret
  have hm0 : Nw H0 H0 := Mo.refl _ _
  have nx_hm0_hx := Nx.refl (bx + 1) H0.size
  have hlt_hx := hx.lt
  have nx_hm0_hso := Nx.refl (mb + 1) H0.size
  have hlt_hso := hso.lt
  refine CW.seq (fun K1 hK1 hE1 => ?_)
  refine CW.region ?_
  refine LR.v (Y.assign rfl rfl) (Wd.u rfl) rfl rfl ?_
  refine LR.nil ?_
  refine hK1 _ _ ?_
  refine CW.seq (fun K2 hK2 hE2 => ?_)
  refine CW.region ?_
  refine LR.v (Y.move rfl rfl) (Wd.u rfl) rfl rfl ?_
  -- call slices.AppendSeq[[]string,string]
  refine LR.call rfl Tryz.call115 rfl (Wd.u rfl) rfl rfl (apseqD bx mb fv mm w0 _ hx hso hmm) (fun v4 H4 r4 => ?_)
  obtain ⟨s4, k4, out4, rfl, ow4, hk4, hout4, hs4⟩ := r4
  have dj1 : Dj (bx + 1) k4 := Dj.app (Dj.z) hx.lt hk4
  have dj2 : Dj (mb + 1) k4 := Dj.app (Dj.z) hso.lt hk4
  have nx3 : Nx 0 H0.size k4 := Nx.tr (Nx.refl 0 _) hk4 hm0.size
  replace hx := hx.nw hs4
  replace hso := hso.nw hs4
  replace hm0 := hm0.tr hs4
  have hz1 := hs4.size
  have hle_ow4 := ow4.le
  refine LR.v (Y.assign rfl rfl) (Wd.u rfl) rfl rfl ?_
  refine LR.nil ?_
  refine hK2 _ _ ?_
  refine CW.ret (hret .ret (.inr rfl) _ _ _ (res1 rfl rfl) ?_)
  exact ⟨s4, k4, out4, rfl, ow4, nx3, hout4, hm0⟩

theorem keysD (mb : Nat) (w0 : World) (H0 : Heap)
     :
    Ct Tryz.prog w0 37 #[.map (some mb)] H0 (fun r H2 => ∃ bx : Nat, r = .func (.func 79) #[] #[.pointer (some ⟨bx, 0, none⟩)] ∧ (Var 66 H2 bx [.map (some mb)]) ∧ (Nx 0 H0.size (bx + 1)) ∧ Nw H0 H2) := by
  refine Ct.enter (args := [.map (some mb)]) Tryz.func37 rfl rfl rfl ?_
  intro Q0 hret
  have hm0 : Nw H0 H0 := Mo.refl _ _
  refine CW.seq (fun K1 hK1 hE1 => ?_)
  refine CW.region ?_
  refine LR.z (Z.boxv1 rfl rfl (rfl)) (Wd.u rfl) rfl rfl (fun v1 H1 r1 => ?_)
  obtain ⟨rfl, hx, hs1, ob1, hH1⟩ := r1
  have hzs1 : H1.size = H0.size + 1 := by rw [hH1]; simp
  have nx1 : Nx 0 H0.size (H0.size + 1) := Nx.new hm0.size
  replace hm0 := hm0.tr hs1
  have hz1 := hs1.size
  replace hx : Var 66 H1 H0.size ([.map (some mb)]) := hx
  refine LR.v (Y.assign rfl rfl) (Wd.u rfl) rfl rfl ?_
  refine LR.nil ?_
  refine hK1 _ _ ?_
  refine CW.seq (fun K2 hK2 hE2 => ?_)
  refine CW.region ?_
  refine LR.v (Y.makeFunc rfl rfl) (Wd.u rfl) rfl rfl ?_
  refine LR.v (Y.assign rfl rfl) (Wd.u rfl) rfl rfl ?_
  refine LR.nil ?_
  refine hK2 _ _ ?_
  refine CW.ret (hret .ret (.inr rfl) _ _ _ (res1 rfl rfl) ?_)
  exact ⟨_, rfl, hx, Nx.new (Nat.le_refl _), hm0⟩

theorem sortedD (bx mb : Nat) (fv : Nat → Value) (mm : List (Pth × Nat)) (w0 : World) (H0 : Heap)
    (hx : Var 66 H0 bx [.map (some mb)]) (hso : Mp H0 Str fv mb mm) (hmm : mm.length ≤ 1099511627776) :
    Ct Tryz.prog w0 36 #[.func (.func 79) #[] #[.pointer (some ⟨bx, 0, none⟩)]] H0 (fun r H2 => ∃ s : SV, ∃ k : Nat, ∃ out : List Pth, r = s.v ∧ (Ow k 9 H2 fS 1 s.v out) ∧ (Nx 0 H0.size k) ∧ (Rise out ∧ ∀ k, k ∈ out ↔ k ∈ mm.map (·.1)) ∧ Nw H0 H2) := by
  refine Ct.enter (args := [.func (.func 79) #[] #[.pointer (some ⟨bx, 0, none⟩)]]) Tryz.func36 rfl rfl rfl ?_
  intro Q0 hret
  have hm0 : Nw H0 H0 := Mo.refl _ _
  have nx_hm0_hx := Nx.refl (bx + 1) H0.size
  have hlt_hx := hx.lt
  have nx_hm0_hso := Nx.refl (mb + 1) H0.size
  have hlt_hso := hso.lt
  refine CW.seq (fun K1 hK1 hE1 => ?_)
  refine CW.region ?_
  refine LR.v (Y.assign rfl rfl) (Wd.u rfl) rfl rfl ?_
  refine LR.nil ?_
  refine hK1 _ _ ?_
  refine CW.seq (fun K2 hK2 hE2 => ?_)
  refine CW.region ?_
  refine LR.v (Y.move rfl rfl) (Wd.u rfl) rfl rfl ?_
  -- call slices.Collect[string]
  refine LR.call rfl Tryz.call77 rfl (Wd.u rfl) rfl rfl (collectD bx mb fv mm w0 _ hx hso hmm) (fun v5 H5 r5 => ?_)
  obtain ⟨s5, k5, out5, rfl, ow, hk5, hout5, hs5⟩ := r5
  have dj1 : Dj (bx + 1) k5 := Dj.app (Dj.z) hx.lt hk5
  have dj2 : Dj (mb + 1) k5 := Dj.app (Dj.z) hso.lt hk5
  have nx3 : Nx 0 H0.size k5 := Nx.tr (Nx.refl 0 _) hk5 hm0.size
  replace hx := hx.nw hs5
  replace hso := hso.nw hs5
  replace hm0 := hm0.tr hs5
  have hz1 := hs5.size
  have hle_ow := ow.le
  have hol := nodup_le hout5.1 (fun k hk => (hout5.2 k).1 hk)
  rw [List.length_map] at hol
  refine LR.v (Y.assign rfl rfl) (Wd.u rfl) rfl rfl ?_
  refine LR.nil ?_
  refine hK2 _ _ ?_
  refine CW.seq (fun K3 hK3 hE3 => ?_)
  refine CW.region ?_
  refine LR.v (Y.move rfl rfl) (Wd.u rfl) rfl rfl ?_
  -- call slices.Sort[[]string,string]
  refine LR.call rfl Tryz.call78 rfl (Wd.u rfl) rfl rfl (sortS_ct k5 _ out5 w0 _ ow (by omega)) (fun v7 H7 r7 => ?_)
  have ql4 := hx.lt
  have ql5 := hso.lt
  have ql6 := ow.le
  obtain ⟨l2, k2, rfl, ow, hk7, hp7, hs7⟩ := r7
  have dj7 : Dj (bx + 1) k2 := Dj.app (dj1) ql4 hk7
  have dj8 : Dj (mb + 1) k2 := Dj.app (dj2) ql5 hk7
  have nx9 : Nx 0 H0.size k2 := Nx.tr (nx3) hk7 hm0.size
  replace hx := hx.upL hs7 (DL.cons dj1 DL.nil)
  replace hso := hso.upL hs7 (DL.cons dj2 DL.nil)
  replace hm0 := (Mo.trL (ks := []) (hm0.mdn []) hs7 (MIL.cons (MI.app MI.z (nx3) (Nat.le_refl _)) MIL.nil)).nil
  have hz2 := hs7.size
  have hle_ow := ow.le
  refine LR.nil ?_
  refine hK3 _ _ ?_
  refine CW.seq (fun K4 hK4 hE4 => ?_)
  refine CW.region ?_
  refine LR.v (Y.move rfl rfl) (Wd.u rfl) rfl rfl ?_
  refine LR.v (Y.assign rfl rfl) (Wd.u rfl) rfl rfl ?_
  refine LR.nil ?_
  refine hK4 _ _ ?_
  refine CW.ret (hret .ret (.inr rfl) _ _ _ (res1 rfl rfl) ?_)
  obtain ⟨hp1, hp2⟩ := sorted_rise hout5.1 hp7
  exact ⟨s5, k2, l2, rfl, ow, nx9, ⟨hp1, fun k => by rw [hp2.mem_iff, hout5.2]⟩, hm0⟩

theorem keys1N (r_ : Loop) (lp Bs bx mb D kr : Nat) (vr : Value) (fv : Nat → Value) (mm : List (Pth × Nat)) (w0 : World) (H0 : Heap)
    (hx : Var 94 H0 bx [.map (some mb)]) (hso : Mp H0 Str fv mb mm) (hD : Dfr H0 D) (hl : Lpr H0 lp r_) (hB : Var 87 H0 Bs [vr]) (ow : Ow kr 9 H0 fS 1 vr []) (hr : ApR r_ Bs) (hmm : mm.length ≤ 1099511627776) (d_hl_hB : Dj (lp + 1) (Bs + 1)) (d_hl_ow : Dj (lp + 1) (kr)) (d_hB_ow : Dj (Bs + 1) (kr)) (d_hx_hl : Dj (bx + 1) (lp + 1)) (d_hx_hB : Dj (bx + 1) (Bs + 1)) (d_hx_ow : Dj (bx + 1) (kr)) (d_hso_hl : Dj (mb + 1) (lp + 1)) (d_hso_hB : Dj (mb + 1) (Bs + 1)) (d_hso_ow : Dj (mb + 1) (kr)) (d_hD_hl : Dj (D + 1) (lp + 1)) (d_hD_hB : Dj (D + 1) (Bs + 1)) (d_hD_ow : Dj (D + 1) (kr)) :
    Ct Tryz.prog w0 81 #[.func (.yield lp) #[] #[], .pointer (some ⟨bx, 0, none⟩)] H0 (fun r H2 => ∃ vr2 : Value, ∃ kr2 : Nat, ∃ out : List Pth, r = .tuple #[] ∧ (Lpr H2 lp r_) ∧ (Var 87 H2 Bs [vr2]) ∧ (Ow kr2 9 H2 fS 1 vr2 out) ∧ (Nx kr H0.size kr2) ∧ (out.Nodup ∧ ∀ k, k ∈ out ↔ k ∈ mm.map (·.1)) ∧ Mo (Ms [(lp + 1), (Bs + 1), kr]) H0 H2) := by
  refine Ct.enter (args := [.func (.yield lp) #[] #[], .pointer (some ⟨bx, 0, none⟩)]) Tryz.func81 rfl rfl rfl ?_
  intro Q0 hret
  have hm0 : Mo (Ms [(lp + 1), (Bs + 1), kr]) H0 H0 := Mo.refl _ _
  have nx_hm0_hx := Nx.refl (bx + 1) H0.size
  have hlt_hx := hx.lt
  have nx_hm0_hso := Nx.refl (mb + 1) H0.size
  have hlt_hso := hso.lt
  have nx_hm0_hD := Nx.refl (D + 1) H0.size
  have hlt_hD := hD.lt
  have nx_hm0_hl := Nx.refl (lp + 1) H0.size
  have hlt_hl := hl.lt
  have nx_hm0_hB := Nx.refl (Bs + 1) H0.size
  have hlt_hB := hB.lt
  have nx_hm0_ow := Nx.refl kr H0.size
  have hle_ow := ow.le
  refine CW.seq (fun K1 hK1 hE1 => ?_)
  refine CW.region ?_
  refine LR.v (Y.load1 hx.pt rfl Tryz.isAgg94 rfl) (Wd.u rfl) rfl rfl ?_
  obtain ⟨es, ck, hso⟩ := hso.raw
  refine LR.z (Z.rangeA hso rfl Tryz.runUnderlying94 rfl) (Wd.u rfl) rfl rfl (fun v5 H5 r5 => ?_)
  obtain ⟨rfl, it, hs5, ob5, hH5⟩ := r5
  have hzs5 : H5.size = H0.size + 1 := by rw [hH5]; simp
  have dj1 : Dj (bx + 1) (H0.size + 1) := Dj.new hx.lt
  have dj2 : Dj (mb + 1) (H0.size + 1) := Dj.new hso.lt
  have dj3 : Dj (D + 1) (H0.size + 1) := Dj.new hD.lt
  have dj4 : Dj (lp + 1) (H0.size + 1) := Dj.new hl.lt
  have dj5 : Dj (Bs + 1) (H0.size + 1) := Dj.new hB.lt
  have dj6 : Dj kr (H0.size + 1) := Dj.new ow.le
  have nx7 : Nx 0 H0.size (H0.size + 1) := Nx.new hm0.size
  replace hx := hx.nw hs5
  replace hso := hso.nw hs5
  replace hD := hD.nw hs5
  replace hl := hl.nw hs5
  replace hB := hB.nw hs5
  replace ow := ow.nw hs5
  replace hm0 := hm0.trN hs5
  have hz1 := hs5.size
  have hlt_it := it.lt
  refine LR.nil ?_
  refine hK1 _ _ ?_
  refine CW.block (fun K2 hK2 hX2 hE2 => ?_)
  refine CW.loop (fun (s_ : (List Pth) × (Value) × (Nat)) => match s_ with | (dn, vr3, kr3) => [(0, .func (.yield lp) #[] #[]), (5, .pointer (some ⟨H0.size, 0, none⟩))])
    (fun (s_ : (List Pth) × (Value) × (Nat)) (H : Heap) => match s_ with | (dn, vr3, kr3) => (Itr H H0.size mb Str es ck dn) ∧ (Lpr H lp r_) ∧ (Var 87 H Bs [vr3]) ∧ (Ow kr3 9 H fS 1 vr3 dn) ∧ (dn.Nodup ∧ ∀ k ∈ dn, k ∈ mm.map (·.1)) ∧ (Nx kr H5.size kr3) ∧ (Dj (H0.size + 1) kr3) ∧ (Dj (lp + 1) kr3) ∧ (Dj (Bs + 1) kr3) ∧ Mo (Ms [(H0.size + 1), (lp + 1), (Bs + 1), kr]) H5 H)
    (fun (s_ : (List Pth) × (Value) × (Nat)) => match s_ with | (dn, vr3, kr3) => mm.length - dn.length) ([], vr, kr) ⟨rfl, rfl, trivial⟩ ?_ ?_
  ·
    exact ⟨it, hl, hB, ow, ⟨List.nodup_nil, by simp⟩, Nx.refl _ _, dj6.symm, d_hl_ow, d_hB_ow, Mo.refl _ _⟩
  rintro ⟨dn, vr3, kr3⟩ HL1 hI1 K3 hN3 hE3
  obtain ⟨it, hl, hB, ow, hdn, nxl_ow, dj_it_ow, dj_hl_ow, dj_hB_ow, hlm1⟩ := hI1
  have dj8 : Dj (bx + 1) kr3 := Dj.app (d_hx_ow) hx.lt nxl_ow
  have dj9 : Dj (mb + 1) kr3 := Dj.app (d_hso_ow) hso.lt nxl_ow
  have dj10 : Dj (D + 1) kr3 := Dj.app (d_hD_ow) hD.lt nxl_ow
  have nx11 : Nx kr H0.size kr3 := Nx.tr (nx_hm0_ow) nxl_ow hm0.size
  replace hx := hx.upL hlm1 (DL.cons dj1 (DL.cons d_hx_hl (DL.cons d_hx_hB (DL.cons d_hx_ow DL.nil))))
  replace hso := hso.upL hlm1 (DL.cons dj2 (DL.cons d_hso_hl (DL.cons d_hso_hB (DL.cons d_hso_ow DL.nil))))
  replace hD := hD.upL hlm1 (DL.cons dj3 (DL.cons d_hD_hl (DL.cons d_hD_hB (DL.cons d_hD_ow DL.nil))))
  replace hm0 := hm0.trL hlm1 (MIL.cons (MI.app MI.z (nx7) (Nat.le_refl _)) (MIL.cons (MI.app (MI.root (by simp)) (nx_hm0_hl) (Nat.le_refl _)) (MIL.cons (MI.app (MI.root (by simp)) (nx_hm0_hB) (Nat.le_refl _)) (MIL.cons (MI.app (MI.root (by simp)) (nx_hm0_ow) (Nat.le_refl _)) MIL.nil))))
  have hz2 := hlm1.size
  have hle_ow := ow.le
  have dj12 := dj_it_ow
  have dj13 := dj_hl_ow
  have dj14 := dj_hB_ow
  have nx_hlm1_it := Nx.refl (H0.size + 1) H5.size
  have nx_hlm1_hl := Nx.refl (lp + 1) H5.size
  have nx_hlm1_hB := Nx.refl (Bs + 1) H5.size
  have nx15 := nxl_ow
  have hdl := nodup_le hdn.1 hdn.2
  rw [List.length_map] at hdl
  refine CW.seq (fun K4 hK4 hE4 => ?_)
  refine CW.region ?_
  refine LR.z (Z.nextA it hso keyStr.inj rfl rfl) (Wd.u rfl) rfl rfl (fun v6 H6 r6 => ?_)
  obtain ⟨qb, x, y, dn2, rfl, it, hT6, hF6, hs6⟩ := r6
  replace hs6 := hs6.md1
  replace hx := hx.upL hs6 (DL.cons dj1 DL.nil)
  replace hso := hso.upL hs6 (DL.cons dj2 DL.nil)
  replace hD := hD.upL hs6 (DL.cons dj3 DL.nil)
  replace ow := ow.upL hs6 (DL.cons dj12.symm DL.nil)
  replace hl := hl.upL hs6 (DL.cons dj4 DL.nil)
  replace hB := hB.upL hs6 (DL.cons dj5 DL.nil)
  replace hm0 := hm0.trL hs6 (MIL.cons (MI.app MI.z (nx7) (Nat.le_refl _)) MIL.nil)
  replace hlm1 := hlm1.trL hs6 (MIL.cons (MI.app (MI.root (by simp)) (nx_hlm1_it) (Nat.le_refl _)) MIL.nil)
  have hz3 := hs6.size
  refine LR.v (Y.ext0 rfl rfl) (Wd.u rfl) rfl rfl ?_
  refine LR.nil ?_
  refine hK4 _ _ ?_
  refine CW.seq (fun K5 hK5 hE5 => ?_)
  refine CW.cond rfl (fun c7 => ?_) (fun c7 => ?_)
  ·
    obtain ⟨hxy, hnd, hdq⟩ := hT6 c7
    rw [hdq] at it
    refine CW.skip ?_
    refine hK5 _ _ ?_
    refine CW.block (fun K6 hK6 hX6 hE6 => ?_)
    refine CW.seq (fun K7 hK7 hE7 => ?_)
    refine CW.region ?_
    refine LR.v (Y.entryA it hso keyStr.inj hxy rfl rfl) (Wd.u rfl) rfl rfl ?_
    refine LR.v (Y.extract rfl rfl rfl) (Wd.u rfl) rfl rfl ?_
    refine LR.v (Y.assign rfl rfl) (Wd.u rfl) rfl rfl ?_
    refine LR.nil ?_
    refine hK7 _ _ ?_
    refine CW.seq (fun K8 hK8 hE8 => ?_)
    refine CW.region_in ?_
    refine LRI.v (Y.move rfl rfl) (by intro c e; cases e) (Wd.u rfl) rfl rfl ?_
    refine LRI.v (Y.move rfl rfl) (by intro c e; cases e) (Wd.u rfl) rfl rfl ?_
    refine LRI.round rfl rfl rfl (Wd.u rfl) rfl rfl (ap_round r_ Bs lp _ _ dn x w0 _ hr hl hB ow (d_hl_hB) (dj13) (dj14) (by omega)) (fun v12 H12 r12 => ?_)
    have ql16 := hx.lt
    have ql17 := hso.lt
    have ql18 := hD.lt
    have ql19 := ow.le
    have ql20 := it.lt
    have ql21 := hl.lt
    have ql22 := hB.lt
    obtain ⟨vr12, kr12, rfl, hl, hB, ow, hk12, hs12⟩ := r12
    have dj23 : Dj (bx + 1) kr12 := Dj.app (dj8) ql16 hk12
    have dj24 : Dj (mb + 1) kr12 := Dj.app (dj9) ql17 hk12
    have dj25 : Dj (D + 1) kr12 := Dj.app (dj10) ql18 hk12
    have dj26 : Dj (H0.size + 1) kr12 := Dj.app (dj12) ql20 hk12
    have dj27 : Dj (lp + 1) kr12 := Dj.app (dj13) ql21 hk12
    have dj28 : Dj (Bs + 1) kr12 := Dj.app (dj14) ql22 hk12
    have nx29 : Nx kr H0.size kr12 := Nx.tr (nx11) hk12 hm0.size
    have nx30 : Nx kr H5.size kr12 := Nx.tr (nx15) hk12 hlm1.size
    replace hx := hx.upL hs12 (DL.cons d_hx_hl (DL.cons d_hx_hB (DL.cons dj8 DL.nil)))
    replace hso := hso.upL hs12 (DL.cons d_hso_hl (DL.cons d_hso_hB (DL.cons dj9 DL.nil)))
    replace hD := hD.upL hs12 (DL.cons d_hD_hl (DL.cons d_hD_hB (DL.cons dj10 DL.nil)))
    replace it := it.upL hs12 (DL.cons dj4.symm (DL.cons dj5.symm (DL.cons dj12 DL.nil)))
    replace hm0 := hm0.trL hs12 (MIL.cons (MI.app (MI.root (by simp)) (nx_hm0_hl) (Nat.le_refl _)) (MIL.cons (MI.app (MI.root (by simp)) (nx_hm0_hB) (Nat.le_refl _)) (MIL.cons (MI.app (MI.root (by simp)) (nx11) (Nat.le_refl _)) MIL.nil)))
    replace hlm1 := hlm1.trL hs12 (MIL.cons (MI.app (MI.root (by simp)) (nx_hlm1_hl) (Nat.le_refl _)) (MIL.cons (MI.app (MI.root (by simp)) (nx_hlm1_hB) (Nat.le_refl _)) (MIL.cons (MI.app (MI.root (by simp)) (nx15) (Nat.le_refl _)) MIL.nil)))
    have hz4 := hs12.size
    have hle_ow := ow.le
    refine LRI.v (Y.not rfl rfl) (by intro c e; cases e) (Wd.u rfl) rfl rfl ?_
    refine LRI.nil ?_
    refine hK8 _ _ ?_
    refine CW.cond_f rfl ?_
    refine CW.skip ?_
    refine hK6 _ _ ?_
    have hdn2 : (dn ++ [x]).Nodup ∧ ∀ k ∈ dn ++ [x], k ∈ mm.map (·.1) := by
      refine ⟨?_, fun k hk => ?_⟩
      · rw [List.nodup_append]
        exact ⟨hdn.1, by simp, fun a ha b hb e => by simp only [List.mem_singleton] at hb; subst hb; subst e; exact hnd ha⟩
      · rcases List.mem_append.1 hk with hk | hk
        · exact hdn.2 k hk
        · rw [List.mem_singleton.1 hk]; exact List.mem_map.2 ⟨_, hxy, rfl⟩
    have hdl2 := nodup_le hdn2.1 hdn2.2
    rw [List.length_append, List.length_map, List.length_singleton] at hdl2
    refine QN.sub (hN3 (dn ++ [x], vr12, kr12) _ ?_ ?_) ⟨rfl, rfl, trivial⟩
    · exact ⟨it, hl, hB, ow, hdn2, nx30, dj26, dj27, dj28, hlm1⟩
    · simp only [List.length_append, List.length_singleton]; omega
  ·
    obtain ⟨hall, hdq⟩ := hF6 c7
    refine CW.exit (hE5 (.exit 0) nofun _ _ (hE3 (.exit 0) nofun _ _ (hX2 _ _ ?_)))
    refine hret .normal (.inl rfl) _ _ _ (res0 rfl) ?_
    exact ⟨vr3, kr3, dn, rfl, hl, hB, ow, nx11, ⟨hdn.1, fun k => ⟨hdn.2 k, fun h => by obtain ⟨p, hp, rfl⟩ := List.mem_map.1 h; exact hall p hp⟩⟩, hm0⟩

theorem apseqN (bx mb : Nat) (fv : Nat → Value) (mm : List (Pth × Nat)) (w0 : World) (H0 : Heap) (hx : Var 94 H0 bx [.map (some mb)]) (hso : Mp H0 Str fv mb mm) (hmm : mm.length ≤ 1099511627776) :
    Ct Tryz.prog w0 115 #[.slice none 0 0, .func (.func 81) #[] #[.pointer (some ⟨bx, 0, none⟩)]] H0 (fun r H2 => ∃ s : SV, ∃ k : Nat, ∃ out : List Pth, r = s.v ∧ (Ow k 9 H2 fS 1 s.v out) ∧ (Nx 0 H0.size k) ∧ (out.Nodup ∧ ∀ k, k ∈ out ↔ k ∈ mm.map (·.1)) ∧ Nw H0 H2) := by
  intro w ha
  refine callsIn_wide.1 (callsIn_of_wp_marks (n := 0) Tryz.func115 rfl trivial ?_)
  have hf0 := Fr.start (n := Tryz.f115.ntmps) (args := [.slice none 0 0, .func (.func 81) #[] #[.pointer (some ⟨bx, 0, none⟩)]]) (Nat.le_of_ble_eq_true rfl)
  refine wpIn_seq (wpIn_wide.2 ?_)
  refine (CW.region (w0 := w0) (H := H0) (n := Tryz.f115.ntmps) (l := argL [.slice none 0 0, .func (.func 81) #[] #[.pointer (some ⟨bx, 0, none⟩)]] 0) ?_) _ w hf0 ha
  refine LR.z (Z.boxv1 rfl rfl rfl) (Wd.u rfl) rfl rfl (fun v2 H1 r2 => ?_)
  obtain ⟨rfl, hB, hs1, ob1, hH1⟩ := r2
  have hz1 : H1.size = H0.size + 1 := by rw [hH1]; simp
  have hxl := hx.lt; have hsl := hso.lt
  replace hx := hx.nw hs1; replace hso := hso.nw hs1
  refine LR.v (Y.assign rfl rfl) (Wd.u rfl) rfl rfl ?_
  refine LR.nil (fun a1 w1 hf1 ha1 => ?_)
  show (Code.seq _ _).wpIn Fence.wide 0 _ _ a1 w1
  refine wpIn_seq (wpIn_seq (wpIn_wide.2 ?_))
  refine (CW.region (w0 := w0) (H := H1) ?_) a1 w1 hf1 ha1
  refine LR.v (Y.move rfl rfl) (Wd.u rfl) rfl rfl ?_
  refine LR.nil (fun a2 w2 hf2 ha2 => ?_)
  show (Code.block _ _).wpIn Fence.wide 0 _ _ a2 w2
  refine wpIn_block (wpIn_rangeFunc (fun fn _ => ?_))
  obtain ⟨rc, hrc⟩ : ∃ rc : Loop, rc = { state := .ready, pending := none, fn, tmps := a2.tmps, params := #[7], assign := asOf (rfOf (Tryz.f115.body.getD .skip)), body := boOf (rfOf (Tryz.f115.body.getD .skip)), defers := w2.heap.size } := ⟨_, rfl⟩
  have hst : (Instr.enterLoop fn a2.tmps #[7] (asOf (rfOf (Tryz.f115.body.getD .skip))) (boOf (rfOf (Tryz.f115.body.getD .skip))) none).run Tryz.prog w2 = .ok (w2.heap.size + 1, [{ target := .collected w2.heap.size, args := #[] }]) ((w2.alloc (.deferred (some []))).alloc (.loop rc)) := by
    rw [hrc]; exact run_enterLoop_outer fn a2.tmps #[7] _ _
  have ha3 : At w0 ((H1.push (.deferred (some []))).push (.loop rc)) ((w2.alloc (.deferred (some []))).alloc (.loop rc)) := (ha2.alloc _).alloc _
  obtain ⟨w3, hw3⟩ : ∃ w3, w3 = (w2.alloc (.deferred (some []))).alloc (.loop rc) := ⟨_, rfl⟩
  rw [← hw3] at hst ha3
  obtain ⟨H3, hH3⟩ : ∃ H3, H3 = (H1.push (.deferred (some []))).push (.loop rc) := ⟨_, rfl⟩
  rw [← hH3] at ha3
  have hz3 : H3.size = H1.size + 2 := by rw [hH3]; simp
  have hw2 : w2.heap.size = H1.size := by rw [ha2.heap]
  have hs3 : Nw H1 H3 := by rw [hH3]; exact (Nw.pu _ _).tr (Nw.pu _ _)
  replace hx := hx.nw hs3; replace hso := hso.nw hs3; replace hB := hB.nw hs3
  have hD : Dfr H3 H1.size := ⟨by rw [hH3, Array.getElem?_push, if_neg (by simp)]; exact Array.getElem?_push_size⟩
  have hl : Lpr H3 (H1.size + 1) rc := ⟨by
    have h9 := Array.getElem?_push_size (xs := H1.push (.deferred (some []))) (x := Obj.loop rc)
    rw [Array.size_push, ← hH3] at h9
    exact h9⟩
  have hap : ApR rc H0.size := by
    subst hrc
    exact ⟨rfl, rfl, rfl, rfl, rfl, ⟨rfl, hf2.size, fun t v e => (hf2.sub (l' := [(2, .pointer (some ⟨H0.size, 0, none⟩))]) ⟨rfl, trivial⟩).get t v e⟩⟩
  have hyi : ∀ w, (callFunc 81 #[.func (.yield (H1.size + 1)) #[] #[], .pointer (some ⟨bx, 0, none⟩)]).run Tryz.prog w = .ok (.enter 81 #[.func (.yield (H1.size + 1)) #[] #[], .pointer (some ⟨bx, 0, none⟩)]) w := fun w => enters_of Tryz.func81 (by kernel_rfl) rfl _ w
  refine ⟨w2.heap.size + 1, [{ target := .collected w2.heap.size, args := #[] }], w3, { target := .fn (.func 81) #[.pointer (some ⟨bx, 0, none⟩)], args := #[.func (.yield (H1.size + 1)) #[] #[]] }, w3, 81, #[.func (.yield (H1.size + 1)) #[] #[], .pointer (some ⟨bx, 0, none⟩)], w3, hst, ?_, fun _ _ => trivial, ?_, fun h => (by cases h), ?_⟩
  · have h6 := hf2.get 6 (.func (.func 81) #[] #[.pointer (some ⟨bx, 0, none⟩)]) rfl
    rw [hw2]
    simp [resolve, rangeCall, Deferred.ofValue, Act.eval, h6]
  · exact hyi _
  refine callsIn_wide.2 ((keys1N rc (H1.size + 1) H0.size bx mb H1.size 0 (.slice none 0 0) fv mm w0 H3 hx hso hD hl hB (Ow.nil fS_len fS_one) hap hmm (Dj.of (by omega)) Dj.z Dj.z (Dj.of (by omega)) (Dj.of (by omega)) Dj.z (Dj.of (by omega)) (Dj.of (by omega)) Dj.z (Dj.of (by omega)) (Dj.of (by omega)) Dj.z _ ha3).mono ?_)
  rintro e w4 ⟨r4, H4, rfl, ha4, vr2, k2, out, rfl, hl4, hB4, ow4, hk4, hout, hm4⟩
  have hD4 : Dfr H4 H1.size := hD.upL hm4 (DL.cons (Dj.of (by omega)) (DL.cons (Dj.of (by omega)) (DL.cons Dj.z DL.nil)))
  have hlw : w4.heap[w2.heap.size + 1]? = some (.loop rc) := by rw [ha4.heap, hw2]; exact hl4.at_
  have hrp : rc.pending = none := hap.pe
  have hend := run_endLoop (P := Tryz.prog) hlw (by rw [hap.st]; simp)
  rw [hrp] at hend
  refine ⟨none, _, hend, ?_⟩
  have hs5 : Mo (fun c => c = H1.size + 1) H4 (H4.setIfInBounds (H1.size + 1) (.loop { rc with state := .exhausted })) := mo_set _
  have ha5 : At w0 (H4.setIfInBounds (H1.size + 1) (.loop { rc with state := .exhausted })) (w4.putObj (w2.heap.size + 1) (.loop { rc with state := .exhausted })) := by
    unfold World.putObj
    rw [ha4.heap, hw2]
    exact ha4.set
  rw [hrp] at hs5 ha5
  obtain ⟨w5, hw5⟩ : ∃ w5, w5 = w4.putObj (w2.heap.size + 1) (.loop { rc with state := .exhausted, pending := none }) := ⟨_, rfl⟩
  obtain ⟨H5, hH5⟩ : ∃ H5, H5 = H4.setIfInBounds (H1.size + 1) (.loop { rc with state := .exhausted, pending := none }) := ⟨_, rfl⟩
  rw [← hw5] at ha5
  rw [← hH5] at hs5 ha5
  rw [← hw5]
  have hz4 := hm4.size
  have hz5 := hs5.size
  have hs5' := hs5.md1
  have dk : ∀ c, c + 1 ≤ H3.size → Dj k2 (c + 1) := fun c hc q h1 h2 => by unfold Nx at hk4; omega
  replace hB4 := hB4.upL hs5' (DL.cons (Dj.of (by omega)) DL.nil)
  replace ow4 := ow4.upL hs5' (DL.cons (dk _ (by omega)) DL.nil)
  replace hD4 := hD4.upL hs5' (DL.cons (Dj.of (by omega)) DL.nil)
  have hm0 : Mo (Ms []) H0 H5 := by
    have q0 := ((Mo.refl (S := Ms []) H0).trN hs1).trN hs3
    have q1 := q0.trL hm4 (MIL.cons (MI.new (by omega)) (MIL.cons (MI.new (Nat.le_refl _)) (MIL.cons MI.z MIL.nil)))
    exact q1.trL hs5' (MIL.cons (MI.new (by omega)) MIL.nil)
  show (Code.seq _ _).wpIn Fence.wide 0 _ _ _ w5
  refine wpIn_seq (wpIn_region_lit ?_)
  refine LRD.v (w0 := w0) (H := H5) (Y.load1 hB4.pt rfl Tryz.isAgg87 rfl) (by intro c e; cases e) (Wd.u rfl) rfl rfl ?_ a2 w5 hf2 ha5
  refine LRD.v (w0 := w0) (H := H5) (Y.assign rfl rfl) (by intro c e; cases e) (Wd.u rfl) rfl rfl ?_
  intro a6 w6 hf6 ha6
  show Code.ret.wpIn Fence.wide 0 _ _ _ w6
  refine wpIn_ret ?_
  show LeavesInM Fence.wide 0 _ _ a6.tmps _ ([{ target := .collected w2.heap.size, args := #[] }] ++ a2.defers) .returning w6
  rw [hf2.defers, List.append_nil]
  have hDw : w6.heap[w2.heap.size]? = some (.deferred (some [])) := by rw [ha6.heap, hw2]; exact hD4.at_
  refine ⟨by simp, .inl ⟨_, _, rfl, run_takeDeferred (P := Tryz.prog) hDw, ?_⟩⟩
  have hs7 : Mo (fun c => c = H1.size) H5 (H5.setIfInBounds H1.size (.deferred none)) := mo_set _
  have ha7 : At w0 (H5.setIfInBounds H1.size (.deferred none)) (w6.putObj w2.heap.size (.deferred none)) := by
    unfold World.putObj
    rw [ha6.heap, hw2]
    exact ha6.set
  have hs7' := hs7.md1
  obtain ⟨s, hs⟩ : ∃ s : SV, vr2 = s.v := ⟨toSV vr2, ow4.sv.symm⟩
  refine ⟨vr2, res1 rfl rfl _ _ hf6 ha7, vr2, _, rfl, ha7, s, k2, out, hs, ?_, ?_, hout, ?_⟩
  · rw [← hs]; exact ow4.upL hs7' (DL.cons (dk _ (by omega)) DL.nil)
  · unfold Nx at hk4 ⊢; omega
  · exact (hm0.trL hs7' (MIL.cons (MI.new (by omega)) MIL.nil)).nil

theorem collectN (bx mb : Nat) (fv : Nat → Value) (mm : List (Pth × Nat)) (w0 : World) (H0 : Heap)
    (hx : Var 94 H0 bx [.map (some mb)]) (hso : Mp H0 Str fv mb mm) (hmm : mm.length ≤ 1099511627776) :
    Ct Tryz.prog w0 77 #[.func (.func 81) #[] #[.pointer (some ⟨bx, 0, none⟩)]] H0 (fun r H2 => ∃ s : SV, ∃ k : Nat, ∃ out : List Pth, r = s.v ∧ (Ow k 9 H2 fS 1 s.v out) ∧ (Nx 0 H0.size k) ∧ (out.Nodup ∧ ∀ k, k ∈ out ↔ k ∈ mm.map (·.1)) ∧ Nw H0 H2) := by
  refine Ct.enter (args := [.func (.func 81) #[] #[.pointer (some ⟨bx, 0, none⟩)]]) Tryz.func77 rfl rfl rfl ?_
  intro Q0 hret
  have hm0 : Nw H0 H0 := Mo.refl _ _
  have nx_hm0_hx := Nx.refl (bx + 1) H0.size
  have hlt_hx := hx.lt
  have nx_hm0_hso := Nx.refl (mb + 1) H0.size
  have hlt_hso := hso.lt
  refine CW.seq (fun K1 hK1 hE1 => ?_)
  refine CW.region ?_
  refine LR.v (Y.assign rfl rfl) (Wd.u rfl) rfl rfl ?_
  refine LR.nil ?_
  refine hK1 _ _ ?_
  refine CW.seq (fun K2 hK2 hE2 => ?_)
  refine CW.region ?_
  refine LR.v (Y.move rfl rfl) (Wd.u rfl) rfl rfl ?_
  -- call slices.AppendSeq[[]string,string]
  refine LR.call rfl Tryz.call115 rfl (Wd.u rfl) rfl rfl (apseqN bx mb fv mm w0 _ hx hso hmm) (fun v4 H4 r4 => ?_)
  obtain ⟨s4, k4, out4, rfl, ow4, hk4, hout4, hs4⟩ := r4
  have dj1 : Dj (bx + 1) k4 := Dj.app (Dj.z) hx.lt hk4
  have dj2 : Dj (mb + 1) k4 := Dj.app (Dj.z) hso.lt hk4
  have nx3 : Nx 0 H0.size k4 := Nx.tr (Nx.refl 0 _) hk4 hm0.size
  replace hx := hx.nw hs4
  replace hso := hso.nw hs4
  replace hm0 := hm0.tr hs4
  have hz1 := hs4.size
  have hle_ow4 := ow4.le
  refine LR.v (Y.assign rfl rfl) (Wd.u rfl) rfl rfl ?_
  refine LR.nil ?_
  refine hK2 _ _ ?_
  refine CW.ret (hret .ret (.inr rfl) _ _ _ (res1 rfl rfl) ?_)
  exact ⟨s4, k4, out4, rfl, ow4, nx3, hout4, hm0⟩

theorem keysN (mb : Nat) (w0 : World) (H0 : Heap)
     :
    Ct Tryz.prog w0 42 #[.map (some mb)] H0 (fun r H2 => ∃ bx : Nat, r = .func (.func 81) #[] #[.pointer (some ⟨bx, 0, none⟩)] ∧ (Var 94 H2 bx [.map (some mb)]) ∧ (Nx 0 H0.size (bx + 1)) ∧ Nw H0 H2) := by
  refine Ct.enter (args := [.map (some mb)]) Tryz.func42 rfl rfl rfl ?_
  intro Q0 hret
  have hm0 : Nw H0 H0 := Mo.refl _ _
  refine CW.seq (fun K1 hK1 hE1 => ?_)
  refine CW.region ?_
  refine LR.z (Z.boxv1 rfl rfl (rfl)) (Wd.u rfl) rfl rfl (fun v1 H1 r1 => ?_)
  obtain ⟨rfl, hx, hs1, ob1, hH1⟩ := r1
  have hzs1 : H1.size = H0.size + 1 := by rw [hH1]; simp
  have nx1 : Nx 0 H0.size (H0.size + 1) := Nx.new hm0.size
  replace hm0 := hm0.tr hs1
  have hz1 := hs1.size
  replace hx : Var 94 H1 H0.size ([.map (some mb)]) := hx
  refine LR.v (Y.assign rfl rfl) (Wd.u rfl) rfl rfl ?_
  refine LR.nil ?_
  refine hK1 _ _ ?_
  refine CW.seq (fun K2 hK2 hE2 => ?_)
  refine CW.region ?_
  refine LR.v (Y.makeFunc rfl rfl) (Wd.u rfl) rfl rfl ?_
  refine LR.v (Y.assign rfl rfl) (Wd.u rfl) rfl rfl ?_
  refine LR.nil ?_
  refine hK2 _ _ ?_
  refine CW.ret (hret .ret (.inr rfl) _ _ _ (res1 rfl rfl) ?_)
  exact ⟨_, rfl, hx, Nx.new (Nat.le_refl _), hm0⟩

theorem sortedN (bx mb : Nat) (fv : Nat → Value) (mm : List (Pth × Nat)) (w0 : World) (H0 : Heap)
    (hx : Var 94 H0 bx [.map (some mb)]) (hso : Mp H0 Str fv mb mm) (hmm : mm.length ≤ 1099511627776) :
    Ct Tryz.prog w0 36 #[.func (.func 81) #[] #[.pointer (some ⟨bx, 0, none⟩)]] H0 (fun r H2 => ∃ s : SV, ∃ k : Nat, ∃ out : List Pth, r = s.v ∧ (Ow k 9 H2 fS 1 s.v out) ∧ (Nx 0 H0.size k) ∧ (Rise out ∧ ∀ k, k ∈ out ↔ k ∈ mm.map (·.1)) ∧ Nw H0 H2) := by
  refine Ct.enter (args := [.func (.func 81) #[] #[.pointer (some ⟨bx, 0, none⟩)]]) Tryz.func36 rfl rfl rfl ?_
  intro Q0 hret
  have hm0 : Nw H0 H0 := Mo.refl _ _
  have nx_hm0_hx := Nx.refl (bx + 1) H0.size
  have hlt_hx := hx.lt
  have nx_hm0_hso := Nx.refl (mb + 1) H0.size
  have hlt_hso := hso.lt
  refine CW.seq (fun K1 hK1 hE1 => ?_)
  refine CW.region ?_
  refine LR.v (Y.assign rfl rfl) (Wd.u rfl) rfl rfl ?_
  refine LR.nil ?_
  refine hK1 _ _ ?_
  refine CW.seq (fun K2 hK2 hE2 => ?_)
  refine CW.region ?_
  refine LR.v (Y.move rfl rfl) (Wd.u rfl) rfl rfl ?_
  -- call slices.Collect[string]
  refine LR.call rfl Tryz.call77 rfl (Wd.u rfl) rfl rfl (collectN bx mb fv mm w0 _ hx hso hmm) (fun v5 H5 r5 => ?_)
  obtain ⟨s5, k5, out5, rfl, ow, hk5, hout5, hs5⟩ := r5
  have dj1 : Dj (bx + 1) k5 := Dj.app (Dj.z) hx.lt hk5
  have dj2 : Dj (mb + 1) k5 := Dj.app (Dj.z) hso.lt hk5
  have nx3 : Nx 0 H0.size k5 := Nx.tr (Nx.refl 0 _) hk5 hm0.size
  replace hx := hx.nw hs5
  replace hso := hso.nw hs5
  replace hm0 := hm0.tr hs5
  have hz1 := hs5.size
  have hle_ow := ow.le
  have hol := nodup_le hout5.1 (fun k hk => (hout5.2 k).1 hk)
  rw [List.length_map] at hol
  refine LR.v (Y.assign rfl rfl) (Wd.u rfl) rfl rfl ?_
  refine LR.nil ?_
  refine hK2 _ _ ?_
  refine CW.seq (fun K3 hK3 hE3 => ?_)
  refine CW.region ?_
  refine LR.v (Y.move rfl rfl) (Wd.u rfl) rfl rfl ?_
  -- call slices.Sort[[]string,string]
  refine LR.call rfl Tryz.call78 rfl (Wd.u rfl) rfl rfl (sortS_ct k5 _ out5 w0 _ ow (by omega)) (fun v7 H7 r7 => ?_)
  have ql4 := hx.lt
  have ql5 := hso.lt
  have ql6 := ow.le
  obtain ⟨l2, k2, rfl, ow, hk7, hp7, hs7⟩ := r7
  have dj7 : Dj (bx + 1) k2 := Dj.app (dj1) ql4 hk7
  have dj8 : Dj (mb + 1) k2 := Dj.app (dj2) ql5 hk7
  have nx9 : Nx 0 H0.size k2 := Nx.tr (nx3) hk7 hm0.size
  replace hx := hx.upL hs7 (DL.cons dj1 DL.nil)
  replace hso := hso.upL hs7 (DL.cons dj2 DL.nil)
  replace hm0 := (Mo.trL (ks := []) (hm0.mdn []) hs7 (MIL.cons (MI.app MI.z (nx3) (Nat.le_refl _)) MIL.nil)).nil
  have hz2 := hs7.size
  have hle_ow := ow.le
  refine LR.nil ?_
  refine hK3 _ _ ?_
  refine CW.seq (fun K4 hK4 hE4 => ?_)
  refine CW.region ?_
  refine LR.v (Y.move rfl rfl) (Wd.u rfl) rfl rfl ?_
  refine LR.v (Y.assign rfl rfl) (Wd.u rfl) rfl rfl ?_
  refine LR.nil ?_
  refine hK4 _ _ ?_
  refine CW.ret (hret .ret (.inr rfl) _ _ _ (res1 rfl rfl) ?_)
  obtain ⟨hp1, hp2⟩ := sorted_rise hout5.1 hp7
  exact ⟨s5, k2, l2, rfl, ow, nx9, ⟨hp1, fun k => by rw [hp2.mem_iff, hout5.2]⟩, hm0⟩

end Go.Proofs.YtdliddjkacbggaaGreatDoor.SimK
/-
  The disk: names that are told; picks; what a crash leaves of a file.
-/
namespace Go.Proofs.YtdliddjkacbggaaGreatDoor.SimL
open Go.Proofs.YtdliddjkacbggaaGreatDoor.E Go.RowKit Go.Proofs.YtdliddjkacbggaaGreatDoor.SimA Go.Proofs.YtdliddjkacbggaaGreatDoor.SimB Go.Proofs.YtdliddjkacbggaaGreatDoor.SimC Go.Proofs.YtdliddjkacbggaaGreatDoor.SimD Go.Proofs.YtdliddjkacbggaaGreatDoor.SimE Go.Proofs.YtdliddjkacbggaaGreatDoor.SimF Go.Proofs.YtdliddjkacbggaaGreatDoor.SimG Go.Proofs.YtdliddjkacbggaaGreatDoor.SimH Go.Proofs.YtdliddjkacbggaaGreatDoor.SimI Go.Proofs.YtdliddjkacbggaaGreatDoor.SimJ Go.Proofs.YtdliddjkacbggaaGreatDoor.SimK
set_option maxRecDepth 20000
set_option linter.unusedVariables false
set_option linter.unusedSimpArgs false
set_option linter.unusedSectionVars false

theorem pick_eq (x : Int) {m : Nat} (hm : 0 < m) : (x.tmod m + m).tmod m = x % m := by
  have h0 : (0 : Int) < m := by omega
  have h1 := Int.lt_tmod_of_pos x h0
  rw [Int.tmod_eq_emod_of_nonneg (by omega), Int.add_emod_right, Int.tmod_def, Int.sub_mul_emod_self_left]
theorem pickN_lt (picks : List Int) (n : Nat) {m : Nat} (hm : 0 < m) : pickN picks n m < m := by
  unfold pickN
  split
  · have h1 := Int.emod_nonneg (picks.getD n 0) (show (m : Int) ≠ 0 by omega)
    have h2 := Int.emod_lt_of_pos (picks.getD n 0) (show (0 : Int) < m by omega)
    omega
  · exact hm
theorem pickN_at {picks : List Int} {n m : Nat} (hn : n < picks.length) (hm : 0 < m) : ((pickN picks n m : Nat) : Int) = (picks[n].tmod m + m).tmod m := by
  have h1 := Int.emod_nonneg picks[n] (show (m : Int) ≠ 0 by omega)
  unfold pickN
  rw [if_pos hn, pick_eq _ hm, List.getD_eq_getElem?_getD, List.getElem?_eq_getElem hn, Option.getD_some, Int.toNat_of_nonneg h1]
theorem pickN_over {picks : List Int} {n m : Nat} (hn : ¬ n < picks.length) : pickN picks n m = 0 := by unfold pickN; rw [if_neg hn]

theorem next_ct (G : Nat → Prop) (pb n : Nat) (pv : SV) (picks : List Int) (m : Nat) (w0 : World) (H0 : Heap)
    (hp : Var 86 H0 pb [pv.v, .int .i64 (n : Int)]) (hpk : Rd G H0 fI 1 pv.v picks) (bf_hpk : BF G H0.size) (dpk : DF G (pb + 1)) (hm : 0 < m ∧ m ≤ 4611686018427387904) (hn : n ≤ 1099511627776) (hpw : ∀ x ∈ picks, -9223372036854775808 ≤ x ∧ x ≤ 9223372036854775807) :
    Ct Tryz.prog w0 38 #[ptr pb, .int .i64 (m : Int)] H0 (fun r H2 => r = .int .i64 ((pickN picks n m : Nat) : Int) ∧ (Var 86 H2 pb [pv.v, .int .i64 ((n + 1 : Nat) : Int)]) ∧ Mo (Ms [(pb + 1)]) H0 H2) := by
  refine Ct.enter (args := [ptr pb, .int .i64 (m : Int)]) Tryz.func38 rfl rfl rfl ?_
  intro Q0 hret
  have hm0 : Mo (Ms [(pb + 1)]) H0 H0 := Mo.refl _ _
  have nx_hm0_hp := Nx.refl (pb + 1) H0.size
  have hlt_hp := hp.lt
  refine CW.seq (fun K1 hK1 hE1 => ?_)
  refine CW.region ?_
  refine LR.v (Y.assign rfl rfl) (Wd.u rfl) rfl rfl ?_
  refine LR.nil ?_
  refine hK1 _ _ ?_
  refine CW.seq (fun K2 hK2 hE2 => ?_)
  refine CW.region ?_
  refine LR.v (Y.assign rfl rfl) (Wd.u rfl) rfl rfl ?_
  refine LR.nil ?_
  refine hK2 _ _ ?_
  refine CW.cut (fun (_ : Unit) => [(0, ptr pb), (5, .int .i64 ((pickN picks n m : Nat) : Int))])
    (fun (_ : Unit) (H : Heap) => (True) ∧ Nw H0 H) (fun K3 hK3 hE3 => ?_) ?_
  ·
    have hcm3 : Nw H0 H0 := Mo.refl _ _
    refine CW.seq (fun K4 hK4 hE4 => ?_)
    refine CW.region_draw rfl (by kernel_rfl) ?_
    refine LR.v (Y.move rfl rfl) (Wd.u rfl) rfl rfl ?_
    refine LR.v (Y.nilCheck rfl rfl) (Wd.u rfl) rfl rfl ?_
    refine LR.v (Y.fieldAddr hp.pt rfl Tryz.runUnderlying86 rfl rfl Tryz.sizeOf3 (by decide) rfl) (Wd.u rfl) rfl rfl ?_
    refine LR.v (Y.load1 (hp.pt.drop 1) rfl Tryz.isAgg3 rfl) (Wd.u rfl) rfl rfl ?_
    refine LR.v (Y.move rfl rfl) (Wd.u rfl) rfl rfl ?_
    refine LR.v (Y.nilCheck rfl rfl) (Wd.u rfl) rfl rfl ?_
    refine LR.v (Y.fieldAddr hp.pt rfl Tryz.runUnderlying86 rfl rfl Tryz.sizeOf39 (by decide) rfl) (Wd.u rfl) rfl rfl ?_
    refine LR.v (Y.load1 hp.pt rfl Tryz.isAgg39 rfl) (Wd.u rfl) rfl rfl ?_
    refine LR.v (Y.len hpk rfl Tryz.runUnderlying39 rfl) (Wd.u rfl) rfl rfl ?_
    refine LR.v (Y.lss rfl rfl rfl) (Wd.u rfl) rfl rfl ?_
    refine LR.nil ?_
    refine hK4 _ _ ?_
    refine CW.condp rfl (fun c15 => ?_) (fun c15 => ?_)
    ·
      have hnl : n < picks.length := by omega
      have hxb := hpw picks[n] (List.getElem_mem hnl)
      have hq1 := Int.lt_tmod_of_pos picks[n] (show (0 : Int) < m by omega)
      have hq2 := Int.tmod_lt_of_pos picks[n] (show (0 : Int) < m by omega)
      have hpa := pickN_at (picks := picks) hnl hm.1
      refine CW.region_draw rfl (by kernel_rfl) ?_
      refine LR.v (Y.move rfl rfl) (Wd.u rfl) rfl rfl ?_
      refine LR.v (Y.nilCheck rfl rfl) (Wd.u rfl) rfl rfl ?_
      refine LR.v (Y.fieldAddr hp.pt rfl Tryz.runUnderlying86 rfl rfl Tryz.sizeOf39 (by decide) rfl) (Wd.u rfl) rfl rfl ?_
      refine LR.v (Y.load1 hp.pt rfl Tryz.isAgg39 rfl) (Wd.u rfl) rfl rfl ?_
      refine LR.v (Y.move rfl rfl) (Wd.u rfl) rfl rfl ?_
      refine LR.v (Y.nilCheck rfl rfl) (Wd.u rfl) rfl rfl ?_
      refine LR.v (Y.fieldAddr hp.pt rfl Tryz.runUnderlying86 rfl rfl Tryz.sizeOf3 (by decide) rfl) (Wd.u rfl) rfl rfl ?_
      refine LR.v (Y.load1 (hp.pt.drop 1) rfl Tryz.isAgg3 rfl) (Wd.u rfl) rfl rfl ?_
      refine LR.e (g := fun ad => .pointer (some ad)) (Y.indexAddrF hpk (n) rfl Tryz.runUnderlying39 Tryz.sizeOf3 rfl rfl (by first | rfl | omega) (by first | omega | (simp; omega) | (simp; done))) (Wd.u rfl) rfl rfl (fun ad24 pt24 => ?_)
      have bf_pt24 := bf_hpk
      refine LR.v (Y.load1 pt24.pt rfl Tryz.isAgg3 rfl) (Wd.u rfl) rfl rfl ?_
      refine LR.v (Y.move rfl rfl) (Wd.u rfl) rfl rfl ?_
      refine LR.v (Y.rem rfl rfl rfl (by omega)) (Wd.u rfl) rfl rfl ?_
      refine LR.v (Y.move rfl rfl) (Wd.u rfl) rfl rfl ?_
      refine LR.v (Y.addi rfl rfl rfl (by omega)) (Wd.u rfl) rfl rfl ?_
      refine LR.v (Y.move rfl rfl) (Wd.u rfl) rfl rfl ?_
      refine LR.v (Y.cast (v2 := .int .i64 ((pickN picks n m : Nat) : Int)) (Y.rem rfl rfl rfl (by omega)) (by rw [hpa])) (Wd.u rfl) rfl rfl ?_
      refine LR.v (Y.assign rfl rfl) (Wd.u rfl) rfl rfl ?_
      refine LR.nil ?_
      refine QN.sub (hK3 () _ ?_) ⟨rfl, (iv (by omega)), trivial⟩
      exact ⟨trivial, hcm3⟩
    ·
      refine CW.skip ?_
      have hpo := pickN_over (m := m) (show ¬ n < picks.length by omega)
      refine QN.sub (hK3 () _ ?_) ⟨rfl, (iv (by omega)), trivial⟩
      exact ⟨trivial, hcm3⟩
  ·
    intro _ Hcutc15 hIcutc15
    obtain ⟨htr, hlmcutc15⟩ := hIcutc15
    replace hp := hp.nw hlmcutc15
    replace hpk := hpk.nw hlmcutc15
    replace hm0 := hm0.trN hlmcutc15
    have hz1 := hlmcutc15.size
    refine CW.seq (fun K5 hK5 hE5 => ?_)
    refine CW.region ?_
    refine LR.v (Y.move rfl rfl) (Wd.u rfl) rfl rfl ?_
    refine LR.v (Y.nilCheck rfl rfl) (Wd.u rfl) rfl rfl ?_
    refine LR.v (Y.fieldAddr hp.pt rfl Tryz.runUnderlying86 rfl rfl Tryz.sizeOf3 (by decide) rfl) (Wd.u rfl) rfl rfl ?_
    refine LR.v (Y.load1 (hp.pt.drop 1) rfl Tryz.isAgg3 rfl) (Wd.u rfl) rfl rfl ?_
    refine LR.v (Y.cast (v2 := .int .i64 ((n + 1 : Nat) : Int)) (Y.addi rfl rfl rfl (by omega)) (ivv (by omega))) (Wd.u rfl) rfl rfl ?_
    refine LR.v (Y.nilCheck rfl rfl) (Wd.u rfl) rfl rfl ?_
    refine LR.v (Y.fieldAddr hp.pt rfl Tryz.runUnderlying86 rfl rfl Tryz.sizeOf3 (by decide) rfl) (Wd.u rfl) rfl rfl ?_
    refine LR.s (S.var1 hp 1 (_) rfl rfl rfl (rfl) Tryz.sizeOf3 (by simp) (rfl)) (Wd.u rfl) rfl (fun H4_7 r4_7 => ?_)
    obtain ⟨hp, hs4_7⟩ := r4_7
    replace hs4_7 := hs4_7.md1
    replace hpk := hpk.upL hs4_7 (DFL.cons dpk DFL.nil)
    replace hm0 := hm0.trL hs4_7 (MIL.cons (MI.app (MI.root (by simp)) (nx_hm0_hp) (Nat.le_refl _)) MIL.nil)
    have hz2 := hs4_7.size
    refine LR.nil ?_
    refine hK5 _ _ ?_
    refine CW.seq (fun K6 hK6 hE6 => ?_)
    refine CW.region ?_
    refine LR.v (Y.move rfl rfl) (Wd.u rfl) rfl rfl ?_
    refine LR.v (Y.assign rfl rfl) (Wd.u rfl) rfl rfl ?_
    refine LR.nil ?_
    refine hK6 _ _ ?_
    refine CW.ret (hret .ret (.inr rfl) _ _ _ (res1 rfl rfl) ?_)
    exact ⟨rfl, hp, hm0⟩

theorem copy_ct (fv : Nat → Value) (db sb : Nat) (m nm : Nms) (w0 : World) (H0 : Heap)
    (hd : Mp H0 Str fv db m) (hs : Mp H0 Str fv sb nm) (dds : Dj (sb + 1) (db + 1)) :
    Ct Tryz.prog w0 41 #[.map (some db), .map (some sb)] H0 (fun r H2 => ∃ m2 : Nms, r = .tuple #[] ∧ (Mp H2 Str fv db m2) ∧ (∀ q, mget m2 q = match mget nm q with | some i => some i | none => mget m q) ∧ Mo (Ms [(db + 1)]) H0 H2) := by
  refine Ct.enter (args := [.map (some db), .map (some sb)]) Tryz.func41 rfl rfl rfl ?_
  intro Q0 hret
  have hm0 : Mo (Ms [(db + 1)]) H0 H0 := Mo.refl _ _
  have nx_hm0_hd := Nx.refl (db + 1) H0.size
  have hlt_hd := hd.lt
  have nx_hm0_hs := Nx.refl (sb + 1) H0.size
  have hlt_hs := hs.lt
  refine CW.seq (fun K1 hK1 hE1 => ?_)
  refine CW.region ?_
  refine LR.v (Y.move rfl rfl) (Wd.u rfl) rfl rfl ?_
  obtain ⟨es, ck, hs⟩ := hs.raw
  refine LR.z (Z.rangeA hs rfl Tryz.runUnderlying94 rfl) (Wd.u rfl) rfl rfl (fun v7 H7 r7 => ?_)
  obtain ⟨rfl, it, hs7, ob7, hH7⟩ := r7
  have hzs7 : H7.size = H0.size + 1 := by rw [hH7]; simp
  have dj1 : Dj (db + 1) (H0.size + 1) := Dj.new hd.lt
  have dj2 : Dj (sb + 1) (H0.size + 1) := Dj.new hs.lt
  have nx3 : Nx 0 H0.size (H0.size + 1) := Nx.new hm0.size
  replace hd := hd.nw hs7
  replace hs := hs.nw hs7
  replace hm0 := hm0.trN hs7
  have hz1 := hs7.size
  have hlt_it := it.lt
  refine LR.nil ?_
  refine hK1 _ _ ?_
  refine CW.block (fun K2 hK2 hX2 hE2 => ?_)
  refine CW.loop (fun (s_ : (List Pth) × (Nms)) => match s_ with | (dn, mq) => [(0, .map (some db)), (7, .pointer (some ⟨H0.size, 0, none⟩))])
    (fun (s_ : (List Pth) × (Nms)) (H : Heap) => match s_ with | (dn, mq) => (Itr H H0.size sb Str es ck dn) ∧ (Mp H Str fv db mq) ∧ (dn.Nodup ∧ ∀ k ∈ dn, k ∈ nm.map (·.1)) ∧ (∀ q, mget mq q = if q ∈ dn then mget nm q else mget m q) ∧ Mo (Ms [(H0.size + 1), (db + 1)]) H7 H)
    (fun (s_ : (List Pth) × (Nms)) => match s_ with | (dn, mq) => nm.length - dn.length) ([], m) ⟨rfl, rfl, trivial⟩ ?_ ?_
  ·
    exact ⟨it, hd, ⟨List.nodup_nil, by simp⟩, fun q => by simp, Mo.refl _ _⟩
  rintro ⟨dn, mq⟩ HL1 hI1 K3 hN3 hE3
  obtain ⟨it, hd, hdn, hmq, hlm1⟩ := hI1
  replace hs := hs.upL hlm1 (DL.cons dj2 (DL.cons dds DL.nil))
  replace hm0 := hm0.trL hlm1 (MIL.cons (MI.app MI.z (nx3) (Nat.le_refl _)) (MIL.cons (MI.app (MI.root (by simp)) (nx_hm0_hd) (Nat.le_refl _)) MIL.nil))
  have hz2 := hlm1.size
  have nx_hlm1_it := Nx.refl (H0.size + 1) H7.size
  have nx_hlm1_hd := Nx.refl (db + 1) H7.size
  have hdl := nodup_le hdn.1 hdn.2
  rw [List.length_map] at hdl
  refine CW.seq (fun K4 hK4 hE4 => ?_)
  refine CW.region ?_
  refine LR.z (Z.nextA it hs keyStr.inj rfl rfl) (Wd.u rfl) rfl rfl (fun v8 H8 r8 => ?_)
  obtain ⟨qb, x, y, dn1, rfl, it, hT8, hF8, hs8⟩ := r8
  replace hs8 := hs8.md1
  replace hd := hd.upL hs8 (DL.cons dj1 DL.nil)
  replace hs := hs.upL hs8 (DL.cons dj2 DL.nil)
  replace hm0 := hm0.trL hs8 (MIL.cons (MI.app MI.z (nx3) (Nat.le_refl _)) MIL.nil)
  replace hlm1 := hlm1.trL hs8 (MIL.cons (MI.app (MI.root (by simp)) (nx_hlm1_it) (Nat.le_refl _)) MIL.nil)
  have hz3 := hs8.size
  refine LR.v (Y.ext0 rfl rfl) (Wd.u rfl) rfl rfl ?_
  refine LR.nil ?_
  refine hK4 _ _ ?_
  refine CW.seq (fun K5 hK5 hE5 => ?_)
  refine CW.cond rfl (fun c9 => ?_) (fun c9 => ?_)
  ·
    obtain ⟨hxy, hnd, hdq⟩ := hT8 c9
    rw [hdq] at it
    refine CW.skip ?_
    refine hK5 _ _ ?_
    refine CW.block (fun K6 hK6 hX6 hE6 => ?_)
    refine CW.seq (fun K7 hK7 hE7 => ?_)
    refine CW.region ?_
    refine LR.v (Y.entryA it hs keyStr.inj hxy rfl rfl) (Wd.u rfl) rfl rfl ?_
    refine LR.v (Y.extract rfl rfl rfl) (Wd.u rfl) rfl rfl ?_
    refine LR.v (Y.extract rfl rfl rfl) (Wd.u rfl) rfl rfl ?_
    refine LR.v (Y.assign rfl rfl) (Wd.u rfl) rfl rfl ?_
    refine LR.v (Y.assign rfl rfl) (Wd.u rfl) rfl rfl ?_
    refine LR.nil ?_
    refine hK7 _ _ ?_
    refine CW.region ?_
    refine LR.v (Y.move rfl rfl) (Wd.u rfl) rfl rfl ?_
    refine LR.v (Y.move rfl rfl) (Wd.u rfl) rfl rfl ?_
    refine LR.v (Y.move rfl rfl) (Wd.u rfl) rfl rfl ?_
    refine LR.s (S.putMp (y) hd keyStr rfl Tryz.runUnderlying94 Tryz.underlying9 rfl rfl rfl) (Wd.u rfl) rfl (fun H3_3 r3_3 => ?_)
    obtain ⟨hd, hs3_3⟩ := r3_3
    replace hs3_3 := hs3_3.md1
    replace hs := hs.upL hs3_3 (DL.cons dds DL.nil)
    replace it := it.upL hs3_3 (DL.cons dj1.symm DL.nil)
    replace hm0 := hm0.trL hs3_3 (MIL.cons (MI.app (MI.root (by simp)) (nx_hm0_hd) (Nat.le_refl _)) MIL.nil)
    replace hlm1 := hlm1.trL hs3_3 (MIL.cons (MI.app (MI.root (by simp)) (nx_hlm1_hd) (Nat.le_refl _)) MIL.nil)
    have hz4 := hs3_3.size
    refine LR.nil ?_
    refine hK6 _ _ ?_
    have hdn2 : (dn ++ [x]).Nodup ∧ ∀ k ∈ dn ++ [x], k ∈ nm.map (·.1) := by
      refine ⟨?_, fun k hk => ?_⟩
      · rw [List.nodup_append]
        exact ⟨hdn.1, by simp, fun a ha b hb e => by simp only [List.mem_singleton] at hb; subst hb; subst e; exact hnd ha⟩
      · rcases List.mem_append.1 hk with h | h
        · exact hdn.2 k h
        · rw [List.mem_singleton.1 h]; exact List.mem_map.2 ⟨_, hxy, rfl⟩
    have hdl2 := nodup_le hdn2.1 hdn2.2
    rw [List.length_append, List.length_singleton, List.length_map] at hdl2
    have hgx := mget_of_mem hs.mo.nodup hxy
    refine QN.sub (hN3 (dn ++ [x], mput mq x y) _ ?_ ?_) ⟨rfl, rfl, trivial⟩
    · exact ⟨it, hd, hdn2, fun q => by
        rw [mget_put, hmq]
        by_cases h : q = x
        · subst h; simp [hgx]
        · simp [h], hlm1⟩
    · simp only [List.length_append, List.length_singleton]; omega
  ·
    obtain ⟨hall, _⟩ := hF8 c9
    refine CW.exit (hE5 (.exit 0) nofun _ _ (hE3 (.exit 0) nofun _ _ (hX2 _ _ ?_)))
    refine hret .normal (.inl rfl) _ _ _ (res0 rfl) ?_
    exact ⟨mq, rfl, hd, fun q => by
      rw [hmq]
      cases hq : mget nm q with
      | some i => rw [if_pos (hall (q, i) (mget_mem hq))]
      | none =>
        by_cases h : q ∈ dn
        · have h9 := hdn.2 q h
          rw [← isSome_iff_key, hq] at h9; cases h9
        · rw [if_neg h], hm0⟩

end Go.Proofs.YtdliddjkacbggaaGreatDoor.SimL
/-
  The disk: what a crash leaves of a file.
-/
namespace Go.Proofs.YtdliddjkacbggaaGreatDoor.SimM
open Go.Proofs.YtdliddjkacbggaaGreatDoor.E Go.RowKit Go.Proofs.YtdliddjkacbggaaGreatDoor.SimA Go.Proofs.YtdliddjkacbggaaGreatDoor.SimB Go.Proofs.YtdliddjkacbggaaGreatDoor.SimC Go.Proofs.YtdliddjkacbggaaGreatDoor.SimD Go.Proofs.YtdliddjkacbggaaGreatDoor.SimE Go.Proofs.YtdliddjkacbggaaGreatDoor.SimF Go.Proofs.YtdliddjkacbggaaGreatDoor.SimG Go.Proofs.YtdliddjkacbggaaGreatDoor.SimH Go.Proofs.YtdliddjkacbggaaGreatDoor.SimI Go.Proofs.YtdliddjkacbggaaGreatDoor.SimJ Go.Proofs.YtdliddjkacbggaaGreatDoor.SimK Go.Proofs.YtdliddjkacbggaaGreatDoor.SimL
set_option maxRecDepth 20000
set_option linter.unusedVariables false
set_option linter.unusedSimpArgs false
set_option linter.unusedSectionVars false

theorem ways_sum (l : List Wx) : waysF (l.map (·.1)) = 1 + (l.map (fun y => y.1.ways)).sum := by unfold waysF; rw [List.map_map]; rfl
theorem ways_take {l : List Wx} {i : Nat} (h : i < l.length) : ((l.take (i + 1)).map (fun y => y.1.ways)).sum = ((l.take i).map (fun y => y.1.ways)).sum + l[i].1.ways := by
  rw [List.take_succ_eq_append_getElem h, List.map_append, List.sum_append]; simp
theorem ways_le (l : List Wx) (i : Nat) : ((l.take i).map (fun y => y.1.ways)).sum ≤ (l.map (fun y => y.1.ways)).sum := by
  have e : l.map (fun y => y.1.ways) = (l.take i).map (fun y => y.1.ways) ++ (l.drop i).map (fun y => y.1.ways) := by rw [← List.map_append, List.take_append_drop]
  rw [e, List.sum_append]; omega
theorem onAll_take {ws : List Wr} {b : List UInt8} {i : Nat} (h : i < ws.length) : onAll (ws.take (i + 1)) b = ws[i].on (onAll (ws.take i) b) ws[i].d.length := by
  unfold onAll; rw [List.take_succ_eq_append_getElem h, List.foldl_append]; rfl
theorem wayW_drop {ws : List Wr} {b : List UInt8} {i k : Nat} (h : i < ws.length) : wayW (ws.drop i) b k = if k = 0 then b else if k ≤ ws[i].ways then ws[i].part b (k - 1) else wayW (ws.drop (i + 1)) (ws[i].on b ws[i].d.length) (k - ws[i].ways) := by
  rw [List.drop_eq_getElem_cons h]; rfl
theorem wayW_0 (ws : List Wr) (b : List UInt8) : wayW ws b 0 = b := by cases ws <;> simp [wayW]
theorem splice_all2 {cs vs : List Value} (h : cs.length = vs.length) : splice cs 0 vs = vs := by simp [splice, h]
theorem kfrz {K : List Nat} {g : Gh} {H : Heap} {b : Nat} {D : Dk} {kb n : Nat} (h : PDk K g H b D) (hb : ∀ c, c + 1 = kb → g.ρ c = .frz ∨ n ≤ c) : kb = 0 ∨ kb ∈ K ∨ n < kb := by
  rcases Nat.eq_zero_or_pos kb with e | e
  · exact .inl e
  · rcases hb (kb - 1) (by omega) with h2 | h2
    · have := h.mem h2 (by simp)
      rw [show kb - 1 + 1 = kb by omega] at this
      exact .inr (.inl this)
    · exact .inr (.inr (by omega))

set_option maxHeartbeats 4000000 in
theorem lose_ct (K : List Nat) (g : Gh) (b : Nat) (D : Dk) (G : Nat → Prop) (pb n : Nat) (pv : SV) (picks : List Int) (i : Nat) (w0 : World) (H0 : Heap)
    (hf : PDk K g H0 b D) (hp : Var 86 H0 pb [pv.v, .int .i64 (n : Int)]) (hpk : Rd G H0 fI 1 pv.v picks) (bf_hpk : BF G H0.size) (dpk : DF G (pb + 1)) (dhp : DL (pb + 1) K) (dpkK : DFL G K) (hi : i < D.fs.length) (hwl : (fget D.fs i).w.length ≤ 549755813888) (hwd : ∀ y ∈ (fget D.fs i).w, y.d.length ≤ 549755813888) (hpf : ∀ j, (onAll ((fget D.fs i).w.take j) (fget D.fs i).stays).length ≤ 549755813888) (hwy : waysF (fget D.fs i).w ≤ 2305843009213693952) (hn : n ≤ 1099511627776) (hpw : ∀ x ∈ picks, -9223372036854775808 ≤ x ∧ x ≤ 9223372036854775807) :
    Ct Tryz.prog w0 43 #[fvl g.fb i, ptr pb] H0 (fun r H2 => ∃ K2 : List Nat, ∃ g2 : Gh, r = .tuple #[] ∧ (PDk K2 g2 H2 b (D.putF i ⟨wayW (fget D.fs i).w (fget D.fs i).stays (pickN picks n (waysF (fget D.fs i).w)), wayW (fget D.fs i).w (fget D.fs i).stays (pickN picks n (waysF (fget D.fs i).w)), []⟩)) ∧ (NxK K H0.size K2) ∧ (Var 86 H2 pb [pv.v, .int .i64 ((n + 1 : Nat) : Int)]) ∧ (g2.fb = g.fb ∧ g2.dm = g.dm ∧ g2.mb = g.mb) ∧ Mo (Ms (K ++ [(pb + 1)])) H0 H2) := by
  refine Ct.enter (args := [fvl g.fb i, ptr pb]) Tryz.func43 rfl rfl rfl ?_
  intro Q0 hret
  have hm0 : Mo (Ms (K ++ [(pb + 1)])) H0 H0 := Mo.refl _ _
  have nx_hm0_hf := NxK.refl K H0.size
  have hbk_hf := hf.bk
  have nx_hm0_hp := Nx.refl (pb + 1) H0.size
  have hlt_hp := hp.lt
  have hlt0 : ∀ c, g.ρ c ≠ .out → c < H0.size := hf.lt
  obtain ⟨nv, sv, wv, kw, lw, hfi⟩ := hf.fil i hi
  have hlw := hfi.lw
  have hlwl : lw.length = (fget D.fs i).w.length := by rw [← hlw, List.length_map]
  have hwys := ways_sum lw
  rw [hlw] at hwys
  obtain ⟨kq, hq, hqF⟩ := rd_q hfi.hs
  refine CW.seq (fun K1 hK1 hE1 => ?_)
  refine CW.region ?_
  refine LR.v (Y.assign rfl rfl) (Wd.u rfl) rfl rfl ?_
  refine LR.nil ?_
  refine hK1 _ _ ?_
  refine CW.seq (fun K2 hK2 hE2 => ?_)
  refine CW.seq (fun K3 hK3 hE3 => ?_)
  refine CW.region ?_
  have hdR := hfi.hd
  have bf_hdR : BF (fun c => g.ρ c = .frz) H0.size := fun c e => hf.lt c (by rw [e]; simp)
  have hvf := hfi.vf
  have hlt_hvf := hvf.lt
  have hw := hfi.hw
  have hle_hw := hw.le
  have hb := hq
  have hle_hb := hb.le
  have dj1 : Dj (pb + 1) (g.fb.getD i 0 + 1) := DL.at dhp (hf.km1 hfi.rf (by simp))
  have dj2 : Dj (pb + 1) kw := DL.at dhp (hf.km hfi.rk (by simp))
  have dj3 : Dj (pb + 1) kq := DL.at dhp (hf.km hqF (by simp))
  have df4 := (fun c e he => dhp (c + 1) (hf.mem e (by simp)) pb rfl he.symm : DF (fun c => g.ρ c = .frz) (pb + 1))
  refine LR.v (Y.move rfl rfl) (Wd.u rfl) rfl rfl ?_
  refine LR.v (Y.nilCheck rfl rfl) (Wd.u rfl) rfl rfl ?_
  refine LR.v (Y.fieldAddr hvf.pt rfl Tryz.runUnderlying112 rfl rfl Tryz.sizeOf110 (by decide) rfl) (Wd.u rfl) rfl rfl ?_
  refine LR.v (Y.load1 (hvf.pt.drop 2) rfl Tryz.isAgg110 rfl) (Wd.u rfl) rfl rfl ?_
  refine LR.v (Y.len hw.rd rfl Tryz.runUnderlying110 rfl) (Wd.u rfl) rfl rfl ?_
  refine LR.v (Y.move rfl rfl) (Wd.u rfl) rfl rfl ?_
  refine LR.nil ?_
  refine hK3 _ _ ?_
  refine CW.block (fun K4 hK4 hX4 hE4 => ?_)
  refine CW.loop (fun (i1 : (Nat)) => [(0, fvl g.fb i), (1, ptr pb), (4, .int .i64 ((1 + ((lw.take i1).map (fun y => y.1.ways)).sum : Nat) : Int)), (14, wv.v), (15, .int .i64 lw.length), (16, .int .i64 (i1 : Int))])
    (fun (i1 : (Nat)) (H : Heap) => (i1 ≤ lw.length) ∧ Nw H0 H)
    (fun (i1 : (Nat)) => lw.length - i1) 0 ⟨rfl, rfl, rfl, rfl, rfl, rfl, trivial⟩ ?_ ?_
  ·
    exact ⟨(by omega), Mo.refl _ _⟩
  intro i1 HL1 hI1 K5 hN5 hE5
  obtain ⟨hi1, hlm1⟩ := hI1
  replace hf := hf.nw hlm1
  replace hp := hp.nw hlm1
  replace hpk := hpk.nw hlm1
  replace hdR := fun y hy => (hdR y hy).nw hlm1
  replace hvf := hvf.nw hlm1
  replace hw := hw.nw hlm1
  replace hb := hb.nw hlm1
  replace hm0 := hm0.trN hlm1
  have hz1 := hlm1.size
  refine CW.seq (fun K6 hK6 hE6 => ?_)
  refine CW.region ?_
  refine LR.v (Y.lss rfl rfl rfl) (Wd.u rfl) rfl rfl ?_
  refine LR.nil ?_
  refine hK6 _ _ ?_
  refine CW.seq (fun K7 hK7 hE7 => ?_)
  refine CW.condp rfl (fun c17 => ?_) (fun c17 => ?_)
  ·
    have hil : i1 < lw.length := by omega
    have hwt := ways_take hil
    have hwt2 := ways_le lw (i1 + 1)
    have hdl1 := hwd lw[i1].1 (by rw [← hlw]; exact List.mem_map.2 ⟨_, List.getElem_mem hil, rfl⟩)
    refine CW.skip ?_
    refine hK7 _ _ ?_
    refine CW.seq (fun K8 hK8 hE8 => ?_)
    refine CW.block (fun K9 hK9 hX9 hE9 => ?_)
    refine CW.seq (fun K10 hK10 hE10 => ?_)
    refine CW.region ?_
    refine LR.v (Y.owAddr hw (i1) rfl Tryz.runUnderlying110 Tryz.sizeOf149 rfl rfl (by first | rfl | omega) (by first | omega | (simp; omega) | (simp; done))) (Wd.u rfl) rfl rfl ?_
    refine LR.v (Y.loadN (hw.pt (j := i1) (by first | omega | (simp; omega) | (simp; done))) rfl Tryz.isAgg149 Tryz.sizeOf149 (fW_len _) rfl) (Wd.u rfl) rfl rfl ?_
    refine LR.z (Z.allocv rfl Tryz.zeroValue149) (Wd.u rfl) rfl rfl (fun v6 H6 r6 => ?_)
    obtain ⟨rfl, v6, hs6, ob6, hH6⟩ := r6
    have hzs6 : H6.size = HL1.size + 1 := by rw [hH6]; simp
    have dj5 : DL (HL1.size + 1) K := DL.newK hf.bk
    have dj6 : Dj (pb + 1) (HL1.size + 1) := Dj.new hp.lt
    have df7 := (DF.new (bf_hpk.mono hm0.size) : DF _ (HL1.size + 1))
    have df8 := (DF.new (bf_hdR.mono (by omega)) : DF _ (HL1.size + 1))
    have dj9 : Dj (g.fb.getD i 0 + 1) (HL1.size + 1) := Dj.new hvf.lt
    have dj10 : Dj kw (HL1.size + 1) := Dj.new hw.le
    have dj11 : Dj kq (HL1.size + 1) := Dj.new hb.le
    have nx12 : Nx 0 H0.size (HL1.size + 1) := Nx.new hm0.size
    have nx13 : Nx 0 H0.size (HL1.size + 1) := Nx.new hlm1.size
    replace hf := hf.nw hs6
    replace hp := hp.nw hs6
    replace hpk := hpk.nw hs6
    replace hdR := fun y hy => (hdR y hy).nw hs6
    replace hvf := hvf.nw hs6
    replace hw := hw.nw hs6
    replace hb := hb.nw hs6
    replace hm0 := hm0.trN hs6
    replace hlm1 := hlm1.tr hs6
    have hz2 := hs6.size
    refine LR.s (S.var v6 (_) (fW lw[i1]) rfl rfl rfl rfl (fW_one lw[i1]) Tryz.sizeOf149 (fW_len _) (by decide) ((splice_all2 (fW_len _).symm))) (Wd.u rfl) rfl (fun H3_3 r3_3 => ?_)
    obtain ⟨v6, hs3_3⟩ := r3_3
    replace hs3_3 := hs3_3.md1
    replace hf := hf.upL hs3_3 (DKL.cons dj5 DKL.nil)
    replace hp := hp.upL hs3_3 (DL.cons dj6 DL.nil)
    replace hpk := hpk.upL hs3_3 (DFL.cons df7 DFL.nil)
    replace hdR := fun y hy => (hdR y hy).upL hs3_3 (DFL.cons df8 DFL.nil)
    replace hvf := hvf.upL hs3_3 (DL.cons dj9 DL.nil)
    replace hw := hw.upL hs3_3 (DL.cons dj10 DL.nil)
    replace hb := hb.upL hs3_3 (DL.cons dj11 DL.nil)
    replace hm0 := hm0.trL hs3_3 (MIL.cons (MI.app MI.z (nx12) (Nat.le_refl _)) MIL.nil)
    replace hlm1 := (Mo.trL (ks := []) (hlm1.mdn []) hs3_3 (MIL.cons (MI.app MI.z (nx13) (Nat.le_refl _)) MIL.nil)).nil
    have hz3 := hs3_3.size
    refine LR.nil ?_
    refine hK10 _ _ ?_
    refine CW.region ?_
    refine LR.v (Y.move rfl rfl) (Wd.u rfl) rfl rfl ?_
    refine LR.v (Y.loadN v6.pt rfl Tryz.isAgg149 Tryz.sizeOf149 (fW_len _) rfl) (Wd.u rfl) rfl rfl ?_
    -- call (selvage/simfs.write).ways
    refine LR.call rfl Tryz.call82 rfl (Wd.u rfl) rfl rfl (ways_ct lw[i1] w0 _ (hdR lw[i1] (List.getElem_mem hil)).any (by omega)) (fun v22 H22 r22 => ?_)
    obtain ⟨rfl, hs22⟩ := r22
    replace hf := hf.nw hs22
    replace hp := hp.nw hs22
    replace hpk := hpk.nw hs22
    replace hdR := fun y hy => (hdR y hy).nw hs22
    replace hvf := hvf.nw hs22
    replace hw := hw.nw hs22
    replace hb := hb.nw hs22
    replace v6 := v6.nw hs22
    replace hm0 := hm0.trN hs22
    replace hlm1 := hlm1.tr hs22
    have hz4 := hs22.size
    refine LR.v (Y.cast (v2 := .int .i64 ((1 + ((lw.take (i1 + 1)).map (fun y => y.1.ways)).sum : Nat) : Int)) (Y.addi rfl rfl rfl (by omega)) (ivv (by omega))) (Wd.u rfl) rfl rfl ?_
    refine LR.v (Y.assign rfl rfl) (Wd.u rfl) rfl rfl ?_
    refine LR.nil ?_
    refine hK9 _ _ ?_
    refine hK8 _ _ ?_
    refine CW.region ?_
    refine LR.v (Y.addi rfl rfl rfl (by omega)) (Wd.u rfl) rfl rfl ?_
    refine LR.v (Y.move rfl rfl) (Wd.u rfl) rfl rfl ?_
    refine LR.nil ?_
    refine QN.sub (hN5 (i1 + 1) _ ?_ ?_) ⟨rfl, rfl, (iv (by omega)), rfl, (iv (by omega)), (iv (by omega)), trivial⟩
    · exact ⟨(by omega), hlm1⟩
    · first | omega | (simp only; omega) | (simp; omega)
  ·
    obtain rfl : i1 = lw.length := by omega
    refine CW.exit (hE7 (.exit 0) nofun _ _ (hE5 (.exit 0) nofun _ _ (hX4 _ _ ?_)))
    refine hK2 _ _ ?_
    refine CW.seq (fun K11 hK11 hE11 => ?_)
    refine CW.region ?_
    refine LR.v (Y.move rfl rfl) (Wd.u rfl) rfl rfl ?_
    refine LR.v (Y.cast (v2 := .int .i64 ((waysF (fget D.fs i).w : Nat) : Int)) (Y.move rfl rfl) (by rw [hwys, List.take_length])) (Wd.u rfl) rfl rfl ?_
    -- call (*selvage/simfs.picker).next
    refine LR.call rfl Tryz.call38 rfl (Wd.u rfl) rfl rfl (next_ct G pb n pv picks (waysF (fget D.fs i).w) w0 _ hp hpk (bf_hpk.mono (by omega)) dpk (by omega) (by omega) hpw) (fun v27 H27 r27 => ?_)
    obtain ⟨rfl, hp, hs27⟩ := r27
    replace hf := hf.upL hs27 (DKL.cons dhp DKL.nil)
    replace hpk := hpk.upL hs27 (DFL.cons dpk DFL.nil)
    replace hdR := fun y hy => (hdR y hy).upL hs27 (DFL.cons df4 DFL.nil)
    replace hvf := hvf.upL hs27 (DL.cons dj1.symm DL.nil)
    replace hw := hw.upL hs27 (DL.cons dj2.symm DL.nil)
    replace hb := hb.upL hs27 (DL.cons dj3.symm DL.nil)
    replace hm0 := hm0.trL hs27 (MIL.cons (MI.app (MI.root (by simp)) (nx_hm0_hp) (Nat.le_refl _)) MIL.nil)
    have hz5 := hs27.size
    obtain ⟨k0, hk0⟩ : ∃ k0, k0 = pickN picks n (waysF (fget D.fs i).w) := ⟨_, rfl⟩
    have hk0l := pickN_lt picks n (m := waysF (fget D.fs i).w) (by omega)
    rw [← hk0] at hk0l
    obtain ⟨T, hT⟩ : ∃ T, T = wayW (fget D.fs i).w (fget D.fs i).stays k0 := ⟨_, rfl⟩
    refine LR.v (Y.assign rfl rfl) (Wd.u rfl) rfl rfl ?_
    refine LR.nil ?_
    refine hK11 _ _ ?_
    refine CW.seq (fun K12 hK12 hE12 => ?_)
    refine CW.region ?_
    refine LR.v (Y.move rfl rfl) (Wd.u rfl) rfl rfl ?_
    refine LR.v (Y.nilCheck rfl rfl) (Wd.u rfl) rfl rfl ?_
    refine LR.v (Y.fieldAddr hvf.pt rfl Tryz.runUnderlying112 rfl rfl Tryz.sizeOf109 (by decide) rfl) (Wd.u rfl) rfl rfl ?_
    refine LR.v (Y.fieldAddr hvf.pt rfl Tryz.runUnderlying109 rfl rfl Tryz.sizeOf34 (by decide) rfl) (Wd.u rfl) rfl rfl ?_
    refine LR.v (Y.load1 (hvf.pt.drop 1) rfl Tryz.isAgg34 rfl) (Wd.u rfl) rfl rfl ?_
    refine LR.v (Y.assign rfl rfl) (Wd.u rfl) rfl rfl ?_
    refine LR.nil ?_
    refine hK12 _ _ ?_
    refine CW.cut (fun (s_ : (SV) × (Nat)) => match s_ with | (s9, k9) => [(0, fvl g.fb i), (8, s9.v)])
      (fun (s_ : (SV) × (Nat)) (H : Heap) => match s_ with | (s9, k9) => (Qr k9 H fB 1 s9.v T) ∧ (∀ c, c + 1 = k9 → g.ρ c = .frz ∨ H0.size ≤ c) ∧ (Nx kq H27.size k9) ∧ Nw H27 H) (fun K13 hK13 hE13 => ?_) ?_
    ·
      have hcm13 : Nw H27 H27 := Mo.refl _ _
      have nx_hcm13_hb := Nx.refl kq H27.size
      refine CW.seq (fun K14 hK14 hE14 => ?_)
      refine CW.region ?_
      refine LR.v (Y.move rfl rfl) (Wd.u rfl) rfl rfl ?_
      refine LR.v (Y.nilCheck rfl rfl) (Wd.u rfl) rfl rfl ?_
      refine LR.v (Y.fieldAddr hvf.pt rfl Tryz.runUnderlying112 rfl rfl Tryz.sizeOf110 (by decide) rfl) (Wd.u rfl) rfl rfl ?_
      refine LR.v (Y.load1 (hvf.pt.drop 2) rfl Tryz.isAgg110 rfl) (Wd.u rfl) rfl rfl ?_
      refine LR.v (Y.len hw.rd rfl Tryz.runUnderlying110 rfl) (Wd.u rfl) rfl rfl ?_
      refine LR.v (Y.move rfl rfl) (Wd.u rfl) rfl rfl ?_
      refine LR.nil ?_
      refine hK14 _ _ ?_
      refine CW.block (fun K15 hK15 hX15 hE15 => ?_)
      refine CW.loop (fun (s_ : (Nat) × (Nat) × (SV) × (Nat) × (List UInt8)) => match s_ with | (i2, k, s8, kb, bl) => [(0, fvl g.fb i), (7, .int .i64 (k : Int)), (8, s8.v), (36, wv.v), (37, .int .i64 lw.length), (38, .int .i64 (i2 : Int))])
        (fun (s_ : (Nat) × (Nat) × (SV) × (Nat) × (List UInt8)) (H : Heap) => match s_ with | (i2, k, s8, kb, bl) => (i2 ≤ lw.length) ∧ (Qr kb H fB 1 s8.v bl) ∧ (∀ c, c + 1 = kb → g.ρ c = .frz ∨ H0.size ≤ c) ∧ (bl = onAll ((fget D.fs i).w.take i2) (fget D.fs i).stays) ∧ (wayW ((fget D.fs i).w.drop i2) bl k = T) ∧ (k ≤ k0) ∧ (Nx kq H27.size kb) ∧ Nw H27 H)
        (fun (s_ : (Nat) × (Nat) × (SV) × (Nat) × (List UInt8)) => match s_ with | (i2, k, s8, kb, bl) => lw.length - i2) (0, k0, sv, kq, (fget D.fs i).stays) ⟨rfl, (by rw [hk0]; rfl), rfl, rfl, rfl, rfl, trivial⟩ ?_ ?_
      ·
        exact ⟨(by omega), hb, fun c e => .inl (hqF c e), rfl, hT.symm, Nat.le_refl _, Nx.refl _ _, Mo.refl _ _⟩
      rintro ⟨i2, k, s8, kb, bl⟩ HL2 hI2 K16 hN16 hE16
      obtain ⟨hi2, hb, hbF, hbl, hwk, hkl, nxl_hb, hlm2⟩ := hI2
      have dj14 : Dj (pb + 1) kb := Dj.app (dj3) hp.lt nxl_hb
      have nx15 : Nx kq H27.size kb := Nx.tr (nx_hcm13_hb) nxl_hb hcm13.size
      replace hf := hf.nw hlm2
      replace hp := hp.nw hlm2
      replace hpk := hpk.nw hlm2
      replace hdR := fun y hy => (hdR y hy).nw hlm2
      replace hvf := hvf.nw hlm2
      replace hw := hw.nw hlm2
      replace hm0 := hm0.trN hlm2
      replace hcm13 := hcm13.tr hlm2
      have hz6 := hlm2.size
      have hle_hb := hb.le
      have nx16 := nxl_hb
      have hble := hpf i2
      rw [← hbl] at hble
      refine CW.seq (fun K17 hK17 hE17 => ?_)
      refine CW.region ?_
      refine LR.v (Y.lss rfl rfl rfl) (Wd.u rfl) rfl rfl ?_
      refine LR.nil ?_
      refine hK17 _ _ ?_
      refine CW.seq (fun K18 hK18 hE18 => ?_)
      refine CW.condp rfl (fun c39 => ?_) (fun c39 => ?_)
      ·
        have hi2l : i2 < lw.length := by omega
        have hi2w : i2 < (fget D.fs i).w.length := by omega
        have hgw : (fget D.fs i).w[i2] = lw[i2].1 := by simp only [← hlw, List.getElem_map]
        have hdl2 := hwd lw[i2].1 (by rw [← hlw]; exact List.mem_map.2 ⟨_, List.getElem_mem hi2l, rfl⟩)
        have hdy := hdR lw[i2] (List.getElem_mem hi2l)
        refine CW.skip ?_
        refine hK18 _ _ ?_
        refine CW.seq (fun K19 hK19 hE19 => ?_)
        refine CW.block (fun K20 hK20 hX20 hE20 => ?_)
        refine CW.seq (fun K21 hK21 hE21 => ?_)
        refine CW.region ?_
        refine LR.v (Y.owAddr hw (i2) rfl Tryz.runUnderlying110 Tryz.sizeOf149 rfl rfl (by first | rfl | omega) (by first | omega | (simp; omega) | (simp; done))) (Wd.u rfl) rfl rfl ?_
        refine LR.v (Y.loadN (hw.pt (j := i2) (by first | omega | (simp; omega) | (simp; done))) rfl Tryz.isAgg149 Tryz.sizeOf149 (fW_len _) rfl) (Wd.u rfl) rfl rfl ?_
        refine LR.z (Z.allocv rfl Tryz.zeroValue149) (Wd.u rfl) rfl rfl (fun v10 H10 r10 => ?_)
        obtain ⟨rfl, v10, hs10, ob10, hH10⟩ := r10
        have hzs10 : H10.size = HL2.size + 1 := by rw [hH10]; simp
        have dj17 : DL (HL2.size + 1) K := DL.newK hf.bk
        have dj18 : Dj (pb + 1) (HL2.size + 1) := Dj.new hp.lt
        have df19 := (DF.new (bf_hpk.mono hm0.size) : DF _ (HL2.size + 1))
        have df20 := (DF.new (bf_hdR.mono (by omega)) : DF _ (HL2.size + 1))
        have dj21 : Dj (g.fb.getD i 0 + 1) (HL2.size + 1) := Dj.new hvf.lt
        have dj22 : Dj kw (HL2.size + 1) := Dj.new hw.le
        have dj23 : Dj kb (HL2.size + 1) := Dj.new hb.le
        have nx24 : Nx 0 H0.size (HL2.size + 1) := Nx.new hm0.size
        have nx25 : Nx 0 H27.size (HL2.size + 1) := Nx.new hcm13.size
        have nx26 : Nx 0 H27.size (HL2.size + 1) := Nx.new hlm2.size
        replace hf := hf.nw hs10
        replace hp := hp.nw hs10
        replace hpk := hpk.nw hs10
        replace hdR := fun y hy => (hdR y hy).nw hs10
        replace hvf := hvf.nw hs10
        replace hw := hw.nw hs10
        replace hb := hb.nw hs10
        replace hm0 := hm0.trN hs10
        replace hcm13 := hcm13.tr hs10
        replace hlm2 := hlm2.tr hs10
        have hz7 := hs10.size
        refine LR.s (S.var v10 (_) (fW lw[i2]) rfl rfl rfl rfl (fW_one lw[i2]) Tryz.sizeOf149 (fW_len _) (by decide) ((splice_all2 (fW_len _).symm))) (Wd.u rfl) rfl (fun H10_3 r10_3 => ?_)
        obtain ⟨v10, hs10_3⟩ := r10_3
        replace hs10_3 := hs10_3.md1
        replace hf := hf.upL hs10_3 (DKL.cons dj17 DKL.nil)
        replace hp := hp.upL hs10_3 (DL.cons dj18 DL.nil)
        replace hpk := hpk.upL hs10_3 (DFL.cons df19 DFL.nil)
        replace hdR := fun y hy => (hdR y hy).upL hs10_3 (DFL.cons df20 DFL.nil)
        replace hvf := hvf.upL hs10_3 (DL.cons dj21 DL.nil)
        replace hw := hw.upL hs10_3 (DL.cons dj22 DL.nil)
        replace hb := hb.upL hs10_3 (DL.cons dj23 DL.nil)
        replace hm0 := hm0.trL hs10_3 (MIL.cons (MI.app MI.z (nx24) (Nat.le_refl _)) MIL.nil)
        replace hcm13 := (Mo.trL (ks := []) (hcm13.mdn []) hs10_3 (MIL.cons (MI.app MI.z (nx25) (Nat.le_refl _)) MIL.nil)).nil
        replace hlm2 := (Mo.trL (ks := []) (hlm2.mdn []) hs10_3 (MIL.cons (MI.app MI.z (nx26) (Nat.le_refl _)) MIL.nil)).nil
        have hz8 := hs10_3.size
        refine LR.nil ?_
        refine hK21 _ _ ?_
        refine CW.seq (fun K22 hK22 hE22 => ?_)
        refine CW.seq (fun K23 hK23 hE23 => ?_)
        refine CW.region ?_
        refine LR.v (Y.move rfl rfl) (Wd.u rfl) rfl rfl ?_
        refine LR.v (Y.eql rfl rfl rfl) (Wd.u rfl) rfl rfl ?_
        refine LR.nil ?_
        refine hK23 _ _ ?_
        refine CW.condp rfl (fun c43 => ?_) (fun c43 => ?_)
        ·
          refine CW.exit (hE22 (.exit 2) nofun _ _ (hE20 (.exit 2) nofun (by simp) _ _ (hE19 (.exit 2) nofun _ _ (hE16 (.exit 2) nofun _ _ (hX15 _ _ ?_)))))
          have hTe : T = bl := by rw [← hwk, show k = 0 by omega, wayW_0]
          refine QN.sub (hK13 (s8, kb) _ ?_) ⟨rfl, rfl, trivial⟩
          exact ⟨by rw [hTe]; exact hb, hbF, nx15, hcm13⟩
        ·
          refine CW.skip ?_
          refine hK22 _ _ ?_
          refine CW.seq (fun K24 hK24 hE24 => ?_)
          refine CW.seq (fun K25 hK25 hE25 => ?_)
          refine CW.region ?_
          refine LR.v (Y.move rfl rfl) (Wd.u rfl) rfl rfl ?_
          refine LR.v (Y.loadN v10.pt rfl Tryz.isAgg149 Tryz.sizeOf149 (fW_len _) rfl) (Wd.u rfl) rfl rfl ?_
          -- call (selvage/simfs.write).ways
          refine LR.call rfl Tryz.call82 rfl (Wd.u rfl) rfl rfl (ways_ct lw[i2] w0 _ (hdR lw[i2] (List.getElem_mem hi2l)).any (by omega)) (fun v46 H46 r46 => ?_)
          obtain ⟨rfl, hs46⟩ := r46
          replace hf := hf.nw hs46
          replace hp := hp.nw hs46
          replace hpk := hpk.nw hs46
          replace hdR := fun y hy => (hdR y hy).nw hs46
          replace hvf := hvf.nw hs46
          replace hw := hw.nw hs46
          replace hb := hb.nw hs46
          replace v10 := v10.nw hs46
          replace hm0 := hm0.trN hs46
          replace hcm13 := hcm13.tr hs46
          replace hlm2 := hlm2.tr hs46
          have hz9 := hs46.size
          refine LR.v (Y.leq rfl rfl rfl) (Wd.u rfl) rfl rfl ?_
          refine LR.nil ?_
          refine hK25 _ _ ?_
          refine CW.condp rfl (fun c47 => ?_) (fun c47 => ?_)
          ·
            refine CW.seq (fun K26 hK26 hE26 => ?_)
            refine CW.region ?_
            refine LR.v (Y.loadN v10.pt rfl Tryz.isAgg149 Tryz.sizeOf149 (fW_len _) rfl) (Wd.u rfl) rfl rfl ?_
            refine LR.v (Y.move rfl rfl) (Wd.u rfl) rfl rfl ?_
            refine LR.v (Y.move rfl rfl) (Wd.u rfl) rfl rfl ?_
            refine LR.v (Y.cast (v2 := .int .i64 ((k - 1 : Nat) : Int)) (Y.subi rfl rfl rfl (by omega)) (ivv (by omega))) (Wd.u rfl) rfl rfl ?_
            -- call (selvage/simfs.write).part
            refine LR.call rfl Tryz.call83 rfl (Wd.u rfl) rfl rfl (part_ct lw[i2] s8 bl (k - 1) w0 _ (hdR lw[i2] (List.getElem_mem hi2l)).any hb.rd.any (by omega) (by omega)) (fun v52 H52 r52 => ?_)
            obtain ⟨s52, k52, rfl, ow52, hk52, hs52⟩ := r52
            have dj27 : DL k52 K := DL.app2 (DL.zK) hf.bk hk52
            have dj28 : Dj (pb + 1) k52 := Dj.app (Dj.z) hp.lt hk52
            have df29 := DF.app (DF.z) (bf_hpk.mono hm0.size) hk52
            have df30 := DF.app (DF.z) (bf_hdR.mono (by omega)) hk52
            have dj31 : Dj (g.fb.getD i 0 + 1) k52 := Dj.app (Dj.z) hvf.lt hk52
            have dj32 : Dj kw k52 := Dj.app (Dj.z) hw.le hk52
            have dj33 : Dj kb k52 := Dj.app (Dj.z) hb.le hk52
            have dj34 : Dj (HL2.size + 1) k52 := Dj.app (Dj.z) v10.lt hk52
            have nx35 : Nx 0 H0.size k52 := Nx.tr (Nx.refl 0 _) hk52 hm0.size
            have nx36 : Nx 0 H27.size k52 := Nx.tr (Nx.refl 0 _) hk52 hcm13.size
            have nx37 : Nx 0 H27.size k52 := Nx.tr (Nx.refl 0 _) hk52 hlm2.size
            replace hf := hf.nw hs52
            replace hp := hp.nw hs52
            replace hpk := hpk.nw hs52
            replace hdR := fun y hy => (hdR y hy).nw hs52
            replace hvf := hvf.nw hs52
            replace hw := hw.nw hs52
            replace hb := hb.nw hs52
            replace v10 := v10.nw hs52
            replace hm0 := hm0.trN hs52
            replace hcm13 := hcm13.tr hs52
            replace hlm2 := hlm2.tr hs52
            have hz10 := hs52.size
            have hle_ow52 := ow52.le
            refine LR.v (Y.assign rfl rfl) (Wd.u rfl) rfl rfl ?_
            refine LR.nil ?_
            refine hK26 _ _ ?_
            refine CW.exit (hE24 (.exit 2) nofun _ _ (hE20 (.exit 2) nofun (by simp) _ _ (hE19 (.exit 2) nofun _ _ (hE16 (.exit 2) nofun _ _ (hX15 _ _ ?_)))))
            have hTe : T = lw[i2].1.part bl (k - 1) := by rw [← hwk, wayW_drop hi2w, if_neg (by omega), if_pos (by simp only [hgw]; omega)]; simp only [hgw]
            rw [← hTe] at ow52
            refine QN.sub (hK13 (s52, k52) _ ?_) ⟨rfl, rfl, trivial⟩
            exact ⟨ow52.q, fun c e => .inr (by unfold Nx at hk52; omega), (Nx.z (nx36)), hcm13⟩
          ·
            refine CW.skip ?_
            refine hK24 _ _ ?_
            refine CW.seq (fun K27 hK27 hE27 => ?_)
            refine CW.region ?_
            refine LR.v (Y.move rfl rfl) (Wd.u rfl) rfl rfl ?_
            refine LR.v (Y.loadN v10.pt rfl Tryz.isAgg149 Tryz.sizeOf149 (fW_len _) rfl) (Wd.u rfl) rfl rfl ?_
            -- call (selvage/simfs.write).ways
            refine LR.call rfl Tryz.call82 rfl (Wd.u rfl) rfl rfl (ways_ct lw[i2] w0 _ (hdR lw[i2] (List.getElem_mem hi2l)).any (by omega)) (fun v55 H55 r55 => ?_)
            obtain ⟨rfl, hs55⟩ := r55
            replace hf := hf.nw hs55
            replace hp := hp.nw hs55
            replace hpk := hpk.nw hs55
            replace hdR := fun y hy => (hdR y hy).nw hs55
            replace hvf := hvf.nw hs55
            replace hw := hw.nw hs55
            replace hb := hb.nw hs55
            replace v10 := v10.nw hs55
            replace hm0 := hm0.trN hs55
            replace hcm13 := hcm13.tr hs55
            replace hlm2 := hlm2.tr hs55
            have hz11 := hs55.size
            refine LR.v (Y.cast (v2 := .int .i64 ((k - lw[i2].1.ways : Nat) : Int)) (Y.subi rfl rfl rfl (by omega)) (ivv (by omega))) (Wd.u rfl) rfl rfl ?_
            refine LR.v (Y.assign rfl rfl) (Wd.u rfl) rfl rfl ?_
            refine LR.nil ?_
            refine hK27 _ _ ?_
            refine CW.region ?_
            refine LR.v (Y.loadN v10.pt rfl Tryz.isAgg149 Tryz.sizeOf149 (fW_len _) rfl) (Wd.u rfl) rfl rfl ?_
            refine LR.v (Y.move rfl rfl) (Wd.u rfl) rfl rfl ?_
            refine LR.v (Y.fieldAddr v10.pt rfl Tryz.runUnderlying149 rfl rfl Tryz.sizeOf34 (by decide) rfl) (Wd.u rfl) rfl rfl ?_
            refine LR.v (Y.load1 (v10.pt.drop 1) rfl Tryz.isAgg34 rfl) (Wd.u rfl) rfl rfl ?_
            refine LR.v (Y.len (hdR lw[i2] (List.getElem_mem hi2l)) rfl Tryz.runUnderlying34 rfl) (Wd.u rfl) rfl rfl ?_
            -- call (selvage/simfs.write).on
            refine LR.call rfl Tryz.call84 rfl (Wd.u rfl) rfl rfl (on_ct lw[i2] s8 bl lw[i2].1.d.length w0 _ (hdR lw[i2] (List.getElem_mem hi2l)).any hb.rd.any (Nat.le_refl _) (by omega)) (fun v62 H62 r62 => ?_)
            obtain ⟨s62, k62, rfl, ow62, hk62, hs62⟩ := r62
            have dj38 : DL k62 K := DL.app2 (DL.zK) hf.bk hk62
            have dj39 : Dj (pb + 1) k62 := Dj.app (Dj.z) hp.lt hk62
            have df40 := DF.app (DF.z) (bf_hpk.mono hm0.size) hk62
            have df41 := DF.app (DF.z) (bf_hdR.mono (by omega)) hk62
            have dj42 : Dj (g.fb.getD i 0 + 1) k62 := Dj.app (Dj.z) hvf.lt hk62
            have dj43 : Dj kw k62 := Dj.app (Dj.z) hw.le hk62
            have dj44 : Dj kb k62 := Dj.app (Dj.z) hb.le hk62
            have dj45 : Dj (HL2.size + 1) k62 := Dj.app (Dj.z) v10.lt hk62
            have nx46 : Nx 0 H0.size k62 := Nx.tr (Nx.refl 0 _) hk62 hm0.size
            have nx47 : Nx 0 H27.size k62 := Nx.tr (Nx.refl 0 _) hk62 hcm13.size
            have nx48 : Nx 0 H27.size k62 := Nx.tr (Nx.refl 0 _) hk62 hlm2.size
            replace hf := hf.nw hs62
            replace hp := hp.nw hs62
            replace hpk := hpk.nw hs62
            replace hdR := fun y hy => (hdR y hy).nw hs62
            replace hvf := hvf.nw hs62
            replace hw := hw.nw hs62
            replace hb := hb.nw hs62
            replace v10 := v10.nw hs62
            replace hm0 := hm0.trN hs62
            replace hcm13 := hcm13.tr hs62
            replace hlm2 := hlm2.tr hs62
            have hz12 := hs62.size
            have hle_ow62 := ow62.le
            refine LR.v (Y.assign rfl rfl) (Wd.u rfl) rfl rfl ?_
            refine LR.nil ?_
            refine hK20 _ _ ?_
            refine hK19 _ _ ?_
            refine CW.region ?_
            refine LR.v (Y.addi rfl rfl rfl (by omega)) (Wd.u rfl) rfl rfl ?_
            refine LR.v (Y.move rfl rfl) (Wd.u rfl) rfl rfl ?_
            refine LR.nil ?_
            refine QN.sub (hN16 (i2 + 1, k - lw[i2].1.ways, s62, k62, lw[i2].1.on bl lw[i2].1.d.length) _ ?_ ?_) ⟨rfl, (iv (by omega)), rfl, rfl, (iv (by omega)), (iv (by omega)), trivial⟩
            · exact ⟨(by omega), ow62.q, fun c e => .inr (by unfold Nx at hk62; omega), by rw [onAll_take hi2w, ← hbl]; simp only [hgw], by rw [← hwk, wayW_drop hi2w, if_neg (by omega), if_neg (by simp only [hgw]; omega)]; simp only [hgw], (by omega), (Nx.z (nx48)), hlm2⟩
            · first | omega | (simp only; omega) | (simp; omega)
      ·
        refine CW.exit (hE18 (.exit 2) nofun _ _ (hE16 (.exit 2) nofun _ _ (hX15 _ _ ?_)))
        have hTe : T = bl := by rw [← hwk, List.drop_of_length_le (by omega)]; rfl
        refine QN.sub (hK13 (s8, kb) _ ?_) ⟨rfl, rfl, trivial⟩
        exact ⟨by rw [hTe]; exact hb, hbF, nx15, hcm13⟩
    ·
      rintro ⟨s9, k9⟩ Hcut2 hIcut2
      obtain ⟨hb, hbF, nxl_hb, hlmcut2⟩ := hIcut2
      have dj49 : Dj (pb + 1) k9 := Dj.app (dj3) hp.lt nxl_hb
      replace hf := hf.nw hlmcut2
      replace hp := hp.nw hlmcut2
      replace hpk := hpk.nw hlmcut2
      replace hdR := fun y hy => (hdR y hy).nw hlmcut2
      replace hvf := hvf.nw hlmcut2
      replace hw := hw.nw hlmcut2
      replace hm0 := hm0.trN hlmcut2
      have hz13 := hlmcut2.size
      have hle_hb := hb.le
      have nx50 := nxl_hb
      obtain ⟨nvB, svB, wvB, kwB, lwB, hfiB⟩ := hf.fil i hi
      have hop : Mo (Ms [(g.fb.getD i 0 + 1)]) Hcut2 Hcut2 := Mo.refl _ _
      have km51 : KM K (g.fb.getD i 0 + 1) := (hf.km1 hfiB.rf (by simp))
      have vf2 := hfiB.vf
      have hlt_vf2 := vf2.lt
      have dj52 : Dj (pb + 1) (g.fb.getD i 0 + 1) := DL.at (dhp) km51
      have df53 := DFL.at (dpkK) km51
      have nx54 : MI (K ++ [(pb + 1)]) H0.size (g.fb.getD i 0 + 1) := MIL.at (MIL.ofK (nx_hm0_hf) (by intro k hk; simp [hk])) km51
      have nx55 := Nx.refl (g.fb.getD i 0 + 1) Hcut2.size
      have dj56 : Dj k9 (g.fb.getD i 0 + 1) := fun c h1 h2 => by
        rcases hbF c h1 with q | q
        · rw [show c = g.fb.getD i 0 by omega, hfiB.rf] at q; cases q
        · have := hlt0 _ (show g.ρ (g.fb.getD i 0) ≠ .out by rw [hfiB.rf]; simp); omega
      refine CW.region ?_
      refine LR.v (Y.move rfl rfl) (Wd.u rfl) rfl rfl ?_
      refine LR.v (Y.move rfl rfl) (Wd.u rfl) rfl rfl ?_
      refine LR.v (Y.move rfl rfl) (Wd.u rfl) rfl rfl ?_
      refine LR.v (Y.move rfl rfl) (Wd.u rfl) rfl rfl ?_
      refine LR.v (Y.move rfl rfl) (Wd.u rfl) rfl rfl ?_
      refine LR.v (Y.nilCheck rfl rfl) (Wd.u rfl) rfl rfl ?_
      refine LR.v (Y.fieldAddr vf2.pt rfl Tryz.runUnderlying112 rfl rfl Tryz.sizeOf109 (by decide) rfl) (Wd.u rfl) rfl rfl ?_
      refine LR.v (Y.fieldAddr vf2.pt rfl Tryz.runUnderlying109 rfl rfl Tryz.sizeOf34 (by decide) rfl) (Wd.u rfl) rfl rfl ?_
      refine LR.s (S.var1 vf2 0 (_) rfl rfl rfl (rfl) Tryz.sizeOf34 (by simp) (rfl)) (Wd.u rfl) rfl (fun H17_8 r17_8 => ?_)
      obtain ⟨vf2, hs17_8⟩ := r17_8
      replace hs17_8 := hs17_8.md1
      replace hp := hp.upL hs17_8 (DL.cons dj52 DL.nil)
      replace hpk := hpk.upL hs17_8 (DFL.cons df53 DFL.nil)
      -- LOST hdR
      -- LOST hvf
      -- LOST hw
      replace hb := hb.upL hs17_8 (DL.cons dj56 DL.nil)
      replace hm0 := hm0.trL hs17_8 (MIL.cons (nx54) MIL.nil)
      replace hop := hop.trL hs17_8 (MIL.cons (MI.app (MI.root (by simp)) (nx55) (Nat.le_refl _)) MIL.nil)
      have hz14 := hs17_8.size
      refine LR.v (Y.nilCheck rfl rfl) (Wd.u rfl) rfl rfl ?_
      refine LR.v (Y.fieldAddr vf2.pt rfl Tryz.runUnderlying112 rfl rfl Tryz.sizeOf109 (by decide) rfl) (Wd.u rfl) rfl rfl ?_
      refine LR.v (Y.fieldAddr vf2.pt rfl Tryz.runUnderlying109 rfl rfl Tryz.sizeOf34 (by decide) rfl) (Wd.u rfl) rfl rfl ?_
      refine LR.s (S.var1 vf2 1 (_) rfl rfl rfl (rfl) Tryz.sizeOf34 (by simp) (rfl)) (Wd.u rfl) rfl (fun H17_12 r17_12 => ?_)
      obtain ⟨vf2, hs17_12⟩ := r17_12
      replace hs17_12 := hs17_12.md1
      replace hp := hp.upL hs17_12 (DL.cons dj52 DL.nil)
      replace hpk := hpk.upL hs17_12 (DFL.cons df53 DFL.nil)
      replace hb := hb.upL hs17_12 (DL.cons dj56 DL.nil)
      replace hm0 := hm0.trL hs17_12 (MIL.cons (nx54) MIL.nil)
      replace hop := hop.trL hs17_12 (MIL.cons (MI.app (MI.root (by simp)) (nx55) (Nat.le_refl _)) MIL.nil)
      have hz15 := hs17_12.size
      refine LR.v (Y.nilCheck rfl rfl) (Wd.u rfl) rfl rfl ?_
      refine LR.v (Y.fieldAddr vf2.pt rfl Tryz.runUnderlying112 rfl rfl Tryz.sizeOf110 (by decide) rfl) (Wd.u rfl) rfl rfl ?_
      refine LR.s (S.var1 vf2 2 (_) rfl rfl rfl (rfl) Tryz.sizeOf110 (by simp) (rfl)) (Wd.u rfl) rfl (fun H17_15 r17_15 => ?_)
      obtain ⟨vf2, hs17_15⟩ := r17_15
      replace hs17_15 := hs17_15.md1
      replace hp := hp.upL hs17_15 (DL.cons dj52 DL.nil)
      replace hpk := hpk.upL hs17_15 (DFL.cons df53 DFL.nil)
      replace hb := hb.upL hs17_15 (DL.cons dj56 DL.nil)
      replace hm0 := hm0.trL hs17_15 (MIL.cons (nx54) MIL.nil)
      replace hop := hop.trL hs17_15 (MIL.cons (MI.app (MI.root (by simp)) (nx55) (Nat.le_refl _)) MIL.nil)
      have hz16 := hs17_15.size
      refine LR.nil ?_
      have dj57 : DL (pb + 1) (k9 :: K) := (DL.cons (dj49) (dhp))
      have nx58 : NxK K H0.size (k9 :: K) := (NxK.consE (nx_hm0_hf) (kfrz hf hbF))
      replace hf := hf.flose hi hfiB rfl hop vf2 hb (fun c e => (hbF c e).imp id (fun h => Classical.byContradiction (fun q => by have := hlt0 c q; omega)))
      have hbk_hf := hf.bk
      refine hret .normal (.inl rfl) _ _ _ (res0 rfl) ?_
      exact ⟨_, { g with ρ := uprk g.ρ k9 .frz }, rfl, by rw [← hk0, ← hT]; exact hf, nx58, hp, ⟨rfl, rfl, rfl⟩, hm0⟩

end Go.Proofs.YtdliddjkacbggaaGreatDoor.SimM
/-
  The disk: a crash, as plain data.
-/
namespace Go.Proofs.YtdliddjkacbggaaGreatDoor.SimN
open Go.Proofs.YtdliddjkacbggaaGreatDoor.E Go.RowKit Go.Proofs.YtdliddjkacbggaaGreatDoor.SimA Go.Proofs.YtdliddjkacbggaaGreatDoor.SimB Go.Proofs.YtdliddjkacbggaaGreatDoor.SimC Go.Proofs.YtdliddjkacbggaaGreatDoor.SimD Go.Proofs.YtdliddjkacbggaaGreatDoor.SimE Go.Proofs.YtdliddjkacbggaaGreatDoor.SimF Go.Proofs.YtdliddjkacbggaaGreatDoor.SimG Go.Proofs.YtdliddjkacbggaaGreatDoor.SimH Go.Proofs.YtdliddjkacbggaaGreatDoor.SimI Go.Proofs.YtdliddjkacbggaaGreatDoor.SimJ Go.Proofs.YtdliddjkacbggaaGreatDoor.SimK Go.Proofs.YtdliddjkacbggaaGreatDoor.SimL Go.Proofs.YtdliddjkacbggaaGreatDoor.SimM
set_option maxRecDepth 20000
set_option linter.unusedVariables false
set_option linter.unusedSimpArgs false
set_option linter.unusedSectionVars false

theorem at_out {c : Chg} {n q : Pth} {o : Option Nat} (hcn : ∀ i, c.f = some i → dirP c.n = n) (hcg : c.g ≠ [] → dirP c.g = n) (hq : dirP q ≠ n) : c.at q o = o := by
  unfold Chg.at
  cases hcf : c.f with
  | none =>
    simp only
    rw [if_neg (fun e => hq (by rw [e.2]; exact hcg e.1))]
  | some i =>
    simp only
    rw [if_neg (fun e => hq (by rw [e]; exact hcn i hcf)), if_neg (fun e => hq (by rw [e.2]; exact hcg e.1))]
theorem dir_g {c : Chg} (h : c.g ≠ []) : dirP c.g = c.dir := by unfold Chg.dir; rw [if_neg h]
theorem apl_out {n q : Pth} (hq : dirP q ≠ n) : ∀ (cs : List Chg) (l : Nms), (∀ c ∈ cs, c.dir = n ∧ ∀ i, c.f = some i → dirP c.n = c.dir) → mget (apl cs l) q = mget l q
  | [], l, _ => rfl
  | c :: cs, l, h => by
    have h1 := h c List.mem_cons_self
    show mget (apl cs (c.ap l)) q = _
    rw [apl_out hq cs _ (fun d hd => h d (List.mem_cons_of_mem _ hd)), mget_ap]
    exact at_out (fun i hi => by rw [h1.2 i hi]; exact h1.1) (fun hg => by rw [dir_g hg]; exact h1.1) hq
theorem apl_ids {m : Nat} : ∀ (cs : List Chg) (l : Nms), (∀ p i, mget l p = some i → i < m) → (∀ c ∈ cs, ∀ i, c.f = some i → i < m) → ∀ p i, mget (apl cs l) p = some i → i < m
  | [], l, h, _ => h
  | c :: cs, l, h, hc => by
    show ∀ p i, mget (apl cs (c.ap l)) p = some i → i < m
    refine apl_ids cs _ (fun p i e => ?_) (fun d hd => hc d (List.mem_cons_of_mem _ hd))
    rw [mget_ap] at e
    unfold Chg.at at e
    cases hcf : c.f with
    | none =>
      rw [hcf] at e; simp only at e
      split at e
      · cases e
      · exact h p i e
    | some j =>
      rw [hcf] at e; simp only at e
      split at e
      · cases e; exact hc c List.mem_cons_self _ hcf
      · split at e
        · cases e
        · exact h p i e
theorem crashD_st {picks : List Int} {D : Dk} {s : Nms × Nat} {n : Pth} : (crashD picks D s n).1 = apl ((D.chgs n).take (pickN picks s.2 ((D.chgs n).length + 1))) s.1 := by
  unfold crashD
  split
  · rename_i h; rw [h, List.take_nil]; rfl
  · rfl
theorem chgs_mem {D : Dk} {n : Pth} {c : Chg} (h : c ∈ D.chgs n) : c ∈ D.log ∧ c.dir = n := by
  unfold Dk.chgs at h
  rw [List.mem_filter] at h
  exact ⟨h.1, by simpa using h.2⟩
/-- a disk of which some directories have crashed -/
structure Mid (picks : List Int) (D Di : Dk) (L : List Pth) : Prop where
  same : Di.cap = D.cap ∧ Di.most = D.most ∧ Di.fs = D.fs ∧ Di.ops = D.ops ∧ Di.left = D.left ∧ Di.dead = D.dead
  st : Di.stays = (L.foldl (crashD picks D) (D.stays, 0)).1
  an : Asc Di.now
  ast : Asc Di.stays
  nw1 : ∀ q, dirP q ∈ L → mget Di.now q = mget Di.stays q
  nw2 : ∀ q, dirP q ∉ L → mget Di.now q = mget D.now q
  ch : ∀ n, Di.chgs n = if n ∈ L then [] else D.chgs n
  lg : ∀ c ∈ Di.log, c ∈ D.log
theorem Mid.start {picks : List Int} {D : Dk} (h1 : Asc D.now) (h2 : Asc D.stays) : Mid picks D D [] :=
  ⟨⟨rfl, rfl, rfl, rfl, rfl, rfl⟩, rfl, h1, h2, fun q h => (by cases h), fun q _ => rfl, fun n => by simp, fun c h => h⟩
/-- one more -/
def stepM (picks : List Int) (Di : Dk) (at_ : Nat) (n : Pth) : Dk :=
  { Di with stays := (crashD picks Di (Di.stays, at_) n).1, now := merge (crashD picks Di (Di.stays, at_) n).1 Di.now n, log := Di.log.filter (fun c => !decide (c.dir = n)) }
theorem crashD_chg {picks : List Int} {D Di : Dk} {s : Nms × Nat} {n : Pth} (h : Di.chgs n = D.chgs n) : crashD picks Di s n = crashD picks D s n := by unfold crashD; rw [h]
theorem Mid.step {picks : List Int} {D Di : Dk} {L : List Pth} {n : Pth} (h : Mid picks D Di L) (hn : n ∉ L) (hld : ∀ c ∈ D.log, ∀ i, c.f = some i → dirP c.n = c.dir) :
    Mid picks D (stepM picks Di (L.foldl (crashD picks D) (D.stays, 0)).2 n) (L ++ [n]) ∧ (crashD picks Di (Di.stays, (L.foldl (crashD picks D) (D.stays, 0)).2) n).2 = ((L ++ [n]).foldl (crashD picks D) (D.stays, 0)).2 := by
  have hch : Di.chgs n = D.chgs n := by rw [h.ch, if_neg hn]
  have hs : (Di.stays, (L.foldl (crashD picks D) (D.stays, 0)).2) = L.foldl (crashD picks D) (D.stays, 0) := by rw [h.st]
  have hcr : crashD picks Di (Di.stays, (L.foldl (crashD picks D) (D.stays, 0)).2) n = (L ++ [n]).foldl (crashD picks D) (D.stays, 0) := by
    rw [crashD_chg hch, hs, List.foldl_append]; rfl
  have hall : ∀ c ∈ (Di.chgs n).take (pickN picks (L.foldl (crashD picks D) (D.stays, 0)).2 ((Di.chgs n).length + 1)), c.dir = n ∧ ∀ i, c.f = some i → dirP c.n = c.dir := fun c hc => by
    have := chgs_mem (List.mem_of_mem_take hc)
    exact ⟨this.2, hld c (h.lg c this.1)⟩
  have hAst : Asc (crashD picks Di (Di.stays, (L.foldl (crashD picks D) (D.stays, 0)).2) n).1 := by rw [crashD_st]; exact asc_apl h.ast _
  have hout : ∀ q, dirP q ≠ n → mget (crashD picks Di (Di.stays, (L.foldl (crashD picks D) (D.stays, 0)).2) n).1 q = mget Di.stays q := fun q hq => by
    rw [crashD_st]; exact apl_out hq _ _ hall
  refine ⟨⟨h.same, ?_, asc_merge h.an n, hAst, fun q hq => ?_, fun q hq => ?_, fun m => ?_, fun c hc => h.lg c (List.mem_filter.1 hc).1⟩, by rw [hcr]⟩
  · show (crashD picks Di _ n).1 = _; rw [hcr]
  · show mget (merge _ Di.now n) q = mget (crashD picks Di _ n).1 q
    rw [mget_merge hAst]
    by_cases e : dirP q = n
    · rw [if_pos e]
    · rw [if_neg e, hout q e]
      refine h.nw1 q ?_
      rcases List.mem_append.1 hq with h1 | h1
      · exact h1
      · exact absurd (List.mem_singleton.1 h1) e
  · show mget (merge _ Di.now n) q = _
    have e : dirP q ≠ n := fun e => hq (by rw [e]; simp)
    rw [mget_merge hAst, if_neg e]
    exact h.nw2 q (fun h1 => hq (List.mem_append_left _ h1))
  · show (Di.log.filter _).filter _ = _
    by_cases e : m = n
    · subst e
      rw [if_pos (by simp), List.filter_filter, List.filter_eq_nil_iff]
      intro c _; simp
    · have e2 : (Di.log.filter (fun c => !decide (c.dir = n))).filter (fun c => decide (c.dir = m)) = Di.chgs m := by
        unfold Dk.chgs
        rw [List.filter_filter]
        refine List.filter_congr (fun c _ => ?_)
        by_cases e3 : c.dir = m
        · simp [e3, e]
        · simp [e3]
      rw [e2, h.ch]
      simp [e]
/-- at its end -/
theorem Mid.fin {picks : List Int} {D Di : Dk} {L : List Pth} (h : Mid picks D Di L) (hL : Rise L) (hc : ∀ n, D.chgs n ≠ [] → n ∈ L) (hno : ∀ q, dirP q ∉ L → mget D.now q = none ∧ mget D.stays q = none) (hld : ∀ c ∈ D.log, ∀ i, c.f = some i → dirP c.n = c.dir) :
    Di.stays = (D.crashN picks).1 ∧ Di.now = (D.crashN picks).1 ∧ Di.log = [] ∧ (L.foldl (crashD picks D) (D.stays, 0)).2 = (D.crashN picks).2 := by
  have e := D.crashN_any picks hL hc
  have hs : Di.stays = (D.crashN picks).1 := by rw [h.st, e]
  have hkeep : ∀ q, dirP q ∉ L → mget Di.stays q = none := fun q hq => by
    rw [h.st]
    have : ∀ (M : List Pth) (s : Nms × Nat), (∀ n ∈ M, n ∈ L) → mget s.1 q = none → mget (M.foldl (crashD picks D) s).1 q = none := by
      intro M
      induction M with
      | nil => intro s _ h; exact h
      | cons m M ih =>
        intro s hM h
        refine ih _ (fun n hn => hM n (List.mem_cons_of_mem _ hn)) ?_
        rw [crashD_st, apl_out (n := m) (fun e => hq (by rw [e]; exact hM m List.mem_cons_self)) _ _ (fun c hc => ?_)]
        · exact h
        · have := chgs_mem (List.mem_of_mem_take hc)
          exact ⟨this.2, hld c this.1⟩
    exact this L _ (fun n hn => hn) (hno q hq).2
  refine ⟨hs, ?_, ?_, by rw [e]⟩
  · rw [← hs]
    refine asc_ext h.an h.ast (fun q => ?_)
    by_cases hq : dirP q ∈ L
    · exact h.nw1 q hq
    · rw [h.nw2 q hq, (hno q hq).1, hkeep q hq]
  · refine List.eq_nil_iff_forall_not_mem.2 (fun c hcm => ?_)
    have h1 := h.ch c.dir
    have hm : c ∈ Di.chgs c.dir := by unfold Dk.chgs; rw [List.mem_filter]; exact ⟨hcm, by simp⟩
    by_cases hq : c.dir ∈ L
    · rw [h1, if_pos hq] at hm; cases hm
    · rw [h1, if_neg hq] at hm
      exact absurd (hc c.dir (fun e => by rw [e] at hm; cases hm)) hq
section
variable {ρ ρ' : Nat → Role} {fb : List Nat} {H H' : Heap} {D D' : Dk} {p : Pth} {db nb sb k i b : Nat} {sv nv wv : SV} {nm sm : Nms} {S : Nat → Prop} {K K' : List Nat} {g : Gh}
/-- one directory has crashed -/
theorem dcrash {picks : List Int} {at_ b2 x_ : Nat} {m3 : Nms} (h : PDk K g H b D) (hx_ : DL x_ K) (hp : mget g.dm p = some db) (hd : DirO g.ρ g.fb H D p db nb sb k sv nm sm) (hA : Asc D.stays) (hld : ∀ c ∈ D.log, ∀ i, c.f = some i → dirP c.n = c.dir) (s : Mo (Ms [db + 1, sb + 1, k, x_]) H H')
    (hv : Var 99 H' db [.map (some b2), .map (some sb), .slice none 0 0]) (hs : Mp H' Str (fvl g.fb) sb m3) (hn : Mp H' Str (fvl g.fb) b2 m3) (hm3 : ∀ q, mget m3 q = if dirP q = p then mget (crashD picks D (D.stays, at_) p).1 q else none) (hk : DL (b2 + 1) K) :
    PDk ((b2 + 1) :: K) { g with ρ := uprk g.ρ (b2 + 1) (.now p) } H' b (stepM picks D at_ p) := by
  have hS : ∀ x, Ms [db + 1, sb + 1, k, x_] x → g.ρ x = .dir p ∨ g.ρ x = .sty p ∨ g.ρ x = .chg p ∨ g.ρ x = .out := fun x e => by
    have : x + 1 = db + 1 ∨ x + 1 = sb + 1 ∨ x + 1 = k ∨ x + 1 = x_ := by simpa [Ms] using e
    rcases this with e | e | e | e
    · exact .inl (by rw [show x = db by omega]; exact hd.rd)
    · exact .inr (.inl (by rw [show x = sb by omega]; exact hd.rs))
    · exact .inr (.inr (.inl (hd.rc x e)))
    · exact .inr (.inr (.inr (h.newk hx_ x e)))
  have hx : Ext g.ρ (uprk g.ρ (b2 + 1) (.now p)) := Ext.uprk (fun c e => .inl (h.newk hk c e))
  have hall : ∀ c ∈ (D.chgs p).take (pickN picks at_ ((D.chgs p).length + 1)), c.dir = p ∧ ∀ i, c.f = some i → dirP c.n = c.dir := fun c hc => by
    have := chgs_mem (List.mem_of_mem_take hc)
    exact ⟨this.2, hld c this.1⟩
  have hAst : Asc (crashD picks D (D.stays, at_) p).1 := by rw [crashD_st]; exact asc_apl hA _
  have hout : ∀ q, dirP q ≠ p → mget (crashD picks D (D.stays, at_) p).1 q = mget D.stays q := fun q hq => by rw [crashD_st]; exact apl_out hq _ _ hall
  have hids : ∀ q i, mget (crashD picks D (D.stays, at_) p).1 q = some i → i < D.fs.length := by
    rw [crashD_st]
    exact apl_ids _ _ h.ids.2.1 (fun c hc => h.ids.2.2 c (chgs_mem (List.mem_of_mem_take hc)).1)
  refine h.setDir s (fun x e => ?_) hx (hK_uprk h.hK (by simp)) (lt_uprk h.lt s.size hn.lt) hp ⟨b2, sb, 0, ⟨none, 0, 0⟩, m3, m3, ?_⟩ ⟨rfl, rfl, rfl, rfl, rfl, rfl⟩ (fun q hq => ?_) hout (fun n hn => ?_) ⟨fun q i e => ?_, hids, fun c hc i e => h.ids.2.2 c (List.mem_filter.1 hc).1 i e⟩
  · rcases hS x e with e | e | e | e
    · exact .inl e
    · exact .inr (.inr (.inl e))
    · exact .inr (.inr (.inr (.inl e)))
    · exact .inr (.inr (.inr (.inr e)))
  · exact { rd := hx.of hd.rd (by simp), vd := hv, rn := uprk_self rfl, hn := hn, rs := hx.of hd.rs (by simp), hs := hs
            en := fun q => by
              rw [hm3]
              show _ = if dirP q = p then mget (merge _ D.now p) q else none
              rw [mget_merge hAst]
              split <;> rfl
            es := hm3
            hc := by
              have : (stepM picks D at_ p).chgs p = [] := by unfold stepM Dk.chgs; rw [List.filter_filter, List.filter_eq_nil_iff]; intro c _; simp
              rw [this]; exact Ow.nil (fC_len _) (fC_one _)
            rc := fun c e => (by omega) }
  · show mget (merge _ D.now p) q = _
    rw [mget_merge hAst, if_neg hq]
  · unfold stepM Dk.chgs
    rw [List.filter_filter]
    refine List.filter_congr (fun c _ => ?_)
    by_cases e : c.dir = n
    · simp [e, hn]
    · simp [e]
  · have e : mget (merge (crashD picks D (D.stays, at_) p).1 D.now p) q = some i := e
    rw [mget_merge hAst] at e
    split at e
    · exact hids q i e
    · exact h.ids.1 q i e
end
section
variable {w0 : World} {n : Nat} {l : FL} {H : Heap} {o : Oper} {K : List Nat} {g : Gh} {b lv : Nat} {D : Dk} {x y : Operand} {t : TypeId}
theorem pd_alive (h : PDk K g H b D) (hl : g.lv = D.left) (ho : o.op = .store t x y) (hx : opv l x = some (.pointer (some ⟨b, 5, none⟩))) (hy : opv l y = some (.bool false)) (hs : ∀ w, (sizeOf t).run Tryz.prog w = .ok 1 w) :
    S Tryz.prog w0 n l H o (fun H' => PDk K g H' b { D with dead := false } ∧ Mo (Ms K) H H') :=
  (S.var1 h.vb 5 _ ho hx hy rfl hs (by simp) rfl).mono fun H' ⟨h1, h2⟩ => ⟨h.setFs h2.md1 ⟨rfl, rfl, rfl, rfl⟩ h1 (fun _ => hl) h.lvB ⟨rfl, rfl, rfl, rfl, rfl, rfl⟩ (Nat.le_refl _), h.ms h2 (fun c e => by rw [e, h.rb]; simp)⟩
end
/-- files in the middle of a crash -/
theorem crashF_file (picks : List Int) (fs : List Fdt) : ∀ (L : Nms) (s : List Fdt × Nat), (∀ i, fget s.1 i = fget fs i ∨ (fget s.1 i).w = []) → ∀ i, fget (L.foldl (crashF picks) s).1 i = fget fs i ∨ (fget (L.foldl (crashF picks) s).1 i).w = []
  | [], s, h => h
  | x :: L, s, h => by
    refine crashF_file picks fs L _ (fun i => ?_)
    unfold crashF
    simp only
    split
    · exact h i
    · by_cases e : x.2 = i
      · subst e
        by_cases hl : x.2 < s.1.length
        · exact .inr (by simp [fget, List.getD, hl])
        · have : s.1.set x.2 ⟨wayW (fget s.1 x.2).w (fget s.1 x.2).stays (pickN picks s.2 (waysF (fget s.1 x.2).w)), wayW (fget s.1 x.2).w (fget s.1 x.2).stays (pickN picks s.2 (waysF (fget s.1 x.2).w)), []⟩ = s.1 := List.set_eq_of_length_le (by omega)
          rw [this]; exact h _
      · have : fget (s.1.set x.2 ⟨wayW (fget s.1 x.2).w (fget s.1 x.2).stays (pickN picks s.2 (waysF (fget s.1 x.2).w)), wayW (fget s.1 x.2).w (fget s.1 x.2).stays (pickN picks s.2 (waysF (fget s.1 x.2).w)), []⟩) i = fget s.1 i := by simp [fget, List.getD, List.getElem?_set, e]
        rw [this]; exact h i
theorem crashF_len (picks : List Int) : ∀ (L : Nms) (s : List Fdt × Nat), (L.foldl (crashF picks) s).1.length = s.1.length
  | [], s => rfl
  | x :: L, s => by
    rw [List.foldl_cons, crashF_len picks L]
    unfold crashF
    simp only
    split
    · rfl
    · simp
theorem crashF_at (picks : List Int) : ∀ (L : Nms) (s : List Fdt × Nat), (L.foldl (crashF picks) s).2 ≤ s.2 + L.length
  | [], s => Nat.le_refl _
  | x :: L, s => by
    have h := crashF_at picks L (crashF picks s x)
    rw [List.foldl_cons, List.length_cons]
    have : (crashF picks s x).2 ≤ s.2 + 1 := by unfold crashF; simp only; split <;> simp
    omega
theorem crashD_at (picks : List Int) (D : Dk) : ∀ (L : List Pth) (s : Nms × Nat), (L.foldl (crashD picks D) s).2 ≤ s.2 + L.length
  | [], s => Nat.le_refl _
  | x :: L, s => by
    have h := crashD_at picks D L (crashD picks D s x)
    rw [List.foldl_cons, List.length_cons]
    have : (crashD picks D s x).2 ≤ s.2 + 1 := by unfold crashD; split <;> simp
    omega
theorem dj_r {ρ : Nat → Role} {a k : Nat} {r1 r2 : Role} (h1 : ∀ c, c + 1 = a → ρ c = r1) (h2 : ∀ c, c + 1 = k → ρ c = r2) (hne : r1 ≠ r2) : Dj a k := fun c e1 e2 => hne ((h1 c e1).symm.trans (h2 c e2))
theorem r1_ {ρ : Nat → Role} {b : Nat} {r : Role} (h : ρ b = r) : ∀ c, c + 1 = b + 1 → ρ c = r := fun c e => by rw [show c = b by omega]; exact h
theorem chg_sum (L : List Pth) (hn : L.Nodup) : ∀ l : List Chg, (L.map (fun n => (l.filter (fun c => decide (c.dir = n))).length)).sum ≤ l.length
  | [] => by
    have : ∀ L : List Pth, (L.map (fun n => (([] : List Chg).filter (fun c => decide (c.dir = n))).length)).sum = 0 := by
      intro L
      induction L with
      | nil => rfl
      | cons n L ih => rw [List.map_cons, List.sum_cons, ih]; rfl
    rw [this]; exact Nat.zero_le _
  | c :: l => by
    have ih := chg_sum L hn l
    have e : L.map (fun n => ((c :: l).filter (fun c => decide (c.dir = n))).length) = L.map (fun n => (if c.dir = n then 1 else 0) + (l.filter (fun c => decide (c.dir = n))).length) := by
      refine List.map_congr_left (fun n _ => ?_)
      by_cases h : c.dir = n
      · rw [List.filter_cons_of_pos (by simpa using h), if_pos h, List.length_cons]; omega
      · rw [List.filter_cons_of_neg (by simpa using h), if_neg h]; omega
    rw [e, sum_add, List.length_cons]
    have : (L.map (fun n => if c.dir = n then 1 else 0)).sum ≤ 1 := by
      by_cases h : c.dir ∈ L
      · rw [sum_if L hn _ _ h]; exact Nat.le_refl _
      · have : L.map (fun n => if c.dir = n then 1 else 0) = L.map (fun _ => 0) := List.map_congr_left (fun n hn => if_neg (fun e => h (by rw [e]; exact hn)))
        rw [this]
        have h0 : ∀ L : List Pth, (L.map (fun _ => 0)).sum = 0 := by
          intro L
          induction L with
          | nil => rfl
          | cons n L ih => rw [List.map_cons, List.sum_cons, ih]
        rw [h0]; exact Nat.zero_le _
    omega
theorem nput_len (l : Nms) (p : Pth) (i : Nat) : (nput l p i).length ≤ l.length + 1 := by
  induction l with
  | nil => simp [nput]
  | cons x l ih =>
    unfold nput
    split
    · simp only [List.length_cons]; omega
    · split <;> simp
theorem ap_len (c : Chg) (l : Nms) : (c.ap l).length ≤ l.length + 1 := by
  unfold Chg.ap
  have h1 : (if c.g = [] then l else mdel l c.g).length ≤ l.length := by
    split
    · exact Nat.le_refl _
    · exact List.length_filter_le _ _
  cases c.f with
  | none => simp only; omega
  | some i => simp only; have := nput_len (if c.g = [] then l else mdel l c.g) c.n i; omega
theorem apl_len : ∀ (cs : List Chg) (l : Nms), (apl cs l).length ≤ l.length + cs.length
  | [], l => Nat.le_refl _
  | c :: cs, l => by
    have h1 := apl_len cs (c.ap l)
    have h2 := ap_len c l
    show (apl cs (c.ap l)).length ≤ _
    rw [List.length_cons]; omega
theorem crashD_len (picks : List Int) (D : Dk) : ∀ (L : List Pth) (s : Nms × Nat), (L.foldl (crashD picks D) s).1.length ≤ s.1.length + (L.map (fun n => (D.chgs n).length)).sum
  | [], s => by simp
  | n :: L, s => by
    have h := crashD_len picks D L (crashD picks D s n)
    rw [List.foldl_cons, List.map_cons, List.sum_cons]
    have h2 : (crashD picks D s n).1.length ≤ s.1.length + (D.chgs n).length := by
      rw [crashD_st]
      have := apl_len ((D.chgs n).take (pickN picks s.2 ((D.chgs n).length + 1))) s.1
      have h3 : ((D.chgs n).take (pickN picks s.2 ((D.chgs n).length + 1))).length ≤ (D.chgs n).length := by rw [List.length_take]; omega
      omega
    omega
theorem crashN_len (D : Dk) (picks : List Int) : (D.crashN picks).1.length ≤ D.stays.length + D.log.length := by
  have h1 := crashD_len picks D D.dirty (D.stays, 0)
  have h2 := chg_sum D.dirty (rise_nodup D.dirty_rise) D.log
  unfold Dk.crashN
  simp only at h1
  unfold Dk.chgs at h1
  omega

end Go.Proofs.YtdliddjkacbggaaGreatDoor.SimN
/-
  The disk: a crash.
-/
namespace Go.Proofs.YtdliddjkacbggaaGreatDoor.SimP
open Go.Proofs.YtdliddjkacbggaaGreatDoor.E Go.RowKit Go.Proofs.YtdliddjkacbggaaGreatDoor.SimA Go.Proofs.YtdliddjkacbggaaGreatDoor.SimB Go.Proofs.YtdliddjkacbggaaGreatDoor.SimC Go.Proofs.YtdliddjkacbggaaGreatDoor.SimD Go.Proofs.YtdliddjkacbggaaGreatDoor.SimE Go.Proofs.YtdliddjkacbggaaGreatDoor.SimF Go.Proofs.YtdliddjkacbggaaGreatDoor.SimG Go.Proofs.YtdliddjkacbggaaGreatDoor.SimH Go.Proofs.YtdliddjkacbggaaGreatDoor.SimI Go.Proofs.YtdliddjkacbggaaGreatDoor.SimJ Go.Proofs.YtdliddjkacbggaaGreatDoor.SimK Go.Proofs.YtdliddjkacbggaaGreatDoor.SimL Go.Proofs.YtdliddjkacbggaaGreatDoor.SimM Go.Proofs.YtdliddjkacbggaaGreatDoor.SimN
set_option maxRecDepth 20000
set_option linter.unusedVariables false
set_option linter.unusedSimpArgs false
set_option linter.unusedSectionVars false
set_option maxHeartbeats 8000000 in
theorem crash_ct (K : List Nat) (g : Gh) (b : Nat) (D : Dk) (G : Nat → Prop) (pv : SV) (picks : List Int) (w0 : World) (H0 : Heap)
    (hf : PDk K g H0 b D) (hpk : Rd G H0 fI 1 pv.v picks) (bf_hpk : BF G H0.size) (dpkK : DFL G K) (hB : Bd 274877906944 D) (hwy : ∀ i, waysF (fget D.fs i).w ≤ 2305843009213693952) (hpw : ∀ x ∈ picks, -9223372036854775808 ≤ x ∧ x ≤ 9223372036854775807) :
    Ct Tryz.prog w0 12 #[ptr b, pv.v] H0 (fun r H2 => ∃ K2 : List Nat, ∃ g2 : Gh, r = .int .i64 ((D.crashA picks).2 : Int) ∧ (PDk K2 g2 H2 b (D.crash picks)) ∧ (NxK K H0.size K2) ∧ Mo (Ms K) H0 H2) := by
  refine Ct.enter (args := [ptr b, pv.v]) Tryz.func12 rfl rfl rfl ?_
  intro Q0 hret
  have hm0 : Mo (Ms K) H0 H0 := Mo.refl _ _
  have nx_hm0_hf := NxK.refl K H0.size
  have hbk_hf := hf.bk
  have habs0 := hf.abs
  have hdm0 := hf.dml
  have hop0 := hB.op
  have hmn0 := hf.hm.mo.nodup
  have hlg0 := hB.lg
  have hsl0 := hB.sl
  have hcl0 := crashN_len D picks
  refine CW.seq (fun K1 hK1 hE1 => ?_)
  refine CW.region ?_
  refine LR.v (Y.assign rfl rfl) (Wd.u rfl) rfl rfl ?_
  refine LR.nil ?_
  refine hK1 _ _ ?_
  refine CW.seq (fun K2 hK2 hE2 => ?_)
  refine CW.region ?_
  refine LR.v (Y.move rfl rfl) (Wd.u rfl) rfl rfl ?_
  refine LR.v (Y.build (v := .agg #[pv.v, .int .i64 ((0 : Nat) : Int)]) rfl rfl (by intro w; kernel_rfl)) (Wd.u rfl) rfl rfl ?_
  refine LR.z (Z.boxv rfl rfl) (Wd.u rfl) rfl rfl (fun v20 H20 r20 => ?_)
  obtain ⟨rfl, hp, hs20, ob20, hH20⟩ := r20
  have hzs20 : H20.size = H0.size + 1 := by rw [hH20]; simp
  have dj1 : DL (H0.size + 1) K := DL.newK hf.bk
  have df2 := (DF.new (bf_hpk.mono hm0.size) : DF _ (H0.size + 1))
  have nx3 : Nx 0 H0.size (H0.size + 1) := Nx.new hm0.size
  replace hf := hf.nw hs20
  replace hpk := hpk.nw hs20
  replace hm0 := hm0.trN hs20
  have hz1 := hs20.size
  replace hp : Var 86 H20 H0.size ([pv.v, .int .i64 ((0 : Nat) : Int)]) := hp
  refine LR.v (Y.assign rfl rfl) (Wd.u rfl) rfl rfl ?_
  refine LR.nil ?_
  refine hK2 _ _ ?_
  refine CW.seq (fun K3 hK3 hE3 => ?_)
  refine CW.region ?_
  refine LR.v (Y.move rfl rfl) (Wd.u rfl) rfl rfl ?_
  refine LR.v (Y.nilCheck rfl rfl) (Wd.u rfl) rfl rfl ?_
  refine LR.v (Y.fieldAddr hf.vb.pt rfl Tryz.runUnderlying73 rfl rfl Tryz.sizeOf66 (by decide) rfl) (Wd.u rfl) rfl rfl ?_
  refine LR.v (Y.load1 (hf.vb.pt.drop 2) rfl Tryz.isAgg66 rfl) (Wd.u rfl) rfl rfl ?_
  have hmo := hf.hm
  have hlt_hmo := hmo.lt
  -- call maps.Keys[map[string]*selvage/simfs.directory,string,*selvage/simfs.directory]
  refine LR.call rfl Tryz.call37 rfl (Wd.u rfl) rfl rfl (keysD g.mb w0 _) (fun v25 H25 r25 => ?_)
  obtain ⟨bx, rfl, hx, hkx, hs25⟩ := r25
  have dj4 : DL (bx + 1) K := DL.app2 (DL.zK) hf.bk hkx
  have df5 := DF.app (DF.z) (bf_hpk.mono hm0.size) hkx
  have dj6 : Dj (H0.size + 1) (bx + 1) := Dj.app (Dj.z) hp.lt hkx
  have dj7 : Dj (g.mb + 1) (bx + 1) := Dj.app (Dj.z) hmo.lt hkx
  have nx8 : Nx 0 H0.size (bx + 1) := Nx.tr (Nx.refl 0 _) hkx hm0.size
  replace hf := hf.nw hs25
  replace hpk := hpk.nw hs25
  replace hp := hp.nw hs25
  replace hmo := hmo.nw hs25
  replace hm0 := hm0.trN hs25
  have hz2 := hs25.size
  have hle_hx := hx.le
  -- call slices.Sorted[string]
  refine LR.call rfl Tryz.call36 rfl (Wd.u rfl) rfl rfl (sortedD bx g.mb ptr g.dm w0 _ hx hmo (by omega)) (fun v26 H26 r26 => ?_)
  obtain ⟨s26, k26, L, rfl, ows, hk26, hL, hs26⟩ := r26
  have dj9 : DL k26 K := DL.app2 (DL.zK) hf.bk hk26
  have df10 := DF.app (DF.z) (bf_hpk.mono hm0.size) hk26
  have dj11 : Dj (H0.size + 1) k26 := Dj.app (Dj.z) hp.lt hk26
  have dj12 : Dj (g.mb + 1) k26 := Dj.app (Dj.z) hmo.lt hk26
  have dj13 : Dj (bx + 1) k26 := Dj.app (Dj.z) hx.le hk26
  have nx14 : Nx 0 H0.size k26 := Nx.tr (Nx.refl 0 _) hk26 hm0.size
  replace hf := hf.nw hs26
  replace hpk := hpk.nw hs26
  replace hp := hp.nw hs26
  replace hmo := hmo.nw hs26
  replace hx := hx.nw hs26
  replace hm0 := hm0.trN hs26
  have hz3 := hs26.size
  have hle_ows := ows.le
  have hLn := rise_nodup hL.1
  have hLl := nodup_le hLn (fun k hk => (hL.2 k).1 hk)
  rw [List.length_map] at hLl
  have hno : ∀ q, q ∉ L → mget g.dm q = none := fun q hq => by
    cases hm : mget g.dm q with
    | none => rfl
    | some x => exact absurd ((hL.2 q).2 (isSome_iff_key.1 (by rw [hm]; rfl))) hq
  refine LR.v (Y.assign rfl rfl) (Wd.u rfl) rfl rfl ?_
  refine LR.nil ?_
  refine hK3 _ _ ?_
  refine CW.seq (fun K4 hK4 hE4 => ?_)
  refine CW.seq (fun K5 hK5 hE5 => ?_)
  refine CW.region ?_
  refine LR.v (Y.move rfl rfl) (Wd.u rfl) rfl rfl ?_
  refine LR.v (Y.len ows.rd rfl Tryz.runUnderlying87 rfl) (Wd.u rfl) rfl rfl ?_
  refine LR.v (Y.move rfl rfl) (Wd.u rfl) rfl rfl ?_
  refine LR.nil ?_
  refine hK5 _ _ ?_
  refine CW.block (fun K6 hK6 hX6 hE6 => ?_)
  refine CW.loop (fun (s_ : (Nat) × (List Nat) × (Gh) × (Dk) × (Nat)) => match s_ with | (i, K1, g1, Di, a1) => [(0, ptr b), (5, .pointer (some ⟨H0.size, 0, none⟩)), (6, s26.v), (27, s26.v), (28, .int .i64 (L.length : Int)), (29, .int .i64 (i : Int))])
    (fun (s_ : (Nat) × (List Nat) × (Gh) × (Dk) × (Nat)) (H : Heap) => match s_ with | (i, K1, g1, Di, a1) => (PDk K1 g1 H b Di) ∧ (Var 86 H H0.size [pv.v, .int .i64 (a1 : Int)]) ∧ (i ≤ L.length) ∧ (Mid picks D Di (L.take i)) ∧ (a1 = ((L.take i).foldl (crashD picks D) (D.stays, 0)).2) ∧ (g1.fb = g.fb ∧ g1.dm = g.dm) ∧ (NxK K H26.size K1) ∧ (DL (H0.size + 1) K1) ∧ Mo (Ms (K ++ [(H0.size + 1)])) H26 H)
    (fun (s_ : (Nat) × (List Nat) × (Gh) × (Dk) × (Nat)) => match s_ with | (i, K1, g1, Di, a1) => L.length - i) (0, K, g, D, 0) ⟨rfl, rfl, rfl, rfl, rfl, rfl, trivial⟩ ?_ ?_
  ·
    exact ⟨hf, hp, (by omega), Mid.start hB.an hB.ast, rfl, ⟨rfl, rfl⟩, NxK.refl _ _, dj1, Mo.refl _ _⟩
  rintro ⟨i, K1, g1, Di, a1⟩ HL1 hI1 K7 hN7 hE7
  obtain ⟨hf, hp, hi, hM, ha, hg1, nxl_hf, dj_hf_hp, hlm1⟩ := hI1
  have df15 := DFL.appK (dpkK) (bf_hpk.mono hm0.size) nxl_hf
  have dj16 : DL (bx + 1) K1 := DL.appK (dj4) hx.le nxl_hf
  have dj17 : DL k26 K1 := DL.appK (dj9) ows.le nxl_hf
  have nx18 : NxK K H0.size K1 := NxK.tr (nx_hm0_hf) nxl_hf hm0.size
  replace hpk := hpk.upL hlm1 (DFL.app dpkK (DFL.cons df2 DFL.nil))
  -- LOST hmo
  replace hx := hx.upL hlm1 (DL.app dj4 (DL.cons dj6.symm DL.nil))
  replace ows := ows.upL hlm1 (DL.app dj9 (DL.cons dj11.symm DL.nil))
  replace hm0 := hm0.trL hlm1 (MIL.app (MIL.ofK (nx_hm0_hf) (by intro k hk; simp [hk])) (MIL.cons (MI.app MI.z (nx3) (Nat.le_refl _)) MIL.nil))
  have hz4 := hlm1.size
  have hbk_hf := hf.bk
  have dj19 := dj_hf_hp
  have nx20 := nxl_hf
  have nx_hlm1_hp := Nx.refl (H0.size + 1) H26.size
  have hal := crashD_at picks D (L.take i) (D.stays, 0)
  rw [← ha, List.length_take] at hal
  simp only at hal
  refine CW.seq (fun K8 hK8 hE8 => ?_)
  refine CW.region ?_
  refine LR.v (Y.lss rfl rfl rfl) (Wd.u rfl) rfl rfl ?_
  refine LR.nil ?_
  refine hK8 _ _ ?_
  refine CW.seq (fun K9 hK9 hE9 => ?_)
  refine CW.condp rfl (fun c30 => ?_) (fun c30 => ?_)
  ·
    have hil : i < L.length := by omega
    have hni : L[i] ∉ L.take i := fun hq => by
      have h9 := hLn
      rw [← List.take_append_drop i L, List.nodup_append] at h9
      exact h9.2.2 _ hq _ (by rw [List.drop_eq_getElem_cons hil]; exact List.mem_cons_self) rfl
    have hst := hM.step hni hB.ld
    have hmem_db : L[i] ∈ g.dm.map (·.1) := (hL.2 _).1 (List.getElem_mem hil)
    obtain ⟨db, hdb⟩ : ∃ db, mget g.dm L[i] = some db := by
      rw [← isSome_iff_key] at hmem_db
      cases hq : mget g.dm L[i] with
      | none => rw [hq] at hmem_db; cases hmem_db
      | some db => exact ⟨db, rfl⟩
    have hdb1 : mget g1.dm L[i] = some db := by rw [hg1.2]; exact hdb
    have hchl : (Di.chgs L[i]).length ≤ D.log.length := by rw [hM.ch, if_neg hni]; exact List.length_filter_le _ _
    refine CW.skip ?_
    refine hK9 _ _ ?_
    refine CW.seq (fun K10 hK10 hE10 => ?_)
    refine CW.block (fun K11 hK11 hX11 hE11 => ?_)
    refine CW.seq (fun K12 hK12 hE12 => ?_)
    refine CW.region ?_
    refine LR.v (Y.owAddr ows (i) rfl Tryz.runUnderlying87 Tryz.sizeOf9 rfl rfl (by first | rfl | omega) (by first | omega | (simp; omega) | (simp; done))) (Wd.u rfl) rfl rfl ?_
    refine LR.v (Y.load1 (ows.pt (j := i) (by first | omega | (simp; omega) | (simp; done))) rfl Tryz.isAgg9 rfl) (Wd.u rfl) rfl rfl ?_
    refine LR.v (Y.assign rfl rfl) (Wd.u rfl) rfl rfl ?_
    refine LR.nil ?_
    refine hK12 _ _ ?_
    refine CW.seq (fun K13 hK13 hE13 => ?_)
    obtain ⟨nbB, sbB, kcB, svB, nmB, smB, hdB⟩ := hf.dirs _ db hdb1
    have hop : Mo (Ms [(db + 1), (sbB + 1), kcB, (H0.size + 1)]) HL1 HL1 := Mo.refl _ _
    have km21 : KM K1 (db + 1) := (hf.km1 hdB.rd (by simp))
    have vd := hdB.vd
    have hlt_vd := vd.lt
    have df22 := DFL.at (df15) km21
    have dj23 : Dj (bx + 1) (db + 1) := DL.at (dj16) km21
    have dj24 : Dj k26 (db + 1) := DL.at (dj17) km21
    have dj25 : Dj (H0.size + 1) (db + 1) := DL.at (dj19) km21
    have nx26 : MI K H0.size (db + 1) := MIL.at (MIL.ofK (nx18) (by intro k hk; simp [hk])) km21
    have nx27 : MI (K ++ [(H0.size + 1)]) H26.size (db + 1) := MIL.at (MIL.ofK (nx20) (by intro k hk; simp [hk])) km21
    have nx28 := Nx.refl (db + 1) HL1.size
    have km29 : KM K1 (sbB + 1) := (hf.km1 hdB.rs (by simp))
    have hsm := hdB.hs
    have hlt_hsm := hsm.lt
    have df30 := DFL.at (df15) km29
    have dj31 : Dj (bx + 1) (sbB + 1) := DL.at (dj16) km29
    have dj32 : Dj k26 (sbB + 1) := DL.at (dj17) km29
    have dj33 : Dj (H0.size + 1) (sbB + 1) := DL.at (dj19) km29
    have nx34 : MI K H0.size (sbB + 1) := MIL.at (MIL.ofK (nx18) (by intro k hk; simp [hk])) km29
    have nx35 : MI (K ++ [(H0.size + 1)]) H26.size (sbB + 1) := MIL.at (MIL.ofK (nx20) (by intro k hk; simp [hk])) km29
    have nx36 := Nx.refl (sbB + 1) HL1.size
    have km37 : KM K1 kcB := (hf.km hdB.rc (by simp))
    have hcr := hdB.hc
    have hle_hcr := hcr.le
    have df38 := DFL.at (df15) km37
    have dj39 : Dj (bx + 1) kcB := DL.at (dj16) km37
    have dj40 : Dj k26 kcB := DL.at (dj17) km37
    have dj41 : Dj (H0.size + 1) kcB := DL.at (dj19) km37
    have nx42 : MI K H0.size kcB := MIL.at (MIL.ofK (nx18) (by intro k hk; simp [hk])) km37
    have nx43 : MI (K ++ [(H0.size + 1)]) H26.size kcB := MIL.at (MIL.ofK (nx20) (by intro k hk; simp [hk])) km37
    have nx44 := Nx.refl kcB HL1.size
    have nx45 := Nx.refl (H0.size + 1) HL1.size
    have dj46 : Dj (db + 1) (sbB + 1) := dj_r (r1_ hdB.rd) (r1_ hdB.rs) (by simp)
    have dj47 : Dj (db + 1) kcB := dj_r (r1_ hdB.rd) hdB.rc (by simp)
    have dj48 : Dj (sbB + 1) kcB := dj_r (r1_ hdB.rs) hdB.rc (by simp)
    refine CW.region ?_
    refine LR.v (Y.move rfl rfl) (Wd.u rfl) rfl rfl ?_
    refine LR.v (Y.nilCheck rfl rfl) (Wd.u rfl) rfl rfl ?_
    refine LR.v (Y.fieldAddr hf.vb.pt rfl Tryz.runUnderlying73 rfl rfl Tryz.sizeOf66 (by decide) rfl) (Wd.u rfl) rfl rfl ?_
    refine LR.v (Y.load1 (hf.vb.pt.drop 2) rfl Tryz.isAgg66 rfl) (Wd.u rfl) rfl rfl ?_
    refine LR.v (Y.move rfl rfl) (Wd.u rfl) rfl rfl ?_
    refine LR.v (Y.cast (v2 := ptr db) (look_p adO hf.hm.mo (fun _ => rfl) keyStr rfl Tryz.runUnderlying66 Tryz.underlying9 Tryz.zeroValue92 rfl rfl) (by rw [hdb1]; rfl)) (Wd.u rfl) rfl rfl ?_
    refine LR.v (Y.assign rfl rfl) (Wd.u rfl) rfl rfl ?_
    refine LR.nil ?_
    refine hK13 _ _ ?_
    refine CW.cut (fun (s_ : (Nms) × (Nat)) => match s_ with | (m3, a2) => [(0, ptr b), (5, .pointer (some ⟨H0.size, 0, none⟩)), (6, s26.v), (9, ptr db), (27, s26.v), (28, .int .i64 (L.length : Int)), (29, .int .i64 (i : Int))])
      (fun (s_ : (Nms) × (Nat)) (H : Heap) => match s_ with | (m3, a2) => (Mp H Str (fvl g1.fb) sbB m3) ∧ (Var 86 H H0.size [pv.v, .int .i64 (a2 : Int)]) ∧ (∀ q, mget m3 q = if dirP q = L[i] then mget (crashD picks Di (Di.stays, a1) L[i]).1 q else none) ∧ (a2 = (crashD picks Di (Di.stays, a1) L[i]).2) ∧ Mo (Ms [(sbB + 1), (H0.size + 1)]) HL1 H) (fun K14 hK14 hE14 => ?_) ?_
    ·
      have hcm14 : Mo (Ms [(sbB + 1), (H0.size + 1)]) HL1 HL1 := Mo.refl _ _
      have nx_hcm14_hsm := Nx.refl (sbB + 1) HL1.size
      have nx_hcm14_hp := Nx.refl (H0.size + 1) HL1.size
      refine CW.seq (fun K15 hK15 hE15 => ?_)
      refine CW.region ?_
      refine LR.v (Y.move rfl rfl) (Wd.u rfl) rfl rfl ?_
      refine LR.v (Y.nilCheck rfl rfl) (Wd.u rfl) rfl rfl ?_
      refine LR.v (Y.fieldAddr vd.pt rfl Tryz.runUnderlying99 rfl rfl Tryz.sizeOf97 (by decide) rfl) (Wd.u rfl) rfl rfl ?_
      refine LR.v (Y.load1 (vd.pt.drop 2) rfl Tryz.isAgg97 rfl) (Wd.u rfl) rfl rfl ?_
      refine LR.v (Y.len hcr.rd rfl Tryz.runUnderlying97 rfl) (Wd.u rfl) rfl rfl ?_
      refine LR.v (Y.gtr rfl rfl rfl) (Wd.u rfl) rfl rfl ?_
      refine LR.nil ?_
      refine hK15 _ _ ?_
      refine CW.condp rfl (fun c44 => ?_) (fun c44 => ?_)
      ·
        refine CW.seq (fun K16 hK16 hE16 => ?_)
        refine CW.region_any (fun Hq => Mo (Ms [(H0.size + 1)]) HL1 Hq) [] rfl ?_
        have hq8 : Mo (Ms [(H0.size + 1)]) HL1 HL1 := Mo.refl _ _
        have nx49 := Nx.refl (H0.size + 1) HL1.size
        refine LH.take 0 (by kernel_rfl) rfl (by kernel_rfl) (by kernel_rfl) (by kernel_rfl) (fun Hq hq => Y.move rfl rfl) (Wd.u rfl) rfl rfl hq8 ?_
        refine LH.take 1 (by kernel_rfl) rfl (by kernel_rfl) (by kernel_rfl) (by kernel_rfl) (fun Hq hq => Y.nilCheck rfl rfl) (Wd.u rfl) rfl rfl hq8 ?_
        refine LH.take 2 (by kernel_rfl) rfl (by kernel_rfl) (by kernel_rfl) (by kernel_rfl) (fun Hq hq => Y.fieldAddr (vd.upL hq (DL.cons dj25.symm DL.nil)).pt rfl Tryz.runUnderlying99 rfl rfl Tryz.sizeOf97 (by decide) rfl) (Wd.u rfl) rfl rfl hq8 ?_
        refine LH.take 3 (by kernel_rfl) rfl (by kernel_rfl) (by kernel_rfl) (by kernel_rfl) (fun Hq hq => Y.load1 ((vd.upL hq (DL.cons dj25.symm DL.nil)).pt.drop 2) rfl Tryz.isAgg97 rfl) (Wd.u rfl) rfl rfl hq8 ?_
        refine LH.take 4 (by kernel_rfl) rfl (by kernel_rfl) (by kernel_rfl) (by kernel_rfl) (fun Hq hq => Y.move rfl rfl) (Wd.u rfl) rfl rfl hq8 ?_
        refine LH.take 5 (by kernel_rfl) rfl (by kernel_rfl) (by kernel_rfl) (by kernel_rfl) (fun Hq hq => Y.move rfl rfl) (Wd.u rfl) rfl rfl hq8 ?_
        refine LH.take 6 (by kernel_rfl) rfl (by kernel_rfl) (by kernel_rfl) (by kernel_rfl) (fun Hq hq => Y.nilCheck rfl rfl) (Wd.u rfl) rfl rfl hq8 ?_
        refine LH.take 7 (by kernel_rfl) rfl (by kernel_rfl) (by kernel_rfl) (by kernel_rfl) (fun Hq hq => Y.fieldAddr (vd.upL hq (DL.cons dj25.symm DL.nil)).pt rfl Tryz.runUnderlying99 rfl rfl Tryz.sizeOf97 (by decide) rfl) (Wd.u rfl) rfl rfl hq8 ?_
        refine LH.take 8 (by kernel_rfl) rfl (by kernel_rfl) (by kernel_rfl) (by kernel_rfl) (fun Hq hq => Y.load1 ((vd.upL hq (DL.cons dj25.symm DL.nil)).pt.drop 2) rfl Tryz.isAgg97 rfl) (Wd.u rfl) rfl rfl hq8 ?_
        refine LH.take 9 (by kernel_rfl) rfl (by kernel_rfl) (by kernel_rfl) (by kernel_rfl) (fun Hq hq => Y.len (hcr.upL hq (DL.cons dj41.symm DL.nil)).rd rfl Tryz.runUnderlying97 rfl) (Wd.u rfl) rfl rfl hq8 ?_
        refine LH.take 10 (by kernel_rfl) rfl (by kernel_rfl) (by kernel_rfl) (by kernel_rfl) (fun Hq hq => Y.cast (v2 := .int .i64 (((Di.chgs L[i]).length + 1 : Nat) : Int)) (Y.addi (a := ((Di.chgs L[i]).length : Int)) (b := 1) rfl rfl rfl (by omega)) (ivv (by omega))) (Wd.u rfl) rfl rfl hq8 ?_
        refine LH.take 14 (by kernel_rfl) rfl (by kernel_rfl) (by kernel_rfl) (by kernel_rfl) (fun Hq hq => Y.move rfl rfl) (Wd.u rfl) rfl rfl hq8 ?_
        refine LH.one (i := 11) (by kernel_rfl) ?_
        -- call (*selvage/simfs.picker).next
        refine LO.call rfl rfl Tryz.call38 rfl (Wd.u rfl) rfl rfl (next_ct G H0.size a1 pv picks ((Di.chgs L[i]).length + 1) w0 _ hp hpk (bf_hpk.mono (by omega)) (df2) (by omega) (by omega) hpw) (fun v56 H56 r56 => ?_)
        obtain ⟨rfl, hp, hs56⟩ := r56
        replace hpk := hpk.upL hs56 (DFL.cons df2 DFL.nil)
        replace hx := hx.upL hs56 (DL.cons dj6.symm DL.nil)
        replace ows := ows.upL hs56 (DL.cons dj11.symm DL.nil)
        replace vd := vd.upL hs56 (DL.cons dj25.symm DL.nil)
        replace hsm := hsm.upL hs56 (DL.cons dj33.symm DL.nil)
        replace hcr := hcr.upL hs56 (DL.cons dj41.symm DL.nil)
        replace hm0 := hm0.trL hs56 (MIL.cons (MI.app MI.z (nx3) (Nat.le_refl _)) MIL.nil)
        replace hlm1 := hlm1.trL hs56 (MIL.cons (MI.app (MI.root (by simp)) (nx_hlm1_hp) (Nat.le_refl _)) MIL.nil)
        replace hop := hop.trL hs56 (MIL.cons (MI.app (MI.root (by simp)) (nx45) (Nat.le_refl _)) MIL.nil)
        replace hcm14 := hcm14.trL hs56 (MIL.cons (MI.app (MI.root (by simp)) (nx_hcm14_hp) (Nat.le_refl _)) MIL.nil)
        replace hq8 := hq8.trL hs56 (MIL.cons (MI.app (MI.root (by simp)) (nx49) (Nat.le_refl _)) MIL.nil)
        have hz5 := hs56.size
        obtain ⟨kk, hkk⟩ : ∃ kk, kk = pickN picks a1 ((Di.chgs L[i]).length + 1) := ⟨_, rfl⟩
        have hkl := pickN_lt picks a1 (m := (Di.chgs L[i]).length + 1) (by omega)
        rw [← hkk] at hkl
        refine ⟨.inr hq8, LH.narrow (SH2 := fun Hq => Mo (Ms [(H0.size + 1)]) H56 Hq) (fun Hq hq => hq8.trL hq (MIL.cons (MI.app (MI.root (by simp)) (nx49) (Nat.le_refl _)) MIL.nil)) ?_⟩
        have hq8 : Mo (Ms [(H0.size + 1)]) H56 H56 := Mo.refl _ _
        have nx50 := Nx.refl (H0.size + 1) H56.size
        refine LH.e (g := fun v => v) 12 (by kernel_rfl) rfl (by kernel_rfl) (by kernel_rfl) (by kernel_rfl) (Y.slice hcr.rd (0) (kk) rfl Tryz.runUnderlying97 Tryz.sizeOf103 rfl (.inl ⟨rfl, rfl⟩) (.inr ⟨_, _, _, rfl, rfl, (by rw [hkk])⟩) (by omega) (by omega)) (Wd.u rfl) rfl rfl hq8 (fun v57 rd57 => ?_)
        have bf_rd57 := BF.of hcr.le
        refine LH.take 13 (by kernel_rfl) rfl (by kernel_rfl) (by kernel_rfl) (by kernel_rfl) (fun Hq hq => Y.cast (v2 := .int .i64 (kk : Int)) (Y.len (rd57.upL hq (DFL.cons (DF.of dj41.symm) DFL.nil)) rfl Tryz.runUnderlying97 rfl) (ivv (by simp; omega))) (Wd.u rfl) rfl rfl hq8 ?_
        refine LH.done (by kernel_rfl) ?_
        refine hK16 _ _ ?_
        refine CW.block (fun K17 hK17 hX17 hE17 => ?_)
        refine CW.loop (fun (s_ : (Nat) × (Nms)) => match s_ with | (i2, m2) => [(0, ptr b), (5, .pointer (some ⟨H0.size, 0, none⟩)), (6, s26.v), (9, ptr db), (27, s26.v), (28, .int .i64 (L.length : Int)), (29, .int .i64 (i : Int)), (57, v57), (58, .int .i64 (kk : Int)), (59, .int .i64 (i2 : Int))])
          (fun (s_ : (Nat) × (Nms)) (H : Heap) => match s_ with | (i2, m2) => (Mp H Str (fvl g1.fb) sbB m2) ∧ (i2 ≤ kk) ∧ (∀ q, mget m2 q = if dirP q = L[i] then mget (apl (((Di.chgs L[i]).take kk).take i2) Di.stays) q else none) ∧ Mo (Ms [(sbB + 1)]) H56 H)
          (fun (s_ : (Nat) × (Nms)) => match s_ with | (i2, m2) => kk - i2) (0, smB) ⟨rfl, rfl, rfl, rfl, rfl, rfl, rfl, rfl, rfl, rfl, trivial⟩ ?_ ?_
        ·
          exact ⟨hsm, (by omega), fun q => hdB.es q, Mo.refl _ _⟩
        rintro ⟨i2, m2⟩ HL2 hI2 K18 hN18 hE18
        obtain ⟨hsm, hi2, hm2, hlm2⟩ := hI2
        replace hpk := hpk.upL hlm2 (DFL.cons df30 DFL.nil)
        replace hx := hx.upL hlm2 (DL.cons dj31 DL.nil)
        replace ows := ows.upL hlm2 (DL.cons dj32 DL.nil)
        replace hp := hp.upL hlm2 (DL.cons dj33 DL.nil)
        replace vd := vd.upL hlm2 (DL.cons dj46 DL.nil)
        replace hcr := hcr.upL hlm2 (DL.cons dj48.symm DL.nil)
        replace rd57 := rd57.upL hlm2 (DFL.cons (DF.of dj48.symm) DFL.nil)
        replace hm0 := hm0.trL hlm2 (MIL.cons (nx34) MIL.nil)
        replace hlm1 := hlm1.trL hlm2 (MIL.cons (nx35) MIL.nil)
        replace hop := hop.trL hlm2 (MIL.cons (MI.app (MI.root (by simp)) (nx36) (Nat.le_refl _)) MIL.nil)
        replace hcm14 := hcm14.trL hlm2 (MIL.cons (MI.app (MI.root (by simp)) (nx_hcm14_hsm) (Nat.le_refl _)) MIL.nil)
        have hz6 := hlm2.size
        have nx_hlm2_hsm := Nx.refl (sbB + 1) H56.size
        refine CW.seq (fun K19 hK19 hE19 => ?_)
        refine CW.region ?_
        refine LR.v (Y.lss rfl rfl rfl) (Wd.u rfl) rfl rfl ?_
        refine LR.nil ?_
        refine hK19 _ _ ?_
        refine CW.seq (fun K20 hK20 hE20 => ?_)
        refine CW.condp rfl (fun c60 => ?_) (fun c60 => ?_)
        ·
          have hi2l : i2 < kk := by omega
          have hi2c : i2 < ((Di.chgs L[i]).take kk).length := by rw [List.length_take]; omega
          obtain ⟨c2, hc2⟩ : ∃ c2, c2 = ((Di.chgs L[i]).take kk)[i2] := ⟨_, rfl⟩
          have hcm := chgs_mem (List.mem_of_mem_take (hc2 ▸ List.getElem_mem hi2c : c2 ∈ (Di.chgs L[i]).take kk))
          have hcl : (c2.g ≠ [] → dirP c2.g = L[i]) ∧ ∀ j, c2.f = some j → dirP c2.n = L[i] := ⟨fun hg => by rw [dir_g hg]; exact hcm.2, fun j hj => by rw [hB.ld c2 (hM.lg c2 hcm.1) j hj]; exact hcm.2⟩
          refine CW.skip ?_
          refine hK20 _ _ ?_
          refine CW.seq (fun K21 hK21 hE21 => ?_)
          refine CW.block (fun K22 hK22 hX22 hE22 => ?_)
          refine CW.seq (fun K23 hK23 hE23 => ?_)
          refine CW.region ?_
          refine LR.e (g := fun ad => .pointer (some ad)) (Y.indexAddrF rd57 (i2) rfl Tryz.runUnderlying97 Tryz.sizeOf103 rfl rfl (by first | rfl | omega) (by simp; omega)) (Wd.u rfl) rfl rfl (fun ad61 pt61 => ?_)
          have bf_pt61 := bf_rd57
          refine LR.v (Y.cast (v2 := .agg (fC g1.fb c2).toArray) (Y.loadN pt61.pt rfl Tryz.isAgg103 Tryz.sizeOf103 (fC_len _ _) rfl) (by rw [hc2]; simp)) (Wd.u rfl) rfl rfl ?_
          refine LR.z (Z.allocv rfl Tryz.zeroValue103) (Wd.u rfl) rfl rfl (fun v11 H11 r11 => ?_)
          obtain ⟨rfl, v11, hs11, ob11, hH11⟩ := r11
          have hzs11 : H11.size = HL2.size + 1 := by rw [hH11]; simp
          have df51 := (DF.new (bf_hpk.mono hm0.size) : DF _ (HL2.size + 1))
          have dj52 : Dj (bx + 1) (HL2.size + 1) := Dj.new hx.le
          have dj53 : Dj k26 (HL2.size + 1) := Dj.new ows.le
          have dj54 : Dj (H0.size + 1) (HL2.size + 1) := Dj.new hp.lt
          have dj55 : Dj (db + 1) (HL2.size + 1) := Dj.new vd.lt
          have dj56 : Dj (sbB + 1) (HL2.size + 1) := Dj.new hsm.lt
          have dj57 : Dj kcB (HL2.size + 1) := Dj.new hcr.le
          have df58 := (DF.new (bf_rd57.mono (by omega)) : DF _ (HL2.size + 1))
          have df59 := (DF.new (bf_pt61.mono (by omega)) : DF _ (HL2.size + 1))
          have nx60 : Nx 0 H0.size (HL2.size + 1) := Nx.new hm0.size
          have nx61 : Nx 0 H26.size (HL2.size + 1) := Nx.new hlm1.size
          have nx62 : Nx 0 HL1.size (HL2.size + 1) := Nx.new hop.size
          have nx63 : Nx 0 HL1.size (HL2.size + 1) := Nx.new hcm14.size
          have nx64 : Nx 0 H56.size (HL2.size + 1) := Nx.new hlm2.size
          replace hpk := hpk.nw hs11
          replace hx := hx.nw hs11
          replace ows := ows.nw hs11
          replace hp := hp.nw hs11
          replace vd := vd.nw hs11
          replace hsm := hsm.nw hs11
          replace hcr := hcr.nw hs11
          replace rd57 := rd57.nw hs11
          replace pt61 := pt61.nw hs11
          replace hm0 := hm0.trN hs11
          replace hlm1 := hlm1.trN hs11
          replace hop := hop.trN hs11
          replace hcm14 := hcm14.trN hs11
          replace hlm2 := hlm2.trN hs11
          have hz7 := hs11.size
          refine LR.s (S.var v11 (_) (fC g1.fb c2) rfl rfl rfl rfl (fC_one _ _) Tryz.sizeOf103 (fC_len _ _) (by decide) ((splice_all2 (fC_len _ _).symm))) (Wd.u rfl) rfl (fun H10_3 r10_3 => ?_)
          obtain ⟨v11, hs10_3⟩ := r10_3
          replace hs10_3 := hs10_3.md1
          replace hpk := hpk.upL hs10_3 (DFL.cons df51 DFL.nil)
          replace hx := hx.upL hs10_3 (DL.cons dj52 DL.nil)
          replace ows := ows.upL hs10_3 (DL.cons dj53 DL.nil)
          replace hp := hp.upL hs10_3 (DL.cons dj54 DL.nil)
          replace vd := vd.upL hs10_3 (DL.cons dj55 DL.nil)
          replace hsm := hsm.upL hs10_3 (DL.cons dj56 DL.nil)
          replace hcr := hcr.upL hs10_3 (DL.cons dj57 DL.nil)
          replace rd57 := rd57.upL hs10_3 (DFL.cons df58 DFL.nil)
          replace pt61 := pt61.upL hs10_3 (DFL.cons df59 DFL.nil)
          replace hm0 := hm0.trL hs10_3 (MIL.cons (MI.app MI.z (nx60) (Nat.le_refl _)) MIL.nil)
          replace hlm1 := hlm1.trL hs10_3 (MIL.cons (MI.app MI.z (nx61) (Nat.le_refl _)) MIL.nil)
          replace hop := hop.trL hs10_3 (MIL.cons (MI.app MI.z (nx62) (Nat.le_refl _)) MIL.nil)
          replace hcm14 := hcm14.trL hs10_3 (MIL.cons (MI.app MI.z (nx63) (Nat.le_refl _)) MIL.nil)
          replace hlm2 := hlm2.trL hs10_3 (MIL.cons (MI.app MI.z (nx64) (Nat.le_refl _)) MIL.nil)
          have hz8 := hs10_3.size
          refine LR.nil ?_
          refine hK23 _ _ ?_
          refine CW.region_tail 6 rfl (by kernel_rfl) (fun T11 hT11 => ?_)
          refine LR.v (Y.move rfl rfl) (Wd.u rfl) rfl rfl ?_
          refine LR.v (Y.nilCheck rfl rfl) (Wd.u rfl) rfl rfl ?_
          refine LR.v (Y.fieldAddr vd.pt rfl Tryz.runUnderlying99 rfl rfl Tryz.sizeOf96 (by decide) rfl) (Wd.u rfl) rfl rfl ?_
          refine LR.v (Y.fieldAddr vd.pt rfl Tryz.runUnderlying96 rfl rfl Tryz.sizeOf94 (by decide) rfl) (Wd.u rfl) rfl rfl ?_
          refine LR.v (Y.load1 (vd.pt.drop 1) rfl Tryz.isAgg94 rfl) (Wd.u rfl) rfl rfl ?_
          refine LR.v (Y.loadN v11.pt rfl Tryz.isAgg103 Tryz.sizeOf103 (fC_len _ _) rfl) (Wd.u rfl) rfl rfl ?_
          refine LR.nil (hT11 _ ?_)
          -- call (selvage/simfs.names).put
          refine LR.call rfl Tryz.call39 rfl (Wd.u rfl) rfl rfl (put_ct g1.fb sbB m2 c2 w0 _ hsm) (fun v69 H69 r69 => ?_)
          obtain ⟨hsm, hs69⟩ := r69
          replace hpk := hpk.upL hs69 (DFL.cons df30 DFL.nil)
          replace hx := hx.upL hs69 (DL.cons dj31 DL.nil)
          replace ows := ows.upL hs69 (DL.cons dj32 DL.nil)
          replace hp := hp.upL hs69 (DL.cons dj33 DL.nil)
          replace vd := vd.upL hs69 (DL.cons dj46 DL.nil)
          replace hcr := hcr.upL hs69 (DL.cons dj48.symm DL.nil)
          replace rd57 := rd57.upL hs69 (DFL.cons (DF.of dj48.symm) DFL.nil)
          replace v11 := v11.upL hs69 (DL.cons dj56.symm DL.nil)
          replace hm0 := hm0.trL hs69 (MIL.cons (nx34) MIL.nil)
          replace hlm1 := hlm1.trL hs69 (MIL.cons (nx35) MIL.nil)
          replace hop := hop.trL hs69 (MIL.cons (MI.app (MI.root (by simp)) (nx36) (Nat.le_refl _)) MIL.nil)
          replace hcm14 := hcm14.trL hs69 (MIL.cons (MI.app (MI.root (by simp)) (nx_hcm14_hsm) (Nat.le_refl _)) MIL.nil)
          replace hlm2 := hlm2.trL hs69 (MIL.cons (MI.app (MI.root (by simp)) (nx_hlm2_hsm) (Nat.le_refl _)) MIL.nil)
          have hz9 := hs69.size
          refine LR.nil ?_
          refine hK22 _ _ ?_
          refine hK21 _ _ ?_
          refine CW.region ?_
          refine LR.v (Y.addi rfl rfl rfl (by omega)) (Wd.u rfl) rfl rfl ?_
          refine LR.v (Y.move rfl rfl) (Wd.u rfl) rfl rfl ?_
          refine LR.nil ?_
          refine QN.sub (hN18 (i2 + 1, Chg.apM c2 m2) _ ?_ ?_) ⟨rfl, rfl, rfl, rfl, rfl, (iv (by omega)), (iv (by omega)), rfl, (iv (by omega)), (iv (by omega)), trivial⟩
          · exact ⟨hsm, (by omega), fun q => by
              rw [mget_apM, hm2, List.take_succ_eq_append_getElem hi2c, apl_app, ← hc2]
              by_cases hq : dirP q = L[i]
              · rw [if_pos hq, if_pos hq]; exact (mget_ap c2 _ q).symm
              · rw [if_neg hq, if_neg hq]; exact at_out (fun j hj => hcl.2 j hj) hcl.1 hq, hlm2⟩
          · first | omega | (simp only; omega) | (simp; omega)
        ·
          refine CW.exit (hE20 (.exit 2) nofun _ _ (hE18 (.exit 2) nofun _ _ (hX17 _ _ ?_)))
          have hne : Di.chgs L[i] ≠ [] := fun e => by rw [e] at c44; simp at c44
          have hi2e : i2 = kk := by omega
          refine QN.sub (hK14 (m2, a1 + 1) _ ?_) ⟨rfl, rfl, rfl, rfl, rfl, (iv (by omega)), (iv (by omega)), trivial⟩
          exact ⟨hsm, hp, fun q => by rw [hm2, crashD_st, hi2e, ← hkk, List.take_take, Nat.min_self], by unfold crashD; rw [if_neg hne], hcm14⟩
      ·
        refine CW.skip ?_
        have hne : Di.chgs L[i] = [] := List.eq_nil_of_length_eq_zero (by omega)
        refine QN.sub (hK14 (smB, a1) _ ?_) ⟨rfl, rfl, rfl, rfl, rfl, (iv (by omega)), (iv (by omega)), trivial⟩
        exact ⟨hsm, hp, fun q => by rw [crashD_skip hne]; exact hdB.es q, by rw [crashD_skip hne], hcm14⟩
    ·
      rintro ⟨m3, a2⟩ Hcutc44 hIcutc44
      obtain ⟨hsm, hp, hm3, ha2, hlmcutc44⟩ := hIcutc44
      replace hpk := hpk.upL hlmcutc44 (DFL.cons df30 (DFL.cons df2 DFL.nil))
      replace hx := hx.upL hlmcutc44 (DL.cons dj31 (DL.cons dj6.symm DL.nil))
      replace ows := ows.upL hlmcutc44 (DL.cons dj32 (DL.cons dj11.symm DL.nil))
      replace vd := vd.upL hlmcutc44 (DL.cons dj46 (DL.cons dj25.symm DL.nil))
      replace hcr := hcr.upL hlmcutc44 (DL.cons dj48.symm (DL.cons dj41.symm DL.nil))
      replace hm0 := hm0.trL hlmcutc44 (MIL.cons (nx34) (MIL.cons (MI.app MI.z (nx3) (Nat.le_refl _)) MIL.nil))
      replace hlm1 := hlm1.trL hlmcutc44 (MIL.cons (nx35) (MIL.cons (MI.app (MI.root (by simp)) (nx_hlm1_hp) (Nat.le_refl _)) MIL.nil))
      replace hop := hop.trL hlmcutc44 (MIL.cons (MI.app (MI.root (by simp)) (nx36) (Nat.le_refl _)) (MIL.cons (MI.app (MI.root (by simp)) (nx45) (Nat.le_refl _)) MIL.nil))
      have hz10 := hlmcutc44.size
      have nx_hlmcutc44_hsm := Nx.refl (sbB + 1) HL1.size
      have nx_hlmcutc44_hp := Nx.refl (H0.size + 1) HL1.size
      refine CW.region ?_
      refine LR.v (Y.move rfl rfl) (Wd.u rfl) rfl rfl ?_
      refine LR.v (Y.move rfl rfl) (Wd.u rfl) rfl rfl ?_
      refine LR.v (Y.move rfl rfl) (Wd.u rfl) rfl rfl ?_
      refine LR.v (Y.nilCheck rfl rfl) (Wd.u rfl) rfl rfl ?_
      refine LR.v (Y.fieldAddr vd.pt rfl Tryz.runUnderlying99 rfl rfl Tryz.sizeOf96 (by decide) rfl) (Wd.u rfl) rfl rfl ?_
      refine LR.v (Y.fieldAddr vd.pt rfl Tryz.runUnderlying96 rfl rfl Tryz.sizeOf94 (by decide) rfl) (Wd.u rfl) rfl rfl ?_
      refine LR.v (Y.load1 (vd.pt.drop 1) rfl Tryz.isAgg94 rfl) (Wd.u rfl) rfl rfl ?_
      -- call maps.Clone[selvage/simfs.names,string,*selvage/simfs.file]
      refine LR.call rfl Tryz.call40 rfl (Wd.u rfl) rfl rfl (mclone_ct sbB m3 w0 _ hsm) (fun v78 H78 r78 => ?_)
      obtain ⟨b78, rfl, hm78, hk78, hs78⟩ := r78
      have df65 := DF.app (DF.z) (bf_hpk.mono hm0.size) hk78
      have dj66 : Dj (bx + 1) (b78 + 1) := Dj.app (Dj.z) hx.le hk78
      have dj67 : Dj k26 (b78 + 1) := Dj.app (Dj.z) ows.le hk78
      have dj68 : Dj (H0.size + 1) (b78 + 1) := Dj.app (Dj.z) hp.lt hk78
      have dj69 : Dj (db + 1) (b78 + 1) := Dj.app (Dj.z) vd.lt hk78
      have dj70 : Dj (sbB + 1) (b78 + 1) := Dj.app (Dj.z) hsm.lt hk78
      have dj71 : Dj kcB (b78 + 1) := Dj.app (Dj.z) hcr.le hk78
      have nx72 : Nx 0 H0.size (b78 + 1) := Nx.tr (Nx.refl 0 _) hk78 hm0.size
      have nx73 : Nx 0 H26.size (b78 + 1) := Nx.tr (Nx.refl 0 _) hk78 hlm1.size
      have nx74 : Nx 0 HL1.size (b78 + 1) := Nx.tr (Nx.refl 0 _) hk78 hop.size
      replace hpk := hpk.nw hs78
      replace hx := hx.nw hs78
      replace ows := ows.nw hs78
      replace hp := hp.nw hs78
      replace vd := vd.nw hs78
      replace hsm := hsm.nw hs78
      replace hcr := hcr.nw hs78
      replace hm0 := hm0.trN hs78
      replace hlm1 := hlm1.trN hs78
      replace hop := hop.trN hs78
      have hz11 := hs78.size
      have hle_hm78 := hm78.le
      refine LR.v (Y.nilCheck rfl rfl) (Wd.u rfl) rfl rfl ?_
      refine LR.v (Y.fieldAddr vd.pt rfl Tryz.runUnderlying99 rfl rfl Tryz.sizeOf96 (by decide) rfl) (Wd.u rfl) rfl rfl ?_
      refine LR.v (Y.fieldAddr vd.pt rfl Tryz.runUnderlying96 rfl rfl Tryz.sizeOf94 (by decide) rfl) (Wd.u rfl) rfl rfl ?_
      refine LR.s (S.var1 vd 0 ([.map (some b78), .map (some sbB), svB.v]) rfl rfl rfl (rfl) Tryz.sizeOf94 (by simp) (rfl)) (Wd.u rfl) rfl (fun H13_11 r13_11 => ?_)
      obtain ⟨vd, hs13_11⟩ := r13_11
      replace hs13_11 := hs13_11.md1
      replace hpk := hpk.upL hs13_11 (DFL.cons df22 DFL.nil)
      replace hx := hx.upL hs13_11 (DL.cons dj23 DL.nil)
      replace ows := ows.upL hs13_11 (DL.cons dj24 DL.nil)
      replace hp := hp.upL hs13_11 (DL.cons dj25 DL.nil)
      replace hsm := hsm.upL hs13_11 (DL.cons dj46.symm DL.nil)
      replace hcr := hcr.upL hs13_11 (DL.cons dj47.symm DL.nil)
      replace hm78 := hm78.upL hs13_11 (DL.cons dj69.symm DL.nil)
      replace hm0 := hm0.trL hs13_11 (MIL.cons (nx26) MIL.nil)
      replace hlm1 := hlm1.trL hs13_11 (MIL.cons (nx27) MIL.nil)
      replace hop := hop.trL hs13_11 (MIL.cons (MI.app (MI.root (by simp)) (nx28) (Nat.le_refl _)) MIL.nil)
      have hz12 := hs13_11.size
      refine LR.v (Y.nilCheck rfl rfl) (Wd.u rfl) rfl rfl ?_
      refine LR.v (Y.fieldAddr vd.pt rfl Tryz.runUnderlying99 rfl rfl Tryz.sizeOf97 (by decide) rfl) (Wd.u rfl) rfl rfl ?_
      refine LR.s (S.var1 vd 2 ([.map (some b78), .map (some sbB), .slice none 0 0]) rfl rfl rfl (rfl) Tryz.sizeOf97 (by simp) (rfl)) (Wd.u rfl) rfl (fun H13_14 r13_14 => ?_)
      obtain ⟨vd, hs13_14⟩ := r13_14
      replace hs13_14 := hs13_14.md1
      replace hpk := hpk.upL hs13_14 (DFL.cons df22 DFL.nil)
      replace hx := hx.upL hs13_14 (DL.cons dj23 DL.nil)
      replace ows := ows.upL hs13_14 (DL.cons dj24 DL.nil)
      replace hp := hp.upL hs13_14 (DL.cons dj25 DL.nil)
      replace hsm := hsm.upL hs13_14 (DL.cons dj46.symm DL.nil)
      replace hcr := hcr.upL hs13_14 (DL.cons dj47.symm DL.nil)
      replace hm78 := hm78.upL hs13_14 (DL.cons dj69.symm DL.nil)
      replace hm0 := hm0.trL hs13_14 (MIL.cons (nx26) MIL.nil)
      replace hlm1 := hlm1.trL hs13_14 (MIL.cons (nx27) MIL.nil)
      replace hop := hop.trL hs13_14 (MIL.cons (MI.app (MI.root (by simp)) (nx28) (Nat.le_refl _)) MIL.nil)
      have hz13 := hs13_14.size
      refine LR.nil ?_
      have dj75 : DL (bx + 1) ((b78 + 1) :: K1) := (DL.cons (dj66) (dj16))
      have dj76 : DL k26 ((b78 + 1) :: K1) := (DL.cons (dj67) (dj17))
      have dj77 : DL (H0.size + 1) ((b78 + 1) :: K1) := (DL.cons (dj68) (dj19))
      have df78 : DFL _ ((b78 + 1) :: K1) := (DFL.cons (df65) (df15))
      have nx79 : NxK K H0.size ((b78 + 1) :: K1) := (NxK.cons (nx72) (nx18))
      have nx80 : NxK K H26.size ((b78 + 1) :: K1) := (NxK.cons (nx73) (nx20))
      replace hf := dcrash hf (dj19) hdb1 hdB hM.ast (fun c hc => hB.ld c (hM.lg c hc)) hop vd hsm hm78 hm3 (DL.nxK hf.bk (nx74))
      have hbk_hf := hf.bk
      refine hK11 _ _ ?_
      refine hK10 _ _ ?_
      refine CW.region ?_
      refine LR.v (Y.addi rfl rfl rfl (by omega)) (Wd.u rfl) rfl rfl ?_
      refine LR.v (Y.move rfl rfl) (Wd.u rfl) rfl rfl ?_
      refine LR.nil ?_
      refine QN.sub (hN7 (i + 1, (b78 + 1) :: K1, { g1 with ρ := uprk g1.ρ (b78 + 1) (.now L[i]) }, stepM picks Di a1 L[i], a2) _ ?_ ?_) ⟨rfl, rfl, rfl, rfl, (iv (by omega)), (iv (by omega)), trivial⟩
      · exact ⟨hf, hp, (by omega), by rw [List.take_succ_eq_append_getElem hil, ha]; exact hst.1, by rw [List.take_succ_eq_append_getElem hil, ← hst.2, ← ha]; exact ha2, hg1, nx80, dj77, hlm1⟩
      · first | omega | (simp only; omega) | (simp; omega)
  ·
    have hie : i = L.length := by omega
    rw [hie, List.take_length] at hM ha
    obtain ⟨e1, e2, e3, e4⟩ := hM.fin hL.1 (fun n hn => Classical.byContradiction (fun h => hn (habs0 n (hno n h)).2)) (fun q hq => (habs0 _ (hno _ hq)).1 q rfl) hB.ld
    have hDl : Di.now.length ≤ 549755813888 := by rw [e2]; omega
    refine CW.exit (hE9 (.exit 0) nofun _ _ (hE7 (.exit 0) nofun _ _ (hX6 _ _ ?_)))
    refine hK4 _ _ ?_
    refine CW.seq (fun K24 hK24 hE24 => ?_)
    refine CW.region ?_
    refine LR.z (Z.makeMp Str (fvl g.fb) rfl) (Wd.u rfl) rfl rfl (fun v85 H85 r85 => ?_)
    obtain ⟨rfl, hall, hs85, ob85, hH85⟩ := r85
    have hzs85 : H85.size = HL1.size + 1 := by rw [hH85]; simp
    have dj81 : DL (HL1.size + 1) K1 := DL.newK hf.bk
    have df82 := (DF.new (bf_hpk.mono hm0.size) : DF _ (HL1.size + 1))
    have dj83 : Dj (bx + 1) (HL1.size + 1) := Dj.new hx.le
    have dj84 : Dj k26 (HL1.size + 1) := Dj.new ows.le
    have dj85 : Dj (H0.size + 1) (HL1.size + 1) := Dj.new hp.lt
    have nx86 : Nx 0 H0.size (HL1.size + 1) := Nx.new hm0.size
    replace hf := hf.nw hs85
    replace hpk := hpk.nw hs85
    replace hx := hx.nw hs85
    replace ows := ows.nw hs85
    replace hp := hp.nw hs85
    replace hm0 := hm0.trN hs85
    have hz14 := hs85.size
    have hlt_hall := hall.lt
    refine LR.v (Y.assign rfl rfl) (Wd.u rfl) rfl rfl ?_
    refine LR.nil ?_
    refine hK24 _ _ ?_
    refine CW.seq (fun K25 hK25 hE25 => ?_)
    refine CW.seq (fun K26 hK26 hE26 => ?_)
    refine CW.region ?_
    refine LR.v (Y.move rfl rfl) (Wd.u rfl) rfl rfl ?_
    refine LR.v (Y.len ows.rd rfl Tryz.runUnderlying87 rfl) (Wd.u rfl) rfl rfl ?_
    refine LR.v (Y.move rfl rfl) (Wd.u rfl) rfl rfl ?_
    refine LR.nil ?_
    refine hK26 _ _ ?_
    refine CW.block (fun K27 hK27 hX27 hE27 => ?_)
    refine CW.loop (fun (s_ : (Nat) × (Nms)) => match s_ with | (i3, ma) => [(0, ptr b), (5, .pointer (some ⟨H0.size, 0, none⟩)), (12, .map (some HL1.size)), (86, s26.v), (87, .int .i64 (L.length : Int)), (88, .int .i64 (i3 : Int))])
      (fun (s_ : (Nat) × (Nms)) (H : Heap) => match s_ with | (i3, ma) => (Mp H Str (fvl g.fb) HL1.size ma) ∧ (i3 ≤ L.length) ∧ (∀ q, mget ma q = if dirP q ∈ L.take i3 then mget Di.now q else none) ∧ Mo (Ms [(HL1.size + 1)]) H85 H)
      (fun (s_ : (Nat) × (Nms)) => match s_ with | (i3, ma) => L.length - i3) (0, []) ⟨rfl, rfl, rfl, rfl, rfl, rfl, trivial⟩ ?_ ?_
    ·
      exact ⟨hall, (by omega), fun q => by simp [mget], Mo.refl _ _⟩
    rintro ⟨i3, ma⟩ HL3 hI3 K28 hN28 hE28
    obtain ⟨hall, hi3, hma, hlm3⟩ := hI3
    replace hf := hf.upL hlm3 (DKL.cons dj81 DKL.nil)
    replace hpk := hpk.upL hlm3 (DFL.cons df82 DFL.nil)
    replace hx := hx.upL hlm3 (DL.cons dj83 DL.nil)
    replace ows := ows.upL hlm3 (DL.cons dj84 DL.nil)
    replace hp := hp.upL hlm3 (DL.cons dj85 DL.nil)
    replace hm0 := hm0.trL hlm3 (MIL.cons (MI.app MI.z (nx86) (Nat.le_refl _)) MIL.nil)
    have hz15 := hlm3.size
    have nx_hlm3_hall := Nx.refl (HL1.size + 1) H85.size
    refine CW.seq (fun K29 hK29 hE29 => ?_)
    refine CW.region ?_
    refine LR.v (Y.lss rfl rfl rfl) (Wd.u rfl) rfl rfl ?_
    refine LR.nil ?_
    refine hK29 _ _ ?_
    refine CW.seq (fun K30 hK30 hE30 => ?_)
    refine CW.condp rfl (fun c89 => ?_) (fun c89 => ?_)
    ·
      have hil3 : i3 < L.length := by omega
      have hni3 : L[i3] ∉ L.take i3 := fun hq => by
        have h9 := hLn
        rw [← List.take_append_drop i3 L, List.nodup_append] at h9
        exact h9.2.2 _ hq _ (by rw [List.drop_eq_getElem_cons hil3]; exact List.mem_cons_self) rfl
      have hmem_dc : L[i3] ∈ g.dm.map (·.1) := (hL.2 _).1 (List.getElem_mem hil3)
      obtain ⟨dc, hdc⟩ : ∃ dc, mget g.dm L[i3] = some dc := by
        rw [← isSome_iff_key] at hmem_dc
        cases hq : mget g.dm L[i3] with
        | none => rw [hq] at hmem_dc; cases hmem_dc
        | some dc => exact ⟨dc, rfl⟩
      have hdb2 : mget g1.dm L[i3] = some dc := by rw [hg1.2]; exact hdc
      obtain ⟨nbC, sbC, kcC, svC, nmC, smC, hdC⟩ := hf.dirs _ dc hdb2
      refine CW.skip ?_
      refine hK30 _ _ ?_
      refine CW.seq (fun K31 hK31 hE31 => ?_)
      refine CW.block (fun K32 hK32 hX32 hE32 => ?_)
      refine CW.seq (fun K33 hK33 hE33 => ?_)
      refine CW.region ?_
      refine LR.v (Y.owAddr ows (i3) rfl Tryz.runUnderlying87 Tryz.sizeOf9 rfl rfl (by first | rfl | omega) (by first | omega | (simp; omega) | (simp; done))) (Wd.u rfl) rfl rfl ?_
      refine LR.v (Y.load1 (ows.pt (j := i3) (by first | omega | (simp; omega) | (simp; done))) rfl Tryz.isAgg9 rfl) (Wd.u rfl) rfl rfl ?_
      refine LR.v (Y.assign rfl rfl) (Wd.u rfl) rfl rfl ?_
      refine LR.nil ?_
      refine hK33 _ _ ?_
      refine CW.region ?_
      refine LR.v (Y.move rfl rfl) (Wd.u rfl) rfl rfl ?_
      refine LR.v (Y.move rfl rfl) (Wd.u rfl) rfl rfl ?_
      refine LR.v (Y.nilCheck rfl rfl) (Wd.u rfl) rfl rfl ?_
      refine LR.v (Y.fieldAddr hf.vb.pt rfl Tryz.runUnderlying73 rfl rfl Tryz.sizeOf66 (by decide) rfl) (Wd.u rfl) rfl rfl ?_
      refine LR.v (Y.load1 (hf.vb.pt.drop 2) rfl Tryz.isAgg66 rfl) (Wd.u rfl) rfl rfl ?_
      refine LR.v (Y.move rfl rfl) (Wd.u rfl) rfl rfl ?_
      refine LR.v (Y.cast (v2 := ptr dc) (look_p adO hf.hm.mo (fun _ => rfl) keyStr rfl Tryz.runUnderlying66 Tryz.underlying9 Tryz.zeroValue92 rfl rfl) (by rw [hdb2]; rfl)) (Wd.u rfl) rfl rfl ?_
      refine LR.v (Y.nilCheck rfl rfl) (Wd.u rfl) rfl rfl ?_
      refine LR.v (Y.fieldAddr hdC.vd.pt rfl Tryz.runUnderlying99 rfl rfl Tryz.sizeOf96 (by decide) rfl) (Wd.u rfl) rfl rfl ?_
      refine LR.v (Y.fieldAddr (hdC.vd.pt.drop 0) rfl Tryz.runUnderlying96 rfl rfl Tryz.sizeOf94 (by decide) rfl) (Wd.u rfl) rfl rfl ?_
      refine LR.v (Y.load1 ((hdC.vd.pt.drop 0).drop 0) rfl Tryz.isAgg94 rfl) (Wd.u rfl) rfl rfl ?_
      have hmn := (show Mp _ Str (fvl g.fb) nbC nmC from hg1.1 ▸ hdC.hn)
      have hlt_hmn := hmn.lt
      have dj87 : Dj (nbC + 1) (HL1.size + 1) := (DL.at (dj81) (hf.km1 hdC.rn (by simp))).symm
      -- call maps.Copy[selvage/simfs.names,selvage/simfs.names,string,*selvage/simfs.file]
      refine LR.call rfl Tryz.call41 rfl (Wd.u rfl) rfl rfl (copy_ct (fvl g.fb) HL1.size nbC ma nmC w0 _ hall hmn (dj87)) (fun v103 H103 r103 => ?_)
      obtain ⟨m103, rfl, hall, hm103, hs103⟩ := r103
      replace hf := hf.upL hs103 (DKL.cons dj81 DKL.nil)
      replace hpk := hpk.upL hs103 (DFL.cons df82 DFL.nil)
      replace hx := hx.upL hs103 (DL.cons dj83 DL.nil)
      replace ows := ows.upL hs103 (DL.cons dj84 DL.nil)
      replace hp := hp.upL hs103 (DL.cons dj85 DL.nil)
      replace hmn := hmn.upL hs103 (DL.cons dj87 DL.nil)
      replace hm0 := hm0.trL hs103 (MIL.cons (MI.app MI.z (nx86) (Nat.le_refl _)) MIL.nil)
      replace hlm3 := hlm3.trL hs103 (MIL.cons (MI.app (MI.root (by simp)) (nx_hlm3_hall) (Nat.le_refl _)) MIL.nil)
      have hz16 := hs103.size
      refine LR.nil ?_
      refine hK32 _ _ ?_
      refine hK31 _ _ ?_
      refine CW.region ?_
      refine LR.v (Y.addi rfl rfl rfl (by omega)) (Wd.u rfl) rfl rfl ?_
      refine LR.v (Y.move rfl rfl) (Wd.u rfl) rfl rfl ?_
      refine LR.nil ?_
      refine QN.sub (hN28 (i3 + 1, m103) _ ?_ ?_) ⟨rfl, rfl, rfl, rfl, (iv (by omega)), (iv (by omega)), trivial⟩
      · exact ⟨hall, (by omega), fun q => by
          have hmm : dirP q ∈ L.take (i3 + 1) ↔ dirP q ∈ L.take i3 ∨ dirP q = L[i3] := by rw [List.take_succ_eq_append_getElem hil3, List.mem_append, List.mem_singleton]
          rw [hm103, hdC.en, hma]
          by_cases hq : dirP q = L[i3]
          · have h9 : dirP q ∉ L.take i3 := by rw [hq]; exact hni3
            rw [if_pos hq, if_neg h9, if_pos (hmm.2 (.inr hq))]; cases mget Di.now q <;> rfl
          · rw [if_neg hq]; by_cases h9 : dirP q ∈ L.take i3
            · rw [if_pos h9, if_pos (hmm.2 (.inl h9))]
            · rw [if_neg h9, if_neg (fun h => (hmm.1 h).elim h9 hq)], hlm3⟩
      · first | omega | (simp only; omega) | (simp; omega)
    ·
      have hi3e : i3 = L.length := by omega
      rw [hi3e, List.take_length] at hma
      replace hma : ∀ q, mget ma q = mget Di.now q := fun q => by
        rw [hma]
        by_cases h : dirP q ∈ L
        · rw [if_pos h]
        · rw [if_neg h, hM.nw2 q h, ((habs0 _ (hno _ h)).1 q rfl).1]
      have hmal : ma.length ≤ Di.now.length := by
        have h9 := nodup_le (b := Di.now.map (·.1)) hall.mo.nodup (fun k hk => by rw [← isSome_iff_key] at hk ⊢; rw [← hma]; exact hk)
        rwa [List.length_map, List.length_map] at h9
      refine CW.exit (hE30 (.exit 4) nofun _ _ (hE28 (.exit 4) nofun _ _ (hX27 _ _ ?_)))
      refine hK25 _ _ ?_
      refine CW.seq (fun K34 hK34 hE34 => ?_)
      refine CW.seq (fun K35 hK35 hE35 => ?_)
      refine CW.region ?_
      refine LR.v (Y.move rfl rfl) (Wd.u rfl) rfl rfl ?_
      -- call maps.Keys[selvage/simfs.names,string,*selvage/simfs.file]
      refine LR.call rfl Tryz.call42 rfl (Wd.u rfl) rfl rfl (keysN HL1.size w0 _) (fun v106 H106 r106 => ?_)
      obtain ⟨by_, rfl, hx2, hkx2, hs106⟩ := r106
      have dj88 : DL (by_ + 1) K1 := DL.app2 (DL.zK) hf.bk hkx2
      have df89 := DF.app (DF.z) (bf_hpk.mono hm0.size) hkx2
      have dj90 : Dj (bx + 1) (by_ + 1) := Dj.app (Dj.z) hx.le hkx2
      have dj91 : Dj k26 (by_ + 1) := Dj.app (Dj.z) ows.le hkx2
      have dj92 : Dj (H0.size + 1) (by_ + 1) := Dj.app (Dj.z) hp.lt hkx2
      have dj93 : Dj (HL1.size + 1) (by_ + 1) := Dj.app (Dj.z) hall.lt hkx2
      have nx94 : Nx 0 H0.size (by_ + 1) := Nx.tr (Nx.refl 0 _) hkx2 hm0.size
      replace hf := hf.nw hs106
      replace hpk := hpk.nw hs106
      replace hx := hx.nw hs106
      replace ows := ows.nw hs106
      replace hp := hp.nw hs106
      replace hall := hall.nw hs106
      replace hm0 := hm0.trN hs106
      have hz17 := hs106.size
      have hle_hx2 := hx2.le
      -- call slices.Sorted[string]
      refine LR.call rfl Tryz.call36 rfl (Wd.u rfl) rfl rfl (sortedN by_ HL1.size (fvl g.fb) ma w0 _ hx2 hall (by omega)) (fun v107 H107 r107 => ?_)
      obtain ⟨s107, k107, P, rfl, owp, hk107, hP, hs107⟩ := r107
      have dj95 : DL k107 K1 := DL.app2 (DL.zK) hf.bk hk107
      have df96 := DF.app (DF.z) (bf_hpk.mono hm0.size) hk107
      have dj97 : Dj (bx + 1) k107 := Dj.app (Dj.z) hx.le hk107
      have dj98 : Dj k26 k107 := Dj.app (Dj.z) ows.le hk107
      have dj99 : Dj (H0.size + 1) k107 := Dj.app (Dj.z) hp.lt hk107
      have dj100 : Dj (HL1.size + 1) k107 := Dj.app (Dj.z) hall.lt hk107
      have dj101 : Dj (by_ + 1) k107 := Dj.app (Dj.z) hx2.le hk107
      have nx102 : Nx 0 H0.size k107 := Nx.tr (Nx.refl 0 _) hk107 hm0.size
      replace hf := hf.nw hs107
      replace hpk := hpk.nw hs107
      replace hx := hx.nw hs107
      replace ows := ows.nw hs107
      replace hp := hp.nw hs107
      replace hall := hall.nw hs107
      replace hx2 := hx2.nw hs107
      replace hm0 := hm0.trN hs107
      have hz18 := hs107.size
      have hle_owp := owp.le
      have hPe : P = Di.now.map (·.1) := rise_ext hP.1 hM.an.rise (fun q => by rw [hP.2, ← isSome_iff_key, ← isSome_iff_key, hma])
      have hPl : P.length = Di.now.length := by rw [hPe, List.length_map]
      refine LR.v (Y.len owp.rd rfl Tryz.runUnderlying87 rfl) (Wd.u rfl) rfl rfl ?_
      refine LR.v (Y.move rfl rfl) (Wd.u rfl) rfl rfl ?_
      refine LR.nil ?_
      refine hK35 _ _ ?_
      refine CW.block (fun K36 hK36 hX36 hE36 => ?_)
      refine CW.loop (fun (s_ : (Nat) × (List Nat) × (Gh) × (List Fdt) × (Nat)) => match s_ with | (j, K4, g4, fs4, a4) => [(0, ptr b), (5, .pointer (some ⟨H0.size, 0, none⟩)), (12, .map (some HL1.size)), (107, s107.v), (108, .int .i64 (P.length : Int)), (109, .int .i64 (j : Int))])
        (fun (s_ : (Nat) × (List Nat) × (Gh) × (List Fdt) × (Nat)) (H : Heap) => match s_ with | (j, K4, g4, fs4, a4) => (PDk K4 g4 H b { Di with fs := fs4 }) ∧ (Var 86 H H0.size [pv.v, .int .i64 (a4 : Int)]) ∧ (j ≤ P.length) ∧ ((fs4, a4) = (Di.now.take j).foldl (crashF picks) (D.fs, a1)) ∧ (g4.fb = g.fb) ∧ (NxK K1 H107.size K4) ∧ (DL (H0.size + 1) K4) ∧ Mo (Ms (K1 ++ [(H0.size + 1)])) H107 H)
        (fun (s_ : (Nat) × (List Nat) × (Gh) × (List Fdt) × (Nat)) => match s_ with | (j, K4, g4, fs4, a4) => P.length - j) (0, K1, g1, D.fs, a1) ⟨rfl, rfl, rfl, rfl, rfl, rfl, trivial⟩ ?_ ?_
      ·
        exact ⟨(by have h9 := hM.same.2.2.1; rw [← h9]; exact hf), hp, (by omega), rfl, hg1.1, NxK.refl _ _, dj19, Mo.refl _ _⟩
      rintro ⟨j, K4, g4, fs4, a4⟩ HL4 hI4 K37 hN37 hE37
      obtain ⟨hf, hp, hj, hF, hg4, nxl_hf, dj_hf_hp, hlm4⟩ := hI4
      have df103 := DFL.appK (df15) (bf_hpk.mono hm0.size) nxl_hf
      have dj104 : DL (bx + 1) K4 := DL.appK (dj16) hx.le nxl_hf
      have dj105 : DL k26 K4 := DL.appK (dj17) ows.le nxl_hf
      have dj106 : DL (HL1.size + 1) K4 := DL.appK (dj81) hall.lt nxl_hf
      have dj107 : DL (by_ + 1) K4 := DL.appK (dj88) hx2.le nxl_hf
      have dj108 : DL k107 K4 := DL.appK (dj95) owp.le nxl_hf
      have nx109 : NxK K H0.size K4 := NxK.tr (nx18) nxl_hf hm0.size
      replace hpk := hpk.upL hlm4 (DFL.app df15 (DFL.cons df2 DFL.nil))
      replace hx := hx.upL hlm4 (DL.app dj16 (DL.cons dj6.symm DL.nil))
      replace ows := ows.upL hlm4 (DL.app dj17 (DL.cons dj11.symm DL.nil))
      replace hall := hall.upL hlm4 (DL.app dj81 (DL.cons dj85.symm DL.nil))
      replace hx2 := hx2.upL hlm4 (DL.app dj88 (DL.cons dj92.symm DL.nil))
      replace owp := owp.upL hlm4 (DL.app dj95 (DL.cons dj99.symm DL.nil))
      replace hm0 := hm0.trL hlm4 (MIL.app (MIL.ofK (nx18) (by intro k hk; simp [hk])) (MIL.cons (MI.app MI.z (nx3) (Nat.le_refl _)) MIL.nil))
      have hz19 := hlm4.size
      have hbk_hf := hf.bk
      have dj110 := dj_hf_hp
      have nx111 := nxl_hf
      have nx_hlm4_hp := Nx.refl (H0.size + 1) H107.size
      have hFl := crashF_len picks (Di.now.take j) (D.fs, a1)
      have hFa := crashF_at picks (Di.now.take j) (D.fs, a1)
      have hFf := crashF_file picks D.fs (Di.now.take j) (D.fs, a1) (fun i => .inl rfl)
      rw [← hF] at hFl hFa hFf
      simp only [List.length_take] at hFl hFa hFf
      refine CW.seq (fun K38 hK38 hE38 => ?_)
      refine CW.region ?_
      refine LR.v (Y.lss rfl rfl rfl) (Wd.u rfl) rfl rfl ?_
      refine LR.nil ?_
      refine hK38 _ _ ?_
      refine CW.seq (fun K39 hK39 hE39 => ?_)
      refine CW.condp rfl (fun c110 => ?_) (fun c110 => ?_)
      ·
        have hjl : j < P.length := by omega
        have hjn : j < Di.now.length := by omega
        have hPj : P[j] = Di.now[j].1 := by simp only [hPe, List.getElem_map]
        have hgj := mget_of_mem hM.an.nodup (show (Di.now[j].1, Di.now[j].2) ∈ Di.now from List.getElem_mem hjn)
        have hid := hf.ids.1 _ _ hgj
        have hbi : g4.fb.getD Di.now[j].2 0 = g.fb.getD Di.now[j].2 0 := by rw [hg4]
        obtain ⟨nvD, svD, wvD, kwD, lwD, hfiD⟩ := hf.fil _ hid
        have hlwD : lwD.length = (fget fs4 Di.now[j].2).w.length := by have h9 := congrArg List.length hfiD.lw; rw [List.length_map] at h9; exact h9
        refine CW.skip ?_
        refine hK39 _ _ ?_
        refine CW.seq (fun K40 hK40 hE40 => ?_)
        refine CW.block (fun K41 hK41 hX41 hE41 => ?_)
        refine CW.seq (fun K42 hK42 hE42 => ?_)
        refine CW.region ?_
        refine LR.v (Y.owAddr owp (j) rfl Tryz.runUnderlying87 Tryz.sizeOf9 rfl rfl (by first | rfl | omega) (by first | omega | (simp; omega) | (simp; done))) (Wd.u rfl) rfl rfl ?_
        refine LR.v (Y.load1 (owp.pt (j := j) (by first | omega | (simp; omega) | (simp; done))) rfl Tryz.isAgg9 rfl) (Wd.u rfl) rfl rfl ?_
        refine LR.v (Y.assign rfl rfl) (Wd.u rfl) rfl rfl ?_
        refine LR.nil ?_
        refine hK42 _ _ ?_
        refine CW.seq (fun K43 hK43 hE43 => ?_)
        refine CW.region ?_
        refine LR.v (Y.move rfl rfl) (Wd.u rfl) rfl rfl ?_
        refine LR.v (Y.move rfl rfl) (Wd.u rfl) rfl rfl ?_
        refine LR.v (Y.cast (v2 := fvl g.fb Di.now[j].2) (look_p (fun i => ⟨g.fb.getD i 0, 0, none⟩) hall.mo (fun _ => rfl) keyStr rfl Tryz.runUnderlying94 Tryz.underlying9 Tryz.zeroValue101 rfl rfl) (by rw [hPj, hma, hgj]; rfl)) (Wd.u rfl) rfl rfl ?_
        refine LR.v (Y.assign rfl rfl) (Wd.u rfl) rfl rfl ?_
        refine LR.nil ?_
        refine hK43 _ _ ?_
        refine CW.seq (fun K44 hK44 hE44 => ?_)
        refine CW.region ?_
        refine LR.v (Y.move rfl rfl) (Wd.u rfl) rfl rfl ?_
        refine LR.v (Y.nilCheck rfl rfl) (Wd.u rfl) rfl rfl ?_
        refine LR.v (Y.fieldAddr (hfiD.atb hbi).pt rfl Tryz.runUnderlying112 rfl rfl Tryz.sizeOf110 (by decide) rfl) (Wd.u rfl) rfl rfl ?_
        refine LR.v (Y.load1 ((hfiD.atb hbi).pt.drop 2) rfl Tryz.isAgg110 rfl) (Wd.u rfl) rfl rfl ?_
        refine LR.v (Y.cast (v2 := .int .i64 ((fget fs4 Di.now[j].2).w.length : Int)) (Y.len hfiD.hw.rd rfl Tryz.runUnderlying110 rfl) (by rw [hlwD])) (Wd.u rfl) rfl rfl ?_
        refine LR.v (Y.gtr rfl rfl rfl) (Wd.u rfl) rfl rfl ?_
        refine LR.nil ?_
        refine hK44 _ _ ?_
        refine CW.condp rfl (fun c121 => ?_) (fun c121 => ?_)
        ·
          have hwne : (fget fs4 Di.now[j].2).w ≠ [] := fun e => by rw [e] at c121; simp at c121
          have hfe : fget fs4 Di.now[j].2 = fget D.fs Di.now[j].2 := (hFf _).resolve_right hwne
          refine CW.region ?_
          refine LR.v (Y.cast (v2 := fvl g4.fb Di.now[j].2) (Y.move rfl rfl) (by rw [hg4])) (Wd.u rfl) rfl rfl ?_
          refine LR.v (Y.move rfl rfl) (Wd.u rfl) rfl rfl ?_
          -- call (*selvage/simfs.file).lose
          refine LR.call rfl Tryz.call43 rfl (Wd.u rfl) rfl rfl (lose_ct K4 g4 b { Di with fs := fs4 } G H0.size a4 pv picks Di.now[j].2 w0 _ hf hp hpk (bf_hpk.mono (by omega)) (df2) (dj110) (df103) hid (by show (fget fs4 _).w.length ≤ _; rw [hfe]; have := hB.w Di.now[j].2; omega) (by show ∀ y ∈ (fget fs4 _).w, _; rw [hfe]; intro y hy; have := hB.wd _ y hy; omega) (by show ∀ q, (onAll ((fget fs4 _).w.take q) (fget fs4 _).stays).length ≤ _; rw [hfe]; intro q; have := hB.pf Di.now[j].2 q; omega) (by show waysF (fget fs4 _).w ≤ _; rw [hfe]; exact hwy _) (by omega) hpw) (fun v124 H124 r124 => ?_)
          have ql112 := hf.bk
          have ql113 := hx.le
          have ql114 := ows.le
          have ql115 := hall.lt
          have ql116 := hx2.le
          have ql117 := owp.le
          have ql118 := hp.lt
          obtain ⟨K124, g124, rfl, hf, hkd124, hp, hg124, hs124⟩ := r124
          have df119 := DFL.appK (df103) (bf_hpk.mono hm0.size) hkd124
          have dj120 : DL (bx + 1) K124 := DL.appK (dj104) ql113 hkd124
          have dj121 : DL k26 K124 := DL.appK (dj105) ql114 hkd124
          have dj122 : DL (HL1.size + 1) K124 := DL.appK (dj106) ql115 hkd124
          have dj123 : DL (by_ + 1) K124 := DL.appK (dj107) ql116 hkd124
          have dj124 : DL k107 K124 := DL.appK (dj108) ql117 hkd124
          have dj125 : DL (H0.size + 1) K124 := DL.appK (dj110) ql118 hkd124
          have nx126 : NxK K H0.size K124 := NxK.tr (nx109) hkd124 hm0.size
          have nx127 : NxK K1 H107.size K124 := NxK.tr (nx111) hkd124 hlm4.size
          replace hpk := hpk.upL hs124 (DFL.app df103 (DFL.cons df2 DFL.nil))
          replace hx := hx.upL hs124 (DL.app dj104 (DL.cons dj6.symm DL.nil))
          replace ows := ows.upL hs124 (DL.app dj105 (DL.cons dj11.symm DL.nil))
          replace hall := hall.upL hs124 (DL.app dj106 (DL.cons dj85.symm DL.nil))
          replace hx2 := hx2.upL hs124 (DL.app dj107 (DL.cons dj92.symm DL.nil))
          replace owp := owp.upL hs124 (DL.app dj108 (DL.cons dj99.symm DL.nil))
          replace hm0 := hm0.trL hs124 (MIL.app (MIL.ofK (nx109) (by intro k hk; simp [hk])) (MIL.cons (MI.app MI.z (nx3) (Nat.le_refl _)) MIL.nil))
          replace hlm4 := hlm4.trL hs124 (MIL.app (MIL.ofK (nx111) (by intro k hk; simp [hk])) (MIL.cons (MI.app (MI.root (by simp)) (nx_hlm4_hp) (Nat.le_refl _)) MIL.nil))
          have hz20 := hs124.size
          have hbk_hf := hf.bk
          refine LR.nil ?_
          refine hK41 _ _ ?_
          refine hK40 _ _ ?_
          refine CW.region ?_
          refine LR.v (Y.addi rfl rfl rfl (by omega)) (Wd.u rfl) rfl rfl ?_
          refine LR.v (Y.move rfl rfl) (Wd.u rfl) rfl rfl ?_
          refine LR.nil ?_
          refine QN.sub (hN37 (j + 1, K124, g124, fs4.set Di.now[j].2 ⟨wayW (fget fs4 Di.now[j].2).w (fget fs4 Di.now[j].2).stays (pickN picks a4 (waysF (fget fs4 Di.now[j].2).w)), wayW (fget fs4 Di.now[j].2).w (fget fs4 Di.now[j].2).stays (pickN picks a4 (waysF (fget fs4 Di.now[j].2).w)), []⟩, a4 + 1) _ ?_ ?_) ⟨rfl, rfl, rfl, rfl, (iv (by omega)), (iv (by omega)), trivial⟩
          · exact ⟨hf, hp, (by omega), by rw [List.take_succ_eq_append_getElem hjn, List.foldl_append, ← hF]; show _ = crashF picks (fs4, a4) Di.now[j]; unfold crashF; simp only; rw [if_neg hwne], hg124.1.trans hg4, nx127, dj125, hlm4⟩
          · first | omega | (simp only; omega) | (simp; omega)
        ·
          refine CW.skip ?_
          refine hK41 _ _ ?_
          refine hK40 _ _ ?_
          refine CW.region ?_
          refine LR.v (Y.addi rfl rfl rfl (by omega)) (Wd.u rfl) rfl rfl ?_
          refine LR.v (Y.move rfl rfl) (Wd.u rfl) rfl rfl ?_
          refine LR.nil ?_
          refine QN.sub (hN37 (j + 1, K4, g4, fs4, a4) _ ?_ ?_) ⟨rfl, rfl, rfl, rfl, (iv (by omega)), (iv (by omega)), trivial⟩
          · exact ⟨hf, hp, (by omega), by rw [List.take_succ_eq_append_getElem hjn, List.foldl_append, ← hF]; show _ = crashF picks (fs4, a4) Di.now[j]; unfold crashF; simp only; rw [if_pos (List.eq_nil_of_length_eq_zero (by omega))], hg4, nx111, dj110, hlm4⟩
          · first | omega | (simp only; omega) | (simp; omega)
      ·
        have hje : j = Di.now.length := by omega
        rw [hje, List.take_length] at hF
        have hAe : (fs4, a4) = D.crashA picks := by rw [hF]; unfold Dk.crashA; rw [e2, ha, e4]
        refine CW.exit (hE39 (.exit 6) nofun _ _ (hE37 (.exit 6) nofun _ _ (hX36 _ _ ?_)))
        refine hK34 _ _ ?_
        refine CW.seq (fun K45 hK45 hE45 => ?_)
        refine CW.region ?_
        refine LR.v (Y.move rfl rfl) (Wd.u rfl) rfl rfl ?_
        refine LR.v (Y.move rfl rfl) (Wd.u rfl) rfl rfl ?_
        refine LR.v (Y.nilCheck rfl rfl) (Wd.u rfl) rfl rfl ?_
        refine LR.v (Y.fieldAddr hf.vb.pt rfl Tryz.runUnderlying73 rfl rfl Tryz.sizeOf3 (by decide) rfl) (Wd.u rfl) rfl rfl ?_
        refine LR.s (pd_left hf 0 rfl rfl rfl Tryz.sizeOf3 (by omega)) (Wd.u rfl) rfl (fun H28_4 r28_4 => ?_)
        obtain ⟨hf, hs28_4⟩ := r28_4
        replace hpk := hpk.upL hs28_4 (df103)
        replace hx := hx.upL hs28_4 (dj104)
        replace ows := ows.upL hs28_4 (dj105)
        replace hall := hall.upL hs28_4 (dj106)
        replace hx2 := hx2.upL hs28_4 (dj107)
        replace owp := owp.upL hs28_4 (dj108)
        replace hp := hp.upL hs28_4 (dj110)
        replace hm0 := hm0.trL hs28_4 (MIL.ofK (nx109) (by intro k hk; simp [hk]))
        have hz21 := hs28_4.size
        have hbk_hf := hf.bk
        refine LR.v (Y.nilCheck rfl rfl) (Wd.u rfl) rfl rfl ?_
        refine LR.v (Y.fieldAddr hf.vb.pt rfl Tryz.runUnderlying73 rfl rfl Tryz.sizeOf4 (by decide) rfl) (Wd.u rfl) rfl rfl ?_
        refine LR.s (pd_alive hf rfl rfl rfl rfl Tryz.sizeOf4) (Wd.u rfl) rfl (fun H28_7 r28_7 => ?_)
        obtain ⟨hf, hs28_7⟩ := r28_7
        replace hpk := hpk.upL hs28_7 (df103)
        replace hx := hx.upL hs28_7 (dj104)
        replace ows := ows.upL hs28_7 (dj105)
        replace hall := hall.upL hs28_7 (dj106)
        replace hx2 := hx2.upL hs28_7 (dj107)
        replace owp := owp.upL hs28_7 (dj108)
        replace hp := hp.upL hs28_7 (dj110)
        replace hm0 := hm0.trL hs28_7 (MIL.ofK (nx109) (by intro k hk; simp [hk]))
        have hz22 := hs28_7.size
        have hbk_hf := hf.bk
        refine LR.nil ?_
        refine hK45 _ _ ?_
        refine CW.seq (fun K46 hK46 hE46 => ?_)
        refine CW.region ?_
        refine LR.v (Y.move rfl rfl) (Wd.u rfl) rfl rfl ?_
        refine LR.v (Y.nilCheck rfl rfl) (Wd.u rfl) rfl rfl ?_
        refine LR.v (Y.fieldAddr hp.pt rfl Tryz.runUnderlying86 rfl rfl Tryz.sizeOf3 (by decide) rfl) (Wd.u rfl) rfl rfl ?_
        refine LR.v (Y.load1 (hp.pt.drop 1) rfl Tryz.isAgg3 rfl) (Wd.u rfl) rfl rfl ?_
        refine LR.v (Y.assign rfl rfl) (Wd.u rfl) rfl rfl ?_
        refine LR.nil ?_
        refine hK46 _ _ ?_
        refine CW.ret (hret .ret (.inr rfl) _ _ _ (res1 rfl rfl) ?_)
        exact ⟨_, _, by rw [← hAe], by
          have h9 : (D.crash picks) = { { { Di with fs := fs4 } with left := 0 } with dead := false } := by
            unfold Dk.crash
            rw [← hAe, ← e1]
            obtain ⟨q1, q2, q3, q4, q5, q6⟩ := hM.same
            obtain ⟨c1, c2, c3, c4, c5, c6, c7, c8, c9⟩ := Di
            simp only at q1 q2 q3 q4 q5 q6 e1 e2 e3
            subst q1 q2 q4 e3
            simp only [Dk.mk.injEq, true_and, and_true]
            rw [e2, e1]
          rw [h9]; exact hf, nx109, hm0⟩

end Go.Proofs.YtdliddjkacbggaaGreatDoor.SimP
/-
  The disk: how large it may grow, operation by operation: plain data.
-/
namespace Go.Proofs.YtdliddjkacbggaaGreatDoor.SimQ
open Go.Proofs.YtdliddjkacbggaaGreatDoor.E Go.RowKit Go.Proofs.YtdliddjkacbggaaGreatDoor.SimA Go.Proofs.YtdliddjkacbggaaGreatDoor.SimB Go.Proofs.YtdliddjkacbggaaGreatDoor.SimC Go.Proofs.YtdliddjkacbggaaGreatDoor.SimD Go.Proofs.YtdliddjkacbggaaGreatDoor.SimE Go.Proofs.YtdliddjkacbggaaGreatDoor.SimF Go.Proofs.YtdliddjkacbggaaGreatDoor.SimG Go.Proofs.YtdliddjkacbggaaGreatDoor.SimH Go.Proofs.YtdliddjkacbggaaGreatDoor.SimI Go.Proofs.YtdliddjkacbggaaGreatDoor.SimJ Go.Proofs.YtdliddjkacbggaaGreatDoor.SimK Go.Proofs.YtdliddjkacbggaaGreatDoor.SimL Go.Proofs.YtdliddjkacbggaaGreatDoor.SimM Go.Proofs.YtdliddjkacbggaaGreatDoor.SimN Go.Proofs.YtdliddjkacbggaaGreatDoor.SimP
set_option maxRecDepth 20000
set_option linter.unusedVariables false
set_option linter.unusedSimpArgs false
set_option linter.unusedSectionVars false

def Fsb (n : Nat) (x : Fdt) : Prop := x.now.length ≤ n ∧ x.stays.length ≤ n ∧ x.w.length ≤ n ∧ (∀ y ∈ x.w, y.d.length ≤ n) ∧ ∀ j, (onAll (x.w.take j) x.stays).length ≤ n
theorem Fsb.mono {n m : Nat} {x : Fdt} (h : Fsb n x) (hm : n ≤ m) : Fsb m x := ⟨Nat.le_trans h.1 hm, Nat.le_trans h.2.1 hm, Nat.le_trans h.2.2.1 hm, fun y hy => Nat.le_trans (h.2.2.2.1 y hy) hm, fun j => Nat.le_trans (h.2.2.2.2 j) hm⟩
theorem Fsb.nil (n : Nat) : Fsb n ⟨[], [], []⟩ := ⟨Nat.zero_le _, Nat.zero_le _, Nat.zero_le _, nofun, fun j => by simp [onAll]⟩
theorem Fsb.flat {n : Nat} {l : List UInt8} (h : l.length ≤ n) : Fsb n ⟨l, l, []⟩ := ⟨h, h, Nat.zero_le _, nofun, fun j => by simpa [onAll] using h⟩
/-- every name is one of these -/
def Inn (U : List Pth) (l : Nms) : Prop := ∀ q, (mget l q).isSome = true → q ∈ U
structure Bs (n : Nat) (D : Dk) : Prop where
  an : Asc D.now
  ast : Asc D.stays
  lg : D.log.length ≤ n
  op : D.ops ≤ n
  fl : D.fs.length ≤ n
  f : ∀ i, Fsb n (fget D.fs i)
  un : ∃ U : List Pth, U.length ≤ n ∧ Inn U D.now ∧ Inn U D.stays ∧ ∀ c ∈ D.log, ∀ i, c.f = some i → c.n ∈ U
  ld : ∀ c ∈ D.log, ∀ i, c.f = some i → dirP c.n = c.dir
theorem Bs.mono {n m : Nat} {D : Dk} (h : Bs n D) (hm : n ≤ m) : Bs m D := ⟨h.an, h.ast, Nat.le_trans h.lg hm, Nat.le_trans h.op hm, Nat.le_trans h.fl hm, fun i => (h.f i).mono hm, by obtain ⟨U, h1, h2⟩ := h.un; exact ⟨U, Nat.le_trans h1 hm, h2⟩, h.ld⟩
theorem usedL_le {fs : List Fdt} {n : Nat} (h : ∀ i, (fget fs i).now.length ≤ n) : ∀ l : Nms, usedL fs l ≤ l.length * n
  | [] => by simp [usedL]
  | x :: l => by
    have h1 := usedL_le h l
    have h2 := h x.2
    unfold usedL at h1 ⊢
    rw [List.map_cons, List.sum_cons, List.length_cons, Nat.add_mul]
    omega
theorem inn_len {U : List Pth} {l : Nms} (hA : Asc l) (h : Inn U l) : l.length ≤ U.length := by
  have := nodup_le hA.nodup (fun k hk => h k (isSome_iff_key.2 hk))
  rwa [List.length_map] at this
theorem Bs.bd {n : Nat} {D : Dk} (h : Bs n D) (hn : n ≤ 1073741824) : Bd 274877906944 D := by
  obtain ⟨U, h1, h2, h3, h4⟩ := h.un
  have e1 := inn_len h.an h2
  have e2 := inn_len h.ast h3
  have e3 := usedL_le (fun i => (h.f i).1) D.now
  have e4 : D.now.length * n ≤ 1073741824 * 1073741824 := Nat.mul_le_mul (by omega) hn
  exact ⟨h.an, h.ast, by unfold Dk.used; omega, by have := h.lg; omega, by have := h.op; omega, fun i => by have := (h.f i).1; omega, fun i => by have := (h.f i).2.1; omega, fun i => by have := (h.f i).2.2.1; omega, fun i y hy => by have := (h.f i).2.2.2.1 y hy; omega, by omega, by omega, by have := h.fl; omega, fun i j => by have := (h.f i).2.2.2.2 j; omega, h.ld⟩
theorem ways_bd {n : Nat} : ∀ {ws : List Wr}, (∀ y ∈ ws, y.d.length ≤ n) → (ws.map Wr.ways).sum ≤ ws.length * (2 * n + 1)
  | [], _ => by simp
  | w :: ws, h => by
    have h1 := ways_bd (ws := ws) (fun y hy => h y (List.mem_cons_of_mem _ hy))
    have h2 := h w List.mem_cons_self
    have h3 : w.ways ≤ 2 * n + 1 := by unfold Wr.ways; omega
    rw [List.map_cons, List.sum_cons, List.length_cons, Nat.add_mul]
    omega
theorem Bs.wy {n : Nat} {D : Dk} (h : Bs n D) (hn : n ≤ 536870912) (i : Nat) : waysF (fget D.fs i).w ≤ 2305843009213693952 := by
  unfold waysF
  have h1 := ways_bd (h.f i).2.2.2.1
  have h2 : (fget D.fs i).w.length * (2 * n + 1) ≤ 536870912 * 1073741825 := Nat.mul_le_mul (by have := (h.f i).2.2.1; omega) (by omega)
  omega
theorem Bs.empty (cap most : Nat) : Bs 0 (Dk.empty cap most) :=
  ⟨List.Pairwise.nil, List.Pairwise.nil, Nat.le_refl _, Nat.le_refl _, Nat.le_refl _, fun i => by show Fsb 0 (List.getD [] i _); simpa using Fsb.nil 0, ⟨[], Nat.le_refl _, nofun, nofun, nofun⟩, nofun⟩
theorem Bs.begin {n : Nat} {D : Dk} (h : Bs n D) : Bs (n + 1) D.begin.2 := by
  obtain ⟨e1, e2, e3, e4, e5, e6, e7⟩ := begin_same D
  have h := h.mono (Nat.le_succ n)
  exact ⟨by rw [e4]; exact h.an, by rw [e5]; exact h.ast, by rw [e6]; exact h.lg, by have := Bs.op ‹Bs n D›; omega, by rw [e3]; exact h.fl, by rw [e3]; exact h.f, by rw [e4, e5, e6]; exact h.un, by rw [e6]; exact h.ld⟩
theorem inn_ap {U : List Pth} {l : Nms} {c : Chg} (h : Inn U l) (hc : ∀ i, c.f = some i → c.n ∈ U) : Inn U (c.ap l) := fun q hq => by
  rw [mget_ap] at hq
  unfold Chg.at at hq
  cases hf : c.f with
  | none =>
    rw [hf] at hq
    simp only at hq
    split at hq
    · cases hq
    · exact h q hq
  | some i =>
    rw [hf] at hq
    simp only at hq
    split at hq
    · rename_i e; rw [e]; exact hc i hf
    · split at hq
      · cases hq
      · exact h q hq
theorem inn_apl {U : List Pth} : ∀ {cs : List Chg} {l : Nms}, Inn U l → (∀ c ∈ cs, ∀ i, c.f = some i → c.n ∈ U) → Inn U (apl cs l)
  | [], l, h, _ => h
  | c :: cs, l, h, hc => inn_apl (cs := cs) (inn_ap h (hc c List.mem_cons_self)) (fun d hd => hc d (List.mem_cons_of_mem _ hd))
theorem Bs.put {n : Nat} {D : Dk} (h : Bs n D) (i : Nat) {x : Fdt} (hx : Fsb n x) : Bs n (D.putF i x) :=
  ⟨h.an, h.ast, h.lg, h.op, by rw [fl_put]; exact h.fl, fun j => by
    by_cases hi : i < D.fs.length
    · by_cases e : j = i
      · subst e; rw [fget_put hi]; exact hx
      · show Fsb n ((D.fs.set i x).getD j _)
        rw [List.getD_eq_getElem?_getD, List.getElem?_set_ne (Ne.symm e), ← List.getD_eq_getElem?_getD]; exact h.f j
    · show Fsb n ((D.fs.set i x).getD j _)
      rw [List.set_eq_of_length_le (by omega)]; exact h.f j, h.un, h.ld⟩
theorem Bs.change {n : Nat} {D : Dk} (h : Bs n D) (c : Chg) (hd : ∀ i, c.f = some i → dirP c.n = c.dir) : Bs (n + 1) (D.change c) := by
  obtain ⟨U, h1, h2, h3, h4⟩ := h.un
  refine ⟨asc_ap h.an c, h.ast, by show (D.log ++ [c]).length ≤ _; have := h.lg; simp; omega, Nat.le_succ_of_le h.op, Nat.le_succ_of_le h.fl, fun i => (h.f i).mono (Nat.le_succ _), ⟨c.n :: U, by simp; omega, inn_ap (fun q hq => List.mem_cons_of_mem _ (h2 q hq)) (fun _ _ => List.mem_cons_self), fun q hq => List.mem_cons_of_mem _ (h3 q hq), fun d hd2 i hi => ?_⟩, fun d hd2 i hi => ?_⟩
  · rcases List.mem_append.1 hd2 with hd2 | hd2
    · exact List.mem_cons_of_mem _ (h4 d hd2 i hi)
    · rw [List.mem_singleton.1 hd2]; exact List.mem_cons_self
  · rcases List.mem_append.1 hd2 with hd2 | hd2
    · exact h.ld d hd2 i hi
    · rw [List.mem_singleton.1 hd2] at hi ⊢; exact hd i hi
theorem Bs.addf {n : Nat} {D : Dk} (h : Bs n D) : Bs (n + 1) ({ D with fs := D.fs ++ [⟨[], [], []⟩] } : Dk) :=
  ⟨h.an, h.ast, Nat.le_succ_of_le h.lg, Nat.le_succ_of_le h.op, by have := h.fl; simp; omega, fun i => by
    show Fsb (n + 1) ((D.fs ++ [(⟨[], [], []⟩ : Fdt)]).getD i ⟨[], [], []⟩)
    rw [List.getD_eq_getElem?_getD, List.getElem?_append]
    split
    · rw [← List.getD_eq_getElem?_getD]; exact (h.f i).mono (Nat.le_succ _)
    · by_cases e : i - D.fs.length = 0
      · rw [e]; exact Fsb.nil _
      · rw [List.getElem?_eq_none (by simp; omega)]; exact Fsb.nil _, (h.mono (Nat.le_succ _)).un, h.ld⟩
theorem Bs.make {n : Nat} {D : Dk} (h : Bs n D) (p : Pth) : Bs (n + 2) (D.make p).1 := by
  unfold Dk.make
  split
  · exact h.mono (by omega)
  · refine h.addf.change _ (fun i _ => ?_)
    simp [Chg.dir]
theorem Fsb.laid {n : Nat} {x : Fdt} (h : Fsb n x) (w : Wr) : Fsb (n + w.d.length + 1) ⟨w.on x.now w.d.length, x.stays, x.w ++ [w]⟩ := by
  obtain ⟨h1, h2, h3, h4, h5⟩ := h
  have h6 := on_le w x.now w.d.length
  refine ⟨by show (w.on x.now w.d.length).length ≤ _; omega, by show x.stays.length ≤ _; omega, by show (x.w ++ [w]).length ≤ _; simp; omega, fun y hy => ?_, fun j => ?_⟩
  · rcases List.mem_append.1 hy with hy | hy
    · have := h4 y hy; omega
    · rw [List.mem_singleton.1 hy]; omega
  · show (onAll ((x.w ++ [w]).take j) x.stays).length ≤ _
    rw [List.take_append]
    by_cases hj : j ≤ x.w.length
    · rw [show j - x.w.length = 0 by omega, List.take_zero, List.append_nil]; have := h5 j; omega
    · obtain ⟨k, hk⟩ : ∃ k, j - x.w.length = k + 1 := ⟨j - x.w.length - 1, by omega⟩
      rw [hk]
      have e : onAll (x.w.take j ++ [w].take (k + 1)) x.stays = w.on (onAll (x.w.take j) x.stays) w.d.length := by
        unfold onAll; rw [List.foldl_append, List.take_succ_cons, List.take_nil]; rfl
      rw [e]
      have := on_le w (onAll (x.w.take j) x.stays) w.d.length
      have := h5 j
      omega
theorem Bs.write {n : Nat} {D : Dk} (h : Bs n D) (p : Pth) (w : Wr) : Bs (n + w.d.length + 3) (D.write p w) := by
  unfold Dk.write
  have h1 := h.make p
  exact (h1.mono (by omega)).put _ (((h1.f _).laid w).mono (by omega))
theorem Bs.lay {n : Nat} {D : Dk} (h : Bs n D) (p : Pth) (w : Wr) : Bs (n + w.d.length + 4) (D.lay p w).2 := by
  unfold Dk.lay
  have h1 := h.begin
  simp only
  split
  · exact h1.mono (by omega)
  · simp only; split
    · exact (h1.write p w).mono (by omega)
    · exact h1.mono (by omega)
theorem Bs.sync {n : Nat} {D : Dk} (h : Bs n D) (p : Pth) : Bs (n + 1) (D.sync p).2 := by
  unfold Dk.sync
  have h1 := h.begin
  simp only
  split
  · exact h1
  · simp only; split
    · exact h1.put _ (Fsb.flat (h1.f _).1)
    · exact h1
theorem Bs.rename {n : Nat} {D : Dk} (h : Bs n D) (a b : Pth) : Bs (n + 2) (D.rename a b).2 := by
  unfold Dk.rename
  have h1 := h.begin
  simp only
  split
  · exact h1.mono (by omega)
  · simp only; split
    · rename_i h2
      refine h1.change _ (fun i _ => ?_)
      have h3 : nameB a = true ∧ dirP a = dirP b := by
        have := h2.1
        unfold Dk.renE at this
        split at this
        · cases this
        · rename_i h4; split at this
          · cases this
          · rename_i h5; exact ⟨by cases hn : nameB a with
              | true => rfl
              | false => exact absurd (.inl hn) h4, by simpa using h5⟩
      unfold Chg.dir
      rw [if_neg (name_ne h3.1)]; exact h3.2.symm
    · exact h1.mono (by omega)
theorem Bs.syncDir {n : Nat} {D : Dk} (h : Bs n D) (p : Pth) : Bs (n + 1) (D.syncDir p).2 := by
  unfold Dk.syncDir
  have h1 := h.begin
  simp only
  split
  · exact h1
  · simp only; split
    · obtain ⟨U, e1, e2, e3, e4⟩ := h1.un
      refine ⟨h1.an, asc_merge h1.ast _, Nat.le_trans (List.length_filter_le _ _) h1.lg, h1.op, h1.fl, h1.f, ⟨U, e1, e2, fun q hq => ?_, fun c hc => e4 c (List.mem_filter.1 hc).1⟩, fun c hc => h1.ld c (List.mem_filter.1 hc).1⟩
      have hq : (mget (merge D.begin.2.now D.begin.2.stays p) q).isSome = true := hq
      rw [mget_merge h1.an] at hq
      split at hq
      · exact e2 q hq
      · exact e3 q hq
    · exact h1
theorem Bs.stop {n : Nat} {D : Dk} (h : Bs n D) (k : Nat) : Bs n (D.stop k) := ⟨h.an, h.ast, h.lg, h.op, h.fl, h.f, h.un, h.ld⟩
theorem part_len (w : Wr) (b : List UInt8) (k : Nat) (hk : k < w.ways) : (w.part b k).length ≤ (w.on b w.d.length).length := by
  unfold Wr.part
  have h := on_len w b
  have h2 : ∀ m, m ≤ w.d.length → (w.on b m).length = (if w.b = true then b.length else 0) + m := fun m hm => by
    unfold Wr.on
    rw [List.length_append, List.length_take, Nat.min_eq_left hm]; split <;> simp
  unfold Wr.ways at hk
  split
  · rw [h2 _ (Nat.min_le_right _ _), h]; omega
  · rw [List.length_append, h2 _ (by omega), List.length_replicate, h]; omega
theorem wayW_len {n : Nat} : ∀ (ws : List Wr) (b : List UInt8) (k : Nat), (∀ j, (onAll (ws.take j) b).length ≤ n) → (wayW ws b k).length ≤ n
  | [], b, k, h => by simpa [onAll, wayW] using h 0
  | w :: ws, b, k, h => by
    have h1 : (w.on b w.d.length).length ≤ n := by simpa [onAll] using h 1
    unfold wayW
    split
    · simpa [onAll] using h 0
    · split
      · exact Nat.le_trans (part_len w b (k - 1) (by unfold Wr.ways at *; omega)) h1
      · exact wayW_len ws _ _ (fun j => by simpa [onAll] using h (j + 1))
theorem crashD_in {U : List Pth} {picks : List Int} {D : Dk} (hU : ∀ c ∈ D.log, ∀ i, c.f = some i → c.n ∈ U) : ∀ (L : List Pth) (s : Nms × Nat), Inn U s.1 → Asc s.1 → Inn U (L.foldl (crashD picks D) s).1 ∧ Asc (L.foldl (crashD picks D) s).1
  | [], s, h, ha => ⟨h, ha⟩
  | x :: L, s, h, ha => by
    rw [List.foldl_cons]
    refine crashD_in hU L _ ?_ ?_
    · rw [crashD_st]; exact inn_apl h (fun c hc => hU c (chgs_mem (List.mem_of_mem_take hc)).1)
    · rw [crashD_st]; exact asc_apl ha _
theorem crashF_in {n : Nat} (picks : List Int) : ∀ (L : Nms) (s : List Fdt × Nat), (∀ i, Fsb n (fget s.1 i)) → ∀ i, Fsb n (fget (L.foldl (crashF picks) s).1 i)
  | [], s, h => h
  | x :: L, s, h => by
    rw [List.foldl_cons]
    refine crashF_in picks L _ (fun i => ?_)
    unfold crashF
    simp only
    split
    · exact h i
    · have h9 := wayW_len (n := n) (fget s.1 x.2).w (fget s.1 x.2).stays (pickN picks s.2 (waysF (fget s.1 x.2).w)) (h x.2).2.2.2.2
      show Fsb n ((s.1.set x.2 _).getD i _)
      by_cases hi : x.2 < s.1.length
      · by_cases e : i = x.2
        · rw [e, List.getD_eq_getElem?_getD, List.getElem?_set_self hi]; exact Fsb.flat h9
        · rw [List.getD_eq_getElem?_getD, List.getElem?_set_ne (Ne.symm e), ← List.getD_eq_getElem?_getD]; exact h i
      · rw [List.set_eq_of_length_le (by omega)]; exact h i
theorem Bs.crash {n : Nat} {D : Dk} (h : Bs n D) (picks : List Int) : Bs n (D.crash picks) := by
  obtain ⟨U, h1, h2, h3, h4⟩ := h.un
  obtain ⟨c1, c2⟩ := crashD_in (picks := picks) h4 D.dirty (D.stays, 0) h3 h.ast
  exact ⟨c2, c2, Nat.zero_le _, h.op, by show (D.crashA picks).1.length ≤ n; unfold Dk.crashA; rw [crashF_len]; exact h.fl, crashF_in picks _ _ h.f, ⟨U, h1, c1, c1, nofun⟩, nofun⟩

end Go.Proofs.YtdliddjkacbggaaGreatDoor.SimQ
/-
  The disk: the statements' known example, and their helpers.
-/
namespace Go.Proofs.YtdliddjkacbggaaGreatDoor.SimR
open Go.Proofs.YtdliddjkacbggaaGreatDoor.E Go.RowKit Go.Proofs.YtdliddjkacbggaaGreatDoor.SimA Go.Proofs.YtdliddjkacbggaaGreatDoor.SimB Go.Proofs.YtdliddjkacbggaaGreatDoor.SimC Go.Proofs.YtdliddjkacbggaaGreatDoor.SimD Go.Proofs.YtdliddjkacbggaaGreatDoor.SimE Go.Proofs.YtdliddjkacbggaaGreatDoor.SimF Go.Proofs.YtdliddjkacbggaaGreatDoor.SimG Go.Proofs.YtdliddjkacbggaaGreatDoor.SimH Go.Proofs.YtdliddjkacbggaaGreatDoor.SimI Go.Proofs.YtdliddjkacbggaaGreatDoor.SimJ Go.Proofs.YtdliddjkacbggaaGreatDoor.SimK Go.Proofs.YtdliddjkacbggaaGreatDoor.SimL Go.Proofs.YtdliddjkacbggaaGreatDoor.SimM Go.Proofs.YtdliddjkacbggaaGreatDoor.SimN Go.Proofs.YtdliddjkacbggaaGreatDoor.SimP Go.Proofs.YtdliddjkacbggaaGreatDoor.SimQ
set_option maxRecDepth 20000
set_option linter.unusedVariables false
set_option linter.unusedSimpArgs false
set_option linter.unusedSectionVars false
theorem mx_of {W : World} (h : W.ShapedOpen Tryz.prog) : ∃ m, MX m W.heap ∧ BF (fun b => b = 0) W.heap.size := by
  obtain ⟨m, hm⟩ := cell_of_shapedOpen_int (g := 0) (t := 3) (zero := #[.int .i64 0]) h (by decide) (by kernel_rfl) rfl (by kernel_rfl) (by kernel_rfl) Tryz.underlying3
  have hc : E.cell W.heap ⟨0, 0, none⟩ = some (.int .i64 m) := by rw [← (At.cell (w0 := W) ⟨rfl, rfl, rfl, rfl, Nat.le_refl _⟩ _)]; exact hm
  refine ⟨m, ⟨⟨rfl, fun j c hj => ?_⟩, rfl⟩, fun b hb => ?_⟩
  · cases j with
    | zero => cases hj; exact hc
    | succ j => cases hj
  · have := World.block_lt_of_cell? W _ hm; simp only at hb; omega

section
variable {P : Program} {w0 : World} {n : Nat} {l : FL} {H : Heap} {o : Oper}
end


theorem DFL.of {k : Nat} {K : List Nat} (d : DL k K) : DFL (fun b => b + 1 = k) K := fun j hj => DF.of (d j hj)
def wiN (a : Int) (n : Nat) : Nat := (a % (n : Int)).toNat
theorem wiN_lt {a : Int} {n : Nat} (h : 0 < n) : wiN a n < n := by
  unfold wiN
  have := Int.emod_lt_of_pos a (show (0 : Int) < n by omega)
  have := Int.emod_nonneg a (show (n : Int) ≠ 0 by omega)
  omega
theorem wiN_neg {a : Int} {n : Nat} (h : 0 < n) (h2 : a.tmod n < 0) : ((wiN a n : Nat) : Int) = a.tmod n + n := by
  unfold wiN
  have h3 := Int.emod_nonneg a (show (n : Int) ≠ 0 by omega)
  rw [Int.toNat_of_nonneg h3]
  rw [Int.tmod_eq_emod] at h2 ⊢
  split at h2
  · omega
  · rename_i h4; rw [if_neg h4]; simp
theorem wiN_pos {a : Int} {n : Nat} (h : 0 < n) (h2 : ¬ a.tmod n < 0) : ((wiN a n : Nat) : Int) = a.tmod n := by
  unfold wiN
  have h3 := Int.emod_nonneg a (show (n : Int) ≠ 0 by omega)
  have h5 := Int.emod_lt_of_pos a (show (0 : Int) < n by omega)
  rw [Int.toNat_of_nonneg h3]
  rw [Int.tmod_eq_emod] at h2 ⊢
  split at h2
  · rename_i h4; rw [if_pos h4]; simp
  · rename_i h4
    simp only [Int.natAbs_natCast] at h2
    omega
def paths : List Pth := [[97], [98], [100, 47, 97], [100, 47, 98], [100, 47, 101, 47, 97]]
end Go.Proofs.YtdliddjkacbggaaGreatDoor.SimR
