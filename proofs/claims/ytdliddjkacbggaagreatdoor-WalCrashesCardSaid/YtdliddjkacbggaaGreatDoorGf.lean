/-
  Contracts of functions of the program, and plain laws: put together of several texts.
-/
import Derived.Test.YtdliddjkacbggaaGreatDoorGc
import Derived.Test.YtdliddjkacbggaaGreatDoorGe
import Derived.Test.YtdliddjkacbggaaGreatDoorGb
/-
  A journal on a disk: steps one behind the other; the contracts of the steps.
-/
namespace Go.Proofs.YtdliddjkacbggaaGreatDoor.WalD
open Go.Proofs.YtdliddjkacbggaaGreatDoor.E Go.RowKit Go.Proofs.YtdliddjkacbggaaGreatDoor.SimA Go.Proofs.YtdliddjkacbggaaGreatDoor.SimB Go.Proofs.YtdliddjkacbggaaGreatDoor.SimC Go.Proofs.YtdliddjkacbggaaGreatDoor.SimD Go.Proofs.YtdliddjkacbggaaGreatDoor.SimE Go.Proofs.YtdliddjkacbggaaGreatDoor.SimF Go.Proofs.YtdliddjkacbggaaGreatDoor.SimG Go.Proofs.YtdliddjkacbggaaGreatDoor.SimH Go.Proofs.YtdliddjkacbggaaGreatDoor.SimI Go.Proofs.YtdliddjkacbggaaGreatDoor.SimQ Go.Proofs.YtdliddjkacbggaaGreatDoor.SimR Go.Proofs.YtdliddjkacbggaaGreatDoor.WalA Go.Proofs.YtdliddjkacbggaaGreatDoor.WalB Go.Proofs.YtdliddjkacbggaaGreatDoor.WalC
set_option maxRecDepth 20000
set_option linter.unusedVariables false
set_option linter.unusedSimpArgs false
set_option linter.unusedSectionVars false
set_option maxRecDepth 100000 in
theorem inf34 : Inf Tryz.prog 34 5 1 1 := ⟨Tryz.underlying34, _, _, rfl, rfl, rfl, rfl, rfl⟩

section
variable {P : Program} {w0 : World} {n : Nat} {l : FL} {H H1 : Heap} {o : Oper}
/-- a field's address, whatever is in the heap now -/
theorem Y.fieldAddrX {x : Operand} {s : TypeId} {k off sz2 : Nat} {ad : Addr} {cs : List Value} {fs : Array Field} {fd : Field} (h : Pt H1 ad cs) (ho : o.op = .fieldAddr s x k) (hu : ∀ w, (underlying s).run P w = .ok (.struct fs) w) (hk : fs[k]? = some fd) (hof : fd.offset = off)
    (hsz : ∀ w, (sizeOf fd.type).run P w = .ok sz2 w) (hz : sz2 ≠ 0) (hx : opv l x = some (.pointer (some ad))) : Y P w0 n l H o (.pointer (some (ad.add off))) := by
  intro ac w hf ha
  simp [execOp, ho, hf.eval hx, Instr.fieldAt, Instr.sureAddr, fieldPlace, hu, hk, hof, hsz, hz]
end
def newP (p : Pth) : Pth := p ++ [46, 110, 101, 119]
abbrev Stp := Dk → Nat × Dk
/-- steps one behind the other, up to the first one that fails -/
def runD : List Stp → Dk → Nat × Dk
  | [], D => (0, D)
  | f :: fs, D => if (f D).1 = 0 then runD fs (f D).2 else f D
def stp (Fs : List Stp) (i : Nat) : Stp := Fs.getD i (fun D => (0, D))
theorem runD_app : ∀ (a b : List Stp) (D : Dk), runD (a ++ b) D = if (runD a D).1 = 0 then runD b (runD a D).2 else runD a D
  | [], b, D => by simp [runD]
  | f :: a, b, D => by
    rw [List.cons_append, runD, runD]
    by_cases h : (f D).1 = 0
    · rw [if_pos h, if_pos h, runD_app a b]
    · rw [if_neg h, if_neg h, if_neg h]
theorem runD_one (f : Stp) (D : Dk) : runD [f] D = f D := by
  unfold runD runD
  split
  · rename_i h; exact Prod.ext h.symm rfl
  · rfl
theorem runD_take {Fs : List Stp} {i : Nat} {D : Dk} (h : i < Fs.length) (h0 : (runD (Fs.take i) D).1 = 0) : runD (Fs.take (i + 1)) D = stp Fs i (runD (Fs.take i) D).2 := by
  rw [List.take_succ_eq_append_getElem h, runD_app, if_pos h0, runD_one]
  unfold stp; rw [List.getD_eq_getElem?_getD, List.getElem?_eq_getElem h]; rfl
theorem runD_stop {Fs : List Stp} {i : Nat} {D : Dk} (h : (runD (Fs.take i) D).1 ≠ 0) : runD Fs D = runD (Fs.take i) D := by
  conv => lhs; rw [← List.take_append_drop i Fs]
  rw [runD_app, if_neg h]
theorem bs_run {k : Nat} : ∀ {fs : List Stp} {N : Nat} {D : Dk}, (∀ f ∈ fs, ∀ N D, Bs N D → Bs (N + k) (f D).2) → Bs N D → Bs (N + k * fs.length) (runD fs D).2
  | [], N, D, _, h => by simpa [runD] using h
  | f :: fs, N, D, hf, h => by
    have h1 := hf f List.mem_cons_self N D h
    unfold runD
    split
    · have := bs_run (fs := fs) (fun g hg => hf g (List.mem_cons_of_mem _ hg)) h1
      rw [List.length_cons]
      exact this.mono (by rw [Nat.mul_add]; omega)
    · rw [List.length_cons]; exact h1.mono (by rw [Nat.mul_add]; omega)
theorem bs_runT {k : Nat} {fs : List Stp} {N : Nat} {D : Dk} (i : Nat) (hf : ∀ f ∈ fs, ∀ N D, Bs N D → Bs (N + k) (f D).2) (h : Bs N D) : Bs (N + k * fs.length) (runD (fs.take i) D).2 := by
  have := bs_run (fs := fs.take i) (fun f hm => hf f (List.mem_of_mem_take hm)) h
  exact this.mono (Nat.add_le_add_left (Nat.mul_le_mul_left _ (by rw [List.length_take]; omega)) _)
/-- what makes a journal anew -/
def frS (p : Pth) (l : List Rec) : List Stp := [fun D => D.lay (newP p) ⟨false, encW l⟩, fun D => D.sync (newP p), fun D => D.rename (newP p) p, fun D => D.syncDir (dirP p)]
/-- what puts a record behind the others -/
def apS (p : Pth) (n : Nat) (r : Rec) : List Stp := [fun D => D.lay p ⟨true, layW n r⟩, fun D => D.sync p, fun D => D.lay p ⟨true, [67]⟩, fun D => D.sync p]
theorem frS_bs (p : Pth) (l : List Rec) : ∀ f ∈ frS p l, ∀ N D, Bs N D → Bs (N + ((encW l).length + 20)) (f D).2 := by
  intro f hf N D h
  simp only [frS, List.mem_cons, List.not_mem_nil, or_false] at hf
  rcases hf with rfl | rfl | rfl | rfl
  · exact (h.lay (newP p) ⟨false, encW l⟩).mono (by simp only; omega)
  · exact (h.sync _).mono (by omega)
  · exact (h.rename _ _).mono (by omega)
  · exact (h.syncDir _).mono (by omega)
theorem apS_bs (p : Pth) (n : Nat) (r : Rec) : ∀ f ∈ apS p n r, ∀ N D, Bs N D → Bs (N + (r.length + 20)) (f D).2 := by
  intro f hf N D h
  simp only [apS, List.mem_cons, List.not_mem_nil, or_false] at hf
  rcases hf with rfl | rfl | rfl | rfl
  · exact (h.lay p ⟨true, layW n r⟩).mono (by simp only [layW_len]; omega)
  · exact (h.sync _).mono (by omega)
  · exact (h.lay p ⟨true, [67]⟩).mono (by simp only [List.length_singleton]; omega)
  · exact (h.sync _).mono (by omega)
def freshD (D : Dk) (p : Pth) (l : List Rec) : Nat × Dk := runD (frS p l) D
theorem bs_fresh {N : Nat} {D : Dk} (h : Bs N D) (p : Pth) (l : List Rec) : Bs (N + 4 * ((encW l).length + 20)) (freshD D p l).2 := (bs_run (frS_bs p l) h).mono (by simp [frS]; omega)
theorem dirP_le (p : Pth) : (dirP p).length ≤ p.length := by
  unfold dirP headP; split
  · exact List.length_take_le' _ _
  · exact Nat.zero_le _
theorem newP_len (p : Pth) : (newP p).length = p.length + 4 := by simp [newP]
/-! ### a function value that does a step -/
abbrev FnV := Nat × List Value
abbrev fFn (x : FnV) : List Value := [.func (.func x.1) #[] x.2.toArray]
theorem fFn_len (x : FnV) : (fFn x).length = 1 := rfl
theorem fFn_one (x : FnV) : ∀ u ∈ fFn x, u.oneCell' = true := by intro u hu; simp only [List.mem_singleton] at hu; subst hu; rfl
def CloD (w0 : World) (b : Nat) (f : Stp) (v : Value) (K : List Nat) (H : Heap) (D : Dk) : Prop :=
  Clo Tryz.prog w0 v [] H (fun r H2 => ∃ (K2 : List Nat) (g2 : Gh), r = .int .i64 ((f D).1 : Int) ∧ PDk K2 g2 H2 b (f D).2 ∧ NxK K H.size K2 ∧ Mo (Ms K) H H2)

theorem first_ct (K : List Nat) (g : Gh) (b : Nat) (D : Dk) (v : Value) (l : List FnV) (Fs : List Stp) (F : Nat → Prop) (w0 : World) (H0 : Heap)
    (hf : PDk K g H0 b D) (hl : Rd F H0 fFn 1 v l) (bf_hl : BF F H0.size) (dfl : DFL F K) (hll : l.length = Fs.length) (hst : ∀ (i : Nat) (h : i < l.length) (K' : List Nat) (g' : Gh) (H' : Heap), PDk K' g' H' b (runD (Fs.take i) D).2 → NxK K H0.size K' → Mo (Ms K) H0 H' → CloD w0 b (stp Fs i) (.func (.func l[i].1) #[] l[i].2.toArray) K' H' (runD (Fs.take i) D).2) :
    Ct Tryz.prog w0 31 #[v] H0 (fun r H2 => ∃ K2 : List Nat, ∃ g2 : Gh, r = .int .i64 ((runD Fs D).1 : Int) ∧ (PDk K2 g2 H2 b (runD Fs D).2) ∧ (NxK K H0.size K2) ∧ Mo (Ms K) H0 H2) := by
  refine Ct.enter (args := [v]) Tryz.func31 rfl rfl rfl ?_
  intro Q0 hret
  have hm0 : Mo (Ms K) H0 H0 := Mo.refl _ _
  have nx_hm0_hf := NxK.refl K H0.size
  have hbk_hf := hf.bk
  have hlm := hl.len
  refine CW.seq (fun K1 hK1 hE1 => ?_)
  refine CW.region ?_
  refine LR.v (Y.assign rfl rfl) (Wd.u rfl) rfl rfl ?_
  refine LR.nil ?_
  refine hK1 _ _ ?_
  refine CW.seq (fun K2 hK2 hE2 => ?_)
  refine CW.seq (fun K3 hK3 hE3 => ?_)
  refine CW.region ?_
  refine LR.v (Y.move rfl rfl) (Wd.u rfl) rfl rfl ?_
  refine LR.v (Y.len hl rfl Tryz.runUnderlying146 rfl) (Wd.u rfl) rfl rfl ?_
  refine LR.v (Y.move rfl rfl) (Wd.u rfl) rfl rfl ?_
  refine LR.nil ?_
  refine hK3 _ _ ?_
  refine CW.block (fun K4 hK4 hX4 hE4 => ?_)
  refine CW.loop (fun (s_ : (Nat) × (List Nat) × (Gh)) => match s_ with | (i, Ki, gi) => [(6, v), (7, .int .i64 (l.length : Int)), (8, .int .i64 (i : Int))])
    (fun (s_ : (Nat) × (List Nat) × (Gh)) (H : Heap) => match s_ with | (i, Ki, gi) => (PDk Ki gi H b (runD (Fs.take i) D).2) ∧ (i ≤ l.length) ∧ ((runD (Fs.take i) D).1 = 0) ∧ (NxK K H0.size Ki) ∧ Mo (Ms K) H0 H)
    (fun (s_ : (Nat) × (List Nat) × (Gh)) => match s_ with | (i, Ki, gi) => l.length - i) (0, K, g) ⟨rfl, rfl, rfl, trivial⟩ ?_ ?_
  ·
    exact ⟨hf, (by omega), rfl, NxK.refl _ _, Mo.refl _ _⟩
  rintro ⟨i, Ki, gi⟩ HL1 hI1 K5 hN5 hE5
  obtain ⟨hf, hi, h0, nxl_hf, hlm1⟩ := hI1
  have df1 := DFL.appK (dfl) (bf_hl.mono hm0.size) nxl_hf
  have nx2 : NxK K H0.size Ki := NxK.tr (nx_hm0_hf) nxl_hf hm0.size
  replace hl := hl.upL hlm1 (dfl)
  replace hm0 := hm0.trL hlm1 (MIL.ofK (nx_hm0_hf) (by intro k hk; simp [hk]))
  have hz1 := hlm1.size
  have hbk_hf := hf.bk
  have nx3 := nxl_hf
  refine CW.seq (fun K6 hK6 hE6 => ?_)
  refine CW.region ?_
  refine LR.v (Y.lss rfl rfl rfl) (Wd.u rfl) rfl rfl ?_
  refine LR.nil ?_
  refine hK6 _ _ ?_
  refine CW.seq (fun K7 hK7 hE7 => ?_)
  refine CW.condp rfl (fun c9 => ?_) (fun c9 => ?_)
  ·
    have hil : i < l.length := by omega
    have htk := runD_take (Fs := Fs) (D := D) (i := i) (by omega) h0
    refine CW.skip ?_
    refine hK7 _ _ ?_
    refine CW.seq (fun K8 hK8 hE8 => ?_)
    refine CW.block (fun K9 hK9 hX9 hE9 => ?_)
    refine CW.seq (fun K10 hK10 hE10 => ?_)
    refine CW.region ?_
    refine LR.e (g := fun ad => .pointer (some ad)) (Y.indexAddrF hl (i) rfl Tryz.runUnderlying146 Tryz.sizeOf79 rfl rfl (by first | rfl | omega) (by first | omega | (simp; omega) | (simp; done))) (Wd.u rfl) rfl rfl (fun ad10 pt10 => ?_)
    have bf_pt10 := bf_hl
    refine LR.v (Y.load1 pt10.pt rfl Tryz.isAgg79 rfl) (Wd.u rfl) rfl rfl ?_
    refine LR.v (Y.assign rfl rfl) (Wd.u rfl) rfl rfl ?_
    refine LR.nil ?_
    refine hK10 _ _ ?_
    refine CW.seq (fun K11 hK11 hE11 => ?_)
    refine CW.region ?_
    refine LR.v (Y.move rfl rfl) (Wd.u rfl) rfl rfl ?_
    refine LR.calld rfl rfl rfl (Wd.u rfl) rfl rfl (hst i hil Ki gi _ hf (nx2) hm0) (fun v13 H13 r13 => ?_)
    have ql4 := hf.bk
    obtain ⟨K13, g13, rfl, hf, hkd13, hs13⟩ := r13
    have df5 := DFL.appK (df1) (bf_hl.mono hm0.size) hkd13
    have nx6 : NxK K H0.size K13 := NxK.tr (nx2) hkd13 hm0.size
    have nx7 : NxK K H0.size K13 := NxK.tr (nx3) hkd13 hlm1.size
    replace hl := hl.upL hs13 (df1)
    replace hm0 := hm0.trL hs13 (MIL.ofK (nx2) (by intro k hk; simp [hk]))
    replace hlm1 := hlm1.trL hs13 (MIL.ofK (nx3) (by intro k hk; simp [hk]))
    have hz2 := hs13.size
    have hbk_hf := hf.bk
    refine LR.v (Y.assign rfl rfl) (Wd.u rfl) rfl rfl ?_
    refine LR.nil ?_
    refine hK11 _ _ ?_
    refine CW.seq (fun K12 hK12 hE12 => ?_)
    refine CW.region ?_
    refine LR.v (Y.move rfl rfl) (Wd.u rfl) rfl rfl ?_
    refine LR.v (Y.neq rfl rfl rfl) (Wd.u rfl) rfl rfl ?_
    refine LR.nil ?_
    refine hK12 _ _ ?_
    refine CW.condp rfl (fun c15 => ?_) (fun c15 => ?_)
    ·
      have hne : (runD (Fs.take (i + 1)) D).1 ≠ 0 := by rw [htk]; omega
      have hst2 := runD_stop hne
      rw [htk] at hst2
      refine CW.seq (fun K13 hK13 hE13 => ?_)
      refine CW.region ?_
      refine LR.v (Y.move rfl rfl) (Wd.u rfl) rfl rfl ?_
      refine LR.v (Y.assign rfl rfl) (Wd.u rfl) rfl rfl ?_
      refine LR.nil ?_
      refine hK13 _ _ ?_
      refine CW.ret (hE9 .ret nofun (by simp) _ _ (hE8 .ret nofun _ _ (hE5 .ret nofun _ _ (hE4 .ret nofun (by simp) _ _ (hE2 .ret nofun _ _ (hret .ret (.inr rfl) _ _ _ (res1 rfl rfl) ?_))))))
      exact ⟨_, _, by rw [hst2], by rw [hst2]; exact hf, nx6, hm0⟩
    ·
      refine CW.skip ?_
      refine hK9 _ _ ?_
      refine hK8 _ _ ?_
      refine CW.region ?_
      refine LR.v (Y.addi rfl rfl rfl (by omega)) (Wd.u rfl) rfl rfl ?_
      refine LR.v (Y.move rfl rfl) (Wd.u rfl) rfl rfl ?_
      refine LR.nil ?_
      refine QN.sub (hN5 (i + 1, K13, g13) _ ?_ ?_) ⟨rfl, (iv (by omega)), (iv (by omega)), trivial⟩
      · exact ⟨by rw [htk]; exact hf, (by omega), by rw [htk]; omega, nx7, hlm1⟩
      · first | omega | (simp only; omega) | (simp; omega)
  ·
    refine CW.exit (hE7 (.exit 0) nofun _ _ (hE5 (.exit 0) nofun _ _ (hX4 _ _ ?_)))
    refine hK2 _ _ ?_
    refine CW.seq (fun K14 hK14 hE14 => ?_)
    refine CW.region ?_
    refine LR.v (Y.assign rfl rfl) (Wd.u rfl) rfl rfl ?_
    refine LR.nil ?_
    refine hK14 _ _ ?_
    refine CW.ret (hret .ret (.inr rfl) _ _ _ (res1 rfl rfl) ?_)
    have hil : i = Fs.length := by omega
    rw [hil, List.take_length] at hf h0
    exact ⟨_, _, by rw [h0]; rfl, hf, nx2, hm0⟩


/-- a journal's place in memory, as a step sees it -/
structure LgS (K : List Nat) (H : Heap) (mx_ : Int) (b c lb : Nat) (p : Pth) (n : Nat) (br : Bool) : Prop where
  mx : MX mx_ H
  bmx : BF (fun b => b = 0) H.size
  dmx : DFL (fun b => b = 0) K
  cv : Var 30 H c [ptr lb]
  lg : Var 76 H lb [ptr b, Str p, .int .i64 (n : Int), .bool br]
  dc : DL (c + 1) K
  dl : DL (lb + 1) K
theorem LgS.up {K K2 : List Nat} {H H2 : Heap} {mx_ : Int} {b c lb n : Nat} {p : Pth} {br : Bool} (h : LgS K H mx_ b c lb p n br) (s : Mo (Ms K) H H2) (x : NxK K H.size K2) : LgS K2 H2 mx_ b c lb p n br :=
  ⟨h.mx.upL s h.dmx, fun b hb => by have := h.bmx b hb; have := s.size; omega, DFL.appK h.dmx h.bmx x, h.cv.upL s h.dc, h.lg.upL s h.dl, DL.appK h.dc h.cv.lt x, DL.appK h.dl h.lg.lt x⟩
/-- a row that a step sees -/
structure RwS {α : Type} (K : List Nat) (F : Nat → Prop) (H : Heap) (f : α → List Value) (v : Value) (l : List α) : Prop where
  rd : Rd F H f 1 v l
  bf : BF F H.size
  df : DFL F K
theorem RwS.up {α : Type} {K K2 : List Nat} {F : Nat → Prop} {H H2 : Heap} {f : α → List Value} {v : Value} {l : List α} (h : RwS K F H f v l) (s : Mo (Ms K) H H2) (x : NxK K H.size K2) : RwS K2 F H2 f v l :=
  ⟨h.rd.upL s h.df, fun b hb => by have := h.bf b hb; have := s.size; omega, DFL.appK h.df h.bf x⟩
structure VaS (K : List Nat) (H : Heap) (e : TypeId) (c : Nat) (cs : List Value) : Prop where
  v : Var e H c cs
  d : DL (c + 1) K
theorem VaS.up {K K2 : List Nat} {H H2 : Heap} {e : TypeId} {c : Nat} {cs : List Value} (h : VaS K H e c cs) (s : Mo (Ms K) H H2) (x : NxK K H.size K2) : VaS K2 H2 e c cs := ⟨h.v.upL s h.d, DL.appK h.d h.v.lt x⟩

set_option maxHeartbeats 2000000 in
theorem async_ct (mx_ : Int) (K : List Nat) (g : Gh) (b : Nat) (D : Dk) (c lb : Nat) (p : Pth) (n : Nat) (br : Bool) (w0 : World) (H0 : Heap)
    (hf : PDk K g H0 b D) (mx : MX mx_ H0) (bf_mx : BF (fun b => b = 0) H0.size) (dmx : DFL (fun b => b = 0) K) (hc : Var 30 H0 c [ptr lb]) (hlg : Var 76 H0 lb [ptr b, Str p, .int .i64 (n : Int), .bool br]) (dc : DL (c + 1) K) (dl : DL (lb + 1) K) (hl : p.length ≤ 4294967280) (hB : Bd 274877906944 D) :
    Ct Tryz.prog w0 29 #[ptr c] H0 (fun r H2 => ∃ K2 : List Nat, ∃ g2 : Gh, r = .int .i64 ((D.sync p).1 : Int) ∧ (PDk K2 g2 H2 b (D.sync p).2) ∧ (NxK K H0.size K2) ∧ Mo (Ms K) H0 H2) := by
  refine Ct.enter (args := [ptr c]) Tryz.func29 rfl rfl rfl ?_
  intro Q0 hret
  have hm0 : Mo (Ms K) H0 H0 := Mo.refl _ _
  have nx_hm0_hf := NxK.refl K H0.size
  have hbk_hf := hf.bk
  have nx_hm0_hc := Nx.refl (c + 1) H0.size
  have hlt_hc := hc.lt
  have nx_hm0_hlg := Nx.refl (lb + 1) H0.size
  have hlt_hlg := hlg.lt
  refine CW.seq (fun K1 hK1 hE1 => ?_)
  refine CW.region ?_
  refine LR.v (Y.assign rfl rfl) (Wd.u rfl) rfl rfl ?_
  refine LR.nil ?_
  refine hK1 _ _ ?_
  refine CW.seq (fun K2 hK2 hE2 => ?_)
  refine CW.region_tail 8 rfl (by kernel_rfl) (fun T1 hT1 => ?_)
  refine LR.v (Y.load1 hc.pt rfl Tryz.isAgg30 rfl) (Wd.u rfl) rfl rfl ?_
  refine LR.v (Y.nilCheck rfl rfl) (Wd.u rfl) rfl rfl ?_
  refine LR.v (Y.fieldAddr hlg.pt rfl Tryz.runUnderlying76 rfl rfl Tryz.sizeOf26 (by decide) rfl) (Wd.u rfl) rfl rfl ?_
  refine LR.v (Y.load1 hlg.pt rfl Tryz.isAgg26 rfl) (Wd.u rfl) rfl rfl ?_
  refine LR.v (Y.load1 hc.pt rfl Tryz.isAgg30 rfl) (Wd.u rfl) rfl rfl ?_
  refine LR.v (Y.nilCheck rfl rfl) (Wd.u rfl) rfl rfl ?_
  refine LR.v (Y.fieldAddr hlg.pt rfl Tryz.runUnderlying76 rfl rfl Tryz.sizeOf9 (by decide) rfl) (Wd.u rfl) rfl rfl ?_
  refine LR.v (Y.load1 (hlg.pt.drop 1) rfl Tryz.isAgg9 rfl) (Wd.u rfl) rfl rfl ?_
  refine LR.nil (hT1 _ ?_)
  -- call (*selvage/simfs.FS).Sync
  refine LR.call rfl Tryz.call30 rfl (Wd.u rfl) rfl rfl (sync_ct mx_ K g b D p w0 _ hf mx (bf_mx.mono (by omega)) (dmx) hl hB) (fun v10 H10 r10 => ?_)
  have ql1 := hf.bk
  have ql2 := hc.lt
  have ql3 := hlg.lt
  obtain ⟨K10, g10, rfl, hf, hkd10, hs10⟩ := r10
  have df4 := DFL.appK (dmx) (bf_mx.mono hm0.size) hkd10
  have dj5 : DL (c + 1) K10 := DL.appK (dc) ql2 hkd10
  have dj6 : DL (lb + 1) K10 := DL.appK (dl) ql3 hkd10
  have nx7 : NxK K H0.size K10 := NxK.tr (nx_hm0_hf) hkd10 hm0.size
  replace mx := mx.upL hs10 (dmx)
  replace hc := hc.upL hs10 (dc)
  replace hlg := hlg.upL hs10 (dl)
  replace hm0 := hm0.trL hs10 (MIL.ofK (nx_hm0_hf) (by intro k hk; simp [hk]))
  have hz1 := hs10.size
  have hbk_hf := hf.bk
  refine LR.v (Y.assign rfl rfl) (Wd.u rfl) rfl rfl ?_
  refine LR.nil ?_
  refine hK2 _ _ ?_
  refine CW.ret (hret .ret (.inr rfl) _ _ _ (res1 rfl rfl) ?_)
  exact ⟨_, _, rfl, hf, nx7, hm0⟩

set_option maxHeartbeats 2000000 in
theorem alay_ct (mx_ : Int) (K : List Nat) (g : Gh) (b : Nat) (D : Dk) (c lb : Nat) (p : Pth) (n : Nat) (br : Bool) (c3 : Nat) (s : SV) (rc : List UInt8) (F : Nat → Prop) (w0 : World) (H0 : Heap)
    (hf : PDk K g H0 b D) (mx : MX mx_ H0) (bf_mx : BF (fun b => b = 0) H0.size) (dmx : DFL (fun b => b = 0) K) (hc : Var 30 H0 c [ptr lb]) (hlg : Var 76 H0 lb [ptr b, Str p, .int .i64 (n : Int), .bool br]) (dc : DL (c + 1) K) (dl : DL (lb + 1) K) (hc3 : Var 34 H0 c3 [s.v]) (d3 : DL (c3 + 1) K) (hr : Rd F H0 fB 1 s.v rc) (bf_hr : BF F H0.size) (dfr : DFL F K) (hrl : rc.length ≤ 4294967000) (hl : p.length ≤ 4294967280) (hB : Bd 274877906944 D) :
    Ct Tryz.prog w0 32 #[ptr c, ptr c3] H0 (fun r H2 => ∃ K2 : List Nat, ∃ g2 : Gh, r = .int .i64 ((D.lay p ⟨true, layW n rc⟩).1 : Int) ∧ (PDk K2 g2 H2 b (D.lay p ⟨true, layW n rc⟩).2) ∧ (NxK K H0.size K2) ∧ Mo (Ms K) H0 H2) := by
  refine Ct.enter (args := [ptr c, ptr c3]) Tryz.func32 rfl rfl rfl ?_
  intro Q0 hret
  have hm0 : Mo (Ms K) H0 H0 := Mo.refl _ _
  have nx_hm0_hf := NxK.refl K H0.size
  have hbk_hf := hf.bk
  have nx_hm0_hc := Nx.refl (c + 1) H0.size
  have hlt_hc := hc.lt
  have nx_hm0_hlg := Nx.refl (lb + 1) H0.size
  have hlt_hlg := hlg.lt
  have nx_hm0_hc3 := Nx.refl (c3 + 1) H0.size
  have hlt_hc3 := hc3.lt
  refine CW.seq (fun K1 hK1 hE1 => ?_)
  refine CW.region ?_
  refine LR.v (Y.assign rfl rfl) (Wd.u rfl) rfl rfl ?_
  refine LR.nil ?_
  refine hK1 _ _ ?_
  refine CW.seq (fun K2 hK2 hE2 => ?_)
  refine CW.region_any (fun Hq => Mo (Ms K) H0 Hq) [] rfl ?_
  have hq1 : Mo (Ms K) H0 H0 := Mo.refl _ _
  have nx1 := NxK.refl K H0.size
  refine LH.take 0 (by kernel_rfl) rfl (by kernel_rfl) (by kernel_rfl) (by kernel_rfl) (fun Hq hq => Y.load1 (hc.upL hq (dc)).pt rfl Tryz.isAgg30 rfl) (Wd.u rfl) rfl rfl hq1 ?_
  refine LH.take 1 (by kernel_rfl) rfl (by kernel_rfl) (by kernel_rfl) (by kernel_rfl) (fun Hq hq => Y.nilCheck rfl rfl) (Wd.u rfl) rfl rfl hq1 ?_
  refine LH.take 2 (by kernel_rfl) rfl (by kernel_rfl) (by kernel_rfl) (by kernel_rfl) (fun Hq hq => Y.fieldAddr (hlg.upL hq (dl)).pt rfl Tryz.runUnderlying76 rfl rfl Tryz.sizeOf26 (by decide) rfl) (Wd.u rfl) rfl rfl hq1 ?_
  refine LH.take 3 (by kernel_rfl) rfl (by kernel_rfl) (by kernel_rfl) (by kernel_rfl) (fun Hq hq => Y.load1 (hlg.upL hq (dl)).pt rfl Tryz.isAgg26 rfl) (Wd.u rfl) rfl rfl hq1 ?_
  refine LH.take 4 (by kernel_rfl) rfl (by kernel_rfl) (by kernel_rfl) (by kernel_rfl) (fun Hq hq => Y.load1 (hc.upL hq (dc)).pt rfl Tryz.isAgg30 rfl) (Wd.u rfl) rfl rfl hq1 ?_
  refine LH.take 5 (by kernel_rfl) rfl (by kernel_rfl) (by kernel_rfl) (by kernel_rfl) (fun Hq hq => Y.nilCheck rfl rfl) (Wd.u rfl) rfl rfl hq1 ?_
  refine LH.take 6 (by kernel_rfl) rfl (by kernel_rfl) (by kernel_rfl) (by kernel_rfl) (fun Hq hq => Y.fieldAddr (hlg.upL hq (dl)).pt rfl Tryz.runUnderlying76 rfl rfl Tryz.sizeOf9 (by decide) rfl) (Wd.u rfl) rfl rfl hq1 ?_
  refine LH.take 7 (by kernel_rfl) rfl (by kernel_rfl) (by kernel_rfl) (by kernel_rfl) (fun Hq hq => Y.load1 ((hlg.upL hq (dl)).pt.drop 1) rfl Tryz.isAgg9 rfl) (Wd.u rfl) rfl rfl hq1 ?_
  refine LH.take 8 (by kernel_rfl) rfl (by kernel_rfl) (by kernel_rfl) (by kernel_rfl) (fun Hq hq => Y.load1 (hc.upL hq (dc)).pt rfl Tryz.isAgg30 rfl) (Wd.u rfl) rfl rfl hq1 ?_
  refine LH.take 9 (by kernel_rfl) rfl (by kernel_rfl) (by kernel_rfl) (by kernel_rfl) (fun Hq hq => Y.nilCheck rfl rfl) (Wd.u rfl) rfl rfl hq1 ?_
  refine LH.take 10 (by kernel_rfl) rfl (by kernel_rfl) (by kernel_rfl) (by kernel_rfl) (fun Hq hq => Y.fieldAddr (hlg.upL hq (dl)).pt rfl Tryz.runUnderlying76 rfl rfl Tryz.sizeOf3 (by decide) rfl) (Wd.u rfl) rfl rfl hq1 ?_
  refine LH.take 11 (by kernel_rfl) rfl (by kernel_rfl) (by kernel_rfl) (by kernel_rfl) (fun Hq hq => Y.load1 ((hlg.upL hq (dl)).pt.drop 2) rfl Tryz.isAgg3 rfl) (Wd.u rfl) rfl rfl hq1 ?_
  refine LH.take 12 (by kernel_rfl) rfl (by kernel_rfl) (by kernel_rfl) (by kernel_rfl) (fun Hq hq => Y.load1 (hc3.upL hq (d3)).pt rfl Tryz.isAgg34 rfl) (Wd.u rfl) rfl rfl hq1 ?_
  refine LH.one (i := 13) (by kernel_rfl) ?_
  -- call selvage/wal.lay
  refine LO.call rfl rfl Tryz.call34 rfl (Wd.u rfl) rfl rfl (wlay_ct n s rc w0 _ hr.any hrl) (fun v16 H16 r16 => ?_)
  obtain ⟨t16, k16, rfl, ow16, hk16, hs16⟩ := r16
  have dj2 : DL k16 K := DL.app2 (DL.zK) hf.bk hk16
  have df3 := DF.app (DF.z) (bf_mx.mono hm0.size) hk16
  have dj4 : Dj (c + 1) k16 := Dj.app (Dj.z) hc.lt hk16
  have dj5 : Dj (lb + 1) k16 := Dj.app (Dj.z) hlg.lt hk16
  have dj6 : Dj (c3 + 1) k16 := Dj.app (Dj.z) hc3.lt hk16
  have df7 := DF.app (DF.z) (bf_hr.mono hm0.size) hk16
  have nx8 : Nx 0 H0.size k16 := Nx.tr (Nx.refl 0 _) hk16 hm0.size
  have nx9 : Nx 0 H0.size k16 := Nx.tr (Nx.refl 0 _) hk16 hq1.size
  replace hf := hf.nw hs16
  replace mx := mx.nw hs16
  replace hc := hc.nw hs16
  replace hlg := hlg.nw hs16
  replace hc3 := hc3.nw hs16
  replace hr := hr.nw hs16
  replace hm0 := hm0.trN hs16
  replace hq1 := hq1.trN hs16
  have hz1 := hs16.size
  have hle_ow16 := ow16.le
  refine ⟨.inr hq1, LH.narrow (SH2 := fun Hq => Mo (Ms (K ++ [k16])) H16 Hq) (fun Hq hq => hq1.trL hq (MIL.app (MIL.ofK (nx1) (by intro k hk; simp [hk])) (MIL.cons (MI.app MI.z (nx9) (Nat.le_refl _)) MIL.nil))) ?_⟩
  have hq1 : Mo (Ms (K ++ [k16])) H16 H16 := Mo.refl _ _
  have nx10 := NxK.refl K H16.size
  have nx11 := Nx.refl k16 H16.size
  refine LH.one (i := 14) (by kernel_rfl) ?_
  -- call (*selvage/simfs.FS).Append
  refine LO.call rfl rfl Tryz.call33 rfl (Wd.u rfl) rfl rfl (append_ct mx_ K g b D p t16 (layW n rc) _ w0 _ hf mx (bf_mx.mono (by omega)) (dmx) ow16.rd (BF.of ow16.le) (DFL.of (dj2)) hl hB (by rw [layW_len]; omega)) (fun v17 H17 r17 => ?_)
  have ql12 := hf.bk
  have ql13 := hc.lt
  have ql14 := hlg.lt
  have ql15 := hc3.lt
  have ql16 := ow16.le
  obtain ⟨K17, g17, rfl, hf, hkd17, hs17⟩ := r17
  have df17 := DFL.appK (dmx) (bf_mx.mono hm0.size) hkd17
  have dj18 : DL (c + 1) K17 := DL.appK (dc) ql13 hkd17
  have dj19 : DL (lb + 1) K17 := DL.appK (dl) ql14 hkd17
  have dj20 : DL (c3 + 1) K17 := DL.appK (d3) ql15 hkd17
  have df21 := DFL.appK (dfr) (bf_hr.mono hm0.size) hkd17
  have dj22 : DL k16 K17 := DL.appK (dj2) ql16 hkd17
  have nx23 : NxK K H0.size K17 := NxK.tr (nx_hm0_hf) hkd17 hm0.size
  have nx24 : NxK K H16.size K17 := NxK.tr (nx10) hkd17 hq1.size
  replace mx := mx.upL hs17 (dmx)
  replace hc := hc.upL hs17 (dc)
  replace hlg := hlg.upL hs17 (dl)
  replace hc3 := hc3.upL hs17 (d3)
  replace hr := hr.upL hs17 (dfr)
  replace ow16 := ow16.upL hs17 (dj2)
  replace hm0 := hm0.trL hs17 (MIL.ofK (nx_hm0_hf) (by intro k hk; simp [hk]))
  replace hq1 := hq1.trL hs17 (MIL.ofK (nx10) (by intro k hk; simp [hk]))
  have hz2 := hs17.size
  have hbk_hf := hf.bk
  refine ⟨.inr hq1, LH.narrow (SH2 := fun Hq => Mo (Ms (K17 ++ [k16])) H17 Hq) (fun Hq hq => hq1.trL hq (MIL.app (MIL.ofK (nx24) (by intro k hk; simp [hk])) (MIL.cons (MI.app (MI.root (by simp)) (nx11) (Nat.le_refl _)) MIL.nil))) ?_⟩
  have hq1 : Mo (Ms (K17 ++ [k16])) H17 H17 := Mo.refl _ _
  have nx25 := NxK.refl K17 H17.size
  have nx26 := Nx.refl k16 H17.size
  refine LH.take 15 (by kernel_rfl) rfl (by kernel_rfl) (by kernel_rfl) (by kernel_rfl) (fun Hq hq => Y.assign rfl rfl) (Wd.u rfl) rfl rfl hq1 ?_
  refine LH.done (by kernel_rfl) ?_
  refine hK2 _ _ ?_
  refine CW.ret (hret .ret (.inr rfl) _ _ _ (res1 rfl rfl) ?_)
  exact ⟨_, _, rfl, hf, nx23, hm0⟩

set_option maxHeartbeats 2000000 in
theorem amark_ct (mx_ : Int) (K : List Nat) (g : Gh) (b : Nat) (D : Dk) (c lb : Nat) (p : Pth) (n : Nat) (br : Bool) (w0 : World) (H0 : Heap)
    (hf : PDk K g H0 b D) (mx : MX mx_ H0) (bf_mx : BF (fun b => b = 0) H0.size) (dmx : DFL (fun b => b = 0) K) (hc : Var 30 H0 c [ptr lb]) (hlg : Var 76 H0 lb [ptr b, Str p, .int .i64 (n : Int), .bool br]) (dc : DL (c + 1) K) (dl : DL (lb + 1) K) (hl : p.length ≤ 4294967280) (hB : Bd 274877906944 D) :
    Ct Tryz.prog w0 35 #[ptr c] H0 (fun r H2 => ∃ K2 : List Nat, ∃ g2 : Gh, r = .int .i64 ((D.lay p ⟨true, [67]⟩).1 : Int) ∧ (PDk K2 g2 H2 b (D.lay p ⟨true, [67]⟩).2) ∧ (NxK K H0.size K2) ∧ Mo (Ms K) H0 H2) := by
  refine Ct.enter (args := [ptr c]) Tryz.func35 rfl rfl rfl ?_
  intro Q0 hret
  have hm0 : Mo (Ms K) H0 H0 := Mo.refl _ _
  have nx_hm0_hf := NxK.refl K H0.size
  have hbk_hf := hf.bk
  have nx_hm0_hc := Nx.refl (c + 1) H0.size
  have hlt_hc := hc.lt
  have nx_hm0_hlg := Nx.refl (lb + 1) H0.size
  have hlt_hlg := hlg.lt
  refine CW.seq (fun K1 hK1 hE1 => ?_)
  refine CW.region ?_
  refine LR.v (Y.assign rfl rfl) (Wd.u rfl) rfl rfl ?_
  refine LR.nil ?_
  refine hK1 _ _ ?_
  refine CW.seq (fun K2 hK2 hE2 => ?_)
  refine CW.region_any (fun Hq => Mo (Ms K) H0 Hq) [] rfl ?_
  have hq1 : Mo (Ms K) H0 H0 := Mo.refl _ _
  have nx1 := NxK.refl K H0.size
  refine LH.take 0 (by kernel_rfl) rfl (by kernel_rfl) (by kernel_rfl) (by kernel_rfl) (fun Hq hq => Y.load1 (hc.upL hq (dc)).pt rfl Tryz.isAgg30 rfl) (Wd.u rfl) rfl rfl hq1 ?_
  refine LH.take 1 (by kernel_rfl) rfl (by kernel_rfl) (by kernel_rfl) (by kernel_rfl) (fun Hq hq => Y.nilCheck rfl rfl) (Wd.u rfl) rfl rfl hq1 ?_
  refine LH.take 2 (by kernel_rfl) rfl (by kernel_rfl) (by kernel_rfl) (by kernel_rfl) (fun Hq hq => Y.fieldAddr (hlg.upL hq (dl)).pt rfl Tryz.runUnderlying76 rfl rfl Tryz.sizeOf26 (by decide) rfl) (Wd.u rfl) rfl rfl hq1 ?_
  refine LH.take 3 (by kernel_rfl) rfl (by kernel_rfl) (by kernel_rfl) (by kernel_rfl) (fun Hq hq => Y.load1 (hlg.upL hq (dl)).pt rfl Tryz.isAgg26 rfl) (Wd.u rfl) rfl rfl hq1 ?_
  refine LH.take 4 (by kernel_rfl) rfl (by kernel_rfl) (by kernel_rfl) (by kernel_rfl) (fun Hq hq => Y.load1 (hc.upL hq (dc)).pt rfl Tryz.isAgg30 rfl) (Wd.u rfl) rfl rfl hq1 ?_
  refine LH.take 5 (by kernel_rfl) rfl (by kernel_rfl) (by kernel_rfl) (by kernel_rfl) (fun Hq hq => Y.nilCheck rfl rfl) (Wd.u rfl) rfl rfl hq1 ?_
  refine LH.take 6 (by kernel_rfl) rfl (by kernel_rfl) (by kernel_rfl) (by kernel_rfl) (fun Hq hq => Y.fieldAddr (hlg.upL hq (dl)).pt rfl Tryz.runUnderlying76 rfl rfl Tryz.sizeOf9 (by decide) rfl) (Wd.u rfl) rfl rfl hq1 ?_
  refine LH.take 7 (by kernel_rfl) rfl (by kernel_rfl) (by kernel_rfl) (by kernel_rfl) (fun Hq hq => Y.load1 ((hlg.upL hq (dl)).pt.drop 1) rfl Tryz.isAgg9 rfl) (Wd.u rfl) rfl rfl hq1 ?_
  refine LH.one (i := 8) (by kernel_rfl) ?_
  refine LO.z rfl (Z.litw _ ([(67 : UInt8)]) rfl inf34 rfl rfl rfl (by decide) (by decide) fB_len fB_one (rfl)) (Wd.u rfl) rfl rfl (fun v10 H10 r10 => ?_)
  obtain ⟨ow10, hs10, ob10, hH10⟩ := r10
  have hzs10 : H10.size = H0.size + 1 := by rw [hH10]; simp
  have dj2 : DL (H0.size + 1) K := DL.newK hf.bk
  have df3 := (DF.new (bf_mx.mono hm0.size) : DF _ (H0.size + 1))
  have dj4 : Dj (c + 1) (H0.size + 1) := Dj.new hc.lt
  have dj5 : Dj (lb + 1) (H0.size + 1) := Dj.new hlg.lt
  have nx6 : Nx 0 H0.size (H0.size + 1) := Nx.new hm0.size
  have nx7 : Nx 0 H0.size (H0.size + 1) := Nx.new hq1.size
  replace hf := hf.nw hs10
  replace mx := mx.nw hs10
  replace hc := hc.nw hs10
  replace hlg := hlg.nw hs10
  replace hm0 := hm0.trN hs10
  replace hq1 := hq1.trN hs10
  have hz1 := hs10.size
  obtain ⟨s10, rfl⟩ : ∃ s : SV, v10 = s.v := ⟨toSV v10, ow10.sv.symm⟩
  refine ⟨.inr hq1, LH.narrow (SH2 := fun Hq => Mo (Ms (K ++ [(H0.size + 1)])) H10 Hq) (fun Hq hq => hq1.trL hq (MIL.app (MIL.ofK (nx1) (by intro k hk; simp [hk])) (MIL.cons (MI.app MI.z (nx7) (Nat.le_refl _)) MIL.nil))) ?_⟩
  have hq1 : Mo (Ms (K ++ [(H0.size + 1)])) H10 H10 := Mo.refl _ _
  have nx8 := NxK.refl K H10.size
  have nx9 := Nx.refl (H0.size + 1) H10.size
  refine LH.one (i := 9) (by kernel_rfl) ?_
  -- call (*selvage/simfs.FS).Append
  refine LO.call rfl rfl Tryz.call33 rfl (Wd.u rfl) rfl rfl (append_ct mx_ K g b D p s10 [67] _ w0 _ hf mx (bf_mx.mono (by omega)) (dmx) ow10.rd (BF.of ow10.le) (DFL.of (dj2)) hl hB (by decide)) (fun v11 H11 r11 => ?_)
  have ql10 := hf.bk
  have ql11 := hc.lt
  have ql12 := hlg.lt
  have ql13 := ow10.le
  obtain ⟨K11, g11, rfl, hf, hkd11, hs11⟩ := r11
  have df14 := DFL.appK (dmx) (bf_mx.mono hm0.size) hkd11
  have dj15 : DL (c + 1) K11 := DL.appK (dc) ql11 hkd11
  have dj16 : DL (lb + 1) K11 := DL.appK (dl) ql12 hkd11
  have dj17 : DL (H0.size + 1) K11 := DL.appK (dj2) ql13 hkd11
  have nx18 : NxK K H0.size K11 := NxK.tr (nx_hm0_hf) hkd11 hm0.size
  have nx19 : NxK K H10.size K11 := NxK.tr (nx8) hkd11 hq1.size
  replace mx := mx.upL hs11 (dmx)
  replace hc := hc.upL hs11 (dc)
  replace hlg := hlg.upL hs11 (dl)
  replace ow10 := ow10.upL hs11 (dj2)
  replace hm0 := hm0.trL hs11 (MIL.ofK (nx_hm0_hf) (by intro k hk; simp [hk]))
  replace hq1 := hq1.trL hs11 (MIL.ofK (nx8) (by intro k hk; simp [hk]))
  have hz2 := hs11.size
  have hbk_hf := hf.bk
  refine ⟨.inr hq1, LH.narrow (SH2 := fun Hq => Mo (Ms (K11 ++ [(H0.size + 1)])) H11 Hq) (fun Hq hq => hq1.trL hq (MIL.app (MIL.ofK (nx19) (by intro k hk; simp [hk])) (MIL.cons (MI.app (MI.root (by simp)) (nx9) (Nat.le_refl _)) MIL.nil))) ?_⟩
  have hq1 : Mo (Ms (K11 ++ [(H0.size + 1)])) H11 H11 := Mo.refl _ _
  have nx20 := NxK.refl K11 H11.size
  have nx21 := Nx.refl (H0.size + 1) H11.size
  refine LH.take 10 (by kernel_rfl) rfl (by kernel_rfl) (by kernel_rfl) (by kernel_rfl) (fun Hq hq => Y.assign rfl rfl) (Wd.u rfl) rfl rfl hq1 ?_
  refine LH.done (by kernel_rfl) ?_
  refine hK2 _ _ ?_
  refine CW.ret (hret .ret (.inr rfl) _ _ _ (res1 rfl rfl) ?_)
  exact ⟨_, _, rfl, hf, nx18, hm0⟩

set_option maxHeartbeats 2000000 in
theorem cwrite_ct (mx_ : Int) (K : List Nat) (g : Gh) (b : Nat) (D : Dk) (c lb : Nat) (p : Pth) (n : Nat) (br : Bool) (c7 : Nat) (c3 : Nat) (s : SV) (l : List (SV × Rec)) (F : Nat → Prop) (w0 : World) (H0 : Heap)
    (hf : PDk K g H0 b D) (mx : MX mx_ H0) (bf_mx : BF (fun b => b = 0) H0.size) (dmx : DFL (fun b => b = 0) K) (hc : Var 30 H0 c [ptr lb]) (hlg : Var 76 H0 lb [ptr b, Str p, .int .i64 (n : Int), .bool br]) (dc : DL (c + 1) K) (dl : DL (lb + 1) K) (hc7 : Var 9 H0 c7 [Str (newP p)]) (d7 : DL (c7 + 1) K) (hc3 : Var 22 H0 c3 [s.v]) (d3 : DL (c3 + 1) K) (hr : Rd F H0 fP 1 s.v l) (bf_hr : BF F H0.size) (dfr : DFL F K) (hx : ∀ x ∈ l, Rd F H0 fB 1 x.1.v x.2) (bf_hx : BF F H0.size) (dfx : DFL F K) (hrl : ∀ x ∈ l, x.2.length ≤ 1048576) (hel : (encN 0 (recs l)).length ≤ 274877900000) (hl : p.length ≤ 4294960000) (hB : Bd 274877906944 D) :
    Ct Tryz.prog w0 44 #[ptr c, ptr c7, ptr c3] H0 (fun r H2 => ∃ K2 : List Nat, ∃ g2 : Gh, r = .int .i64 ((D.lay (newP p) ⟨false, encW (recs l)⟩).1 : Int) ∧ (PDk K2 g2 H2 b (D.lay (newP p) ⟨false, encW (recs l)⟩).2) ∧ (NxK K H0.size K2) ∧ Mo (Ms K) H0 H2) := by
  refine Ct.enter (args := [ptr c, ptr c7, ptr c3]) Tryz.func44 rfl rfl rfl ?_
  intro Q0 hret
  have hm0 : Mo (Ms K) H0 H0 := Mo.refl _ _
  have nx_hm0_hf := NxK.refl K H0.size
  have hbk_hf := hf.bk
  have nx_hm0_hc := Nx.refl (c + 1) H0.size
  have hlt_hc := hc.lt
  have nx_hm0_hlg := Nx.refl (lb + 1) H0.size
  have hlt_hlg := hlg.lt
  have nx_hm0_hc7 := Nx.refl (c7 + 1) H0.size
  have hlt_hc7 := hc7.lt
  have nx_hm0_hc3 := Nx.refl (c3 + 1) H0.size
  have hlt_hc3 := hc3.lt
  refine CW.seq (fun K1 hK1 hE1 => ?_)
  refine CW.region ?_
  refine LR.v (Y.assign rfl rfl) (Wd.u rfl) rfl rfl ?_
  refine LR.nil ?_
  refine hK1 _ _ ?_
  refine CW.seq (fun K2 hK2 hE2 => ?_)
  refine CW.region_any (fun Hq => Mo (Ms K) H0 Hq) [] rfl ?_
  have hq1 : Mo (Ms K) H0 H0 := Mo.refl _ _
  have nx1 := NxK.refl K H0.size
  refine LH.take 0 (by kernel_rfl) rfl (by kernel_rfl) (by kernel_rfl) (by kernel_rfl) (fun Hq hq => Y.load1 (hc.upL hq (dc)).pt rfl Tryz.isAgg30 rfl) (Wd.u rfl) rfl rfl hq1 ?_
  refine LH.take 1 (by kernel_rfl) rfl (by kernel_rfl) (by kernel_rfl) (by kernel_rfl) (fun Hq hq => Y.nilCheck rfl rfl) (Wd.u rfl) rfl rfl hq1 ?_
  refine LH.take 2 (by kernel_rfl) rfl (by kernel_rfl) (by kernel_rfl) (by kernel_rfl) (fun Hq hq => Y.fieldAddr (hlg.upL hq (dl)).pt rfl Tryz.runUnderlying76 rfl rfl Tryz.sizeOf26 (by decide) rfl) (Wd.u rfl) rfl rfl hq1 ?_
  refine LH.take 3 (by kernel_rfl) rfl (by kernel_rfl) (by kernel_rfl) (by kernel_rfl) (fun Hq hq => Y.load1 (hlg.upL hq (dl)).pt rfl Tryz.isAgg26 rfl) (Wd.u rfl) rfl rfl hq1 ?_
  refine LH.take 4 (by kernel_rfl) rfl (by kernel_rfl) (by kernel_rfl) (by kernel_rfl) (fun Hq hq => Y.load1 (hc7.upL hq (d7)).pt rfl Tryz.isAgg9 rfl) (Wd.u rfl) rfl rfl hq1 ?_
  refine LH.take 5 (by kernel_rfl) rfl (by kernel_rfl) (by kernel_rfl) (by kernel_rfl) (fun Hq hq => Y.load1 (hc3.upL hq (d3)).pt rfl Tryz.isAgg22 rfl) (Wd.u rfl) rfl rfl hq1 ?_
  refine LH.one (i := 6) (by kernel_rfl) ?_
  -- call selvage/wal.Encode
  refine LO.call rfl rfl Tryz.call46 rfl (Wd.u rfl) rfl rfl (encode_ct s l w0 _ hr.any (fun x h => (hx x h).any) hrl (by omega)) (fun v10 H10 r10 => ?_)
  obtain ⟨t10, k10, rfl, ow10, hk10, hs10⟩ := r10
  have dj2 : DL k10 K := DL.app2 (DL.zK) hf.bk hk10
  have df3 := DF.app (DF.z) (bf_mx.mono hm0.size) hk10
  have dj4 : Dj (c + 1) k10 := Dj.app (Dj.z) hc.lt hk10
  have dj5 : Dj (lb + 1) k10 := Dj.app (Dj.z) hlg.lt hk10
  have dj6 : Dj (c7 + 1) k10 := Dj.app (Dj.z) hc7.lt hk10
  have dj7 : Dj (c3 + 1) k10 := Dj.app (Dj.z) hc3.lt hk10
  have df8 := DF.app (DF.z) (bf_hr.mono hm0.size) hk10
  have df9 := DF.app (DF.z) (bf_hx.mono hm0.size) hk10
  have nx10 : Nx 0 H0.size k10 := Nx.tr (Nx.refl 0 _) hk10 hm0.size
  have nx11 : Nx 0 H0.size k10 := Nx.tr (Nx.refl 0 _) hk10 hq1.size
  replace hf := hf.nw hs10
  replace mx := mx.nw hs10
  replace hc := hc.nw hs10
  replace hlg := hlg.nw hs10
  replace hc7 := hc7.nw hs10
  replace hc3 := hc3.nw hs10
  replace hr := hr.nw hs10
  replace hx := fun x hx_ => (hx x hx_).nw hs10
  replace hm0 := hm0.trN hs10
  replace hq1 := hq1.trN hs10
  have hz1 := hs10.size
  have hle_ow10 := ow10.le
  refine ⟨.inr hq1, LH.narrow (SH2 := fun Hq => Mo (Ms (K ++ [k10])) H10 Hq) (fun Hq hq => hq1.trL hq (MIL.app (MIL.ofK (nx1) (by intro k hk; simp [hk])) (MIL.cons (MI.app MI.z (nx11) (Nat.le_refl _)) MIL.nil))) ?_⟩
  have hq1 : Mo (Ms (K ++ [k10])) H10 H10 := Mo.refl _ _
  have nx12 := NxK.refl K H10.size
  have nx13 := Nx.refl k10 H10.size
  refine LH.one (i := 7) (by kernel_rfl) ?_
  -- call (*selvage/simfs.FS).Write
  refine LO.call rfl rfl Tryz.call45 rfl (Wd.u rfl) rfl rfl (write_ct mx_ K g b D (newP p) t10 (encW (recs l)) _ w0 _ hf mx (bf_mx.mono (by omega)) (dmx) ow10.rd (BF.of ow10.le) (DFL.of (dj2)) (by rw [newP_len]; omega) hB (by unfold encW; rw [List.length_append]; have h8 : W8.length = 8 := rfl; omega)) (fun v11 H11 r11 => ?_)
  have ql14 := hf.bk
  have ql15 := hc.lt
  have ql16 := hlg.lt
  have ql17 := hc7.lt
  have ql18 := hc3.lt
  have ql19 := ow10.le
  obtain ⟨K11, g11, rfl, hf, hkd11, hs11⟩ := r11
  have df20 := DFL.appK (dmx) (bf_mx.mono hm0.size) hkd11
  have dj21 : DL (c + 1) K11 := DL.appK (dc) ql15 hkd11
  have dj22 : DL (lb + 1) K11 := DL.appK (dl) ql16 hkd11
  have dj23 : DL (c7 + 1) K11 := DL.appK (d7) ql17 hkd11
  have dj24 : DL (c3 + 1) K11 := DL.appK (d3) ql18 hkd11
  have df25 := DFL.appK (dfr) (bf_hr.mono hm0.size) hkd11
  have df26 := DFL.appK (dfx) (bf_hx.mono hm0.size) hkd11
  have dj27 : DL k10 K11 := DL.appK (dj2) ql19 hkd11
  have nx28 : NxK K H0.size K11 := NxK.tr (nx_hm0_hf) hkd11 hm0.size
  have nx29 : NxK K H10.size K11 := NxK.tr (nx12) hkd11 hq1.size
  replace mx := mx.upL hs11 (dmx)
  replace hc := hc.upL hs11 (dc)
  replace hlg := hlg.upL hs11 (dl)
  replace hc7 := hc7.upL hs11 (d7)
  replace hc3 := hc3.upL hs11 (d3)
  replace hr := hr.upL hs11 (dfr)
  replace hx := fun x hx_ => (hx x hx_).upL hs11 (dfx)
  replace ow10 := ow10.upL hs11 (dj2)
  replace hm0 := hm0.trL hs11 (MIL.ofK (nx_hm0_hf) (by intro k hk; simp [hk]))
  replace hq1 := hq1.trL hs11 (MIL.ofK (nx12) (by intro k hk; simp [hk]))
  have hz2 := hs11.size
  have hbk_hf := hf.bk
  refine ⟨.inr hq1, LH.narrow (SH2 := fun Hq => Mo (Ms (K11 ++ [k10])) H11 Hq) (fun Hq hq => hq1.trL hq (MIL.app (MIL.ofK (nx29) (by intro k hk; simp [hk])) (MIL.cons (MI.app (MI.root (by simp)) (nx13) (Nat.le_refl _)) MIL.nil))) ?_⟩
  have hq1 : Mo (Ms (K11 ++ [k10])) H11 H11 := Mo.refl _ _
  have nx30 := NxK.refl K11 H11.size
  have nx31 := Nx.refl k10 H11.size
  refine LH.take 8 (by kernel_rfl) rfl (by kernel_rfl) (by kernel_rfl) (by kernel_rfl) (fun Hq hq => Y.assign rfl rfl) (Wd.u rfl) rfl rfl hq1 ?_
  refine LH.done (by kernel_rfl) ?_
  refine hK2 _ _ ?_
  refine CW.ret (hret .ret (.inr rfl) _ _ _ (res1 rfl rfl) ?_)
  exact ⟨_, _, rfl, hf, nx28, hm0⟩

set_option maxHeartbeats 2000000 in
theorem csync_ct (mx_ : Int) (K : List Nat) (g : Gh) (b : Nat) (D : Dk) (c lb : Nat) (p : Pth) (n : Nat) (br : Bool) (c7 : Nat) (w0 : World) (H0 : Heap)
    (hf : PDk K g H0 b D) (mx : MX mx_ H0) (bf_mx : BF (fun b => b = 0) H0.size) (dmx : DFL (fun b => b = 0) K) (hc : Var 30 H0 c [ptr lb]) (hlg : Var 76 H0 lb [ptr b, Str p, .int .i64 (n : Int), .bool br]) (dc : DL (c + 1) K) (dl : DL (lb + 1) K) (hc7 : Var 9 H0 c7 [Str (newP p)]) (d7 : DL (c7 + 1) K) (hl : p.length ≤ 4294960000) (hB : Bd 274877906944 D) :
    Ct Tryz.prog w0 47 #[ptr c, ptr c7] H0 (fun r H2 => ∃ K2 : List Nat, ∃ g2 : Gh, r = .int .i64 ((D.sync (newP p)).1 : Int) ∧ (PDk K2 g2 H2 b (D.sync (newP p)).2) ∧ (NxK K H0.size K2) ∧ Mo (Ms K) H0 H2) := by
  refine Ct.enter (args := [ptr c, ptr c7]) Tryz.func47 rfl rfl rfl ?_
  intro Q0 hret
  have hm0 : Mo (Ms K) H0 H0 := Mo.refl _ _
  have nx_hm0_hf := NxK.refl K H0.size
  have hbk_hf := hf.bk
  have nx_hm0_hc := Nx.refl (c + 1) H0.size
  have hlt_hc := hc.lt
  have nx_hm0_hlg := Nx.refl (lb + 1) H0.size
  have hlt_hlg := hlg.lt
  have nx_hm0_hc7 := Nx.refl (c7 + 1) H0.size
  have hlt_hc7 := hc7.lt
  refine CW.seq (fun K1 hK1 hE1 => ?_)
  refine CW.region ?_
  refine LR.v (Y.assign rfl rfl) (Wd.u rfl) rfl rfl ?_
  refine LR.nil ?_
  refine hK1 _ _ ?_
  refine CW.seq (fun K2 hK2 hE2 => ?_)
  refine CW.region_tail 5 rfl (by kernel_rfl) (fun T1 hT1 => ?_)
  refine LR.v (Y.load1 hc.pt rfl Tryz.isAgg30 rfl) (Wd.u rfl) rfl rfl ?_
  refine LR.v (Y.nilCheck rfl rfl) (Wd.u rfl) rfl rfl ?_
  refine LR.v (Y.fieldAddr hlg.pt rfl Tryz.runUnderlying76 rfl rfl Tryz.sizeOf26 (by decide) rfl) (Wd.u rfl) rfl rfl ?_
  refine LR.v (Y.load1 hlg.pt rfl Tryz.isAgg26 rfl) (Wd.u rfl) rfl rfl ?_
  refine LR.v (Y.load1 hc7.pt rfl Tryz.isAgg9 rfl) (Wd.u rfl) rfl rfl ?_
  refine LR.nil (hT1 _ ?_)
  -- call (*selvage/simfs.FS).Sync
  refine LR.call rfl Tryz.call30 rfl (Wd.u rfl) rfl rfl (sync_ct mx_ K g b D (newP p) w0 _ hf mx (bf_mx.mono (by omega)) (dmx) (by rw [newP_len]; omega) hB) (fun v8 H8 r8 => ?_)
  have ql1 := hf.bk
  have ql2 := hc.lt
  have ql3 := hlg.lt
  have ql4 := hc7.lt
  obtain ⟨K8, g8, rfl, hf, hkd8, hs8⟩ := r8
  have df5 := DFL.appK (dmx) (bf_mx.mono hm0.size) hkd8
  have dj6 : DL (c + 1) K8 := DL.appK (dc) ql2 hkd8
  have dj7 : DL (lb + 1) K8 := DL.appK (dl) ql3 hkd8
  have dj8 : DL (c7 + 1) K8 := DL.appK (d7) ql4 hkd8
  have nx9 : NxK K H0.size K8 := NxK.tr (nx_hm0_hf) hkd8 hm0.size
  replace mx := mx.upL hs8 (dmx)
  replace hc := hc.upL hs8 (dc)
  replace hlg := hlg.upL hs8 (dl)
  replace hc7 := hc7.upL hs8 (d7)
  replace hm0 := hm0.trL hs8 (MIL.ofK (nx_hm0_hf) (by intro k hk; simp [hk]))
  have hz1 := hs8.size
  have hbk_hf := hf.bk
  refine LR.v (Y.assign rfl rfl) (Wd.u rfl) rfl rfl ?_
  refine LR.nil ?_
  refine hK2 _ _ ?_
  refine CW.ret (hret .ret (.inr rfl) _ _ _ (res1 rfl rfl) ?_)
  exact ⟨_, _, rfl, hf, nx9, hm0⟩

set_option maxHeartbeats 2000000 in
theorem cren_ct (mx_ : Int) (K : List Nat) (g : Gh) (b : Nat) (D : Dk) (c lb : Nat) (p : Pth) (n : Nat) (br : Bool) (c7 : Nat) (w0 : World) (H0 : Heap)
    (hf : PDk K g H0 b D) (mx : MX mx_ H0) (bf_mx : BF (fun b => b = 0) H0.size) (dmx : DFL (fun b => b = 0) K) (hc : Var 30 H0 c [ptr lb]) (hlg : Var 76 H0 lb [ptr b, Str p, .int .i64 (n : Int), .bool br]) (dc : DL (c + 1) K) (dl : DL (lb + 1) K) (hc7 : Var 9 H0 c7 [Str (newP p)]) (d7 : DL (c7 + 1) K) (hl : p.length ≤ 4294960000) (hB : Bd 274877906944 D) :
    Ct Tryz.prog w0 48 #[ptr c, ptr c7] H0 (fun r H2 => ∃ K2 : List Nat, ∃ g2 : Gh, r = .int .i64 ((D.rename (newP p) p).1 : Int) ∧ (PDk K2 g2 H2 b (D.rename (newP p) p).2) ∧ (NxK K H0.size K2) ∧ Mo (Ms K) H0 H2) := by
  refine Ct.enter (args := [ptr c, ptr c7]) Tryz.func48 rfl rfl rfl ?_
  intro Q0 hret
  have hm0 : Mo (Ms K) H0 H0 := Mo.refl _ _
  have nx_hm0_hf := NxK.refl K H0.size
  have hbk_hf := hf.bk
  have nx_hm0_hc := Nx.refl (c + 1) H0.size
  have hlt_hc := hc.lt
  have nx_hm0_hlg := Nx.refl (lb + 1) H0.size
  have hlt_hlg := hlg.lt
  have nx_hm0_hc7 := Nx.refl (c7 + 1) H0.size
  have hlt_hc7 := hc7.lt
  refine CW.seq (fun K1 hK1 hE1 => ?_)
  refine CW.region ?_
  refine LR.v (Y.assign rfl rfl) (Wd.u rfl) rfl rfl ?_
  refine LR.nil ?_
  refine hK1 _ _ ?_
  refine CW.seq (fun K2 hK2 hE2 => ?_)
  refine CW.region_tail 9 rfl (by kernel_rfl) (fun T1 hT1 => ?_)
  refine LR.v (Y.load1 hc.pt rfl Tryz.isAgg30 rfl) (Wd.u rfl) rfl rfl ?_
  refine LR.v (Y.nilCheck rfl rfl) (Wd.u rfl) rfl rfl ?_
  refine LR.v (Y.fieldAddr hlg.pt rfl Tryz.runUnderlying76 rfl rfl Tryz.sizeOf26 (by decide) rfl) (Wd.u rfl) rfl rfl ?_
  refine LR.v (Y.load1 hlg.pt rfl Tryz.isAgg26 rfl) (Wd.u rfl) rfl rfl ?_
  refine LR.v (Y.load1 hc7.pt rfl Tryz.isAgg9 rfl) (Wd.u rfl) rfl rfl ?_
  refine LR.v (Y.load1 hc.pt rfl Tryz.isAgg30 rfl) (Wd.u rfl) rfl rfl ?_
  refine LR.v (Y.nilCheck rfl rfl) (Wd.u rfl) rfl rfl ?_
  refine LR.v (Y.fieldAddr hlg.pt rfl Tryz.runUnderlying76 rfl rfl Tryz.sizeOf9 (by decide) rfl) (Wd.u rfl) rfl rfl ?_
  refine LR.v (Y.load1 (hlg.pt.drop 1) rfl Tryz.isAgg9 rfl) (Wd.u rfl) rfl rfl ?_
  refine LR.nil (hT1 _ ?_)
  -- call (*selvage/simfs.FS).Rename
  refine LR.call rfl Tryz.call49 rfl (Wd.u rfl) rfl rfl (rename_ct mx_ K g b D (newP p) p w0 _ hf mx (bf_mx.mono (by omega)) (dmx) (by rw [newP_len]; omega) (by omega) hB) (fun v12 H12 r12 => ?_)
  have ql1 := hf.bk
  have ql2 := hc.lt
  have ql3 := hlg.lt
  have ql4 := hc7.lt
  obtain ⟨K12, g12, rfl, hf, hkd12, hs12⟩ := r12
  have df5 := DFL.appK (dmx) (bf_mx.mono hm0.size) hkd12
  have dj6 : DL (c + 1) K12 := DL.appK (dc) ql2 hkd12
  have dj7 : DL (lb + 1) K12 := DL.appK (dl) ql3 hkd12
  have dj8 : DL (c7 + 1) K12 := DL.appK (d7) ql4 hkd12
  have nx9 : NxK K H0.size K12 := NxK.tr (nx_hm0_hf) hkd12 hm0.size
  replace mx := mx.upL hs12 (dmx)
  replace hc := hc.upL hs12 (dc)
  replace hlg := hlg.upL hs12 (dl)
  replace hc7 := hc7.upL hs12 (d7)
  replace hm0 := hm0.trL hs12 (MIL.ofK (nx_hm0_hf) (by intro k hk; simp [hk]))
  have hz1 := hs12.size
  have hbk_hf := hf.bk
  refine LR.v (Y.assign rfl rfl) (Wd.u rfl) rfl rfl ?_
  refine LR.nil ?_
  refine hK2 _ _ ?_
  refine CW.ret (hret .ret (.inr rfl) _ _ _ (res1 rfl rfl) ?_)
  exact ⟨_, _, rfl, hf, nx9, hm0⟩

set_option maxHeartbeats 2000000 in
theorem csd_ct (mx_ : Int) (K : List Nat) (g : Gh) (b : Nat) (D : Dk) (c lb : Nat) (p : Pth) (n : Nat) (br : Bool) (w0 : World) (H0 : Heap)
    (hf : PDk K g H0 b D) (mx : MX mx_ H0) (bf_mx : BF (fun b => b = 0) H0.size) (dmx : DFL (fun b => b = 0) K) (hc : Var 30 H0 c [ptr lb]) (hlg : Var 76 H0 lb [ptr b, Str p, .int .i64 (n : Int), .bool br]) (dc : DL (c + 1) K) (dl : DL (lb + 1) K) (hl : p.length ≤ 4294960000) (hB : Bd 274877906944 D) :
    Ct Tryz.prog w0 50 #[ptr c] H0 (fun r H2 => ∃ K2 : List Nat, ∃ g2 : Gh, r = .int .i64 ((D.syncDir (dirP p)).1 : Int) ∧ (PDk K2 g2 H2 b (D.syncDir (dirP p)).2) ∧ (NxK K H0.size K2) ∧ Mo (Ms K) H0 H2) := by
  refine Ct.enter (args := [ptr c]) Tryz.func50 rfl rfl rfl ?_
  intro Q0 hret
  have hm0 : Mo (Ms K) H0 H0 := Mo.refl _ _
  have nx_hm0_hf := NxK.refl K H0.size
  have hbk_hf := hf.bk
  have nx_hm0_hc := Nx.refl (c + 1) H0.size
  have hlt_hc := hc.lt
  have nx_hm0_hlg := Nx.refl (lb + 1) H0.size
  have hlt_hlg := hlg.lt
  refine CW.seq (fun K1 hK1 hE1 => ?_)
  refine CW.region ?_
  refine LR.v (Y.assign rfl rfl) (Wd.u rfl) rfl rfl ?_
  refine LR.nil ?_
  refine hK1 _ _ ?_
  refine CW.seq (fun K2 hK2 hE2 => ?_)
  refine CW.region_any (fun Hq => Mo (Ms K) H0 Hq) [] rfl ?_
  have hq1 : Mo (Ms K) H0 H0 := Mo.refl _ _
  have nx1 := NxK.refl K H0.size
  refine LH.take 0 (by kernel_rfl) rfl (by kernel_rfl) (by kernel_rfl) (by kernel_rfl) (fun Hq hq => Y.load1 (hc.upL hq (dc)).pt rfl Tryz.isAgg30 rfl) (Wd.u rfl) rfl rfl hq1 ?_
  refine LH.take 1 (by kernel_rfl) rfl (by kernel_rfl) (by kernel_rfl) (by kernel_rfl) (fun Hq hq => Y.nilCheck rfl rfl) (Wd.u rfl) rfl rfl hq1 ?_
  refine LH.take 2 (by kernel_rfl) rfl (by kernel_rfl) (by kernel_rfl) (by kernel_rfl) (fun Hq hq => Y.fieldAddr (hlg.upL hq (dl)).pt rfl Tryz.runUnderlying76 rfl rfl Tryz.sizeOf26 (by decide) rfl) (Wd.u rfl) rfl rfl hq1 ?_
  refine LH.take 3 (by kernel_rfl) rfl (by kernel_rfl) (by kernel_rfl) (by kernel_rfl) (fun Hq hq => Y.load1 (hlg.upL hq (dl)).pt rfl Tryz.isAgg26 rfl) (Wd.u rfl) rfl rfl hq1 ?_
  refine LH.take 4 (by kernel_rfl) rfl (by kernel_rfl) (by kernel_rfl) (by kernel_rfl) (fun Hq hq => Y.load1 (hc.upL hq (dc)).pt rfl Tryz.isAgg30 rfl) (Wd.u rfl) rfl rfl hq1 ?_
  refine LH.take 5 (by kernel_rfl) rfl (by kernel_rfl) (by kernel_rfl) (by kernel_rfl) (fun Hq hq => Y.nilCheck rfl rfl) (Wd.u rfl) rfl rfl hq1 ?_
  refine LH.take 6 (by kernel_rfl) rfl (by kernel_rfl) (by kernel_rfl) (by kernel_rfl) (fun Hq hq => Y.fieldAddr (hlg.upL hq (dl)).pt rfl Tryz.runUnderlying76 rfl rfl Tryz.sizeOf9 (by decide) rfl) (Wd.u rfl) rfl rfl hq1 ?_
  refine LH.take 7 (by kernel_rfl) rfl (by kernel_rfl) (by kernel_rfl) (by kernel_rfl) (fun Hq hq => Y.load1 ((hlg.upL hq (dl)).pt.drop 1) rfl Tryz.isAgg9 rfl) (Wd.u rfl) rfl rfl hq1 ?_
  refine LH.one (i := 8) (by kernel_rfl) ?_
  -- call selvage/simfs.Dir
  refine LO.call rfl rfl Tryz.call52 rfl (Wd.u rfl) rfl rfl (dir_ct mx_ p w0 _ mx (bf_mx.mono (by omega)) (by omega)) (fun v10 H10 r10 => ?_)
  obtain ⟨rfl, hs10⟩ := r10
  replace hf := hf.nw hs10
  replace mx := mx.nw hs10
  replace hc := hc.nw hs10
  replace hlg := hlg.nw hs10
  replace hm0 := hm0.trN hs10
  replace hq1 := hq1.trN hs10
  have hz1 := hs10.size
  refine ⟨.inr hq1, LH.narrow (SH2 := fun Hq => Mo (Ms K) H10 Hq) (fun Hq hq => hq1.trL hq (MIL.ofK (nx1) (by intro k hk; simp [hk]))) ?_⟩
  have hq1 : Mo (Ms K) H10 H10 := Mo.refl _ _
  have nx2 := NxK.refl K H10.size
  refine LH.one (i := 9) (by kernel_rfl) ?_
  -- call (*selvage/simfs.FS).SyncDir
  refine LO.call rfl rfl Tryz.call51 rfl (Wd.u rfl) rfl rfl (syncDir_ct mx_ K g b D (dirP p) w0 _ hf mx (bf_mx.mono (by omega)) (dmx) (by have := dirP_le p; omega) hB) (fun v11 H11 r11 => ?_)
  have ql3 := hf.bk
  have ql4 := hc.lt
  have ql5 := hlg.lt
  obtain ⟨K11, g11, rfl, hf, hkd11, hs11⟩ := r11
  have df6 := DFL.appK (dmx) (bf_mx.mono hm0.size) hkd11
  have dj7 : DL (c + 1) K11 := DL.appK (dc) ql4 hkd11
  have dj8 : DL (lb + 1) K11 := DL.appK (dl) ql5 hkd11
  have nx9 : NxK K H0.size K11 := NxK.tr (nx_hm0_hf) hkd11 hm0.size
  have nx10 : NxK K H10.size K11 := NxK.tr (nx2) hkd11 hq1.size
  replace mx := mx.upL hs11 (dmx)
  replace hc := hc.upL hs11 (dc)
  replace hlg := hlg.upL hs11 (dl)
  replace hm0 := hm0.trL hs11 (MIL.ofK (nx_hm0_hf) (by intro k hk; simp [hk]))
  replace hq1 := hq1.trL hs11 (MIL.ofK (nx2) (by intro k hk; simp [hk]))
  have hz2 := hs11.size
  have hbk_hf := hf.bk
  refine ⟨.inr hq1, LH.narrow (SH2 := fun Hq => Mo (Ms K11) H11 Hq) (fun Hq hq => hq1.trL hq (MIL.ofK (nx10) (by intro k hk; simp [hk]))) ?_⟩
  have hq1 : Mo (Ms K11) H11 H11 := Mo.refl _ _
  have nx11 := NxK.refl K11 H11.size
  refine LH.take 10 (by kernel_rfl) rfl (by kernel_rfl) (by kernel_rfl) (by kernel_rfl) (fun Hq hq => Y.assign rfl rfl) (Wd.u rfl) rfl rfl hq1 ?_
  refine LH.done (by kernel_rfl) ?_
  refine hK2 _ _ ?_
  refine CW.ret (hret .ret (.inr rfl) _ _ _ (res1 rfl rfl) ?_)
  exact ⟨_, _, rfl, hf, nx9, hm0⟩

end Go.Proofs.YtdliddjkacbggaaGreatDoor.WalD
/-
  A journal on a disk: making it anew, putting a record behind the others.
-/
namespace Go.Proofs.YtdliddjkacbggaaGreatDoor.WalE
open Go.Proofs.YtdliddjkacbggaaGreatDoor.E Go.RowKit Go.Proofs.YtdliddjkacbggaaGreatDoor.SimA Go.Proofs.YtdliddjkacbggaaGreatDoor.SimB Go.Proofs.YtdliddjkacbggaaGreatDoor.SimC Go.Proofs.YtdliddjkacbggaaGreatDoor.SimD Go.Proofs.YtdliddjkacbggaaGreatDoor.SimE Go.Proofs.YtdliddjkacbggaaGreatDoor.SimF Go.Proofs.YtdliddjkacbggaaGreatDoor.SimG Go.Proofs.YtdliddjkacbggaaGreatDoor.SimH Go.Proofs.YtdliddjkacbggaaGreatDoor.SimI Go.Proofs.YtdliddjkacbggaaGreatDoor.SimQ Go.Proofs.YtdliddjkacbggaaGreatDoor.SimR Go.Proofs.YtdliddjkacbggaaGreatDoor.WalA Go.Proofs.YtdliddjkacbggaaGreatDoor.WalB Go.Proofs.YtdliddjkacbggaaGreatDoor.WalC Go.Proofs.YtdliddjkacbggaaGreatDoor.WalD
set_option maxRecDepth 20000
set_option linter.unusedVariables false
set_option linter.unusedSimpArgs false
set_option linter.unusedSectionVars false
set_option maxRecDepth 100000 in
theorem inf146 : Inf Tryz.prog 146 79 1 8 := ⟨Tryz.underlying146, _, _, rfl, rfl, rfl, rfl, rfl⟩

section
variable {w0 : World} {K : List Nat} {H : Heap} {mx_ : Int} {b c lb n c3 c7 N : Nat} {p : Pth} {br : Bool} {s : SV} {F : Nat → Prop} {D : Dk}
theorem ck_steps {l : List (SV × Rec)} (hS : LgS K H mx_ b c lb p n br) (h7 : VaS K H 9 c7 [Str (newP p)]) (h3 : VaS K H 22 c3 [s.v]) (hr : RwS K F H fP s.v l) (hx : ∀ x ∈ l, Rd F H fB 1 x.1.v x.2)
    (hrl : ∀ x ∈ l, x.2.length ≤ 1048576) (hel : (encN 0 (recs l)).length ≤ 274877900000) (hl : p.length ≤ 4294960000) (hB : Bs N D) (hN : N + 4 * ((encW (recs l)).length + 20) ≤ 536870912) :
    ∀ (i : Nat) (h : i < ([(44, [ptr c, ptr c7, ptr c3]), (47, [ptr c, ptr c7]), (48, [ptr c, ptr c7]), (50, [ptr c])] : List FnV).length) (K' : List Nat) (g' : Gh) (H' : Heap), PDk K' g' H' b (runD ((frS p (recs l)).take i) D).2 → NxK K H.size K' → Mo (Ms K) H H' →
      CloD w0 b (stp (frS p (recs l)) i) (.func (.func ([(44, [ptr c, ptr c7, ptr c3]), (47, [ptr c, ptr c7]), (48, [ptr c, ptr c7]), (50, [ptr c])] : List FnV)[i].1) #[] ([(44, [ptr c, ptr c7, ptr c3]), (47, [ptr c, ptr c7]), (48, [ptr c, ptr c7]), (50, [ptr c])] : List FnV)[i].2.toArray) K' H' (runD ((frS p (recs l)).take i) D).2 := by
  intro i hi K' g' H' hf hK hm
  have hB2 : Bd 274877906944 (runD ((frS p (recs l)).take i) D).2 := (bs_runT i (frS_bs p (recs l)) hB).bd (by have : (frS p (recs l)).length = 4 := rfl; rw [this]; omega)
  have hS := hS.up hm hK
  have h7 := h7.up hm hK
  have h3 := h3.up hm hK
  have hx2 : ∀ x ∈ l, Rd F H' fB 1 x.1.v x.2 := fun x h => (hx x h).upL hm hr.df
  have hr := hr.up hm hK
  match i, hi with
  | 0, _ => exact Clo.of (caps := [ptr c, ptr c7, ptr c3]) (args := []) Tryz.call44 (cwrite_ct mx_ K' g' b _ c lb p n br c7 c3 s l F w0 _ hf hS.mx hS.bmx hS.dmx hS.cv hS.lg hS.dc hS.dl h7.v h7.d h3.v h3.d hr.rd hr.bf hr.df hx2 hr.bf hr.df hrl hel hl hB2)
  | 1, _ => exact Clo.of (caps := [ptr c, ptr c7]) (args := []) Tryz.call47 (csync_ct mx_ K' g' b _ c lb p n br c7 w0 _ hf hS.mx hS.bmx hS.dmx hS.cv hS.lg hS.dc hS.dl h7.v h7.d hl hB2)
  | 2, _ => exact Clo.of (caps := [ptr c, ptr c7]) (args := []) Tryz.call48 (cren_ct mx_ K' g' b _ c lb p n br c7 w0 _ hf hS.mx hS.bmx hS.dmx hS.cv hS.lg hS.dc hS.dl h7.v h7.d hl hB2)
  | 3, _ => exact Clo.of (caps := [ptr c]) (args := []) Tryz.call50 (csd_ct mx_ K' g' b _ c lb p n br w0 _ hf hS.mx hS.bmx hS.dmx hS.cv hS.lg hS.dc hS.dl hl hB2)
theorem ap_steps {rc : Rec} (hS : LgS K H mx_ b c lb p n br) (h3 : VaS K H 34 c3 [s.v]) (hr : RwS K F H fB s.v rc) (hrl : rc.length ≤ 1048576) (hl : p.length ≤ 4294960000) (hB : Bs N D) (hN : N + 4 * (rc.length + 20) ≤ 536870912) :
    ∀ (i : Nat) (h : i < ([(32, [ptr c, ptr c3]), (29, [ptr c]), (35, [ptr c]), (29, [ptr c])] : List FnV).length) (K' : List Nat) (g' : Gh) (H' : Heap), PDk K' g' H' b (runD ((apS p n rc).take i) D).2 → NxK K H.size K' → Mo (Ms K) H H' →
      CloD w0 b (stp (apS p n rc) i) (.func (.func ([(32, [ptr c, ptr c3]), (29, [ptr c]), (35, [ptr c]), (29, [ptr c])] : List FnV)[i].1) #[] ([(32, [ptr c, ptr c3]), (29, [ptr c]), (35, [ptr c]), (29, [ptr c])] : List FnV)[i].2.toArray) K' H' (runD ((apS p n rc).take i) D).2 := by
  intro i hi K' g' H' hf hK hm
  have hB2 : Bd 274877906944 (runD ((apS p n rc).take i) D).2 := (bs_runT i (apS_bs p n rc) hB).bd (by have : (apS p n rc).length = 4 := rfl; rw [this]; omega)
  have hS := hS.up hm hK
  have h3 := h3.up hm hK
  have hr := hr.up hm hK
  match i, hi with
  | 0, _ => exact Clo.of (caps := [ptr c, ptr c3]) (args := []) Tryz.call32 (alay_ct mx_ K' g' b _ c lb p n br c3 s rc F w0 _ hf hS.mx hS.bmx hS.dmx hS.cv hS.lg hS.dc hS.dl h3.v h3.d hr.rd hr.bf hr.df (by omega) (by omega) hB2)
  | 1, _ => exact Clo.of (caps := [ptr c]) (args := []) Tryz.call29 (async_ct mx_ K' g' b _ c lb p n br w0 _ hf hS.mx hS.bmx hS.dmx hS.cv hS.lg hS.dc hS.dl (by omega) hB2)
  | 2, _ => exact Clo.of (caps := [ptr c]) (args := []) Tryz.call35 (amark_ct mx_ K' g' b _ c lb p n br w0 _ hf hS.mx hS.bmx hS.dmx hS.cv hS.lg hS.dc hS.dl (by omega) hB2)
  | 3, _ => exact Clo.of (caps := [ptr c]) (args := []) Tryz.call29 (async_ct mx_ K' g' b _ c lb p n br w0 _ hf hS.mx hS.bmx hS.dmx hS.cv hS.lg hS.dc hS.dl (by omega) hB2)
end
theorem encN_parL_le (b : List UInt8) : (encN 0 (parL b)).length ≤ b.length ∧ (encW (parL b)).length ≤ b.length + 8 := by
  by_cases h : parE b = 0
  · obtain ⟨t, e, _⟩ := parL_pre h
    have h2 := congrArg List.length e
    rw [List.length_append] at h2
    unfold encW at h2 ⊢
    rw [List.length_append] at h2 ⊢
    omega
  · have : parL b = [] := by unfold parE at h; unfold parL; split at h; exact absurd rfl h; rename_i h8; rw [if_neg h8]
    rw [this]; simp [encN, encW, W8]
theorem encN_sub (l : List Rec) (n : Nat) : (encN 0 (l.take n)).length ≤ (encN 0 l).length := by
  conv => rhs; rw [← List.take_append_drop n l, encN_app]
  rw [List.length_append]; omega
def mendD (D : Dk) (p : Pth) (n : Nat) : Nat × Dk := if D.readE p ≠ 0 then (D.readE p, D) else if parE (D.readL p) ≠ 0 then (parE (D.readL p), D) else freshD D p ((parL (D.readL p)).take n)
def mendN (D : Dk) (p : Pth) (n : Nat) : Nat := ((parL (D.readL p)).take n).length
def lgN (e m n : Nat) : Nat := if e = 0 then m else n
def lgB (e : Nat) (br : Bool) : Bool := if e = 0 then false else br
/-- what is done ahead of an append -/
def preD (D : Dk) (p : Pth) (n : Nat) (br : Bool) : Nat × Nat × Dk := if br = true then ((mendD D p n).1, mendN D p n, (mendD D p n).2) else (0, n, D)
/-- an append: the error, how many there are, is it broken, the disk -/
def appD (D : Dk) (p : Pth) (n : Nat) (br : Bool) (r : Rec) : Nat × Nat × Bool × Dk :=
  if (preD D p n br).1 ≠ 0 then ((preD D p n br).1, n, br, (preD D p n br).2.2)
  else
    let q := runD (apS p (preD D p n br).2.1 r) (preD D p n br).2.2
    (q.1, if q.1 = 0 then (preD D p n br).2.1 + 1 else (preD D p n br).2.1, if q.1 = 0 then false else true, q.2)
theorem bs_mend {N : Nat} {D : Dk} (h : Bs N D) (p : Pth) (n : Nat) : Bs (N + 4 * (N + 28)) (mendD D p n).2 := by
  unfold mendD; split
  · exact h.mono (by omega)
  · split
    · exact h.mono (by omega)
    · refine (bs_fresh h p _).mono ?_
      have h1 := (encN_parL_le (D.readL p)).1
      have h2 := encN_sub (parL (D.readL p)) n
      have h3 : (D.readL p).length ≤ N := by
        unfold Dk.readL Dk.wasL; split
        · split
          · exact (h.f _).1
          · exact Nat.zero_le _
        · exact Nat.zero_le _
      have h8 : W8.length = 8 := rfl
      unfold encW; rw [List.length_append]; omega
theorem readL_bd {N : Nat} {D : Dk} (h : Bs N D) (p : Pth) : (D.readL p).length ≤ N := by
  unfold Dk.readL Dk.wasL; split
  · split
    · exact (h.f _).1
    · exact Nat.zero_le _
  · exact Nat.zero_le _
theorem bs_app {N : Nat} {D : Dk} (h : Bs N D) (p : Pth) (n : Nat) (br : Bool) (r : Rec) : Bs (N + 4 * (N + 28) + 4 * (r.length + 20)) (appD D p n br r).2.2.2 := by
  have h1 : Bs (N + 4 * (N + 28)) (preD D p n br).2.2 := by
    unfold preD; split
    · exact bs_mend h p n
    · exact h.mono (by omega)
  unfold appD; split
  · exact h1.mono (by omega)
  · exact (bs_run (apS_bs p _ r) h1).mono (by simp [apS]; omega)

set_option maxHeartbeats 4000000 in
theorem ckpt_ct (mx_ : Int) (K : List Nat) (g : Gh) (b : Nat) (D : Dk) (lb : Nat) (p : Pth) (n : Nat) (br : Bool) (s : SV) (l : List (SV × Rec)) (F : Nat → Prop) (N : Nat) (w0 : World) (H0 : Heap)
    (hf : PDk K g H0 b D) (mx : MX mx_ H0) (bf_mx : BF (fun b => b = 0) H0.size) (dmx : DFL (fun b => b = 0) K) (hlg : Var 76 H0 lb [ptr b, Str p, .int .i64 (n : Int), .bool br]) (dl : DL (lb + 1) K) (dmv : DF (fun b => b = 0) (lb + 1)) (hr : Rd F H0 fP 1 s.v l) (bf_hr : BF F H0.size) (dfr : DFL F K) (hx : ∀ x ∈ l, Rd F H0 fB 1 x.1.v x.2) (bf_hx : BF F H0.size) (dfx : DFL F K) (hrl : ∀ x ∈ l, x.2.length ≤ 1048576) (hel : (encN 0 (recs l)).length ≤ 274877900000) (dlr : DF F (lb + 1)) (dlx : DF F (lb + 1)) (hl : p.length ≤ 4294960000) (hB : Bs N D) (hN : N + 4 * ((encW (recs l)).length + 20) ≤ 536870912) (hml : l.length ≤ 1073741824) :
    Ct Tryz.prog w0 16 #[ptr lb, s.v] H0 (fun r H2 => ∃ K2 : List Nat, ∃ g2 : Gh, r = .int .i64 ((freshD D p (recs l)).1 : Int) ∧ (PDk K2 g2 H2 b (freshD D p (recs l)).2) ∧ (NxK K H0.size K2) ∧ (Var 76 H2 lb [ptr b, Str p, .int .i64 (lgN (freshD D p (recs l)).1 l.length n : Int), .bool (lgB (freshD D p (recs l)).1 br)]) ∧ (DL (lb + 1) K2) ∧ Mo (Ms (K ++ [(lb + 1)])) H0 H2) := by
  refine Ct.enter (args := [ptr lb, s.v]) Tryz.func16 rfl rfl rfl ?_
  intro Q0 hret
  have hm0 : Mo (Ms (K ++ [(lb + 1)])) H0 H0 := Mo.refl _ _
  have nx_hm0_hf := NxK.refl K H0.size
  have hbk_hf := hf.bk
  have nx_hm0_hlg := Nx.refl (lb + 1) H0.size
  have hlt_hlg := hlg.lt
  refine CW.seq (fun K1 hK1 hE1 => ?_)
  refine CW.region ?_
  refine LR.z (Z.boxv1 rfl rfl (rfl)) (Wd.u rfl) rfl rfl (fun v2 H2 r2 => ?_)
  obtain ⟨rfl, hc2, hs2, ob2, hH2⟩ := r2
  have hzs2 : H2.size = H0.size + 1 := by rw [hH2]; simp
  have dj1 : DL (H0.size + 1) K := DL.newK hf.bk
  have df2 := (DF.new (bf_mx.mono hm0.size) : DF _ (H0.size + 1))
  have dj3 : Dj (lb + 1) (H0.size + 1) := Dj.new hlg.lt
  have df4 := (DF.new (bf_hr.mono hm0.size) : DF _ (H0.size + 1))
  have df5 := (DF.new (bf_hx.mono hm0.size) : DF _ (H0.size + 1))
  have nx6 : Nx 0 H0.size (H0.size + 1) := Nx.new hm0.size
  replace hf := hf.nw hs2
  replace mx := mx.nw hs2
  replace hlg := hlg.nw hs2
  replace hr := hr.nw hs2
  replace hx := fun x hx_ => (hx x hx_).nw hs2
  replace hm0 := hm0.trN hs2
  have hz1 := hs2.size
  replace hc2 : Var 30 H2 H0.size ([ptr lb]) := hc2
  refine LR.z (Z.boxv1 rfl rfl ((hr).oneCell)) (Wd.u rfl) rfl rfl (fun v3 H3 r3 => ?_)
  obtain ⟨rfl, hc3, hs3, ob3, hH3⟩ := r3
  have hzs3 : H3.size = H2.size + 1 := by rw [hH3]; simp
  have dj7 : DL (H2.size + 1) K := DL.newK hf.bk
  have df8 := (DF.new (bf_mx.mono hm0.size) : DF _ (H2.size + 1))
  have dj9 : Dj (lb + 1) (H2.size + 1) := Dj.new hlg.lt
  have df10 := (DF.new (bf_hr.mono hm0.size) : DF _ (H2.size + 1))
  have df11 := (DF.new (bf_hx.mono hm0.size) : DF _ (H2.size + 1))
  have dj12 : Dj (H0.size + 1) (H2.size + 1) := Dj.new hc2.lt
  have nx13 : Nx 0 H0.size (H2.size + 1) := Nx.new hm0.size
  replace hf := hf.nw hs3
  replace mx := mx.nw hs3
  replace hlg := hlg.nw hs3
  replace hr := hr.nw hs3
  replace hx := fun x hx_ => (hx x hx_).nw hs3
  replace hc2 := hc2.nw hs3
  replace hm0 := hm0.trN hs3
  have hz2 := hs3.size
  replace hc3 : Var 22 H3 H2.size ([s.v]) := hc3
  refine LR.v (Y.assign rfl rfl) (Wd.u rfl) rfl rfl ?_
  refine LR.nil ?_
  refine hK1 _ _ ?_
  refine CW.seq (fun K2 hK2 hE2 => ?_)
  refine CW.seq (fun K3 hK3 hE3 => ?_)
  refine CW.region ?_
  refine LR.v (Y.load1 hc3.pt rfl Tryz.isAgg22 rfl) (Wd.u rfl) rfl rfl ?_
  refine LR.v (Y.len hr rfl Tryz.runUnderlying22 rfl) (Wd.u rfl) rfl rfl ?_
  refine LR.v (Y.move rfl rfl) (Wd.u rfl) rfl rfl ?_
  refine LR.nil ?_
  refine hK3 _ _ ?_
  refine CW.block (fun K4 hK4 hX4 hE4 => ?_)
  refine CW.loop (fun (i : (Nat)) => [(2, .pointer (some ⟨H0.size, 0, none⟩)), (3, .pointer (some ⟨H2.size, 0, none⟩)), (9, s.v), (10, .int .i64 (l.length : Int)), (11, .int .i64 (i : Int))])
    (fun (i : (Nat)) (H : Heap) => (i ≤ l.length) ∧ Nw H3 H)
    (fun (i : (Nat)) => l.length - i) 0 ⟨rfl, rfl, rfl, rfl, rfl, trivial⟩ ?_ ?_
  ·
    exact ⟨(by omega), Mo.refl _ _⟩
  intro i HL1 hI1 K5 hN5 hE5
  obtain ⟨hi, hlm1⟩ := hI1
  replace hf := hf.nw hlm1
  replace mx := mx.nw hlm1
  replace hlg := hlg.nw hlm1
  replace hr := hr.nw hlm1
  replace hx := fun x hx_ => (hx x hx_).nw hlm1
  replace hc2 := hc2.nw hlm1
  replace hc3 := hc3.nw hlm1
  replace hm0 := hm0.trN hlm1
  have hz3 := hlm1.size
  refine CW.seq (fun K6 hK6 hE6 => ?_)
  refine CW.region ?_
  refine LR.v (Y.lss rfl rfl rfl) (Wd.u rfl) rfl rfl ?_
  refine LR.nil ?_
  refine hK6 _ _ ?_
  refine CW.seq (fun K7 hK7 hE7 => ?_)
  refine CW.condp rfl (fun c12 => ?_) (fun c12 => ?_)
  ·
    have hil : i < l.length := by omega
    have hxi := hx l[i] (List.getElem_mem hil)
    have hri := hrl l[i] (List.getElem_mem hil)
    refine CW.skip ?_
    refine hK7 _ _ ?_
    refine CW.seq (fun K8 hK8 hE8 => ?_)
    refine CW.block (fun K9 hK9 hX9 hE9 => ?_)
    refine CW.seq (fun K10 hK10 hE10 => ?_)
    refine CW.region ?_
    refine LR.e (g := fun ad => .pointer (some ad)) (Y.indexAddrF hr (i) rfl Tryz.runUnderlying22 Tryz.sizeOf34 rfl rfl (by first | rfl | omega) (by first | omega | (simp; omega) | (simp; done))) (Wd.u rfl) rfl rfl (fun ad13 pt13 => ?_)
    have bf_pt13 := bf_hr
    refine LR.v (Y.load1 pt13.pt rfl Tryz.isAgg34 rfl) (Wd.u rfl) rfl rfl ?_
    refine LR.v (Y.assign rfl rfl) (Wd.u rfl) rfl rfl ?_
    refine LR.nil ?_
    refine hK10 _ _ ?_
    refine CW.seq (fun K11 hK11 hE11 => ?_)
    refine CW.region ?_
    refine LR.v (Y.move rfl rfl) (Wd.u rfl) rfl rfl ?_
    refine LR.v (Y.len hxi rfl Tryz.runUnderlying34 rfl) (Wd.u rfl) rfl rfl ?_
    refine LR.v ((Y.gtr rfl rfl rfl).isF (by omega)) (Wd.u rfl) rfl rfl ?_
    refine LR.nil ?_
    refine hK11 _ _ ?_
    refine CW.cond_f rfl ?_
    refine CW.skip ?_
    refine hK9 _ _ ?_
    refine hK8 _ _ ?_
    refine CW.region ?_
    refine LR.v (Y.addi rfl rfl rfl (by omega)) (Wd.u rfl) rfl rfl ?_
    refine LR.v (Y.move rfl rfl) (Wd.u rfl) rfl rfl ?_
    refine LR.nil ?_
    refine QN.sub (hN5 (i + 1) _ ?_ ?_) ⟨rfl, rfl, rfl, (iv (by omega)), (iv (by omega)), trivial⟩
    · exact ⟨(by omega), hlm1⟩
    · first | omega | (simp only; omega) | (simp; omega)
  ·
    refine CW.exit (hE7 (.exit 0) nofun _ _ (hE5 (.exit 0) nofun _ _ (hX4 _ _ ?_)))
    refine hK2 _ _ ?_
    refine CW.seq (fun K12 hK12 hE12 => ?_)
    refine CW.region ?_
    refine LR.v (Y.load1 hc2.pt rfl Tryz.isAgg30 rfl) (Wd.u rfl) rfl rfl ?_
    refine LR.v (Y.nilCheck rfl rfl) (Wd.u rfl) rfl rfl ?_
    refine LR.v (Y.fieldAddr hlg.pt rfl Tryz.runUnderlying76 rfl rfl Tryz.sizeOf9 (by decide) rfl) (Wd.u rfl) rfl rfl ?_
    refine LR.v (Y.load1 (hlg.pt.drop 1) rfl Tryz.isAgg9 rfl) (Wd.u rfl) rfl rfl ?_
    refine LR.v (Y.cast (v2 := Str (newP p)) (Y.sadd rfl rfl rfl (by simp only [List.length_cons, List.length_nil]; omega)) (rfl)) (Wd.u rfl) rfl rfl ?_
    refine LR.z (Z.allocv rfl Tryz.zeroValue9) (Wd.u rfl) rfl rfl (fun v7 H7 r7 => ?_)
    obtain ⟨rfl, hc7, hs7, ob7, hH7⟩ := r7
    have hzs7 : H7.size = HL1.size + 1 := by rw [hH7]; simp
    have dj14 : DL (HL1.size + 1) K := DL.newK hf.bk
    have df15 := (DF.new (bf_mx.mono hm0.size) : DF _ (HL1.size + 1))
    have dj16 : Dj (lb + 1) (HL1.size + 1) := Dj.new hlg.lt
    have df17 := (DF.new (bf_hr.mono hm0.size) : DF _ (HL1.size + 1))
    have df18 := (DF.new (bf_hx.mono hm0.size) : DF _ (HL1.size + 1))
    have dj19 : Dj (H0.size + 1) (HL1.size + 1) := Dj.new hc2.lt
    have dj20 : Dj (H2.size + 1) (HL1.size + 1) := Dj.new hc3.lt
    have nx21 : Nx 0 H0.size (HL1.size + 1) := Nx.new hm0.size
    replace hf := hf.nw hs7
    replace mx := mx.nw hs7
    replace hlg := hlg.nw hs7
    replace hr := hr.nw hs7
    replace hx := fun x hx_ => (hx x hx_).nw hs7
    replace hc2 := hc2.nw hs7
    replace hc3 := hc3.nw hs7
    replace hm0 := hm0.trN hs7
    have hz4 := hs7.size
    replace hc7 : Var 9 H7 HL1.size ([Str []]) := hc7
    refine LR.s (S.var1 hc7 0 ([Str (newP p)]) rfl rfl rfl (rfl) Tryz.sizeOf9 (by simp) (rfl)) (Wd.u rfl) rfl (fun H7_6 r7_6 => ?_)
    obtain ⟨hc7, hs7_6⟩ := r7_6
    replace hs7_6 := hs7_6.md1
    replace hf := hf.upL hs7_6 (DKL.cons dj14 DKL.nil)
    replace mx := mx.upL hs7_6 (DFL.cons df15 DFL.nil)
    replace hlg := hlg.upL hs7_6 (DL.cons dj16 DL.nil)
    replace hr := hr.upL hs7_6 (DFL.cons df17 DFL.nil)
    replace hx := fun x hx_ => (hx x hx_).upL hs7_6 (DFL.cons df18 DFL.nil)
    replace hc2 := hc2.upL hs7_6 (DL.cons dj19 DL.nil)
    replace hc3 := hc3.upL hs7_6 (DL.cons dj20 DL.nil)
    replace hm0 := hm0.trL hs7_6 (MIL.cons (MI.app MI.z (nx21) (Nat.le_refl _)) MIL.nil)
    have hz5 := hs7_6.size
    refine LR.nil ?_
    refine hK12 _ _ ?_
    refine CW.seq (fun K13 hK13 hE13 => ?_)
    refine CW.region ?_
    refine LR.v (Y.makeFunc rfl rfl) (Wd.u rfl) rfl rfl ?_
    refine LR.v (Y.makeFunc rfl rfl) (Wd.u rfl) rfl rfl ?_
    refine LR.v (Y.makeFunc rfl rfl) (Wd.u rfl) rfl rfl ?_
    refine LR.v (Y.makeFunc rfl rfl) (Wd.u rfl) rfl rfl ?_
    refine LR.z (Z.litw _ (([(44, [ptr H0.size, ptr HL1.size, ptr H2.size]), (47, [ptr H0.size, ptr HL1.size]), (48, [ptr H0.size, ptr HL1.size]), (50, [ptr H0.size])] : List FnV)) rfl inf146 rfl rfl rfl (by decide) (by decide) fFn_len fFn_one (rfl)) (Wd.u rfl) rfl rfl (fun v28 H28 r28 => ?_)
    obtain ⟨ow28, hs28, ob28, hH28⟩ := r28
    have hzs28 : H28.size = H7_6.size + 1 := by rw [hH28]; simp
    have dj22 : DL (H7_6.size + 1) K := DL.newK hf.bk
    have df23 := (DF.new (bf_mx.mono hm0.size) : DF _ (H7_6.size + 1))
    have dj24 : Dj (lb + 1) (H7_6.size + 1) := Dj.new hlg.lt
    have df25 := (DF.new (bf_hr.mono hm0.size) : DF _ (H7_6.size + 1))
    have df26 := (DF.new (bf_hx.mono hm0.size) : DF _ (H7_6.size + 1))
    have dj27 : Dj (H0.size + 1) (H7_6.size + 1) := Dj.new hc2.lt
    have dj28 : Dj (H2.size + 1) (H7_6.size + 1) := Dj.new hc3.lt
    have dj29 : Dj (HL1.size + 1) (H7_6.size + 1) := Dj.new hc7.lt
    have nx30 : Nx 0 H0.size (H7_6.size + 1) := Nx.new hm0.size
    replace hf := hf.nw hs28
    replace mx := mx.nw hs28
    replace hlg := hlg.nw hs28
    replace hr := hr.nw hs28
    replace hx := fun x hx_ => (hx x hx_).nw hs28
    replace hc2 := hc2.nw hs28
    replace hc3 := hc3.nw hs28
    replace hc7 := hc7.nw hs28
    replace hm0 := hm0.trN hs28
    have hz6 := hs28.size
    -- call selvage/wal.first
    refine LR.call rfl Tryz.call31 rfl (Wd.u rfl) rfl rfl (first_ct K g b D v28 [(44, [ptr H0.size, ptr HL1.size, ptr H2.size]), (47, [ptr H0.size, ptr HL1.size]), (48, [ptr H0.size, ptr HL1.size]), (50, [ptr H0.size])] (frS p (recs l)) _ w0 _ hf ow28.rd (BF.of ow28.le) (DFL.of (dj22)) rfl (ck_steps (LgS.mk mx (bf_mx.mono (by omega)) (dmx) hc2 hlg (dj1) (dl)) (VaS.mk hc7 (dj14)) (VaS.mk hc3 (dj7)) (RwS.mk hr (bf_hr.mono (by omega)) (dfr)) hx hrl hel hl hB hN)) (fun v29 H29 r29 => ?_)
    have ql31 := hf.bk
    have ql32 := hlg.lt
    have ql33 := hc2.lt
    have ql34 := hc3.lt
    have ql35 := hc7.lt
    have ql36 := ow28.le
    obtain ⟨K29, g29, rfl, hf, hkd29, hs29⟩ := r29
    have df37 := DFL.appK (dmx) (bf_mx.mono hm0.size) hkd29
    have dj38 : DL (lb + 1) K29 := DL.appK (dl) ql32 hkd29
    have df39 := DFL.appK (dfr) (bf_hr.mono hm0.size) hkd29
    have df40 := DFL.appK (dfx) (bf_hx.mono hm0.size) hkd29
    have dj41 : DL (H0.size + 1) K29 := DL.appK (dj1) ql33 hkd29
    have dj42 : DL (H2.size + 1) K29 := DL.appK (dj7) ql34 hkd29
    have dj43 : DL (HL1.size + 1) K29 := DL.appK (dj14) ql35 hkd29
    have dj44 : DL (H7_6.size + 1) K29 := DL.appK (dj22) ql36 hkd29
    have nx45 : NxK K H0.size K29 := NxK.tr (nx_hm0_hf) hkd29 hm0.size
    replace mx := mx.upL hs29 (dmx)
    replace hlg := hlg.upL hs29 (dl)
    replace hr := hr.upL hs29 (dfr)
    replace hx := fun x hx_ => (hx x hx_).upL hs29 (dfx)
    replace hc2 := hc2.upL hs29 (dj1)
    replace hc3 := hc3.upL hs29 (dj7)
    replace hc7 := hc7.upL hs29 (dj14)
    replace ow28 := ow28.upL hs29 (dj22)
    replace hm0 := hm0.trL hs29 (MIL.ofK (nx_hm0_hf) (by intro k hk; simp [hk]))
    have hz7 := hs29.size
    have hbk_hf := hf.bk
    refine LR.v (Y.assign rfl rfl) (Wd.u rfl) rfl rfl ?_
    refine LR.nil ?_
    refine hK13 _ _ ?_
    refine CW.seq (fun K14 hK14 hE14 => ?_)
    refine CW.seq (fun K15 hK15 hE15 => ?_)
    refine CW.region ?_
    refine LR.v (Y.move rfl rfl) (Wd.u rfl) rfl rfl ?_
    refine LR.v (Y.eql rfl rfl rfl) (Wd.u rfl) rfl rfl ?_
    refine LR.nil ?_
    refine hK15 _ _ ?_
    refine CW.condp rfl (fun c31 => ?_) (fun c31 => ?_)
    ·
      refine CW.region_any (fun Hq => Mo (Ms [(lb + 1)]) H29 Hq) [] rfl ?_
      have hq10 : Mo (Ms [(lb + 1)]) H29 H29 := Mo.refl _ _
      have nx46 := Nx.refl (lb + 1) H29.size
      refine LH.take 0 (by kernel_rfl) rfl (by kernel_rfl) (by kernel_rfl) (by kernel_rfl) (fun Hq hq => Y.load1 (hc2.upL hq (DL.cons dj3.symm DL.nil)).pt rfl Tryz.isAgg30 rfl) (Wd.u rfl) rfl rfl hq10 ?_
      refine LH.take 1 (by kernel_rfl) rfl (by kernel_rfl) (by kernel_rfl) (by kernel_rfl) (fun Hq hq => Y.load1 (hc2.upL hq (DL.cons dj3.symm DL.nil)).pt rfl Tryz.isAgg30 rfl) (Wd.u rfl) rfl rfl hq10 ?_
      refine LH.take 2 (by kernel_rfl) rfl (by kernel_rfl) (by kernel_rfl) (by kernel_rfl) (fun Hq hq => Y.load1 (hc3.upL hq (DL.cons dj9.symm DL.nil)).pt rfl Tryz.isAgg22 rfl) (Wd.u rfl) rfl rfl hq10 ?_
      refine LH.take 3 (by kernel_rfl) rfl (by kernel_rfl) (by kernel_rfl) (by kernel_rfl) (fun Hq hq => Y.len (hr.upL hq (DFL.cons dlr DFL.nil)) rfl Tryz.runUnderlying22 rfl) (Wd.u rfl) rfl rfl hq10 ?_
      refine LH.take 4 (by kernel_rfl) rfl (by kernel_rfl) (by kernel_rfl) (by kernel_rfl) (fun Hq hq => Y.nilCheck rfl rfl) (Wd.u rfl) rfl rfl hq10 ?_
      refine LH.take 5 (by kernel_rfl) rfl (by kernel_rfl) (by kernel_rfl) (by kernel_rfl) (fun Hq hq => Y.fieldAddrX hlg.pt rfl Tryz.runUnderlying76 rfl rfl Tryz.sizeOf3 (by decide) rfl) (Wd.u rfl) rfl rfl hq10 ?_
      refine LH.one (i := 6) (by kernel_rfl) ?_
      refine LO.s rfl (S.var1 hlg 2 ([ptr b, Str p, .int .i64 (l.length : Int), .bool br]) rfl rfl rfl (rfl) Tryz.sizeOf3 (by simp) (rfl)) (Wd.u rfl) rfl (fun H10_6 r10_6 => ?_)
      obtain ⟨hlg, hs10_6⟩ := r10_6
      replace hs10_6 := hs10_6.md1
      replace hf := hf.upL hs10_6 (DKL.cons dj38 DKL.nil)
      replace mx := mx.upL hs10_6 (DFL.cons dmv DFL.nil)
      replace hr := hr.upL hs10_6 (DFL.cons dlr DFL.nil)
      replace hx := fun x hx_ => (hx x hx_).upL hs10_6 (DFL.cons dlx DFL.nil)
      replace hc2 := hc2.upL hs10_6 (DL.cons dj3.symm DL.nil)
      replace hc3 := hc3.upL hs10_6 (DL.cons dj9.symm DL.nil)
      replace hm0 := hm0.trL hs10_6 (MIL.cons (MI.app (MI.root (by simp)) (nx_hm0_hlg) (Nat.le_refl _)) MIL.nil)
      replace hq10 := hq10.trL hs10_6 (MIL.cons (MI.app (MI.root (by simp)) (nx46) (Nat.le_refl _)) MIL.nil)
      have hz8 := hs10_6.size
      refine ⟨.inr hq10, LH.narrow (SH2 := fun Hq => Mo (Ms [(lb + 1)]) H10_6 Hq) (fun Hq hq => hq10.trL hq (MIL.cons (MI.app (MI.root (by simp)) (nx46) (Nat.le_refl _)) MIL.nil)) ?_⟩
      have hq10 : Mo (Ms [(lb + 1)]) H10_6 H10_6 := Mo.refl _ _
      have nx47 := Nx.refl (lb + 1) H10_6.size
      refine LH.take 7 (by kernel_rfl) rfl (by kernel_rfl) (by kernel_rfl) (by kernel_rfl) (fun Hq hq => Y.nilCheck rfl rfl) (Wd.u rfl) rfl rfl hq10 ?_
      refine LH.take 8 (by kernel_rfl) rfl (by kernel_rfl) (by kernel_rfl) (by kernel_rfl) (fun Hq hq => Y.fieldAddrX hlg.pt rfl Tryz.runUnderlying76 rfl rfl Tryz.sizeOf4 (by decide) rfl) (Wd.u rfl) rfl rfl hq10 ?_
      refine LH.one (i := 9) (by kernel_rfl) ?_
      refine LO.s rfl (S.var1 hlg 3 ([ptr b, Str p, .int .i64 (l.length : Int), .bool false]) rfl rfl rfl (rfl) Tryz.sizeOf4 (by simp) (rfl)) (Wd.u rfl) rfl (fun H10_9 r10_9 => ?_)
      obtain ⟨hlg, hs10_9⟩ := r10_9
      replace hs10_9 := hs10_9.md1
      replace hf := hf.upL hs10_9 (DKL.cons dj38 DKL.nil)
      replace mx := mx.upL hs10_9 (DFL.cons dmv DFL.nil)
      replace hr := hr.upL hs10_9 (DFL.cons dlr DFL.nil)
      replace hx := fun x hx_ => (hx x hx_).upL hs10_9 (DFL.cons dlx DFL.nil)
      replace hc2 := hc2.upL hs10_9 (DL.cons dj3.symm DL.nil)
      replace hc3 := hc3.upL hs10_9 (DL.cons dj9.symm DL.nil)
      replace hm0 := hm0.trL hs10_9 (MIL.cons (MI.app (MI.root (by simp)) (nx_hm0_hlg) (Nat.le_refl _)) MIL.nil)
      replace hq10 := hq10.trL hs10_9 (MIL.cons (MI.app (MI.root (by simp)) (nx47) (Nat.le_refl _)) MIL.nil)
      have hz9 := hs10_9.size
      refine ⟨.inr hq10, LH.narrow (SH2 := fun Hq => Mo (Ms [(lb + 1)]) H10_9 Hq) (fun Hq hq => hq10.trL hq (MIL.cons (MI.app (MI.root (by simp)) (nx47) (Nat.le_refl _)) MIL.nil)) ?_⟩
      have hq10 : Mo (Ms [(lb + 1)]) H10_9 H10_9 := Mo.refl _ _
      have nx48 := Nx.refl (lb + 1) H10_9.size
      refine LH.done (by kernel_rfl) ?_
      refine hK14 _ _ ?_
      refine CW.seq (fun K16 hK16 hE16 => ?_)
      refine CW.region ?_
      refine LR.v (Y.move rfl rfl) (Wd.u rfl) rfl rfl ?_
      refine LR.v (Y.assign rfl rfl) (Wd.u rfl) rfl rfl ?_
      refine LR.nil ?_
      refine hK16 _ _ ?_
      refine CW.ret (hret .ret (.inr rfl) _ _ _ (res1 rfl rfl) ?_)
      have he0 : (runD (frS p (recs l)) D).1 = 0 := by omega
      exact ⟨_, _, rfl, hf, nx45, by unfold lgN lgB freshD; rw [if_pos he0, if_pos he0]; exact hlg, dj38, hm0⟩
    ·
      refine CW.skip ?_
      refine hK14 _ _ ?_
      refine CW.seq (fun K17 hK17 hE17 => ?_)
      refine CW.region ?_
      refine LR.v (Y.move rfl rfl) (Wd.u rfl) rfl rfl ?_
      refine LR.v (Y.assign rfl rfl) (Wd.u rfl) rfl rfl ?_
      refine LR.nil ?_
      refine hK17 _ _ ?_
      refine CW.ret (hret .ret (.inr rfl) _ _ _ (res1 rfl rfl) ?_)
      have he0 : (runD (frS p (recs l)) D).1 ≠ 0 := by omega
      exact ⟨_, _, rfl, hf, nx45, by unfold lgN lgB freshD; rw [if_neg he0, if_neg he0]; exact hlg, dj38, hm0⟩

end Go.Proofs.YtdliddjkacbggaaGreatDoor.WalE
/-
  A journal on a disk: mending, appending, opening.
-/
namespace Go.Proofs.YtdliddjkacbggaaGreatDoor.WalF
open Go.Proofs.YtdliddjkacbggaaGreatDoor.E Go.RowKit Go.Proofs.YtdliddjkacbggaaGreatDoor.SimA Go.Proofs.YtdliddjkacbggaaGreatDoor.SimB Go.Proofs.YtdliddjkacbggaaGreatDoor.SimC Go.Proofs.YtdliddjkacbggaaGreatDoor.SimD Go.Proofs.YtdliddjkacbggaaGreatDoor.SimE Go.Proofs.YtdliddjkacbggaaGreatDoor.SimF Go.Proofs.YtdliddjkacbggaaGreatDoor.SimG Go.Proofs.YtdliddjkacbggaaGreatDoor.SimH Go.Proofs.YtdliddjkacbggaaGreatDoor.SimI Go.Proofs.YtdliddjkacbggaaGreatDoor.SimQ Go.Proofs.YtdliddjkacbggaaGreatDoor.SimR Go.Proofs.YtdliddjkacbggaaGreatDoor.WalA Go.Proofs.YtdliddjkacbggaaGreatDoor.WalB Go.Proofs.YtdliddjkacbggaaGreatDoor.WalC Go.Proofs.YtdliddjkacbggaaGreatDoor.WalD Go.Proofs.YtdliddjkacbggaaGreatDoor.WalE
set_option maxRecDepth 20000
set_option linter.unusedVariables false
set_option linter.unusedSimpArgs false
set_option linter.unusedSectionVars false
set_option maxRecDepth 100000 in
theorem inf146 : Inf Tryz.prog 146 79 1 8 := ⟨Tryz.underlying146, _, _, rfl, rfl, rfl, rfl, rfl⟩

theorem mend_1 {D : Dk} {p : Pth} {n : Nat} (h : D.readE p ≠ 0) : mendD D p n = (D.readE p, D) := by unfold mendD; rw [if_pos h]
theorem mend_2 {D : Dk} {p : Pth} {n : Nat} (h : D.readE p = 0) (h2 : parE (D.readL p) ≠ 0) : mendD D p n = (parE (D.readL p), D) := by unfold mendD; rw [if_neg (by omega), if_pos h2]
theorem mend_3 {D : Dk} {p : Pth} {n : Nat} (h : D.readE p = 0) (h2 : parE (D.readL p) = 0) : mendD D p n = freshD D p ((parL (D.readL p)).take n) := by unfold mendD; rw [if_neg (by omega), if_neg (by omega)]
theorem recs_take (l : List (SV × Rec)) (i n : Nat) (h : i = min n l.length) : recs (l.take i) = (recs l).take n := by
  unfold recs; rw [List.map_take, h]
  rcases Nat.le_total n l.length with h2 | h2
  · rw [Nat.min_eq_left h2]
  · rw [Nat.min_eq_right h2, List.take_of_length_le (by simp), List.take_of_length_le (by simpa using h2)]
theorem encW_bd (b : List UInt8) (n : Nat) : (encW ((parL b).take n)).length ≤ b.length + 8 := by
  have h1 := (encN_parL_le b).1
  have h2 := encN_sub (parL b) n
  have h8 : W8.length = 8 := rfl
  unfold encW; rw [List.length_append]; omega
theorem parL_many (b : List UInt8) : (parL b).length ≤ b.length + 8 := Nat.le_trans (encW_many _) (encN_parL_le b).2
theorem lgN_0 {m n e : Nat} (h : e = 0) : lgN e m n = m := if_pos h
theorem lgB_0 {e : Nat} {br : Bool} (h : e = 0) : lgB e br = false := if_pos h
theorem lgN_1 {m n e : Nat} (h : e ≠ 0) : lgN e m n = n := if_neg h
theorem lgB_1 {e : Nat} {br : Bool} (h : e ≠ 0) : lgB e br = br := if_neg h

set_option maxHeartbeats 4000000 in
theorem mend_ct (mx_ : Int) (K : List Nat) (g : Gh) (b : Nat) (D : Dk) (lb : Nat) (p : Pth) (n : Nat) (br : Bool) (N : Nat) (w0 : World) (H0 : Heap)
    (hf : PDk K g H0 b D) (mx : MX mx_ H0) (bf_mx : BF (fun b => b = 0) H0.size) (dmx : DFL (fun b => b = 0) K) (hlg : Var 76 H0 lb [ptr b, Str p, .int .i64 (n : Int), .bool br]) (dl : DL (lb + 1) K) (dmv : DF (fun b => b = 0) (lb + 1)) (hl : p.length ≤ 4294960000) (hB : Bs N D) (hN : N ≤ 90000000) (hnn : n ≤ 1073741824) :
    Ct Tryz.prog w0 28 #[ptr lb] H0 (fun r H2 => ∃ K2 : List Nat, ∃ g2 : Gh, r = .int .i64 ((mendD D p n).1 : Int) ∧ (PDk K2 g2 H2 b (mendD D p n).2) ∧ (NxK K H0.size K2) ∧ (Var 76 H2 lb [ptr b, Str p, .int .i64 (lgN (mendD D p n).1 (mendN D p n) n : Int), .bool (lgB (mendD D p n).1 br)]) ∧ (DL (lb + 1) K2) ∧ Mo (Ms (K ++ [(lb + 1)])) H0 H2) := by
  refine Ct.enter (args := [ptr lb]) Tryz.func28 rfl rfl rfl ?_
  intro Q0 hret
  have hm0 : Mo (Ms (K ++ [(lb + 1)])) H0 H0 := Mo.refl _ _
  have nx_hm0_hf := NxK.refl K H0.size
  have hbk_hf := hf.bk
  have nx_hm0_hlg := Nx.refl (lb + 1) H0.size
  have hlt_hlg := hlg.lt
  have hrb := readL_bd hB p
  have hcm := encW_bd (D.readL p)
  have hpm := parL_many (D.readL p)
  refine CW.seq (fun K1 hK1 hE1 => ?_)
  refine CW.region ?_
  refine LR.v (Y.assign rfl rfl) (Wd.u rfl) rfl rfl ?_
  refine LR.nil ?_
  refine hK1 _ _ ?_
  refine CW.seq (fun K2 hK2 hE2 => ?_)
  refine CW.region_any (fun Hq => Nw H0 Hq) [] rfl ?_
  have hqs := Nw.refl H0
  refine LH.take 0 (by kernel_rfl) rfl (by kernel_rfl) (by kernel_rfl) (by kernel_rfl) (fun Hq hq => Y.move rfl rfl) (Wd.u rfl) rfl rfl hqs ?_
  refine LH.take 1 (by kernel_rfl) rfl (by kernel_rfl) (by kernel_rfl) (by kernel_rfl) (fun Hq hq => Y.nilCheck rfl rfl) (Wd.u rfl) rfl rfl hqs ?_
  refine LH.take 2 (by kernel_rfl) rfl (by kernel_rfl) (by kernel_rfl) (by kernel_rfl) (fun Hq hq => Y.fieldAddr (hlg.pt.nw hq) rfl Tryz.runUnderlying76 rfl rfl Tryz.sizeOf26 (by decide) rfl) (Wd.u rfl) rfl rfl hqs ?_
  refine LH.take 3 (by kernel_rfl) rfl (by kernel_rfl) (by kernel_rfl) (by kernel_rfl) (fun Hq hq => Y.load1 (hlg.pt.nw hq) rfl Tryz.isAgg26 rfl) (Wd.u rfl) rfl rfl hqs ?_
  refine LH.take 4 (by kernel_rfl) rfl (by kernel_rfl) (by kernel_rfl) (by kernel_rfl) (fun Hq hq => Y.move rfl rfl) (Wd.u rfl) rfl rfl hqs ?_
  refine LH.take 5 (by kernel_rfl) rfl (by kernel_rfl) (by kernel_rfl) (by kernel_rfl) (fun Hq hq => Y.nilCheck rfl rfl) (Wd.u rfl) rfl rfl hqs ?_
  refine LH.take 6 (by kernel_rfl) rfl (by kernel_rfl) (by kernel_rfl) (by kernel_rfl) (fun Hq hq => Y.fieldAddr (hlg.pt.nw hq) rfl Tryz.runUnderlying76 rfl rfl Tryz.sizeOf9 (by decide) rfl) (Wd.u rfl) rfl rfl hqs ?_
  refine LH.take 7 (by kernel_rfl) rfl (by kernel_rfl) (by kernel_rfl) (by kernel_rfl) (fun Hq hq => Y.load1 ((hlg.pt.drop 1).nw hq) rfl Tryz.isAgg9 rfl) (Wd.u rfl) rfl rfl hqs ?_
  refine LH.one (i := 8) (by kernel_rfl) ?_
  -- call (*selvage/simfs.FS).Read
  refine LO.call rfl rfl Tryz.call23 rfl (Wd.u rfl) rfl rfl (read_ct mx_ K g b D p w0 _ mx (bf_mx.mono (by omega)) hf (by omega) (fun i => by have := (hB.f i).1; omega)) (fun v16 H16 r16 => ?_)
  obtain ⟨s16, k16, rfl, ow16, hk16, hs16⟩ := r16
  have dj1 : DL k16 K := DL.app2 (DL.zK) hf.bk hk16
  have df2 := DF.app (DF.z) (bf_mx.mono hm0.size) hk16
  have dj3 : Dj (lb + 1) k16 := Dj.app (Dj.z) hlg.lt hk16
  have nx4 : Nx 0 H0.size k16 := Nx.tr (Nx.refl 0 _) hk16 hm0.size
  replace hf := hf.nw hs16
  replace mx := mx.nw hs16
  replace hlg := hlg.nw hs16
  replace hm0 := hm0.trN hs16
  have hz1 := hs16.size
  have hle_ow16 := ow16.le
  have hq16 := hqs.tr hs16
  refine ⟨.inr hq16, LH.narrow (SH2 := fun Hq => Nw H16 Hq) (fun Hq hq => hq16.tr hq) ?_⟩
  have hqn16 := Nw.refl H16
  refine LH.take 9 (by kernel_rfl) rfl (by kernel_rfl) (by kernel_rfl) (by kernel_rfl) (fun Hq hq => Y.move rfl rfl) (Wd.u rfl) rfl rfl hqn16 ?_
  refine LH.take 10 (by kernel_rfl) rfl (by kernel_rfl) (by kernel_rfl) (by kernel_rfl) (fun Hq hq => Y.extract rfl rfl rfl) (Wd.u rfl) rfl rfl hqn16 ?_
  refine LH.take 11 (by kernel_rfl) rfl (by kernel_rfl) (by kernel_rfl) (by kernel_rfl) (fun Hq hq => Y.extract rfl rfl rfl) (Wd.u rfl) rfl rfl hqn16 ?_
  refine LH.take 12 (by kernel_rfl) rfl (by kernel_rfl) (by kernel_rfl) (by kernel_rfl) (fun Hq hq => Y.assign rfl rfl) (Wd.u rfl) rfl rfl hqn16 ?_
  refine LH.take 13 (by kernel_rfl) rfl (by kernel_rfl) (by kernel_rfl) (by kernel_rfl) (fun Hq hq => Y.assign rfl rfl) (Wd.u rfl) rfl rfl hqn16 ?_
  refine LH.done (by kernel_rfl) ?_
  have hqe := hqn16
  refine hK2 _ _ ?_
  refine CW.seq (fun K3 hK3 hE3 => ?_)
  refine CW.seq (fun K4 hK4 hE4 => ?_)
  refine CW.region ?_
  refine LR.v (Y.move rfl rfl) (Wd.u rfl) rfl rfl ?_
  refine LR.v (Y.neq rfl rfl rfl) (Wd.u rfl) rfl rfl ?_
  refine LR.nil ?_
  refine hK4 _ _ ?_
  refine CW.condp rfl (fun c20 => ?_) (fun c20 => ?_)
  ·
    refine CW.seq (fun K5 hK5 hE5 => ?_)
    refine CW.region ?_
    refine LR.v (Y.move rfl rfl) (Wd.u rfl) rfl rfl ?_
    refine LR.v (Y.assign rfl rfl) (Wd.u rfl) rfl rfl ?_
    refine LR.nil ?_
    refine hK5 _ _ ?_
    refine CW.ret (hE3 .ret nofun _ _ (hret .ret (.inr rfl) _ _ _ (res1 rfl rfl) ?_))
    have hm := mend_1 (n := n) (show D.readE p ≠ 0 by omega)
    have hn0 : (mendD D p n).1 ≠ 0 := by rw [hm]; show D.readE p ≠ 0; omega
    exact ⟨_, _, by rw [hm]; rfl, by rw [hm]; exact hf, nx_hm0_hf, by rw [lgN_1 hn0, lgB_1 hn0]; exact hlg, dl, hm0⟩
  ·
    refine CW.skip ?_
    refine hK3 _ _ ?_
    refine CW.seq (fun K6 hK6 hE6 => ?_)
    refine CW.region ?_
    refine LR.v (Y.move rfl rfl) (Wd.u rfl) rfl rfl ?_
    -- call selvage/wal.Parse
    refine LR.call rfl Tryz.call27 rfl (Wd.u rfl) rfl rfl (parse_ct s16 (D.readL p) w0 _ ow16.rd.any (by have := readL_bd hB p; omega)) (fun v24 H24 r24 => ?_)
    obtain ⟨t24, l24, rfl, hrc24, hw24, hx24, hs24⟩ := r24
    replace hf := hf.nw hs24
    replace mx := mx.nw hs24
    replace hlg := hlg.nw hs24
    replace ow16 := ow16.nw hs24
    replace hm0 := hm0.trN hs24
    have hz2 := hs24.size
    replace hw24 := hw24.bnd
    have bf_hw24 := hw24.bf
    have df5 : DFL (fun b => H16.size ≤ b ∧ b < H24.size) K := DFL.above (fun b h => h.1) (by first | exact hbk_hf | exact fun k hk => Nat.le_trans (hbk_hf k hk) (by omega) | assumption)
    have df6 : DF (fun b => H16.size ≤ b ∧ b < H24.size) (lb + 1) := DF.above (fun b h => h.1) (by first | exact hle_hlg | exact hlt_hlg | omega)
    have df7 : DF (fun b => H16.size ≤ b ∧ b < H24.size) k16 := DF.above (fun b h => h.1) (by first | exact hle_ow16 | exact hlt_ow16 | omega)
    replace hx24 := fun x hx_ => (hx24 x hx_).bnd
    have bf_hx24 : BF (fun b => H16.size ≤ b ∧ b < H24.size) H24.size := fun b h => h.2
    have df8 : DFL (fun b => H16.size ≤ b ∧ b < H24.size) K := DFL.above (fun b h => h.1) (by first | exact hbk_hf | exact fun k hk => Nat.le_trans (hbk_hf k hk) (by omega) | assumption)
    have df9 : DF (fun b => H16.size ≤ b ∧ b < H24.size) (lb + 1) := DF.above (fun b h => h.1) (by first | exact hle_hlg | exact hlt_hlg | omega)
    have df10 : DF (fun b => H16.size ≤ b ∧ b < H24.size) k16 := DF.above (fun b h => h.1) (by first | exact hle_ow16 | exact hlt_ow16 | omega)
    refine LR.v (Y.move rfl rfl) (Wd.u rfl) rfl rfl ?_
    refine LR.v (Y.extract rfl rfl rfl) (Wd.u rfl) rfl rfl ?_
    refine LR.v (Y.extract rfl rfl rfl) (Wd.u rfl) rfl rfl ?_
    refine LR.v (Y.extract rfl rfl rfl) (Wd.u rfl) rfl rfl ?_
    refine LR.v (Y.assign rfl rfl) (Wd.u rfl) rfl rfl ?_
    refine LR.v (Y.assign rfl rfl) (Wd.u rfl) rfl rfl ?_
    refine LR.v (Y.assign rfl rfl) (Wd.u rfl) rfl rfl ?_
    refine LR.nil ?_
    refine hK6 _ _ ?_
    refine CW.seq (fun K7 hK7 hE7 => ?_)
    refine CW.seq (fun K8 hK8 hE8 => ?_)
    refine CW.region ?_
    refine LR.v (Y.move rfl rfl) (Wd.u rfl) rfl rfl ?_
    refine LR.v (Y.neq rfl rfl rfl) (Wd.u rfl) rfl rfl ?_
    refine LR.nil ?_
    refine hK8 _ _ ?_
    refine CW.condp rfl (fun c29 => ?_) (fun c29 => ?_)
    ·
      refine CW.seq (fun K9 hK9 hE9 => ?_)
      refine CW.region ?_
      refine LR.v (Y.move rfl rfl) (Wd.u rfl) rfl rfl ?_
      refine LR.v (Y.assign rfl rfl) (Wd.u rfl) rfl rfl ?_
      refine LR.nil ?_
      refine hK9 _ _ ?_
      refine CW.ret (hE7 .ret nofun _ _ (hret .ret (.inr rfl) _ _ _ (res1 rfl rfl) ?_))
      have hm := mend_2 (n := n) (show D.readE p = 0 by omega) (show parE (D.readL p) ≠ 0 by omega)
      have hn0 : (mendD D p n).1 ≠ 0 := by rw [hm]; show parE (D.readL p) ≠ 0; omega
      exact ⟨_, _, by rw [hm]; rfl, by rw [hm]; exact hf, nx_hm0_hf, by rw [lgN_1 hn0, lgB_1 hn0]; exact hlg, dl, hm0⟩
    ·
      refine CW.skip ?_
      refine hK7 _ _ ?_
      refine CW.seq (fun K10 hK10 hE10 => ?_)
      refine CW.region ?_
      refine LR.v (Y.move rfl rfl) (Wd.u rfl) rfl rfl ?_
      refine LR.v (Y.move rfl rfl) (Wd.u rfl) rfl rfl ?_
      refine LR.v (Y.move rfl rfl) (Wd.u rfl) rfl rfl ?_
      refine LR.v (Y.nilCheck rfl rfl) (Wd.u rfl) rfl rfl ?_
      refine LR.v (Y.fieldAddr hlg.pt rfl Tryz.runUnderlying76 rfl rfl Tryz.sizeOf3 (by decide) rfl) (Wd.u rfl) rfl rfl ?_
      refine LR.v (Y.load1 (hlg.pt.drop 2) rfl Tryz.isAgg3 rfl) (Wd.u rfl) rfl rfl ?_
      refine LR.v (Y.move rfl rfl) (Wd.u rfl) rfl rfl ?_
      refine LR.v (Y.len hw24 rfl Tryz.runUnderlying22 rfl) (Wd.u rfl) rfl rfl ?_
      refine LR.v (Y.cast (v2 := .int .i64 ((min n l24.length : Nat) : Int)) (Y.mini rfl rfl rfl) (ivv (by omega))) (Wd.u rfl) rfl rfl ?_
      refine LR.e (g := fun v => v) (Y.slice hw24 (0) (min n l24.length) rfl Tryz.runUnderlying22 Tryz.sizeOf34 rfl (.inl ⟨rfl, rfl⟩) (.inr ⟨_, _, _, rfl, rfl, by first | rfl | omega⟩) (by omega) (by omega)) (Wd.u rfl) rfl rfl (fun v40 rd40 => ?_)
      have bf_rd40 := bf_hw24
      rw [List.drop_zero] at rd40
      obtain ⟨s40, rfl⟩ : ∃ s : SV, v40 = s.v := ⟨toSV v40, rd40.sv.symm⟩
      have hrt := recs_take l24 (min n l24.length) n rfl
      rw [hrc24] at hrt
      have hlt24 := congrArg List.length hrc24
      simp only [recs, List.length_map] at hlt24
      -- call (*selvage/wal.Log).Checkpoint
      refine LR.call rfl Tryz.call16 rfl (Wd.u rfl) rfl rfl (ckpt_ct mx_ K g b D lb p n br s40 (l24.take (min n l24.length)) _ N w0 _ hf mx (bf_mx.mono (by omega)) (dmx) hlg (dl) (dmv) rd40 (bf_hw24.mono (by omega)) (df5) (fun x h => hx24 x (List.mem_of_mem_take h)) (bf_hw24.mono (by omega)) (df8) (fun x h => parL_max _ _ (by rw [← hrc24]; exact List.mem_map_of_mem (List.mem_of_mem_take h))) (by rw [hrt]; have h1 := encN_sub (parL (D.readL p)) n; have h2 := (encN_parL_le (D.readL p)).1; omega) (df6) (df9) hl hB (by rw [hrt]; have := hcm n; omega) (by rw [List.length_take]; omega)) (fun v41 H41 r41 => ?_)
      have ql11 := hf.bk
      have ql12 := hlg.lt
      have ql13 := ow16.le
      obtain ⟨K41, g41, rfl, hf, hkd41, hlg, dl241, hs41⟩ := r41
      have df14 := DFL.appK (dmx) (bf_mx.mono hm0.size) hkd41
      have dj15 : DL (lb + 1) K41 := DL.appK (dl) ql12 hkd41
      have dj16 : DL k16 K41 := DL.appK (dj1) ql13 hkd41
      have df17 := DFL.appK (df5) (bf_hw24.mono (by omega)) hkd41
      have df18 := DFL.appK (df8) (bf_hx24.mono (by omega)) hkd41
      have df19 := DFL.appK (df5) (bf_rd40.mono (by omega)) hkd41
      have nx20 : NxK K H0.size K41 := NxK.tr (nx_hm0_hf) hkd41 hm0.size
      replace mx := mx.upL hs41 (DFL.app dmx (DFL.cons dmv DFL.nil))
      replace ow16 := ow16.upL hs41 (DL.app dj1 (DL.cons dj3.symm DL.nil))
      replace hw24 := hw24.upL hs41 (DFL.app df5 (DFL.cons df6 DFL.nil))
      replace hx24 := fun x hx_ => (hx24 x hx_).upL hs41 (DFL.app df8 (DFL.cons df9 DFL.nil))
      replace rd40 := rd40.upL hs41 (DFL.app df5 (DFL.cons df6 DFL.nil))
      replace hm0 := hm0.trL hs41 (MIL.app (MIL.ofK (nx_hm0_hf) (by intro k hk; simp [hk])) (MIL.cons (MI.app (MI.root (by simp)) (nx_hm0_hlg) (Nat.le_refl _)) MIL.nil))
      have hz3 := hs41.size
      have hbk_hf := hf.bk
      refine LR.v (Y.assign rfl rfl) (Wd.u rfl) rfl rfl ?_
      refine LR.nil ?_
      refine hK10 _ _ ?_
      refine CW.ret (hret .ret (.inr rfl) _ _ _ (res1 rfl rfl) ?_)
      have hm := mend_3 (n := n) (show D.readE p = 0 by omega) (show parE (D.readL p) = 0 by omega)
      rw [hrt] at hf hlg
      exact ⟨_, _, by rw [hm, hrt], by rw [hm]; exact hf, nx20, by rw [hm]; unfold mendN; rw [show ((parL (D.readL p)).take n).length = (l24.take (min n l24.length)).length from by rw [← hrt]; exact List.length_map _]; exact hlg, dl241, hm0⟩


theorem pre_0 {D : Dk} {p : Pth} {n : Nat} {br : Bool} (h : br = false) : preD D p n br = (0, n, D) := by unfold preD; rw [h]; simp
theorem pre_1 {D : Dk} {p : Pth} {n : Nat} {br : Bool} (h : br = true) : preD D p n br = ((mendD D p n).1, mendN D p n, (mendD D p n).2) := by unfold preD; rw [if_pos h]
theorem app_bad {D : Dk} {p : Pth} {n : Nat} {br : Bool} {r : Rec} (h : br = true) (h2 : (mendD D p n).1 ≠ 0) : appD D p n br r = ((mendD D p n).1, n, br, (mendD D p n).2) := by unfold appD; rw [pre_1 h, if_pos h2]
theorem app_go {D D1 : Dk} {p : Pth} {n n1 : Nat} {br : Bool} {r : Rec} (h : preD D p n br = (0, n1, D1)) : appD D p n br r = ((runD (apS p n1 r) D1).1, if (runD (apS p n1 r) D1).1 = 0 then n1 + 1 else n1, if (runD (apS p n1 r) D1).1 = 0 then false else true, (runD (apS p n1 r) D1).2) := by
  unfold appD; rw [h]; simp
/-- what opening a journal comes to -/
def openD (D : Dk) (p : Pth) : Nat × List Rec × Dk :=
  if nameB p = false ∨ nameB (newP p) = false then (7, [], D)
  else if D.readE p = 2 then ((freshD D p []).1, [], (freshD D p []).2)
  else if D.readE p ≠ 0 then (D.readE p, [], D)
  else if parE (D.readL p) ≠ 0 then (parE (D.readL p), [], D)
  else if parS (D.readL p) < (D.readL p).length then ((freshD D p (parL (D.readL p))).1, if (freshD D p (parL (D.readL p))).1 = 0 then parL (D.readL p) else [], (freshD D p (parL (D.readL p))).2)
  else (0, parL (D.readL p), D)
theorem bs_open {N : Nat} {D : Dk} (h : Bs N D) (p : Pth) : Bs (N + 4 * (N + 28)) (openD D p).2.2 := by
  have h1 := (encN_parL_le (D.readL p)).2
  have h2 := readL_bd h p
  unfold openD
  split
  · exact h.mono (by omega)
  split
  · exact (bs_fresh h p []).mono (by simp [encW, W8, encN]; omega)
  split
  · exact h.mono (by omega)
  split
  · exact h.mono (by omega)
  split
  · exact (bs_fresh h p _).mono (by omega)
  · exact h.mono (by omega)

set_option maxHeartbeats 4000000 in
theorem wapp_ct (mx_ : Int) (K : List Nat) (g : Gh) (b : Nat) (D : Dk) (lb : Nat) (p : Pth) (n : Nat) (br : Bool) (s : SV) (rc : Rec) (F : Nat → Prop) (N : Nat) (w0 : World) (H0 : Heap)
    (hf : PDk K g H0 b D) (mx : MX mx_ H0) (bf_mx : BF (fun b => b = 0) H0.size) (dmx : DFL (fun b => b = 0) K) (hlg : Var 76 H0 lb [ptr b, Str p, .int .i64 (n : Int), .bool br]) (dl : DL (lb + 1) K) (dmv : DF (fun b => b = 0) (lb + 1)) (hr : Rd F H0 fB 1 s.v rc) (bf_hr : BF F H0.size) (dfr : DFL F K) (dlr : DF F (lb + 1)) (hrl : rc.length ≤ 1048576) (hl : p.length ≤ 4294960000) (hB : Bs N D) (hN : N ≤ 80000000) (hnn : n ≤ 1000000000) :
    Ct Tryz.prog w0 10 #[ptr lb, s.v] H0 (fun r H2 => ∃ K2 : List Nat, ∃ g2 : Gh, r = .int .i64 ((appD D p n br rc).1 : Int) ∧ (PDk K2 g2 H2 b (appD D p n br rc).2.2.2) ∧ (NxK K H0.size K2) ∧ (Var 76 H2 lb [ptr b, Str p, .int .i64 ((appD D p n br rc).2.1 : Int), .bool (appD D p n br rc).2.2.1]) ∧ (DL (lb + 1) K2) ∧ Mo (Ms (K ++ [(lb + 1)])) H0 H2) := by
  refine Ct.enter (args := [ptr lb, s.v]) Tryz.func10 rfl rfl rfl ?_
  intro Q0 hret
  have hm0 : Mo (Ms (K ++ [(lb + 1)])) H0 H0 := Mo.refl _ _
  have nx_hm0_hf := NxK.refl K H0.size
  have hbk_hf := hf.bk
  have nx_hm0_hlg := Nx.refl (lb + 1) H0.size
  have hlt_hlg := hlg.lt
  have hrb := readL_bd hB p
  have hcm := encW_bd (D.readL p)
  have hpm := parL_many (D.readL p)
  refine CW.seq (fun K1 hK1 hE1 => ?_)
  refine CW.region ?_
  refine LR.z (Z.boxv1 rfl rfl (rfl)) (Wd.u rfl) rfl rfl (fun v2 H2 r2 => ?_)
  obtain ⟨rfl, hc2, hs2, ob2, hH2⟩ := r2
  have hzs2 : H2.size = H0.size + 1 := by rw [hH2]; simp
  have dj1 : DL (H0.size + 1) K := DL.newK hf.bk
  have df2 := (DF.new (bf_mx.mono hm0.size) : DF _ (H0.size + 1))
  have dj3 : Dj (lb + 1) (H0.size + 1) := Dj.new hlg.lt
  have df4 := (DF.new (bf_hr.mono hm0.size) : DF _ (H0.size + 1))
  have nx5 : Nx 0 H0.size (H0.size + 1) := Nx.new hm0.size
  replace hf := hf.nw hs2
  replace mx := mx.nw hs2
  replace hlg := hlg.nw hs2
  replace hr := hr.nw hs2
  replace hm0 := hm0.trN hs2
  have hz1 := hs2.size
  replace hc2 : Var 30 H2 H0.size ([ptr lb]) := hc2
  refine LR.z (Z.boxv1 rfl rfl ((hr).oneCell)) (Wd.u rfl) rfl rfl (fun v3 H3 r3 => ?_)
  obtain ⟨rfl, hc3, hs3, ob3, hH3⟩ := r3
  have hzs3 : H3.size = H2.size + 1 := by rw [hH3]; simp
  have dj6 : DL (H2.size + 1) K := DL.newK hf.bk
  have df7 := (DF.new (bf_mx.mono hm0.size) : DF _ (H2.size + 1))
  have dj8 : Dj (lb + 1) (H2.size + 1) := Dj.new hlg.lt
  have df9 := (DF.new (bf_hr.mono hm0.size) : DF _ (H2.size + 1))
  have dj10 : Dj (H0.size + 1) (H2.size + 1) := Dj.new hc2.lt
  have nx11 : Nx 0 H0.size (H2.size + 1) := Nx.new hm0.size
  replace hf := hf.nw hs3
  replace mx := mx.nw hs3
  replace hlg := hlg.nw hs3
  replace hr := hr.nw hs3
  replace hc2 := hc2.nw hs3
  replace hm0 := hm0.trN hs3
  have hz2 := hs3.size
  replace hc3 : Var 34 H3 H2.size ([s.v]) := hc3
  refine LR.v (Y.assign rfl rfl) (Wd.u rfl) rfl rfl ?_
  refine LR.nil ?_
  refine hK1 _ _ ?_
  refine CW.seq (fun K2 hK2 hE2 => ?_)
  refine CW.seq (fun K3 hK3 hE3 => ?_)
  refine CW.region ?_
  refine LR.v (Y.load1 hc3.pt rfl Tryz.isAgg34 rfl) (Wd.u rfl) rfl rfl ?_
  refine LR.v (Y.len hr rfl Tryz.runUnderlying34 rfl) (Wd.u rfl) rfl rfl ?_
  refine LR.v ((Y.gtr rfl rfl rfl).isF (by omega)) (Wd.u rfl) rfl rfl ?_
  refine LR.nil ?_
  refine hK3 _ _ ?_
  refine CW.cond_f rfl ?_
  refine CW.skip ?_
  refine hK2 _ _ ?_
  refine CW.cut (fun (s_ : (List Nat) × (Gh) × (Dk) × (Nat)) => match s_ with | (K1, g1, D1, n1) => [(2, .pointer (some ⟨H0.size, 0, none⟩)), (3, .pointer (some ⟨H2.size, 0, none⟩))])
    (fun (s_ : (List Nat) × (Gh) × (Dk) × (Nat)) (H : Heap) => match s_ with | (K1, g1, D1, n1) => (PDk K1 g1 H b D1) ∧ (Var 76 H lb [ptr b, Str p, .int .i64 (n1 : Int), .bool false]) ∧ (preD D p n br = (0, n1, D1)) ∧ (Bs (N + 4 * (N + 28)) D1) ∧ (n1 ≤ 1100000000) ∧ (NxK K H3.size K1) ∧ (DL (lb + 1) K1) ∧ Mo (Ms (K ++ [(lb + 1)])) H3 H) (fun K4 hK4 hE4 => ?_) ?_
  ·
    have hcm4 : Mo (Ms (K ++ [(lb + 1)])) H3 H3 := Mo.refl _ _
    have nx_hcm4_hf := NxK.refl K H3.size
    have nx_hcm4_hlg := Nx.refl (lb + 1) H3.size
    refine CW.seq (fun K5 hK5 hE5 => ?_)
    refine CW.region ?_
    refine LR.v (Y.load1 hc2.pt rfl Tryz.isAgg30 rfl) (Wd.u rfl) rfl rfl ?_
    refine LR.v (Y.nilCheck rfl rfl) (Wd.u rfl) rfl rfl ?_
    refine LR.v (Y.fieldAddr hlg.pt rfl Tryz.runUnderlying76 rfl rfl Tryz.sizeOf4 (by decide) rfl) (Wd.u rfl) rfl rfl ?_
    refine LR.v (Y.load1 (hlg.pt.drop 3) rfl Tryz.isAgg4 rfl) (Wd.u rfl) rfl rfl ?_
    refine LR.nil ?_
    refine hK5 _ _ ?_
    refine CW.cond rfl (fun c14 => ?_) (fun c14 => ?_)
    ·
      refine CW.seq (fun K6 hK6 hE6 => ?_)
      refine CW.region ?_
      refine LR.v (Y.load1 hc2.pt rfl Tryz.isAgg30 rfl) (Wd.u rfl) rfl rfl ?_
      -- call (*selvage/wal.Log).mend
      refine LR.call rfl Tryz.call28 rfl (Wd.u rfl) rfl rfl (mend_ct mx_ K g b D lb p n br N w0 _ hf mx (bf_mx.mono (by omega)) (dmx) hlg (dl) (dmv) hl hB (by omega) (by omega)) (fun v16 H16 r16 => ?_)
      have ql12 := hf.bk
      have ql13 := hlg.lt
      have ql14 := hc2.lt
      have ql15 := hc3.lt
      obtain ⟨K16, g16, rfl, hf, hkd16, hlg, dl216, hs16⟩ := r16
      have df16 := DFL.appK (dmx) (bf_mx.mono hm0.size) hkd16
      have dj17 : DL (lb + 1) K16 := DL.appK (dl) ql13 hkd16
      have df18 := DFL.appK (dfr) (bf_hr.mono hm0.size) hkd16
      have dj19 : DL (H0.size + 1) K16 := DL.appK (dj1) ql14 hkd16
      have dj20 : DL (H2.size + 1) K16 := DL.appK (dj6) ql15 hkd16
      have nx21 : NxK K H0.size K16 := NxK.tr (nx_hm0_hf) hkd16 hm0.size
      have nx22 : NxK K H3.size K16 := NxK.tr (nx_hcm4_hf) hkd16 hcm4.size
      replace mx := mx.upL hs16 (DFL.app dmx (DFL.cons dmv DFL.nil))
      replace hr := hr.upL hs16 (DFL.app dfr (DFL.cons dlr DFL.nil))
      replace hc2 := hc2.upL hs16 (DL.app dj1 (DL.cons dj3.symm DL.nil))
      replace hc3 := hc3.upL hs16 (DL.app dj6 (DL.cons dj8.symm DL.nil))
      replace hm0 := hm0.trL hs16 (MIL.app (MIL.ofK (nx_hm0_hf) (by intro k hk; simp [hk])) (MIL.cons (MI.app (MI.root (by simp)) (nx_hm0_hlg) (Nat.le_refl _)) MIL.nil))
      replace hcm4 := hcm4.trL hs16 (MIL.app (MIL.ofK (nx_hcm4_hf) (by intro k hk; simp [hk])) (MIL.cons (MI.app (MI.root (by simp)) (nx_hcm4_hlg) (Nat.le_refl _)) MIL.nil))
      have hz3 := hs16.size
      have hbk_hf := hf.bk
      refine LR.v (Y.assign rfl rfl) (Wd.u rfl) rfl rfl ?_
      refine LR.nil ?_
      refine hK6 _ _ ?_
      refine CW.seq (fun K7 hK7 hE7 => ?_)
      refine CW.region ?_
      refine LR.v (Y.move rfl rfl) (Wd.u rfl) rfl rfl ?_
      refine LR.v (Y.neq rfl rfl rfl) (Wd.u rfl) rfl rfl ?_
      refine LR.nil ?_
      refine hK7 _ _ ?_
      refine CW.condp rfl (fun c18 => ?_) (fun c18 => ?_)
      ·
        refine CW.seq (fun K8 hK8 hE8 => ?_)
        refine CW.region ?_
        refine LR.v (Y.move rfl rfl) (Wd.u rfl) rfl rfl ?_
        refine LR.v (Y.assign rfl rfl) (Wd.u rfl) rfl rfl ?_
        refine LR.nil ?_
        refine hK8 _ _ ?_
        refine CW.ret (hE4 .ret nofun _ _ (hret .ret (.inr rfl) _ _ _ (res1 rfl rfl) ?_))
        have hz : (mendD D p n).1 ≠ 0 := by omega
        have hgo := app_bad (r := rc) c14 hz
        exact ⟨_, _, by rw [hgo], by rw [hgo]; exact hf, nx21, by rw [hgo]; rw [lgN_1 hz, lgB_1 hz] at hlg; exact hlg, dl216, hm0⟩
      ·
        refine CW.skip ?_
        have hm0_ : (mendD D p n).1 = 0 := by omega
        refine QN.sub (hK4 (K16, g16, (mendD D p n).2, mendN D p n) _ ?_) ⟨rfl, rfl, trivial⟩
        exact ⟨hf, by rw [lgN_0 hm0_, lgB_0 hm0_] at hlg; exact hlg, by rw [pre_1 c14, hm0_], bs_mend hB p n, by unfold mendN; rw [List.length_take]; omega, nx22, dl216, hcm4⟩
    ·
      refine CW.skip ?_
      refine QN.sub (hK4 (K, g, D, n) _ ?_) ⟨rfl, rfl, trivial⟩
      exact ⟨hf, by rw [show br = false by simpa using c14] at hlg; exact hlg, pre_0 (by simpa using c14), hB.mono (by omega), (by omega), nx_hcm4_hf, dl, hcm4⟩
  ·
    rintro ⟨K1, g1, D1, n1⟩ Hcutc14 hIcutc14
    obtain ⟨hf, hlg, hpre, hB1, hn1, nxl_hf, dj_hf_hlg, hlmcutc14⟩ := hIcutc14
    have df23 := DFL.appK (dmx) (bf_mx.mono hm0.size) nxl_hf
    have df24 := DFL.appK (dfr) (bf_hr.mono hm0.size) nxl_hf
    have dj25 : DL (H0.size + 1) K1 := DL.appK (dj1) hc2.lt nxl_hf
    have dj26 : DL (H2.size + 1) K1 := DL.appK (dj6) hc3.lt nxl_hf
    have nx27 : NxK K H0.size K1 := NxK.tr (nx_hm0_hf) nxl_hf hm0.size
    replace mx := mx.upL hlmcutc14 (DFL.app dmx (DFL.cons dmv DFL.nil))
    replace hr := hr.upL hlmcutc14 (DFL.app dfr (DFL.cons dlr DFL.nil))
    replace hc2 := hc2.upL hlmcutc14 (DL.app dj1 (DL.cons dj3.symm DL.nil))
    replace hc3 := hc3.upL hlmcutc14 (DL.app dj6 (DL.cons dj8.symm DL.nil))
    replace hm0 := hm0.trL hlmcutc14 (MIL.app (MIL.ofK (nx_hm0_hf) (by intro k hk; simp [hk])) (MIL.cons (MI.app (MI.root (by simp)) (nx_hm0_hlg) (Nat.le_refl _)) MIL.nil))
    have hz4 := hlmcutc14.size
    have hbk_hf := hf.bk
    have dj28 := dj_hf_hlg
    have nx29 := nxl_hf
    have nx_hlmcutc14_hlg := Nx.refl (lb + 1) H3.size
    refine CW.seq (fun K9 hK9 hE9 => ?_)
    refine CW.region ?_
    refine LR.v (Y.makeFunc rfl rfl) (Wd.u rfl) rfl rfl ?_
    refine LR.v (Y.assign rfl rfl) (Wd.u rfl) rfl rfl ?_
    refine LR.nil ?_
    refine hK9 _ _ ?_
    refine CW.seq (fun K10 hK10 hE10 => ?_)
    refine CW.region ?_
    refine LR.v (Y.makeFunc rfl rfl) (Wd.u rfl) rfl rfl ?_
    refine LR.v (Y.move rfl rfl) (Wd.u rfl) rfl rfl ?_
    refine LR.v (Y.makeFunc rfl rfl) (Wd.u rfl) rfl rfl ?_
    refine LR.v (Y.move rfl rfl) (Wd.u rfl) rfl rfl ?_
    refine LR.z (Z.litw _ (([(32, [ptr H0.size, ptr H2.size]), (29, [ptr H0.size]), (35, [ptr H0.size]), (29, [ptr H0.size])] : List FnV)) rfl inf146 rfl rfl rfl (by decide) (by decide) fFn_len fFn_one (rfl)) (Wd.u rfl) rfl rfl (fun v25 H25 r25 => ?_)
    obtain ⟨ow25, hs25, ob25, hH25⟩ := r25
    have hzs25 : H25.size = Hcutc14.size + 1 := by rw [hH25]; simp
    have dj30 : DL (Hcutc14.size + 1) K1 := DL.newK hf.bk
    have df31 := (DF.new (bf_mx.mono hm0.size) : DF _ (Hcutc14.size + 1))
    have df32 := (DF.new (bf_hr.mono hm0.size) : DF _ (Hcutc14.size + 1))
    have dj33 : Dj (H0.size + 1) (Hcutc14.size + 1) := Dj.new hc2.lt
    have dj34 : Dj (H2.size + 1) (Hcutc14.size + 1) := Dj.new hc3.lt
    have dj35 : Dj (lb + 1) (Hcutc14.size + 1) := Dj.new hlg.lt
    have nx36 : Nx 0 H0.size (Hcutc14.size + 1) := Nx.new hm0.size
    replace hf := hf.nw hs25
    replace mx := mx.nw hs25
    replace hr := hr.nw hs25
    replace hc2 := hc2.nw hs25
    replace hc3 := hc3.nw hs25
    replace hlg := hlg.nw hs25
    replace hm0 := hm0.trN hs25
    have hz5 := hs25.size
    -- call selvage/wal.first
    refine LR.call rfl Tryz.call31 rfl (Wd.u rfl) rfl rfl (first_ct K1 g1 b D1 v25 [(32, [ptr H0.size, ptr H2.size]), (29, [ptr H0.size]), (35, [ptr H0.size]), (29, [ptr H0.size])] (apS p n1 rc) _ w0 _ hf ow25.rd (BF.of ow25.le) (DFL.of (dj30)) rfl (ap_steps (LgS.mk mx (bf_mx.mono (by omega)) (df23) hc2 hlg (dj25) (dj28)) (VaS.mk hc3 (dj26)) (RwS.mk hr (bf_hr.mono (by omega)) (df24)) hrl hl hB1 (by omega))) (fun v26 H26 r26 => ?_)
    have ql37 := hf.bk
    have ql38 := hc2.lt
    have ql39 := hc3.lt
    have ql40 := hlg.lt
    have ql41 := ow25.le
    obtain ⟨K26, g26, rfl, hf, hkd26, hs26⟩ := r26
    have df42 := DFL.appK (df23) (bf_mx.mono hm0.size) hkd26
    have df43 := DFL.appK (df24) (bf_hr.mono hm0.size) hkd26
    have dj44 : DL (H0.size + 1) K26 := DL.appK (dj25) ql38 hkd26
    have dj45 : DL (H2.size + 1) K26 := DL.appK (dj26) ql39 hkd26
    have dj46 : DL (lb + 1) K26 := DL.appK (dj28) ql40 hkd26
    have dj47 : DL (Hcutc14.size + 1) K26 := DL.appK (dj30) ql41 hkd26
    have nx48 : NxK K H0.size K26 := NxK.tr (nx27) hkd26 hm0.size
    replace mx := mx.upL hs26 (df23)
    replace hr := hr.upL hs26 (df24)
    replace hc2 := hc2.upL hs26 (dj25)
    replace hc3 := hc3.upL hs26 (dj26)
    replace hlg := hlg.upL hs26 (dj28)
    replace ow25 := ow25.upL hs26 (dj30)
    replace hm0 := hm0.trL hs26 (MIL.ofK (nx27) (by intro k hk; simp [hk]))
    have hz6 := hs26.size
    have hbk_hf := hf.bk
    have hgo := app_go (r := rc) hpre
    refine LR.v (Y.assign rfl rfl) (Wd.u rfl) rfl rfl ?_
    refine LR.nil ?_
    refine hK10 _ _ ?_
    refine CW.seq (fun K11 hK11 hE11 => ?_)
    refine CW.seq (fun K12 hK12 hE12 => ?_)
    refine CW.region ?_
    refine LR.v (Y.move rfl rfl) (Wd.u rfl) rfl rfl ?_
    refine LR.v (Y.neq rfl rfl rfl) (Wd.u rfl) rfl rfl ?_
    refine LR.nil ?_
    refine hK12 _ _ ?_
    refine CW.condp rfl (fun c28 => ?_) (fun c28 => ?_)
    ·
      refine CW.seq (fun K13 hK13 hE13 => ?_)
      refine CW.region ?_
      refine LR.v (Y.load1 hc2.pt rfl Tryz.isAgg30 rfl) (Wd.u rfl) rfl rfl ?_
      refine LR.v (Y.nilCheck rfl rfl) (Wd.u rfl) rfl rfl ?_
      refine LR.v (Y.fieldAddr hlg.pt rfl Tryz.runUnderlying76 rfl rfl Tryz.sizeOf4 (by decide) rfl) (Wd.u rfl) rfl rfl ?_
      refine LR.s (S.var1 hlg 3 ([ptr b, Str p, .int .i64 (n1 : Int), .bool true]) rfl rfl rfl (rfl) Tryz.sizeOf4 (by simp) (rfl)) (Wd.u rfl) rfl (fun H10_3 r10_3 => ?_)
      obtain ⟨hlg, hs10_3⟩ := r10_3
      replace hs10_3 := hs10_3.md1
      replace hf := hf.upL hs10_3 (DKL.cons dj46 DKL.nil)
      replace mx := mx.upL hs10_3 (DFL.cons dmv DFL.nil)
      replace hr := hr.upL hs10_3 (DFL.cons dlr DFL.nil)
      replace hc2 := hc2.upL hs10_3 (DL.cons dj3.symm DL.nil)
      replace hm0 := hm0.trL hs10_3 (MIL.cons (MI.app (MI.root (by simp)) (nx_hm0_hlg) (Nat.le_refl _)) MIL.nil)
      have hz7 := hs10_3.size
      refine LR.nil ?_
      refine hK13 _ _ ?_
      refine CW.seq (fun K14 hK14 hE14 => ?_)
      refine CW.region ?_
      refine LR.v (Y.move rfl rfl) (Wd.u rfl) rfl rfl ?_
      refine LR.v (Y.assign rfl rfl) (Wd.u rfl) rfl rfl ?_
      refine LR.nil ?_
      refine hK14 _ _ ?_
      refine CW.ret (hE11 .ret nofun _ _ (hret .ret (.inr rfl) _ _ _ (res1 rfl rfl) ?_))
      have hz : (runD (apS p n1 rc) D1).1 ≠ 0 := by omega
      rw [if_neg hz, if_neg hz] at hgo
      exact ⟨_, _, by rw [hgo], by rw [hgo]; exact hf, nx48, by rw [hgo]; exact hlg, dj46, hm0⟩
    ·
      refine CW.skip ?_
      refine hK11 _ _ ?_
      refine CW.seq (fun K15 hK15 hE15 => ?_)
      refine CW.region ?_
      refine LR.v (Y.load1 hc2.pt rfl Tryz.isAgg30 rfl) (Wd.u rfl) rfl rfl ?_
      refine LR.v (Y.nilCheck rfl rfl) (Wd.u rfl) rfl rfl ?_
      refine LR.v (Y.fieldAddr hlg.pt rfl Tryz.runUnderlying76 rfl rfl Tryz.sizeOf3 (by decide) rfl) (Wd.u rfl) rfl rfl ?_
      refine LR.v (Y.load1 (hlg.pt.drop 2) rfl Tryz.isAgg3 rfl) (Wd.u rfl) rfl rfl ?_
      refine LR.v (Y.cast (v2 := .int .i64 ((n1 + 1 : Nat) : Int)) (Y.addi rfl rfl rfl (by omega)) (ivv (by omega))) (Wd.u rfl) rfl rfl ?_
      refine LR.v (Y.nilCheck rfl rfl) (Wd.u rfl) rfl rfl ?_
      refine LR.v (Y.fieldAddr hlg.pt rfl Tryz.runUnderlying76 rfl rfl Tryz.sizeOf3 (by decide) rfl) (Wd.u rfl) rfl rfl ?_
      refine LR.s (S.var1 hlg 2 ([ptr b, Str p, .int .i64 ((n1 + 1 : Nat) : Int), .bool false]) rfl rfl rfl (rfl) Tryz.sizeOf3 (by simp) (rfl)) (Wd.u rfl) rfl (fun H12_7 r12_7 => ?_)
      obtain ⟨hlg, hs12_7⟩ := r12_7
      replace hs12_7 := hs12_7.md1
      replace hf := hf.upL hs12_7 (DKL.cons dj46 DKL.nil)
      replace mx := mx.upL hs12_7 (DFL.cons dmv DFL.nil)
      replace hr := hr.upL hs12_7 (DFL.cons dlr DFL.nil)
      replace hc2 := hc2.upL hs12_7 (DL.cons dj3.symm DL.nil)
      replace hm0 := hm0.trL hs12_7 (MIL.cons (MI.app (MI.root (by simp)) (nx_hm0_hlg) (Nat.le_refl _)) MIL.nil)
      have hz8 := hs12_7.size
      refine LR.nil ?_
      refine hK15 _ _ ?_
      refine CW.seq (fun K16 hK16 hE16 => ?_)
      refine CW.region ?_
      refine LR.v (Y.assign rfl rfl) (Wd.u rfl) rfl rfl ?_
      refine LR.nil ?_
      refine hK16 _ _ ?_
      refine CW.ret (hret .ret (.inr rfl) _ _ _ (res1 rfl rfl) ?_)
      have hz : (runD (apS p n1 rc) D1).1 = 0 := by omega
      rw [if_pos hz, if_pos hz] at hgo
      exact ⟨_, _, by rw [hgo, hz]; rfl, by rw [hgo]; exact hf, nx48, by rw [hgo]; exact hlg, dj46, hm0⟩

end Go.Proofs.YtdliddjkacbggaaGreatDoor.WalF
/-
  A journal on a disk: opening.
-/
namespace Go.Proofs.YtdliddjkacbggaaGreatDoor.WalG
open Go.Proofs.YtdliddjkacbggaaGreatDoor.E Go.RowKit Go.Proofs.YtdliddjkacbggaaGreatDoor.SimA Go.Proofs.YtdliddjkacbggaaGreatDoor.SimB Go.Proofs.YtdliddjkacbggaaGreatDoor.SimC Go.Proofs.YtdliddjkacbggaaGreatDoor.SimD Go.Proofs.YtdliddjkacbggaaGreatDoor.SimE Go.Proofs.YtdliddjkacbggaaGreatDoor.SimF Go.Proofs.YtdliddjkacbggaaGreatDoor.SimG Go.Proofs.YtdliddjkacbggaaGreatDoor.SimH Go.Proofs.YtdliddjkacbggaaGreatDoor.SimI Go.Proofs.YtdliddjkacbggaaGreatDoor.SimQ Go.Proofs.YtdliddjkacbggaaGreatDoor.SimR Go.Proofs.YtdliddjkacbggaaGreatDoor.WalA Go.Proofs.YtdliddjkacbggaaGreatDoor.WalB Go.Proofs.YtdliddjkacbggaaGreatDoor.WalC Go.Proofs.YtdliddjkacbggaaGreatDoor.WalD Go.Proofs.YtdliddjkacbggaaGreatDoor.WalE Go.Proofs.YtdliddjkacbggaaGreatDoor.WalF
set_option maxRecDepth 20000
set_option linter.unusedVariables false
set_option linter.unusedSimpArgs false
set_option linter.unusedSectionVars false

/-- where a journal lies, or that there is none -/
structure LgP (k : Nat) (H : Heap) (v : Value) (b : Nat) (p : Pth) (n : Nat) (br : Bool) : Prop where
  ex : (k = 0 ∧ v = .pointer none) ∨ ∃ lb, k = lb + 1 ∧ v = ptr lb ∧ Var 76 H lb [ptr b, Str p, .int .i64 (n : Int), .bool br]
section
variable {k b n : Nat} {H H' : Heap} {v : Value} {p : Pth} {br : Bool} {ks : List Nat}
theorem LgP.le (h : LgP k H v b p n br) : k ≤ H.size := by
  rcases h.ex with ⟨e, _⟩ | ⟨lb, e, _, h⟩
  · omega
  · have := h.lt; omega
theorem LgP.nw (h : LgP k H v b p n br) (s : Nw H H') : LgP k H' v b p n br := ⟨h.ex.imp id (fun ⟨lb, e, e2, h⟩ => ⟨lb, e, e2, h.nw s⟩)⟩
theorem LgP.upL (h : LgP k H v b p n br) (s : Mo (Ms ks) H H') (d : DL k ks) : LgP k H' v b p n br := ⟨h.ex.imp id (fun ⟨lb, e, e2, h⟩ => ⟨lb, e, e2, h.upL s (e ▸ d)⟩)⟩
theorem LgP.var {lb : Nat} (h : LgP (lb + 1) H v b p n br) : v = ptr lb ∧ Var 76 H lb [ptr b, Str p, .int .i64 (n : Int), .bool br] := by
  rcases h.ex with ⟨e, _⟩ | ⟨lb2, e, e2, h⟩
  · omega
  · obtain rfl : lb = lb2 := by omega
    exact ⟨e2, h⟩
end
section
variable {D : Dk} {p : Pth}
theorem open_a (h : nameB p = false ∨ nameB (newP p) = false) : openD D p = (7, [], D) := by unfold openD; rw [if_pos h]
theorem open_n (n1 : nameB p = true) (n2 : nameB (newP p) = true) : ¬ (nameB p = false ∨ nameB (newP p) = false) := by rw [n1, n2]; simp
theorem open_b (n1 : nameB p = true) (n2 : nameB (newP p) = true) (h : D.readE p = 2) : openD D p = ((freshD D p []).1, [], (freshD D p []).2) := by unfold openD; rw [if_neg (open_n n1 n2), if_pos h]
theorem open_c (n1 : nameB p = true) (n2 : nameB (newP p) = true) (h : D.readE p ≠ 2) (h2 : D.readE p ≠ 0) : openD D p = (D.readE p, [], D) := by unfold openD; rw [if_neg (open_n n1 n2), if_neg h, if_pos h2]
theorem open_d (n1 : nameB p = true) (n2 : nameB (newP p) = true) (h : D.readE p = 0) (h2 : parE (D.readL p) ≠ 0) : openD D p = (parE (D.readL p), [], D) := by unfold openD; rw [if_neg (open_n n1 n2), if_neg (by omega), if_neg (by omega), if_pos h2]
theorem open_e (n1 : nameB p = true) (n2 : nameB (newP p) = true) (h : D.readE p = 0) (h2 : parE (D.readL p) = 0) (h3 : parS (D.readL p) < (D.readL p).length) : openD D p = ((freshD D p (parL (D.readL p))).1, if (freshD D p (parL (D.readL p))).1 = 0 then parL (D.readL p) else [], (freshD D p (parL (D.readL p))).2) := by
  unfold openD; rw [if_neg (open_n n1 n2), if_neg (by omega), if_neg (by omega), if_neg (by omega), if_pos h3]
theorem open_f (n1 : nameB p = true) (n2 : nameB (newP p) = true) (h : D.readE p = 0) (h2 : parE (D.readL p) = 0) (h3 : ¬ parS (D.readL p) < (D.readL p).length) : openD D p = (0, parL (D.readL p), D) := by
  unfold openD; rw [if_neg (open_n n1 n2), if_neg (by omega), if_neg (by omega), if_neg (by omega), if_neg h3]
end

set_option maxHeartbeats 4000000 in
theorem wopen_ct (mx_ : Int) (K : List Nat) (g : Gh) (b : Nat) (D : Dk) (p : Pth) (N : Nat) (w0 : World) (H0 : Heap)
    (hf : PDk K g H0 b D) (mx : MX mx_ H0) (bf_mx : BF (fun b => b = 0) H0.size) (dmx : DFL (fun b => b = 0) K) (hl : p.length ≤ 4294960000) (hB : Bs N D) (hN : N ≤ 80000000) :
    Ct Tryz.prog w0 9 #[ptr b, Str p] H0 (fun r H2 => ∃ lv : Value, ∃ kl : Nat, ∃ t : SV, ∃ l : List (SV × Rec), ∃ K2 : List Nat, ∃ g2 : Gh, ∃ G : Nat → Prop, r = .tuple #[lv, t.v, .int .i64 ((openD D p).1 : Int)] ∧ (PDk K2 g2 H2 b (openD D p).2.2) ∧ (NxK K H0.size K2) ∧ (LgP kl H2 lv b p l.length false) ∧ (Nx 0 H0.size kl) ∧ (DL kl K2) ∧ (((openD D p).1 = 0 → ∃ lb, kl = lb + 1 ∧ lv = ptr lb) ∧ ((openD D p).1 ≠ 0 → kl = 0 ∧ lv = .pointer none)) ∧ (recs l = (openD D p).2.1) ∧ (Rd G H2 fP 1 t.v l) ∧ (∀ x ∈ l, Rd G H2 fB 1 x.1.v x.2) ∧ (BF G H2.size) ∧ (∀ c, G c → H0.size ≤ c) ∧ (DFL G K2) ∧ (DF G kl) ∧ Mo (Ms K) H0 H2) := by
  refine Ct.enter (args := [ptr b, Str p]) Tryz.func9 rfl rfl rfl ?_
  intro Q0 hret
  have hm0 : Mo (Ms K) H0 H0 := Mo.refl _ _
  have nx_hm0_hf := NxK.refl K H0.size
  have hbk_hf := hf.bk
  have hrb := readL_bd hB p
  have hcm := (encN_parL_le (D.readL p)).2
  have hpm := parL_many (D.readL p)
  refine CW.seq (fun K1 hK1 hE1 => ?_)
  refine CW.region ?_
  refine LR.v (Y.assign rfl rfl) (Wd.u rfl) rfl rfl ?_
  refine LR.v (Y.assign rfl rfl) (Wd.u rfl) rfl rfl ?_
  refine LR.v (Y.assign rfl rfl) (Wd.u rfl) rfl rfl ?_
  refine LR.nil ?_
  refine hK1 _ _ ?_
  refine CW.seq (fun K2 hK2 hE2 => ?_)
  refine CW.seq (fun K3 hK3 hE3 => ?_)
  refine CW.region ?_
  refine LR.v (Y.move rfl rfl) (Wd.u rfl) rfl rfl ?_
  -- call selvage/simfs.Name
  refine LR.call rfl Tryz.call26 rfl (Wd.u rfl) rfl rfl (name_ct mx_ p w0 _ mx (bf_mx.mono (by omega)) (by omega)) (fun v13 H13 r13 => ?_)
  obtain ⟨rfl, hs13⟩ := r13
  replace hf := hf.nw hs13
  replace mx := mx.nw hs13
  replace hm0 := hm0.trN hs13
  have hz1 := hs13.size
  refine LR.v (Y.not rfl rfl) (Wd.u rfl) rfl rfl ?_
  refine LR.v (Y.move rfl rfl) (Wd.u rfl) rfl rfl ?_
  refine LR.split (d := 15) rfl (fun g15 => ?_) (fun g15 => ?_)
  ·
    have hop := open_a (D := D) (p := p) (.inl (by simpa using g15))
    refine LR.gs rfl rfl rfl rfl rfl rfl ?_
    refine LR.gs rfl rfl rfl rfl rfl rfl ?_
    refine LR.gs rfl rfl rfl rfl rfl rfl ?_
    refine LR.gs rfl rfl rfl rfl rfl rfl ?_
    refine LR.v (Y.pick_t rfl rfl rfl) (Wd.u rfl) rfl rfl ?_
    refine LR.nil ?_
    refine hK3 _ _ ?_
    refine CW.cond_t rfl ?_
    refine CW.seq (fun K4 hK4 hE4 => ?_)
    refine CW.region ?_
    refine LR.v (Y.assign rfl rfl) (Wd.u rfl) rfl rfl ?_
    refine LR.v (Y.assign rfl rfl) (Wd.u rfl) rfl rfl ?_
    refine LR.v (Y.assign rfl rfl) (Wd.u rfl) rfl rfl ?_
    refine LR.nil ?_
    refine hK4 _ _ ?_
    refine CW.ret (hE2 .ret nofun _ _ (hret .ret (.inr rfl) _ _ _ (res3 rfl rfl rfl rfl) ?_))
    exact ⟨.pointer none, 0, ⟨none, 0, 0⟩, [], _, _, (fun _ => False), by rw [hop]; rfl, by rw [hop]; exact hf, nx_hm0_hf, ⟨.inl ⟨rfl, rfl⟩⟩, (.inl rfl), DL.zK, ⟨fun h => absurd h (by rw [hop]; exact (Nat.succ_ne_zero 6)), fun _ => ⟨rfl, rfl⟩⟩, by rw [hop]; rfl, Rd.nil _ _ _ _, (fun x h => by cases h), (fun b h => h.elim), (fun c h => h.elim), (fun k hk b h => h.elim), (fun b h => h.elim), hm0⟩
  ·
    refine LR.v (Y.move rfl rfl) (Wd.g rfl rfl rfl) rfl rfl ?_
    refine LR.v (Y.cast (v2 := Str (newP p)) (Y.sadd rfl rfl rfl (by simp only [List.length_cons, List.length_nil]; omega)) (rfl)) (Wd.g rfl rfl rfl) rfl rfl ?_
    -- call selvage/simfs.Name
    refine LR.call rfl Tryz.call26 rfl (Wd.g rfl rfl rfl) rfl rfl (name_ct mx_ (newP p) w0 _ mx (bf_mx.mono (by omega)) (by rw [newP_len]; omega)) (fun v18 H18 r18 => ?_)
    obtain ⟨rfl, hs18⟩ := r18
    replace hf := hf.nw hs18
    replace mx := mx.nw hs18
    replace hm0 := hm0.trN hs18
    have hz2 := hs18.size
    refine LR.v (Y.not rfl rfl) (Wd.g rfl rfl rfl) rfl rfl ?_
    refine LR.v (Y.pick_f rfl rfl rfl) (Wd.u rfl) rfl rfl ?_
    refine LR.nil ?_
    refine hK3 _ _ ?_
    refine CW.cond rfl (fun c20 => ?_) (fun c20 => ?_)
    ·
      have hop := open_a (D := D) (p := p) (.inr (by simpa using c20))
      refine CW.seq (fun K5 hK5 hE5 => ?_)
      refine CW.region ?_
      refine LR.v (Y.assign rfl rfl) (Wd.u rfl) rfl rfl ?_
      refine LR.v (Y.assign rfl rfl) (Wd.u rfl) rfl rfl ?_
      refine LR.v (Y.assign rfl rfl) (Wd.u rfl) rfl rfl ?_
      refine LR.nil ?_
      refine hK5 _ _ ?_
      refine CW.ret (hE2 .ret nofun _ _ (hret .ret (.inr rfl) _ _ _ (res3 rfl rfl rfl rfl) ?_))
      exact ⟨.pointer none, 0, ⟨none, 0, 0⟩, [], _, _, (fun _ => False), by rw [hop]; rfl, by rw [hop]; exact hf, nx_hm0_hf, ⟨.inl ⟨rfl, rfl⟩⟩, (.inl rfl), DL.zK, ⟨fun h => absurd h (by rw [hop]; exact (Nat.succ_ne_zero 6)), fun _ => ⟨rfl, rfl⟩⟩, by rw [hop]; rfl, Rd.nil _ _ _ _, (fun x h => by cases h), (fun b h => h.elim), (fun c h => h.elim), (fun k hk b h => h.elim), (fun b h => h.elim), hm0⟩
    ·
      have hn1 : nameB p = true := by simpa using g15
      have hn2 : nameB (newP p) = true := by simpa using c20
      refine CW.skip ?_
      refine hK2 _ _ ?_
      refine CW.seq (fun K6 hK6 hE6 => ?_)
      refine CW.region ?_
      refine LR.v (Y.move rfl rfl) (Wd.u rfl) rfl rfl ?_
      refine LR.v (Y.move rfl rfl) (Wd.u rfl) rfl rfl ?_
      refine LR.v (Y.build (v := .agg #[ptr b, Str p, .int .i64 0, .bool false]) rfl rfl (by intro w; kernel_rfl)) (Wd.u rfl) rfl rfl ?_
      refine LR.z (Z.boxv rfl rfl) (Wd.u rfl) rfl rfl (fun v24 H24 r24 => ?_)
      obtain ⟨rfl, hlg, hs24, ob24, hH24⟩ := r24
      have hzs24 : H24.size = H18.size + 1 := by rw [hH24]; simp
      have dj1 : DL (H18.size + 1) K := DL.newK hf.bk
      have df2 := (DF.new (bf_mx.mono hm0.size) : DF _ (H18.size + 1))
      have nx3 : Nx 0 H0.size (H18.size + 1) := Nx.new hm0.size
      replace hf := hf.nw hs24
      replace mx := mx.nw hs24
      replace hm0 := hm0.trN hs24
      have hz3 := hs24.size
      replace hlg : Var 76 H24 H18.size ([ptr b, Str p, .int .i64 ((0 : Nat) : Int), .bool false]) := hlg
      refine LR.v (Y.assign rfl rfl) (Wd.u rfl) rfl rfl ?_
      refine LR.nil ?_
      refine hK6 _ _ ?_
      refine CW.seq (fun K7 hK7 hE7 => ?_)
      refine CW.region ?_
      refine LR.v (Y.move rfl rfl) (Wd.u rfl) rfl rfl ?_
      refine LR.v (Y.move rfl rfl) (Wd.u rfl) rfl rfl ?_
      -- call (*selvage/simfs.FS).Read
      refine LR.call rfl Tryz.call23 rfl (Wd.u rfl) rfl rfl (read_ct mx_ K g b D p w0 _ mx (bf_mx.mono (by omega)) hf (by omega) (fun i => by have := (hB.f i).1; omega)) (fun v28 H28 r28 => ?_)
      obtain ⟨s28, k28, rfl, ow28, hk28, hs28⟩ := r28
      have dj4 : DL k28 K := DL.app2 (DL.zK) hf.bk hk28
      have df5 := DF.app (DF.z) (bf_mx.mono hm0.size) hk28
      have dj6 : Dj (H18.size + 1) k28 := Dj.app (Dj.z) hlg.lt hk28
      have nx7 : Nx 0 H0.size k28 := Nx.tr (Nx.refl 0 _) hk28 hm0.size
      replace hf := hf.nw hs28
      replace mx := mx.nw hs28
      replace hlg := hlg.nw hs28
      replace hm0 := hm0.trN hs28
      have hz4 := hs28.size
      have hle_ow28 := ow28.le
      refine LR.v (Y.move rfl rfl) (Wd.u rfl) rfl rfl ?_
      refine LR.v (Y.extract rfl rfl rfl) (Wd.u rfl) rfl rfl ?_
      refine LR.v (Y.extract rfl rfl rfl) (Wd.u rfl) rfl rfl ?_
      refine LR.v (Y.assign rfl rfl) (Wd.u rfl) rfl rfl ?_
      refine LR.v (Y.assign rfl rfl) (Wd.u rfl) rfl rfl ?_
      refine LR.nil ?_
      refine hK7 _ _ ?_
      refine CW.seq (fun K8 hK8 hE8 => ?_)
      refine CW.seq (fun K9 hK9 hE9 => ?_)
      refine CW.region ?_
      refine LR.v (Y.move rfl rfl) (Wd.u rfl) rfl rfl ?_
      refine LR.v (Y.eql rfl rfl rfl) (Wd.u rfl) rfl rfl ?_
      refine LR.nil ?_
      refine hK9 _ _ ?_
      refine CW.condp rfl (fun c32 => ?_) (fun c32 => ?_)
      ·
        have hop := open_b (D := D) hn1 hn2 (by omega)
        refine CW.seq (fun K10 hK10 hE10 => ?_)
        refine CW.seq (fun K11 hK11 hE11 => ?_)
        refine CW.region ?_
        refine LR.v (Y.move rfl rfl) (Wd.u rfl) rfl rfl ?_
        -- call (*selvage/wal.Log).Checkpoint
        refine LR.call rfl Tryz.call16 rfl (Wd.u rfl) rfl rfl (ckpt_ct mx_ K g b D H18.size p 0 false ⟨none, 0, 0⟩ [] (fun _ => False) N w0 _ hf mx (bf_mx.mono (by omega)) (dmx) hlg (dj1) (df2) (Rd.nil _ _ _ _) (fun b h => h.elim) (fun k hk b h => h.elim) (fun x h => by cases h) (fun b h => h.elim) (fun k hk b h => h.elim) (fun x h => by cases h) (by simp [recs, encN]) (fun b h _ => h.elim) (fun b h _ => h.elim) hl hB (by simp [recs, encW, W8, encN]; omega) (by simp)) (fun v34 H34 r34 => ?_)
        have ql8 := hf.bk
        have ql9 := hlg.lt
        have ql10 := ow28.le
        obtain ⟨K34, g34, rfl, hf, hkd34, hlg, dl234, hs34⟩ := r34
        have df11 := DFL.appK (dmx) (bf_mx.mono hm0.size) hkd34
        have dj12 : DL (H18.size + 1) K34 := DL.appK (dj1) ql9 hkd34
        have dj13 : DL k28 K34 := DL.appK (dj4) ql10 hkd34
        have nx14 : NxK K H0.size K34 := NxK.tr (nx_hm0_hf) hkd34 hm0.size
        replace mx := mx.upL hs34 (DFL.app dmx (DFL.cons df2 DFL.nil))
        replace ow28 := ow28.upL hs34 (DL.app dj4 (DL.cons dj6.symm DL.nil))
        replace hm0 := hm0.trL hs34 (MIL.app (MIL.ofK (nx_hm0_hf) (by intro k hk; simp [hk])) (MIL.cons (MI.app MI.z (nx3) (Nat.le_refl _)) MIL.nil))
        have hz5 := hs34.size
        have hbk_hf := hf.bk
        refine LR.v (Y.assign rfl rfl) (Wd.u rfl) rfl rfl ?_
        refine LR.nil ?_
        refine hK11 _ _ ?_
        refine CW.seq (fun K12 hK12 hE12 => ?_)
        refine CW.region ?_
        refine LR.v (Y.move rfl rfl) (Wd.u rfl) rfl rfl ?_
        refine LR.v (Y.neq rfl rfl rfl) (Wd.u rfl) rfl rfl ?_
        refine LR.nil ?_
        refine hK12 _ _ ?_
        refine CW.condp rfl (fun c36 => ?_) (fun c36 => ?_)
        ·
          refine CW.seq (fun K13 hK13 hE13 => ?_)
          refine CW.region ?_
          refine LR.v (Y.move rfl rfl) (Wd.u rfl) rfl rfl ?_
          refine LR.v (Y.assign rfl rfl) (Wd.u rfl) rfl rfl ?_
          refine LR.v (Y.assign rfl rfl) (Wd.u rfl) rfl rfl ?_
          refine LR.v (Y.assign rfl rfl) (Wd.u rfl) rfl rfl ?_
          refine LR.nil ?_
          refine hK13 _ _ ?_
          refine CW.ret (hE10 .ret nofun _ _ (hE8 .ret nofun _ _ (hret .ret (.inr rfl) _ _ _ (res3 rfl rfl rfl rfl) ?_)))
          exact ⟨.pointer none, 0, ⟨none, 0, 0⟩, [], _, _, (fun _ => False), by rw [hop]; rfl, by rw [hop]; exact hf, nx14, ⟨.inl ⟨rfl, rfl⟩⟩, (.inl rfl), DL.zK, ⟨fun h => absurd h (by rw [hop]; exact (by have h9 := c36; simp only [recs, List.map_nil] at h9; show (freshD D p []).1 ≠ 0; omega)), fun _ => ⟨rfl, rfl⟩⟩, by rw [hop]; rfl, Rd.nil _ _ _ _, (fun x h => by cases h), (fun b h => h.elim), (fun c h => h.elim), (fun k hk b h => h.elim), (fun b h => h.elim), hm0⟩
        ·
          refine CW.skip ?_
          refine hK10 _ _ ?_
          refine CW.seq (fun K14 hK14 hE14 => ?_)
          refine CW.region ?_
          refine LR.v (Y.move rfl rfl) (Wd.u rfl) rfl rfl ?_
          refine LR.v (Y.assign rfl rfl) (Wd.u rfl) rfl rfl ?_
          refine LR.v (Y.assign rfl rfl) (Wd.u rfl) rfl rfl ?_
          refine LR.v (Y.assign rfl rfl) (Wd.u rfl) rfl rfl ?_
          refine LR.nil ?_
          refine hK14 _ _ ?_
          refine CW.ret (hE8 .ret nofun _ _ (hret .ret (.inr rfl) _ _ _ (res3 rfl rfl rfl rfl) ?_))
          have h8 : (freshD D p []).1 = 0 := by have h9 := c36; simp only [recs, List.map_nil] at h9; omega
          rw [h8] at hop
          exact ⟨ptr H18.size, (H18.size + 1), ⟨none, 0, 0⟩, [], _, _, (fun _ => False), by rw [hop]; rfl, by rw [hop]; exact hf, nx14, ⟨.inr ⟨_, rfl, rfl, by simp only [recs, List.map_nil] at hlg; rw [lgN_0 h8, lgB_0 h8] at hlg; exact hlg⟩⟩, nx3, dl234, ⟨fun _ => ⟨_, rfl, rfl⟩, fun h => absurd (by rw [hop]) h⟩, by rw [hop]; rfl, Rd.nil _ _ _ _, (fun x h => by cases h), (fun b h => h.elim), (fun c h => h.elim), (fun k hk b h => h.elim), (fun b h => h.elim), hm0⟩
      ·
        refine CW.skip ?_
        refine hK8 _ _ ?_
        refine CW.seq (fun K15 hK15 hE15 => ?_)
        refine CW.seq (fun K16 hK16 hE16 => ?_)
        refine CW.region ?_
        refine LR.v (Y.move rfl rfl) (Wd.u rfl) rfl rfl ?_
        refine LR.v (Y.neq rfl rfl rfl) (Wd.u rfl) rfl rfl ?_
        refine LR.nil ?_
        refine hK16 _ _ ?_
        refine CW.condp rfl (fun c40 => ?_) (fun c40 => ?_)
        ·
          refine CW.seq (fun K17 hK17 hE17 => ?_)
          refine CW.region ?_
          refine LR.v (Y.move rfl rfl) (Wd.u rfl) rfl rfl ?_
          refine LR.v (Y.assign rfl rfl) (Wd.u rfl) rfl rfl ?_
          refine LR.v (Y.assign rfl rfl) (Wd.u rfl) rfl rfl ?_
          refine LR.v (Y.assign rfl rfl) (Wd.u rfl) rfl rfl ?_
          refine LR.nil ?_
          refine hK17 _ _ ?_
          refine CW.ret (hE15 .ret nofun _ _ (hret .ret (.inr rfl) _ _ _ (res3 rfl rfl rfl rfl) ?_))
          have h8 : D.readE p ≠ 0 := by omega
          have hop := open_c (D := D) hn1 hn2 (by omega) h8
          exact ⟨.pointer none, 0, ⟨none, 0, 0⟩, [], _, _, (fun _ => False), by rw [hop]; rfl, by rw [hop]; exact hf, nx_hm0_hf, ⟨.inl ⟨rfl, rfl⟩⟩, (.inl rfl), DL.zK, ⟨fun h => absurd h (by rw [hop]; exact h8), fun _ => ⟨rfl, rfl⟩⟩, by rw [hop]; rfl, Rd.nil _ _ _ _, (fun x h => by cases h), (fun b h => h.elim), (fun c h => h.elim), (fun k hk b h => h.elim), (fun b h => h.elim), hm0⟩
        ·
          refine CW.skip ?_
          refine hK15 _ _ ?_
          refine CW.seq (fun K18 hK18 hE18 => ?_)
          refine CW.region ?_
          refine LR.v (Y.move rfl rfl) (Wd.u rfl) rfl rfl ?_
          -- call selvage/wal.Parse
          refine LR.call rfl Tryz.call27 rfl (Wd.u rfl) rfl rfl (parse_ct s28 (D.readL p) w0 _ ow28.rd.any (by have := readL_bd hB p; omega)) (fun v44 H44 r44 => ?_)
          obtain ⟨t44, l44, rfl, hrc44, hw44, hx44, hs44⟩ := r44
          replace hf := hf.nw hs44
          replace mx := mx.nw hs44
          replace hlg := hlg.nw hs44
          replace ow28 := ow28.nw hs44
          replace hm0 := hm0.trN hs44
          have hz6 := hs44.size
          replace hw44 := hw44.bnd
          have bf_hw44 := hw44.bf
          have df15 : DFL (fun b => H28.size ≤ b ∧ b < H44.size) K := DFL.above (fun b h => h.1) (by first | exact hbk_hf | exact fun k hk => Nat.le_trans (hbk_hf k hk) (by omega) | assumption)
          have df16 : DF (fun b => H28.size ≤ b ∧ b < H44.size) (H18.size + 1) := DF.above (fun b h => h.1) (by first | exact hle_hlg | exact hlt_hlg | omega)
          have df17 : DF (fun b => H28.size ≤ b ∧ b < H44.size) k28 := DF.above (fun b h => h.1) (by first | exact hle_ow28 | exact hlt_ow28 | omega)
          replace hx44 := fun x hx_ => (hx44 x hx_).bnd
          have bf_hx44 : BF (fun b => H28.size ≤ b ∧ b < H44.size) H44.size := fun b h => h.2
          have df18 : DFL (fun b => H28.size ≤ b ∧ b < H44.size) K := DFL.above (fun b h => h.1) (by first | exact hbk_hf | exact fun k hk => Nat.le_trans (hbk_hf k hk) (by omega) | assumption)
          have df19 : DF (fun b => H28.size ≤ b ∧ b < H44.size) (H18.size + 1) := DF.above (fun b h => h.1) (by first | exact hle_hlg | exact hlt_hlg | omega)
          have df20 : DF (fun b => H28.size ≤ b ∧ b < H44.size) k28 := DF.above (fun b h => h.1) (by first | exact hle_ow28 | exact hlt_ow28 | omega)
          refine LR.v (Y.move rfl rfl) (Wd.u rfl) rfl rfl ?_
          refine LR.v (Y.extract rfl rfl rfl) (Wd.u rfl) rfl rfl ?_
          refine LR.v (Y.extract rfl rfl rfl) (Wd.u rfl) rfl rfl ?_
          refine LR.v (Y.extract rfl rfl rfl) (Wd.u rfl) rfl rfl ?_
          have hlt44 := congrArg List.length hrc44
          simp only [recs, List.length_map] at hlt44
          refine LR.v (Y.assign rfl rfl) (Wd.u rfl) rfl rfl ?_
          refine LR.v (Y.assign rfl rfl) (Wd.u rfl) rfl rfl ?_
          refine LR.v (Y.assign rfl rfl) (Wd.u rfl) rfl rfl ?_
          refine LR.nil ?_
          refine hK18 _ _ ?_
          refine CW.seq (fun K19 hK19 hE19 => ?_)
          refine CW.seq (fun K20 hK20 hE20 => ?_)
          refine CW.region ?_
          refine LR.v (Y.move rfl rfl) (Wd.u rfl) rfl rfl ?_
          refine LR.v (Y.eql rfl rfl rfl) (Wd.u rfl) rfl rfl ?_
          refine LR.v (Y.move rfl rfl) (Wd.u rfl) rfl rfl ?_
          refine LR.splitp (d := 50) rfl (fun g50 => ?_) (fun g50 => ?_)
          ·
            refine LR.v (Y.move rfl rfl) (Wd.g rfl rfl rfl) rfl rfl ?_
            refine LR.v (Y.move rfl rfl) (Wd.g rfl rfl rfl) rfl rfl ?_
            refine LR.v (Y.len ow28.rd rfl Tryz.runUnderlying34 rfl) (Wd.g rfl rfl rfl) rfl rfl ?_
            refine LR.v (Y.lss rfl rfl rfl) (Wd.g rfl rfl rfl) rfl rfl ?_
            refine LR.v (Y.pick_t rfl rfl rfl) (Wd.u rfl) rfl rfl ?_
            refine LR.nil ?_
            refine hK20 _ _ ?_
            refine CW.condp rfl (fun c55 => ?_) (fun c55 => ?_)
            ·
              refine CW.region ?_
              refine LR.v (Y.move rfl rfl) (Wd.u rfl) rfl rfl ?_
              refine LR.v (Y.move rfl rfl) (Wd.u rfl) rfl rfl ?_
              -- call (*selvage/wal.Log).Checkpoint
              refine LR.call rfl Tryz.call16 rfl (Wd.u rfl) rfl rfl (ckpt_ct mx_ K g b D H18.size p 0 false t44 l44 _ N w0 _ hf mx (bf_mx.mono (by omega)) (dmx) hlg (dj1) (df2) hw44 (bf_hw44.mono (by omega)) (df15) hx44 (bf_hw44.mono (by omega)) (df18) (fun x h => parL_max _ _ (by rw [← hrc44]; exact List.mem_map_of_mem h)) (by rw [hrc44]; have h2 := (encN_parL_le (D.readL p)).1; omega) (df16) (df19) hl hB (by rw [hrc44]; omega) (by omega)) (fun v58 H58 r58 => ?_)
              have ql21 := hf.bk
              have ql22 := hlg.lt
              have ql23 := ow28.le
              obtain ⟨K58, g58, rfl, hf, hkd58, hlg, dl258, hs58⟩ := r58
              have df24 := DFL.appK (dmx) (bf_mx.mono hm0.size) hkd58
              have dj25 : DL (H18.size + 1) K58 := DL.appK (dj1) ql22 hkd58
              have dj26 : DL k28 K58 := DL.appK (dj4) ql23 hkd58
              have df27 := DFL.appK (df15) (bf_hw44.mono (by omega)) hkd58
              have df28 := DFL.appK (df18) (bf_hx44.mono (by omega)) hkd58
              have nx29 : NxK K H0.size K58 := NxK.tr (nx_hm0_hf) hkd58 hm0.size
              replace mx := mx.upL hs58 (DFL.app dmx (DFL.cons df2 DFL.nil))
              replace ow28 := ow28.upL hs58 (DL.app dj4 (DL.cons dj6.symm DL.nil))
              replace hw44 := hw44.upL hs58 (DFL.app df15 (DFL.cons df16 DFL.nil))
              replace hx44 := fun x hx_ => (hx44 x hx_).upL hs58 (DFL.app df18 (DFL.cons df19 DFL.nil))
              replace hm0 := hm0.trL hs58 (MIL.app (MIL.ofK (nx_hm0_hf) (by intro k hk; simp [hk])) (MIL.cons (MI.app MI.z (nx3) (Nat.le_refl _)) MIL.nil))
              have hz7 := hs58.size
              have hbk_hf := hf.bk
              refine LR.v (Y.assign rfl rfl) (Wd.u rfl) rfl rfl ?_
              refine LR.nil ?_
              refine hK19 _ _ ?_
              refine CW.seq (fun K21 hK21 hE21 => ?_)
              refine CW.seq (fun K22 hK22 hE22 => ?_)
              refine CW.region ?_
              refine LR.v (Y.move rfl rfl) (Wd.u rfl) rfl rfl ?_
              refine LR.v (Y.neq rfl rfl rfl) (Wd.u rfl) rfl rfl ?_
              refine LR.nil ?_
              refine hK22 _ _ ?_
              refine CW.condp rfl (fun c60 => ?_) (fun c60 => ?_)
              ·
                refine CW.seq (fun K23 hK23 hE23 => ?_)
                refine CW.region ?_
                refine LR.v (Y.move rfl rfl) (Wd.u rfl) rfl rfl ?_
                refine LR.v (Y.assign rfl rfl) (Wd.u rfl) rfl rfl ?_
                refine LR.v (Y.assign rfl rfl) (Wd.u rfl) rfl rfl ?_
                refine LR.v (Y.assign rfl rfl) (Wd.u rfl) rfl rfl ?_
                refine LR.nil ?_
                refine hK23 _ _ ?_
                refine CW.ret (hE21 .ret nofun _ _ (hret .ret (.inr rfl) _ _ _ (res3 rfl rfl rfl rfl) ?_))
                have h8 : (freshD D p (parL (D.readL p))).1 ≠ 0 := by rw [← hrc44]; omega
                have hop := open_e (D := D) hn1 hn2 (by omega) (by omega) (by omega)
                rw [if_neg h8] at hop
                rw [hrc44] at hf
                exact ⟨.pointer none, 0, ⟨none, 0, 0⟩, [], _, _, (fun _ => False), by rw [hop, hrc44], by rw [hop]; exact hf, nx29, ⟨.inl ⟨rfl, rfl⟩⟩, (.inl rfl), DL.zK, ⟨fun h => absurd h (by rw [hop]; exact h8), fun _ => ⟨rfl, rfl⟩⟩, by rw [hop]; rfl, Rd.nil _ _ _ _, (fun x h => by cases h), (fun b h => h.elim), (fun c h => h.elim), (fun k hk b h => h.elim), (fun b h => h.elim), hm0⟩
              ·
                try (have h8 : (freshD D p (recs l44)).1 = 0 := (by omega); rw [lgN_0 h8, lgB_0 h8] at hlg)
                refine CW.skip ?_
                refine hK21 _ _ ?_
                refine CW.seq (fun K24 hK24 hE24 => ?_)
                refine CW.region ?_
                refine LR.v (Y.move rfl rfl) (Wd.u rfl) rfl rfl ?_
                refine LR.v (Y.move rfl rfl) (Wd.u rfl) rfl rfl ?_
                refine LR.v (Y.len hw44 rfl Tryz.runUnderlying22 rfl) (Wd.u rfl) rfl rfl ?_
                refine LR.v (Y.nilCheck rfl rfl) (Wd.u rfl) rfl rfl ?_
                refine LR.v (Y.fieldAddr hlg.pt rfl Tryz.runUnderlying76 rfl rfl Tryz.sizeOf3 (by decide) rfl) (Wd.u rfl) rfl rfl ?_
                refine LR.s (S.var1 hlg 2 ([ptr b, Str p, .int .i64 ((l44.length : Nat) : Int), .bool false]) rfl rfl rfl (rfl) Tryz.sizeOf3 (by simp) (rfl)) (Wd.u rfl) rfl (fun H17_5 r17_5 => ?_)
                obtain ⟨hlg, hs17_5⟩ := r17_5
                replace hs17_5 := hs17_5.md1
                replace hf := hf.upL hs17_5 (DKL.cons dl258 DKL.nil)
                replace mx := mx.upL hs17_5 (DFL.cons df2 DFL.nil)
                replace ow28 := ow28.upL hs17_5 (DL.cons dj6.symm DL.nil)
                replace hw44 := hw44.upL hs17_5 (DFL.cons df16 DFL.nil)
                replace hx44 := fun x hx_ => (hx44 x hx_).upL hs17_5 (DFL.cons df19 DFL.nil)
                replace hm0 := hm0.trL hs17_5 (MIL.cons (MI.app MI.z (nx3) (Nat.le_refl _)) MIL.nil)
                have hz8 := hs17_5.size
                refine LR.nil ?_
                refine hK24 _ _ ?_
                refine CW.seq (fun K25 hK25 hE25 => ?_)
                refine CW.region ?_
                refine LR.v (Y.move rfl rfl) (Wd.u rfl) rfl rfl ?_
                refine LR.v (Y.move rfl rfl) (Wd.u rfl) rfl rfl ?_
                refine LR.v (Y.assign rfl rfl) (Wd.u rfl) rfl rfl ?_
                refine LR.v (Y.assign rfl rfl) (Wd.u rfl) rfl rfl ?_
                refine LR.v (Y.assign rfl rfl) (Wd.u rfl) rfl rfl ?_
                refine LR.nil ?_
                refine hK25 _ _ ?_
                refine CW.ret (hret .ret (.inr rfl) _ _ _ (res3 rfl rfl rfl rfl) ?_)
                have hop : (openD D p).1 = 0 ∧ (openD D p).2.1 = parL (D.readL p) := by
                  first
                  | (have h9 := open_e (D := D) hn1 hn2 (by omega) (by omega) (by omega); have h8 : (freshD D p (parL (D.readL p))).1 = 0 := (by rw [← hrc44]; omega); rw [h8, if_pos rfl] at h9; rw [h9]; exact ⟨rfl, rfl⟩)
                  | (have h9 := open_f (D := D) hn1 hn2 (by omega) (by omega) (by omega); rw [h9]; exact ⟨rfl, rfl⟩)
                exact ⟨ptr H18.size, (H18.size + 1), t44, l44, _, _, _, by rw [hop.1]; rfl, (by first | (have h9 := open_e (D := D) hn1 hn2 (by omega) (by omega) (by omega); rw [h9]; rw [hrc44] at hf; exact hf) | (have h9 := open_f (D := D) hn1 hn2 (by omega) (by omega) (by omega); rw [h9]; exact hf)), nx29, ⟨.inr ⟨_, rfl, rfl, hlg⟩⟩, nx3, dl258, ⟨fun _ => ⟨_, rfl, rfl⟩, fun h => absurd hop.1 h⟩, by rw [hop.2]; exact hrc44, hw44, (fun x h => hx44 x h), (bf_hw44.mono (by omega)), (fun c h => by have h9 := h.1; omega), (df27), (df16), hm0⟩
            ·
              refine CW.skip ?_
              refine hK19 _ _ ?_
              refine CW.seq (fun K26 hK26 hE26 => ?_)
              refine CW.seq (fun K27 hK27 hE27 => ?_)
              refine CW.region ?_
              refine LR.v (Y.move rfl rfl) (Wd.u rfl) rfl rfl ?_
              refine LR.v (Y.neq rfl rfl rfl) (Wd.u rfl) rfl rfl ?_
              refine LR.nil ?_
              refine hK27 _ _ ?_
              refine CW.condp rfl (fun c60 => ?_) (fun c60 => ?_)
              ·
                refine CW.seq (fun K28 hK28 hE28 => ?_)
                refine CW.region ?_
                refine LR.v (Y.move rfl rfl) (Wd.u rfl) rfl rfl ?_
                refine LR.v (Y.assign rfl rfl) (Wd.u rfl) rfl rfl ?_
                refine LR.v (Y.assign rfl rfl) (Wd.u rfl) rfl rfl ?_
                refine LR.v (Y.assign rfl rfl) (Wd.u rfl) rfl rfl ?_
                refine LR.nil ?_
                refine hK28 _ _ ?_
                refine CW.ret (hE26 .ret nofun _ _ (hret .ret (.inr rfl) _ _ _ (res3 rfl rfl rfl rfl) ?_))
                have h8 : parE (D.readL p) ≠ 0 := by omega
                have hop := open_d (D := D) hn1 hn2 (by omega) h8
                exact ⟨.pointer none, 0, ⟨none, 0, 0⟩, [], _, _, (fun _ => False), by rw [hop]; rfl, by rw [hop]; exact hf, nx_hm0_hf, ⟨.inl ⟨rfl, rfl⟩⟩, (.inl rfl), DL.zK, ⟨fun h => absurd h (by rw [hop]; exact h8), fun _ => ⟨rfl, rfl⟩⟩, by rw [hop]; rfl, Rd.nil _ _ _ _, (fun x h => by cases h), (fun b h => h.elim), (fun c h => h.elim), (fun k hk b h => h.elim), (fun b h => h.elim), hm0⟩
              ·
                try (have h8 : (freshD D p (recs l44)).1 = 0 := (by omega); rw [lgN_0 h8, lgB_0 h8] at hlg)
                refine CW.skip ?_
                refine hK26 _ _ ?_
                refine CW.seq (fun K29 hK29 hE29 => ?_)
                refine CW.region ?_
                refine LR.v (Y.move rfl rfl) (Wd.u rfl) rfl rfl ?_
                refine LR.v (Y.move rfl rfl) (Wd.u rfl) rfl rfl ?_
                refine LR.v (Y.len hw44 rfl Tryz.runUnderlying22 rfl) (Wd.u rfl) rfl rfl ?_
                refine LR.v (Y.nilCheck rfl rfl) (Wd.u rfl) rfl rfl ?_
                refine LR.v (Y.fieldAddr hlg.pt rfl Tryz.runUnderlying76 rfl rfl Tryz.sizeOf3 (by decide) rfl) (Wd.u rfl) rfl rfl ?_
                refine LR.s (S.var1 hlg 2 ([ptr b, Str p, .int .i64 ((l44.length : Nat) : Int), .bool false]) rfl rfl rfl (rfl) Tryz.sizeOf3 (by simp) (rfl)) (Wd.u rfl) rfl (fun H17_5 r17_5 => ?_)
                obtain ⟨hlg, hs17_5⟩ := r17_5
                replace hs17_5 := hs17_5.md1
                replace hf := hf.upL hs17_5 (DKL.cons dj1 DKL.nil)
                replace mx := mx.upL hs17_5 (DFL.cons df2 DFL.nil)
                replace ow28 := ow28.upL hs17_5 (DL.cons dj6.symm DL.nil)
                replace hw44 := hw44.upL hs17_5 (DFL.cons df16 DFL.nil)
                replace hx44 := fun x hx_ => (hx44 x hx_).upL hs17_5 (DFL.cons df19 DFL.nil)
                replace hm0 := hm0.trL hs17_5 (MIL.cons (MI.app MI.z (nx3) (Nat.le_refl _)) MIL.nil)
                have hz9 := hs17_5.size
                refine LR.nil ?_
                refine hK29 _ _ ?_
                refine CW.seq (fun K30 hK30 hE30 => ?_)
                refine CW.region ?_
                refine LR.v (Y.move rfl rfl) (Wd.u rfl) rfl rfl ?_
                refine LR.v (Y.move rfl rfl) (Wd.u rfl) rfl rfl ?_
                refine LR.v (Y.assign rfl rfl) (Wd.u rfl) rfl rfl ?_
                refine LR.v (Y.assign rfl rfl) (Wd.u rfl) rfl rfl ?_
                refine LR.v (Y.assign rfl rfl) (Wd.u rfl) rfl rfl ?_
                refine LR.nil ?_
                refine hK30 _ _ ?_
                refine CW.ret (hret .ret (.inr rfl) _ _ _ (res3 rfl rfl rfl rfl) ?_)
                have hop : (openD D p).1 = 0 ∧ (openD D p).2.1 = parL (D.readL p) := by
                  first
                  | (have h9 := open_e (D := D) hn1 hn2 (by omega) (by omega) (by omega); have h8 : (freshD D p (parL (D.readL p))).1 = 0 := (by rw [← hrc44]; omega); rw [h8, if_pos rfl] at h9; rw [h9]; exact ⟨rfl, rfl⟩)
                  | (have h9 := open_f (D := D) hn1 hn2 (by omega) (by omega) (by omega); rw [h9]; exact ⟨rfl, rfl⟩)
                exact ⟨ptr H18.size, (H18.size + 1), t44, l44, _, _, _, by rw [hop.1]; rfl, (by first | (have h9 := open_e (D := D) hn1 hn2 (by omega) (by omega) (by omega); rw [h9]; rw [hrc44] at hf; exact hf) | (have h9 := open_f (D := D) hn1 hn2 (by omega) (by omega) (by omega); rw [h9]; exact hf)), nx_hm0_hf, ⟨.inr ⟨_, rfl, rfl, hlg⟩⟩, nx3, dj1, ⟨fun _ => ⟨_, rfl, rfl⟩, fun h => absurd hop.1 h⟩, by rw [hop.2]; exact hrc44, hw44, (fun x h => hx44 x h), (bf_hw44.mono (by omega)), (fun c h => by have h9 := h.1; omega), (df15), (df16), hm0⟩
          ·
            refine LR.gs rfl rfl rfl rfl rfl rfl ?_
            refine LR.gs rfl rfl rfl rfl rfl rfl ?_
            refine LR.gs rfl rfl rfl rfl rfl rfl ?_
            refine LR.gs rfl rfl rfl rfl rfl rfl ?_
            refine LR.v (Y.pick_f rfl rfl rfl) (Wd.u rfl) rfl rfl ?_
            refine LR.nil ?_
            refine hK20 _ _ ?_
            refine CW.cond_f rfl ?_
            refine CW.skip ?_
            refine hK19 _ _ ?_
            refine CW.seq (fun K31 hK31 hE31 => ?_)
            refine CW.seq (fun K32 hK32 hE32 => ?_)
            refine CW.region ?_
            refine LR.v (Y.move rfl rfl) (Wd.u rfl) rfl rfl ?_
            refine LR.v (Y.neq rfl rfl rfl) (Wd.u rfl) rfl rfl ?_
            refine LR.nil ?_
            refine hK32 _ _ ?_
            refine CW.condp rfl (fun c60 => ?_) (fun c60 => ?_)
            ·
              refine CW.seq (fun K33 hK33 hE33 => ?_)
              refine CW.region ?_
              refine LR.v (Y.move rfl rfl) (Wd.u rfl) rfl rfl ?_
              refine LR.v (Y.assign rfl rfl) (Wd.u rfl) rfl rfl ?_
              refine LR.v (Y.assign rfl rfl) (Wd.u rfl) rfl rfl ?_
              refine LR.v (Y.assign rfl rfl) (Wd.u rfl) rfl rfl ?_
              refine LR.nil ?_
              refine hK33 _ _ ?_
              refine CW.ret (hE31 .ret nofun _ _ (hret .ret (.inr rfl) _ _ _ (res3 rfl rfl rfl rfl) ?_))
              have h8 : parE (D.readL p) ≠ 0 := by omega
              have hop := open_d (D := D) hn1 hn2 (by omega) h8
              exact ⟨.pointer none, 0, ⟨none, 0, 0⟩, [], _, _, (fun _ => False), by rw [hop]; rfl, by rw [hop]; exact hf, nx_hm0_hf, ⟨.inl ⟨rfl, rfl⟩⟩, (.inl rfl), DL.zK, ⟨fun h => absurd h (by rw [hop]; exact h8), fun _ => ⟨rfl, rfl⟩⟩, by rw [hop]; rfl, Rd.nil _ _ _ _, (fun x h => by cases h), (fun b h => h.elim), (fun c h => h.elim), (fun k hk b h => h.elim), (fun b h => h.elim), hm0⟩
            ·
              try (have h8 : (freshD D p (recs l44)).1 = 0 := (by omega); rw [lgN_0 h8, lgB_0 h8] at hlg)
              refine CW.skip ?_
              refine hK31 _ _ ?_
              refine CW.seq (fun K34 hK34 hE34 => ?_)
              refine CW.region ?_
              refine LR.v (Y.move rfl rfl) (Wd.u rfl) rfl rfl ?_
              refine LR.v (Y.move rfl rfl) (Wd.u rfl) rfl rfl ?_
              refine LR.v (Y.len hw44 rfl Tryz.runUnderlying22 rfl) (Wd.u rfl) rfl rfl ?_
              refine LR.v (Y.nilCheck rfl rfl) (Wd.u rfl) rfl rfl ?_
              refine LR.v (Y.fieldAddr hlg.pt rfl Tryz.runUnderlying76 rfl rfl Tryz.sizeOf3 (by decide) rfl) (Wd.u rfl) rfl rfl ?_
              refine LR.s (S.var1 hlg 2 ([ptr b, Str p, .int .i64 ((l44.length : Nat) : Int), .bool false]) rfl rfl rfl (rfl) Tryz.sizeOf3 (by simp) (rfl)) (Wd.u rfl) rfl (fun H17_5 r17_5 => ?_)
              obtain ⟨hlg, hs17_5⟩ := r17_5
              replace hs17_5 := hs17_5.md1
              replace hf := hf.upL hs17_5 (DKL.cons dj1 DKL.nil)
              replace mx := mx.upL hs17_5 (DFL.cons df2 DFL.nil)
              replace ow28 := ow28.upL hs17_5 (DL.cons dj6.symm DL.nil)
              replace hw44 := hw44.upL hs17_5 (DFL.cons df16 DFL.nil)
              replace hx44 := fun x hx_ => (hx44 x hx_).upL hs17_5 (DFL.cons df19 DFL.nil)
              replace hm0 := hm0.trL hs17_5 (MIL.cons (MI.app MI.z (nx3) (Nat.le_refl _)) MIL.nil)
              have hz10 := hs17_5.size
              refine LR.nil ?_
              refine hK34 _ _ ?_
              refine CW.seq (fun K35 hK35 hE35 => ?_)
              refine CW.region ?_
              refine LR.v (Y.move rfl rfl) (Wd.u rfl) rfl rfl ?_
              refine LR.v (Y.move rfl rfl) (Wd.u rfl) rfl rfl ?_
              refine LR.v (Y.assign rfl rfl) (Wd.u rfl) rfl rfl ?_
              refine LR.v (Y.assign rfl rfl) (Wd.u rfl) rfl rfl ?_
              refine LR.v (Y.assign rfl rfl) (Wd.u rfl) rfl rfl ?_
              refine LR.nil ?_
              refine hK35 _ _ ?_
              refine CW.ret (hret .ret (.inr rfl) _ _ _ (res3 rfl rfl rfl rfl) ?_)
              have hop : (openD D p).1 = 0 ∧ (openD D p).2.1 = parL (D.readL p) := by
                first
                | (have h9 := open_e (D := D) hn1 hn2 (by omega) (by omega) (by omega); have h8 : (freshD D p (parL (D.readL p))).1 = 0 := (by rw [← hrc44]; omega); rw [h8, if_pos rfl] at h9; rw [h9]; exact ⟨rfl, rfl⟩)
                | (have h9 := open_f (D := D) hn1 hn2 (by omega) (by omega) (by omega); rw [h9]; exact ⟨rfl, rfl⟩)
              exact ⟨ptr H18.size, (H18.size + 1), t44, l44, _, _, _, by rw [hop.1]; rfl, (by first | (have h9 := open_e (D := D) hn1 hn2 (by omega) (by omega) (by omega); rw [h9]; rw [hrc44] at hf; exact hf) | (have h9 := open_f (D := D) hn1 hn2 (by omega) (by omega) (by omega); rw [h9]; exact hf)), nx_hm0_hf, ⟨.inr ⟨_, rfl, rfl, hlg⟩⟩, nx3, dj1, ⟨fun _ => ⟨_, rfl, rfl⟩, fun h => absurd hop.1 h⟩, by rw [hop.2]; exact hrc44, hw44, (fun x h => hx44 x h), (bf_hw44.mono (by omega)), (fun c h => by have h9 := h.1; omega), (df15), (df16), hm0⟩


/-- opened: there is a journal -/
theorem wopen_ok (mx_ : Int) (K : List Nat) (g : Gh) (b : Nat) (D : Dk) (p : Pth) (N : Nat) (w0 : World) (H0 : Heap) (hf : PDk K g H0 b D) (mx : MX mx_ H0) (bf_mx : BF (fun b => b = 0) H0.size) (dmx : DFL (fun b => b = 0) K) (hl : p.length ≤ 4294960000) (hB : Bs N D) (hN : N ≤ 80000000) (he : (openD D p).1 = 0) :
    Ct Tryz.prog w0 9 #[ptr b, Str p] H0 (fun r H2 => ∃ (lb : Nat) (t : SV) (l : List (SV × Rec)) (K2 : List Nat) (g2 : Gh) (G : Nat → Prop), r = .tuple #[ptr lb, t.v, .int .i64 0] ∧ PDk K2 g2 H2 b (openD D p).2.2 ∧ NxK K H0.size K2 ∧ Var 76 H2 lb [ptr b, Str p, .int .i64 (l.length : Int), .bool false] ∧ Nx 0 H0.size (lb + 1) ∧ DL (lb + 1) K2 ∧ recs l = (openD D p).2.1 ∧ Rd G H2 fP 1 t.v l ∧ (∀ x ∈ l, Rd G H2 fB 1 x.1.v x.2) ∧ BF G H2.size ∧ (∀ c, G c → H0.size ≤ c) ∧ DFL G K2 ∧ DF G (lb + 1) ∧ Mo (Ms K) H0 H2) := by
  refine (wopen_ct mx_ K g b D p N w0 H0 hf mx bf_mx dmx hl hB hN).mono ?_
  rintro r H2 ⟨lv, kl, t, l, K2, g2, G, rfl, h1, h2, h3, h4, h5, h6, h7, h8, h9, h11, h12, h13, h14, h10⟩
  obtain ⟨lb, rfl, rfl⟩ := h6.1 he
  exact ⟨lb, t, l, K2, g2, G, by rw [he]; rfl, h1, h2, h3.var.2, h4, h5, h7, h8, h9, h11, h12, h13, h14, h10⟩
end Go.Proofs.YtdliddjkacbggaaGreatDoor.WalG
/-
  The disk: what single steps of a disk that goes come to: plain data.
-/
namespace Go.Proofs.YtdliddjkacbggaaGreatDoor.SimS
open Go.Proofs.YtdliddjkacbggaaGreatDoor.E Go.RowKit Go.Proofs.YtdliddjkacbggaaGreatDoor.SimA Go.Proofs.YtdliddjkacbggaaGreatDoor.SimB Go.Proofs.YtdliddjkacbggaaGreatDoor.SimC Go.Proofs.YtdliddjkacbggaaGreatDoor.SimD Go.Proofs.YtdliddjkacbggaaGreatDoor.SimE Go.Proofs.YtdliddjkacbggaaGreatDoor.SimF Go.Proofs.YtdliddjkacbggaaGreatDoor.SimG Go.Proofs.YtdliddjkacbggaaGreatDoor.SimH Go.Proofs.YtdliddjkacbggaaGreatDoor.SimI Go.Proofs.YtdliddjkacbggaaGreatDoor.SimJ Go.Proofs.YtdliddjkacbggaaGreatDoor.SimK Go.Proofs.YtdliddjkacbggaaGreatDoor.SimL Go.Proofs.YtdliddjkacbggaaGreatDoor.SimM Go.Proofs.YtdliddjkacbggaaGreatDoor.SimN Go.Proofs.YtdliddjkacbggaaGreatDoor.SimP Go.Proofs.YtdliddjkacbggaaGreatDoor.SimQ Go.Proofs.YtdliddjkacbggaaGreatDoor.SimR
set_option maxRecDepth 20000
set_option linter.unusedVariables false
set_option linter.unusedSimpArgs false
set_option linter.unusedSectionVars false

theorem lay_a {c m : Nat} {fs : List Fdt} {nw st : Nms} {lg : List Chg} {op : Nat} {p : Pth} {w : Wr} (hn : nameB p = true) (h1 : (w.on (Dk.wasL ⟨c, m, fs, nw, st, lg, op + 1, 0, false⟩ p) w.d.length).length ≤ m) (h2 : usedL fs nw + (w.on (Dk.wasL ⟨c, m, fs, nw, st, lg, op + 1, 0, false⟩ p) w.d.length).length ≤ c + (Dk.wasL ⟨c, m, fs, nw, st, lg, op + 1, 0, false⟩ p).length) :
    Dk.lay ⟨c, m, fs, nw, st, lg, op, 0, false⟩ p w = (0, Dk.write ⟨c, m, fs, nw, st, lg, op + 1, 0, false⟩ p w) := by
  have hb : Dk.begin ⟨c, m, fs, nw, st, lg, op, 0, false⟩ = (true, ⟨c, m, fs, nw, st, lg, op + 1, 0, false⟩) := by simp [Dk.begin]
  have he := layE_0 (D := ⟨c, m, fs, nw, st, lg, op + 1, 0, false⟩) hn (Nat.not_lt.2 h1) (Nat.not_lt.2 h2)
  rw [lay_go (by rw [hb]), hb]
  simp only [he, if_true]
theorem on_f (b : List UInt8) (d : List UInt8) : (⟨false, d⟩ : Wr).on b d.length = d := by simp [Wr.on]
theorem on_t (b : List UInt8) (d : List UInt8) : (⟨true, d⟩ : Wr).on b d.length = b ++ d := by simp [Wr.on]
end Go.Proofs.YtdliddjkacbggaaGreatDoor.SimS
/-
  The disk: a file is published (plain data).
-/
namespace Go.Proofs.YtdliddjkacbggaaGreatDoor.SimU
open Go.Proofs.YtdliddjkacbggaaGreatDoor.E Go.RowKit Go.Proofs.YtdliddjkacbggaaGreatDoor.SimA Go.Proofs.YtdliddjkacbggaaGreatDoor.SimB Go.Proofs.YtdliddjkacbggaaGreatDoor.SimC Go.Proofs.YtdliddjkacbggaaGreatDoor.SimD Go.Proofs.YtdliddjkacbggaaGreatDoor.SimE Go.Proofs.YtdliddjkacbggaaGreatDoor.SimF Go.Proofs.YtdliddjkacbggaaGreatDoor.SimG Go.Proofs.YtdliddjkacbggaaGreatDoor.SimH Go.Proofs.YtdliddjkacbggaaGreatDoor.SimI Go.Proofs.YtdliddjkacbggaaGreatDoor.SimJ Go.Proofs.YtdliddjkacbggaaGreatDoor.SimK Go.Proofs.YtdliddjkacbggaaGreatDoor.SimL Go.Proofs.YtdliddjkacbggaaGreatDoor.SimM Go.Proofs.YtdliddjkacbggaaGreatDoor.SimN Go.Proofs.YtdliddjkacbggaaGreatDoor.SimP Go.Proofs.YtdliddjkacbggaaGreatDoor.SimQ Go.Proofs.YtdliddjkacbggaaGreatDoor.SimR Go.Proofs.YtdliddjkacbggaaGreatDoor.SimS
set_option maxRecDepth 20000
set_option linter.unusedVariables false
set_option linter.unusedSimpArgs false
set_option linter.unusedSectionVars false

theorem lay_b {D D1 : Dk} {p : Pth} {w : Wr} (hb : D.begin = (true, D1)) (hn : nameB p = true) (h1 : (w.on (D1.wasL p) w.d.length).length ≤ D1.most) (h2 : D1.used + (w.on (D1.wasL p) w.d.length).length ≤ D1.cap + (D1.wasL p).length) : D.lay p w = (0, D1.write p w) := by
  have he := layE_0 (D := D1) hn (Nat.not_lt.2 h1) (Nat.not_lt.2 h2)
  rw [lay_go (by rw [hb]), hb]
  simp only [he, if_true]
def startD (p d : Pth) (x : List UInt8) : Dk := ((((Dk.empty 1048576 65536).lay p ⟨false, x⟩).2.sync p).2.syncDir d).2
theorem start_1 {p : Pth} {x : List UInt8} (hn : nameB p = true) (h : x.length ≤ 3000) : (Dk.empty 1048576 65536).lay p ⟨false, x⟩ = (0, ⟨1048576, 65536, [⟨x, [], [⟨false, x⟩]⟩], [(p, 0)], [], [⟨[], p, some 0⟩], 1, 0, false⟩) := by
  unfold Dk.empty
  rw [lay_a hn (by simp only [on_f]; omega) (by simp only [on_f]; simp [usedL, Dk.wasL, mget]; omega)]
  simp [Dk.write, Dk.make, mget, nput, Dk.change, Chg.ap, Dk.putF, fget, on_f]
theorem start_2 {p : Pth} {x : List UInt8} (hn : nameB p = true) : Dk.sync ⟨1048576, 65536, [⟨x, [], [⟨false, x⟩]⟩], [(p, 0)], [], [⟨[], p, some 0⟩], 1, 0, false⟩ p = (0, ⟨1048576, 65536, [⟨x, x, []⟩], [(p, 0)], [], [⟨[], p, some 0⟩], 2, 0, false⟩) := by
  simp [Dk.sync, Dk.begin, Dk.look, hn, mget, Dk.syncF, Dk.putF, fget]
theorem start_3 {p d : Pth} {x : List UInt8} (hd : dirP p = d) (he : dirE d = 0) : Dk.syncDir ⟨1048576, 65536, [⟨x, x, []⟩], [(p, 0)], [], [⟨[], p, some 0⟩], 2, 0, false⟩ d = (0, ⟨1048576, 65536, [⟨x, x, []⟩], [(p, 0)], [(p, 0)], [], 3, 0, false⟩) := by
  simp [Dk.syncDir, Dk.begin, he, Dk.stayD, merge, hd, nput, Chg.dir]
theorem start_all {p d : Pth} {x : List UInt8} (hn : nameB p = true) (hd : dirP p = d) (he : dirE d = 0) (h : x.length ≤ 3000) :
    ((Dk.empty 1048576 65536).lay p ⟨false, x⟩).1 = 0 ∧ (((Dk.empty 1048576 65536).lay p ⟨false, x⟩).2.sync p).1 = 0 ∧ ((((Dk.empty 1048576 65536).lay p ⟨false, x⟩).2.sync p).2.syncDir d).1 = 0 ∧ startD p d x = ⟨1048576, 65536, [⟨x, x, []⟩], [(p, 0)], [(p, 0)], [], 3, 0, false⟩ := by
  unfold startD
  rw [start_1 hn h]
  simp only
  rw [start_2 hn]
  simp only
  rw [start_3 hd he]
  simp
theorem dead_ops {D : Dk} (h : D.dead = true) : D.begin = (false, D) := by simp [Dk.begin, h]
theorem last_ops {D : Dk} (h : D.dead = false) (h2 : D.left = 1) : D.begin = (false, { D with left := 0, dead := true }) := by unfold Dk.begin; rw [if_neg (by rw [h]; decide), if_pos h2]
theorem read_of {D : Dk} {p : Pth} {i : Nat} {x : List UInt8} (hd : D.dead = false) (hn : nameB p = true) (hg : mget D.now p = some i) (hx : (fget D.fs i).now = x) : D.readE p = 0 ∧ D.readL p = x := by
  have h1 : D.readE p = 0 := by unfold Dk.readE; rw [hd]; simp [Dk.look, hn, hg]
  exact ⟨h1, by unfold Dk.readL; rw [if_pos h1, was_some hg, hx]⟩
end Go.Proofs.YtdliddjkacbggaaGreatDoor.SimU
/-
  The disk: a row of calls as an argument; a file that was synced stays (plain data).
-/
namespace Go.Proofs.YtdliddjkacbggaaGreatDoor.SimY
open Go.Proofs.YtdliddjkacbggaaGreatDoor.E Go.RowKit Go.Proofs.YtdliddjkacbggaaGreatDoor.SimA Go.Proofs.YtdliddjkacbggaaGreatDoor.SimB Go.Proofs.YtdliddjkacbggaaGreatDoor.SimC Go.Proofs.YtdliddjkacbggaaGreatDoor.SimD Go.Proofs.YtdliddjkacbggaaGreatDoor.SimE Go.Proofs.YtdliddjkacbggaaGreatDoor.SimF Go.Proofs.YtdliddjkacbggaaGreatDoor.SimG Go.Proofs.YtdliddjkacbggaaGreatDoor.SimH Go.Proofs.YtdliddjkacbggaaGreatDoor.SimI Go.Proofs.YtdliddjkacbggaaGreatDoor.SimJ Go.Proofs.YtdliddjkacbggaaGreatDoor.SimK Go.Proofs.YtdliddjkacbggaaGreatDoor.SimL Go.Proofs.YtdliddjkacbggaaGreatDoor.SimM Go.Proofs.YtdliddjkacbggaaGreatDoor.SimN Go.Proofs.YtdliddjkacbggaaGreatDoor.SimP Go.Proofs.YtdliddjkacbggaaGreatDoor.SimQ Go.Proofs.YtdliddjkacbggaaGreatDoor.SimR Go.Proofs.YtdliddjkacbggaaGreatDoor.SimS Go.Proofs.YtdliddjkacbggaaGreatDoor.SimU
set_option maxRecDepth 20000
set_option linter.unusedVariables false
set_option linter.unusedSimpArgs false
set_option linter.unusedSectionVars false

section
variable {H : Type} {enc : TypeId × Value → H} {P : Program} {W : World} {base : Nat} {sp : Nat → Bool} {held : Bool}
open Go.ChangeShapes Go.WideShapes Go.ChangeAt Go.RowKit Go.Deep
end
/-! ### a file that was synced -/
def OnlyK (p : Pth) (l : Nms) : Prop := mget l p = some 0 ∧ ∀ q, q ≠ p → mget l q ≠ some 0
structure Kp (p : Pth) (x : List UInt8) (D : Dk) : Prop where
  dead : D.dead = false
  left : D.left = 0
  now : OnlyK p D.now
  st : OnlyK p D.stays
  f : fget D.fs 0 = ⟨x, x, []⟩
  fl : 1 ≤ D.fs.length
  lg : ∀ c ∈ D.log, c.g ≠ p ∧ ∀ i, c.f = some i → i ≠ 0 ∧ c.n ≠ p
theorem OnlyK.ap {p : Pth} {l : Nms} {c : Chg} (h : OnlyK p l) (hg : c.g ≠ p) (hc : ∀ i, c.f = some i → i ≠ 0 ∧ c.n ≠ p) : OnlyK p (c.ap l) := by
  refine ⟨?_, fun q hq => ?_⟩
  · rw [mget_ap]; unfold Chg.at
    cases hf : c.f with
    | none => simp only; rw [if_neg (fun e => hg e.2.symm)]; exact h.1
    | some i => simp only; rw [if_neg (fun e => (hc i hf).2 e.symm), if_neg (fun e => hg e.2.symm)]; exact h.1
  · rw [mget_ap]; unfold Chg.at
    cases hf : c.f with
    | none => simp only; split; exact nofun; exact h.2 q hq
    | some i =>
      simp only; split
      · exact fun e => (hc i hf).1 (Option.some.inj e)
      · split; exact nofun; exact h.2 q hq
theorem OnlyK.apl {p : Pth} : ∀ {cs : List Chg} {l : Nms}, OnlyK p l → (∀ c ∈ cs, c.g ≠ p ∧ ∀ i, c.f = some i → i ≠ 0 ∧ c.n ≠ p) → OnlyK p (apl cs l)
  | [], l, h, _ => h
  | c :: cs, l, h, hc => OnlyK.apl (cs := cs) (h.ap (hc c List.mem_cons_self).1 (hc c List.mem_cons_self).2) (fun d hd => hc d (List.mem_cons_of_mem _ hd))
theorem begin_go {D : Dk} (h : D.dead = false) (h2 : D.left = 0) : D.begin = (true, { D with left := D.left - 1, ops := D.ops + 1 }) := by
  unfold Dk.begin; rw [if_neg (by rw [h]; decide), if_neg (by omega)]
theorem Kp.begin {p : Pth} {x : List UInt8} {D : Dk} (h : Kp p x D) : D.begin.1 = true ∧ Kp p x D.begin.2 := by
  rw [begin_go h.dead h.left]
  exact ⟨rfl, h.dead, by show D.left - 1 = 0; rw [h.left], h.now, h.st, h.f, h.fl, h.lg⟩
theorem Kp.put {p : Pth} {x : List UInt8} {D : Dk} (h : Kp p x D) {i : Nat} (hi : i ≠ 0) (y : Fdt) : Kp p x (D.putF i y) :=
  ⟨h.dead, h.left, h.now, h.st, by
    show (D.fs.set i y).getD 0 _ = _
    rw [List.getD_eq_getElem?_getD, List.getElem?_set_ne hi, ← List.getD_eq_getElem?_getD]; exact h.f, by rw [fl_put]; exact h.fl, h.lg⟩
theorem Kp.change {p : Pth} {x : List UInt8} {D : Dk} (h : Kp p x D) (c : Chg) (hg : c.g ≠ p) (hc : ∀ i, c.f = some i → i ≠ 0 ∧ c.n ≠ p) : Kp p x (D.change c) :=
  ⟨h.dead, h.left, h.now.ap hg hc, h.st, h.f, h.fl, fun d hd => by
    rcases List.mem_append.1 hd with hd | hd
    · exact h.lg d hd
    · rw [List.mem_singleton.1 hd]; exact ⟨hg, hc⟩⟩
theorem Kp.make {p q : Pth} {x : List UInt8} {D : Dk} (h : Kp p x D) (hq : q ≠ p) (hp : p ≠ []) : Kp p x (D.make q).1 ∧ (D.make q).2 ≠ 0 := by
  unfold Dk.make
  cases hm : mget D.now q with
  | some i => exact ⟨h, fun e => h.now.2 q hq (by rw [hm]; exact congrArg some e)⟩
  | none =>
    have h1 : Kp p x ({ D with fs := D.fs ++ [⟨[], [], []⟩] } : Dk) := ⟨h.dead, h.left, h.now, h.st, by
      show (D.fs ++ [(⟨[], [], []⟩ : Fdt)]).getD 0 ⟨[], [], []⟩ = _
      rw [List.getD_eq_getElem?_getD, List.getElem?_append_left h.fl, ← List.getD_eq_getElem?_getD]; exact h.f, by show 1 ≤ (D.fs ++ [(⟨[], [], []⟩ : Fdt)]).length; have := h.fl; simp, h.lg⟩
    exact ⟨h1.change _ (fun e => hp e.symm) (fun i hi => ⟨by rw [← Option.some.inj hi]; have := h.fl; omega, hq⟩), by have := h.fl; simp only; omega⟩
theorem Kp.write {p q : Pth} {x : List UInt8} {D : Dk} (h : Kp p x D) (hq : q ≠ p) (hp : p ≠ []) (w : Wr) : Kp p x (D.write q w) := by
  unfold Dk.write
  obtain ⟨h1, h2⟩ := h.make hq hp
  exact h1.put h2 _
theorem Kp.lay {p q : Pth} {x : List UInt8} {D : Dk} (h : Kp p x D) (hq : q ≠ p) (hp : p ≠ []) (w : Wr) : Kp p x (D.lay q w).2 := by
  obtain ⟨h1, h2⟩ := h.begin
  rw [lay_go h1]
  simp only; split
  · exact h2.write hq hp w
  · exact h2
theorem Kp.sync {p q : Pth} {x : List UInt8} {D : Dk} (h : Kp p x D) (hq : q ≠ p) : Kp p x (D.sync q).2 := by
  obtain ⟨h1, h2⟩ := h.begin
  rw [sync_go h1]
  simp only; split
  · rename_i h3
    obtain ⟨_, i, hi⟩ := look_0 h3
    rw [hi]
    exact h2.put (fun e => h2.now.2 q hq (by rw [hi]; exact congrArg some e)) _
  · exact h2
theorem Kp.rename {p q r : Pth} {x : List UInt8} {D : Dk} (h : Kp p x D) (hq : q ≠ p) (hr : r ≠ p) : Kp p x (D.rename q r).2 := by
  obtain ⟨h1, h2⟩ := h.begin
  rw [ren_go h1]
  simp only; split
  · rename_i h3
    have h4 : D.begin.2.look q = 0 := by
      have := h3.1; unfold Dk.renE at this
      split at this
      · cases this
      · split at this
        · cases this
        · exact this
    obtain ⟨_, i, hi⟩ := look_0 h4
    refine h2.change _ hq (fun j hj => ⟨?_, hr⟩)
    rw [hi] at hj
    exact fun e => h2.now.2 q hq (by rw [hi]; have := Option.some.inj hj; simp at this; rw [this, e])
  · exact h2
theorem Kp.syncDir {p : Pth} {x : List UInt8} {D : Dk} (h : Kp p x D) (hA : Asc D.now) (n : Pth) : Kp p x (D.syncDir n).2 := by
  obtain ⟨h1, h2⟩ := h.begin
  have e := (begin_same D).2.2.2.1
  rw [sd_go h1]
  simp only; split
  · refine ⟨h2.dead, h2.left, h2.now, ?_, h2.f, h2.fl, fun c hc => h2.lg c (List.mem_filter.1 hc).1⟩
    have hA2 : Asc D.begin.2.now := by rw [e]; exact hA
    refine ⟨?_, fun q hq => ?_⟩
    · show mget (merge D.begin.2.now D.begin.2.stays n) p = some 0
      rw [mget_merge hA2]; split
      · exact h2.now.1
      · exact h2.st.1
    · show mget (merge D.begin.2.now D.begin.2.stays n) q ≠ some 0
      rw [mget_merge hA2]; split
      · exact h2.now.2 q hq
      · exact h2.st.2 q hq
  · exact h2
theorem crashD_keep {p : Pth} {picks : List Int} {D : Dk} (hU : ∀ c ∈ D.log, c.g ≠ p ∧ ∀ i, c.f = some i → i ≠ 0 ∧ c.n ≠ p) : ∀ (L : List Pth) (s : Nms × Nat), OnlyK p s.1 → OnlyK p (L.foldl (crashD picks D) s).1
  | [], s, h => h
  | y :: L, s, h => by
    rw [List.foldl_cons]
    refine crashD_keep hU L _ ?_
    rw [crashD_st]; exact h.apl (fun c hc => hU c (chgs_mem (List.mem_of_mem_take hc)).1)
theorem crashF_keep {x : List UInt8} (picks : List Int) : ∀ (L : Nms) (s : List Fdt × Nat), fget s.1 0 = ⟨x, x, []⟩ → fget (L.foldl (crashF picks) s).1 0 = ⟨x, x, []⟩
  | [], s, h => h
  | y :: L, s, h => by
    rw [List.foldl_cons]
    refine crashF_keep picks L _ ?_
    unfold crashF
    simp only
    split
    · exact h
    · rename_i hw
      have hy : y.2 ≠ 0 := fun e => hw (by rw [e, h])
      show (s.1.set y.2 _).getD 0 _ = _
      rw [List.getD_eq_getElem?_getD, List.getElem?_set_ne hy, ← List.getD_eq_getElem?_getD]; exact h
theorem Kp.crash {p : Pth} {x : List UInt8} {D : Dk} (h : Kp p x D) (picks : List Int) : Kp p x (D.crash picks) := by
  have c1 := crashD_keep (picks := picks) h.lg D.dirty (D.stays, 0) h.st
  exact ⟨rfl, rfl, c1, c1, crashF_keep picks _ _ h.f, by show 1 ≤ (D.crashA picks).1.length; unfold Dk.crashA; rw [crashF_len]; exact h.fl, nofun⟩
theorem Kp.read {p : Pth} {x : List UInt8} {D : Dk} (h : Kp p x D) (hn : nameB p = true) : D.readE p = 0 ∧ D.readL p = x := read_of h.dead hn h.now.1 (by rw [h.f])
abbrev pK : Pth := [100, 47, 107, 101, 101, 112]
theorem Kp.start {x : List UInt8} (h : x.length ≤ 3000) : Kp pK x (startD pK [100] x) := by
  rw [(start_all (p := pK) (d := [100]) (by decide) (by decide) (by decide) h).2.2.2]
  refine ⟨rfl, rfl, ⟨rfl, fun q hq => ?_⟩, ⟨rfl, fun q hq => ?_⟩, rfl, Nat.le_refl _, nofun⟩
  · simp [mget, hq]
  · simp [mget, hq]
end Go.Proofs.YtdliddjkacbggaaGreatDoor.SimY
/-
  The disk: from the operation on at which it was to stop it is dead (plain data).
-/
namespace Go.Proofs.YtdliddjkacbggaaGreatDoor.SimYA
open Go.Proofs.YtdliddjkacbggaaGreatDoor.E Go.RowKit Go.Proofs.YtdliddjkacbggaaGreatDoor.SimA Go.Proofs.YtdliddjkacbggaaGreatDoor.SimB Go.Proofs.YtdliddjkacbggaaGreatDoor.SimC Go.Proofs.YtdliddjkacbggaaGreatDoor.SimD Go.Proofs.YtdliddjkacbggaaGreatDoor.SimE Go.Proofs.YtdliddjkacbggaaGreatDoor.SimF Go.Proofs.YtdliddjkacbggaaGreatDoor.SimG Go.Proofs.YtdliddjkacbggaaGreatDoor.SimH Go.Proofs.YtdliddjkacbggaaGreatDoor.SimI Go.Proofs.YtdliddjkacbggaaGreatDoor.SimJ Go.Proofs.YtdliddjkacbggaaGreatDoor.SimK Go.Proofs.YtdliddjkacbggaaGreatDoor.SimL Go.Proofs.YtdliddjkacbggaaGreatDoor.SimM Go.Proofs.YtdliddjkacbggaaGreatDoor.SimN Go.Proofs.YtdliddjkacbggaaGreatDoor.SimP Go.Proofs.YtdliddjkacbggaaGreatDoor.SimQ Go.Proofs.YtdliddjkacbggaaGreatDoor.SimR Go.Proofs.YtdliddjkacbggaaGreatDoor.SimS Go.Proofs.YtdliddjkacbggaaGreatDoor.SimU Go.Proofs.YtdliddjkacbggaaGreatDoor.SimY
set_option maxRecDepth 20000
set_option linter.unusedVariables false
set_option linter.unusedSimpArgs false
set_option linter.unusedSectionVars false

structure St (n m : Nat) (D : Dk) : Prop where
  al : m < n → D.dead = false ∧ D.left = n - m ∧ D.ops = m
  de : n ≤ m → D.dead = true ∧ D.ops = n - 1
def Pns (D : Dk) : Prop := Inn paths D.now ∧ Inn paths D.stays ∧ ∀ c ∈ D.log, ∀ i, c.f = some i → c.n ∈ paths
def Sm (D E : Dk) : Prop := E.cap = D.cap ∧ E.most = D.most ∧ E.ops = D.ops ∧ E.left = D.left ∧ E.dead = D.dead
theorem Sm.rfl {D : Dk} : Sm D D := ⟨Eq.refl _, Eq.refl _, Eq.refl _, Eq.refl _, Eq.refl _⟩
structure Dd (n m : Nat) (D : Dk) : Prop where
  st : St n m D
  cap : D.cap = 65536
  most : D.most = 1024
  bs : Bs (504 * min m n) D
  pi : Pns D
theorem begin_alive {D : Dk} (h : D.dead = false) (h2 : D.left ≠ 1) : D.begin = (true, { D with left := D.left - 1, ops := D.ops + 1 }) := by
  unfold Dk.begin; rw [if_neg (by rw [h]; decide), if_neg h2]
theorem St.begin {n m : Nat} {D : Dk} (h : St n m D) (hn : 1 ≤ n) : St n (m + 1) D.begin.2 ∧ (D.begin.1 = true ↔ m + 1 < n) := by
  by_cases hm : m < n
  · obtain ⟨h1, h2, h3⟩ := h.al hm
    by_cases hl : D.left = 1
    · rw [last_ops h1 hl]
      refine ⟨⟨fun h4 => by omega, fun h4 => ⟨rfl, by show D.ops = n - 1; omega⟩⟩, by simp; omega⟩
    · rw [begin_alive h1 hl]
      refine ⟨⟨fun h4 => ⟨h1, by show D.left - 1 = n - (m + 1); omega, by show D.ops + 1 = m + 1; omega⟩, fun h4 => by omega⟩, by simp; omega⟩
  · obtain ⟨h1, h2⟩ := h.de (by omega)
    rw [dead_ops h1]
    exact ⟨⟨fun h4 => by omega, fun h4 => ⟨h1, h2⟩⟩, by simp; omega⟩
theorem bs_dead {k : Nat} {D : Dk} (h : Bs k D) (hb : D.begin.1 = false) : Bs k D.begin.2 := by
  unfold Dk.begin at hb ⊢
  split
  · exact h
  · rename_i h1
    split
    · exact ⟨h.an, h.ast, h.lg, h.op, h.fl, h.f, h.un, h.ld⟩
    · rename_i h2; rw [if_neg h1, if_neg h2] at hb; cases hb
theorem Dd.step {n m r : Nat} {D D2 : Dk} (h : Dd n m D) (hn : 1 ≤ n) (hs : Sm D.begin.2 D2 ∧ (r = 11 ↔ D.begin.1 = false) ∧ (D.begin.1 = false → D2 = D.begin.2)) (hB : Bs (504 * m + 504) D2) (hp : Pns D2) : Dd n (m + 1) D2 ∧ (r = 11 ↔ n ≤ m + 1) := by
  obtain ⟨⟨e1, e2, e3, e4, e5⟩, hr, hd⟩ := hs
  obtain ⟨s1, s2⟩ := h.st.begin hn
  obtain ⟨b1, b2, _⟩ := begin_same D
  refine ⟨⟨⟨fun h4 => ?_, fun h4 => ?_⟩, by rw [e1, b1]; exact h.cap, by rw [e2, b2]; exact h.most, ?_, hp⟩, ?_⟩
  · obtain ⟨q1, q2, q3⟩ := s1.al h4; exact ⟨by rw [e5]; exact q1, by rw [e4]; exact q2, by rw [e3]; exact q3⟩
  · obtain ⟨q1, q2⟩ := s1.de h4; exact ⟨by rw [e5]; exact q1, by rw [e3]; exact q2⟩
  · cases hb : D.begin.1 with
    | true => have := s2.1 hb; exact hB.mono (by omega)
    | false => rw [hd hb]; exact (bs_dead h.bs hb).mono (by omega)
  · rw [hr]
    cases hb : D.begin.1 with
    | true => have := s2.1 hb; simp; omega
    | false => simp; exact Classical.byContradiction (fun h5 => by have := s2.2 (by omega); rw [hb] at this; cases this)
theorem pns_begin {D : Dk} (h : Pns D) : Pns D.begin.2 := by
  obtain ⟨_, _, _, e4, e5, e6, _⟩ := begin_same D
  unfold Pns; rw [e4, e5, e6]; exact h
theorem pns_change {D : Dk} (h : Pns D) {c : Chg} (hc : ∀ i, c.f = some i → c.n ∈ paths) : Pns (D.change c) :=
  ⟨inn_ap h.1 hc, h.2.1, fun d hd i hi => by
    rcases List.mem_append.1 hd with hd | hd
    · exact h.2.2 d hd i hi
    · rw [List.mem_singleton.1 hd] at hi ⊢; exact hc i hi⟩
theorem sm_write (D : Dk) (p : Pth) (w : Wr) : Sm D (D.write p w) := by
  unfold Dk.write Dk.make
  cases mget D.now p with
  | some i => exact Sm.rfl
  | none => exact Sm.rfl
theorem pns_write {D : Dk} (h : Pns D) {p : Pth} (hp : p ∈ paths) (w : Wr) : Pns (D.write p w) := by
  unfold Dk.write Dk.make
  cases mget D.now p with
  | some i => exact h
  | none =>
    have h1 : Pns ({ D with fs := D.fs ++ [⟨[], [], []⟩] } : Dk) := h
    exact pns_change (c := ⟨[], p, some D.fs.length⟩) h1 (fun _ _ => hp)
theorem layE_ne (D : Dk) (p : Pth) (w : Wr) : D.layE p w ≠ 11 := by
  unfold Dk.layE; split; · decide
  split; · decide
  split <;> decide
theorem look_ne (D : Dk) (p : Pth) : D.look p ≠ 11 := by
  rcases look_or D p with e | e | e <;> rw [e] <;> decide
theorem dirE_ne (p : Pth) : dirE p ≠ 11 := by unfold dirE; split <;> decide
theorem step_lay (D : Dk) (p : Pth) (w : Wr) : Sm D.begin.2 (D.lay p w).2 ∧ ((D.lay p w).1 = 11 ↔ D.begin.1 = false) ∧ (D.begin.1 = false → (D.lay p w).2 = D.begin.2) := by
  cases hb : D.begin.1 with
  | false => rw [lay_dead hb]; exact ⟨Sm.rfl, by simp, fun _ => rfl⟩
  | true =>
    rw [lay_go hb]
    refine ⟨?_, by simp [layE_ne], nofun⟩
    simp only; split
    · exact sm_write _ _ _
    · exact Sm.rfl
theorem step_sync (D : Dk) (p : Pth) : Sm D.begin.2 (D.sync p).2 ∧ ((D.sync p).1 = 11 ↔ D.begin.1 = false) ∧ (D.begin.1 = false → (D.sync p).2 = D.begin.2) := by
  cases hb : D.begin.1 with
  | false => rw [sync_dead hb]; exact ⟨Sm.rfl, by simp, fun _ => rfl⟩
  | true =>
    rw [sync_go hb]
    refine ⟨?_, by simp [look_ne], nofun⟩
    simp only; split
    · exact Sm.rfl
    · exact Sm.rfl
theorem step_ren (D : Dk) (p q : Pth) : Sm D.begin.2 (D.rename p q).2 ∧ ((D.rename p q).1 = 11 ↔ D.begin.1 = false) ∧ (D.begin.1 = false → (D.rename p q).2 = D.begin.2) := by
  cases hb : D.begin.1 with
  | false => rw [ren_dead hb]; exact ⟨Sm.rfl, by simp, fun _ => rfl⟩
  | true =>
    rw [ren_go hb]
    have h : D.begin.2.renE p q ≠ 11 := by
      unfold Dk.renE; split; · decide
      split; · decide
      exact look_ne _ _
    refine ⟨?_, by simp [h], nofun⟩
    simp only; split
    · exact Sm.rfl
    · exact Sm.rfl
theorem step_sd (D : Dk) (p : Pth) : Sm D.begin.2 (D.syncDir p).2 ∧ ((D.syncDir p).1 = 11 ↔ D.begin.1 = false) ∧ (D.begin.1 = false → (D.syncDir p).2 = D.begin.2) := by
  cases hb : D.begin.1 with
  | false => rw [sd_dead hb]; exact ⟨Sm.rfl, by simp, fun _ => rfl⟩
  | true =>
    rw [sd_go hb]
    refine ⟨?_, by simp [dirE_ne], nofun⟩
    simp only; split
    · exact Sm.rfl
    · exact Sm.rfl
theorem Dd.lay {n m : Nat} {D : Dk} (h : Dd n m D) (hn : 1 ≤ n) {p : Pth} (hp : p ∈ paths) (w : Wr) (hw : w.d.length ≤ 500) : Dd n (m + 1) (D.lay p w).2 ∧ ((D.lay p w).1 = 11 ↔ n ≤ m + 1) := by
  refine h.step hn (step_lay D p w) ((h.bs.lay p w).mono (by omega)) ?_
  cases hb : D.begin.1 with
  | false => rw [lay_dead hb]; exact pns_begin h.pi
  | true =>
    rw [lay_go hb]; simp only; split
    · exact pns_write (pns_begin h.pi) hp w
    · exact pns_begin h.pi
theorem Dd.sync {n m : Nat} {D : Dk} (h : Dd n m D) (hn : 1 ≤ n) (p : Pth) : Dd n (m + 1) (D.sync p).2 ∧ ((D.sync p).1 = 11 ↔ n ≤ m + 1) := by
  refine h.step hn (step_sync D p) ((h.bs.sync p).mono (by omega)) ?_
  cases hb : D.begin.1 with
  | false => rw [sync_dead hb]; exact pns_begin h.pi
  | true =>
    rw [sync_go hb]; simp only; split
    · exact pns_begin h.pi
    · exact pns_begin h.pi
theorem Dd.rename {n m : Nat} {D : Dk} (h : Dd n m D) (hn : 1 ≤ n) (p : Pth) {q : Pth} (hq : q ∈ paths) : Dd n (m + 1) (D.rename p q).2 ∧ ((D.rename p q).1 = 11 ↔ n ≤ m + 1) := by
  refine h.step hn (step_ren D p q) ((h.bs.rename p q).mono (by omega)) ?_
  cases hb : D.begin.1 with
  | false => rw [ren_dead hb]; exact pns_begin h.pi
  | true =>
    rw [ren_go hb]; simp only; split
    · exact pns_change (pns_begin h.pi) (fun _ _ => hq)
    · exact pns_begin h.pi
theorem Dd.syncDir {n m : Nat} {D : Dk} (h : Dd n m D) (hn : 1 ≤ n) (p : Pth) : Dd n (m + 1) (D.syncDir p).2 ∧ ((D.syncDir p).1 = 11 ↔ n ≤ m + 1) := by
  refine h.step hn (step_sd D p) ((h.bs.syncDir p).mono (by omega)) ?_
  cases hb : D.begin.1 with
  | false => rw [sd_dead hb]; exact pns_begin h.pi
  | true =>
    rw [sd_go hb]; simp only; split
    · have h1 := pns_begin h.pi
      have hA : Asc D.begin.2.now := h.bs.begin.an
      refine ⟨h1.1, fun q hq => ?_, fun c hc => h1.2.2 c (List.mem_filter.1 hc).1⟩
      have hq : (mget (merge D.begin.2.now D.begin.2.stays p) q).isSome = true := hq
      rw [mget_merge hA] at hq
      split at hq
      · exact h1.1 q hq
      · exact h1.2.1 q hq
    · exact pns_begin h.pi
theorem Dd.dd {n m : Nat} {D : Dk} (h : Dd n m D) : D.dead = true ↔ n ≤ m := by
  constructor
  · intro h1
    exact Classical.byContradiction (fun h2 => by have := (h.st.al (by omega)).1; rw [h1] at this; cases this)
  · exact fun h1 => (h.st.de h1).1
theorem Dd.read {n m : Nat} {D : Dk} (h : Dd n m D) (p : Pth) : D.readE p = 11 ↔ n ≤ m := by
  rw [← h.dd]; unfold Dk.readE
  cases hd : D.dead with
  | true => simp
  | false => simp [look_ne]
theorem Dd.list {n m : Nat} {D : Dk} (h : Dd n m D) (p : Pth) : D.listE p = 11 ↔ n ≤ m := by
  rw [← h.dd]; unfold Dk.listE
  cases hd : D.dead with
  | true => simp
  | false => simp [dirE_ne]
theorem Dd.ops {n m : Nat} {D : Dk} (h : Dd n m D) : D.ops = min m (n - 1) := by
  by_cases hm : m < n
  · have := (h.st.al hm).2.2; omega
  · have := (h.st.de (by omega)).2; omega
theorem Dd.start (n : Nat) (hn : 1 ≤ n) : Dd n 0 ((Dk.empty 65536 1024).stop n) :=
  ⟨⟨fun _ => ⟨rfl, by show n = n - 0; omega, rfl⟩, fun h => by omega⟩, rfl, rfl, ((Bs.empty 65536 1024).stop n).mono (by omega), nofun, nofun, nofun⟩
theorem Dd.fin {n m : Nat} {D : Dk} (h : Dd n m D) (hn : n ≤ 9) (picks : List Int) : (D.crash picks).readE [122, 122] = 2 ∧ ((D.crash picks).lay [122, 122] ⟨false, []⟩).1 = 0 := by
  obtain ⟨c1, c2⟩ := crashD_in (picks := picks) h.pi.2.2 D.dirty (D.stays, 0) h.pi.2.1 h.bs.ast
  have hB := h.bs.crash picks
  have hI : Inn paths (D.crash picks).now := c1
  have hnm : nameB [122, 122] = true := by decide
  have hno : mget (D.crash picks).now [122, 122] = none := by
    cases hq : mget (D.crash picks).now [122, 122] with
    | none => rfl
    | some i => exact absurd (hI _ (by rw [hq]; rfl)) (by decide)
  have hl : (D.crash picks).now.length ≤ 5 := inn_len hB.an hI
  have hu := usedL_le (fun i => (hB.f i).1) (D.crash picks).now
  have hu2 : (D.crash picks).now.length * (504 * min m n) ≤ 5 * 4536 := Nat.mul_le_mul hl (by omega)
  have hcap : (D.crash picks).cap = 65536 := h.cap
  refine ⟨?_, ?_⟩
  · unfold Dk.readE Dk.look; rw [hnm, hno]; simp [Dk.crash]
  · have hw : ({ D.crash picks with left := (D.crash picks).left - 1, ops := (D.crash picks).ops + 1 } : Dk).wasL [122, 122] = [] := was_none hno
    rw [lay_b (begin_go rfl rfl) hnm (by rw [hw]; simp [Wr.on]) (by
      rw [hw]
      show usedL (D.crash picks).fs (D.crash picks).now + _ ≤ (D.crash picks).cap + _
      rw [hcap]; simp [Wr.on]; omega)]

end Go.Proofs.YtdliddjkacbggaaGreatDoor.SimYA
/-
  The disk: how full it is (plain data).
-/
namespace Go.Proofs.YtdliddjkacbggaaGreatDoor.SimYE
open Go.Proofs.YtdliddjkacbggaaGreatDoor.E Go.RowKit Go.Proofs.YtdliddjkacbggaaGreatDoor.SimA Go.Proofs.YtdliddjkacbggaaGreatDoor.SimB Go.Proofs.YtdliddjkacbggaaGreatDoor.SimC Go.Proofs.YtdliddjkacbggaaGreatDoor.SimD Go.Proofs.YtdliddjkacbggaaGreatDoor.SimE Go.Proofs.YtdliddjkacbggaaGreatDoor.SimF Go.Proofs.YtdliddjkacbggaaGreatDoor.SimG Go.Proofs.YtdliddjkacbggaaGreatDoor.SimH Go.Proofs.YtdliddjkacbggaaGreatDoor.SimI Go.Proofs.YtdliddjkacbggaaGreatDoor.SimJ Go.Proofs.YtdliddjkacbggaaGreatDoor.SimK Go.Proofs.YtdliddjkacbggaaGreatDoor.SimL Go.Proofs.YtdliddjkacbggaaGreatDoor.SimM Go.Proofs.YtdliddjkacbggaaGreatDoor.SimN Go.Proofs.YtdliddjkacbggaaGreatDoor.SimP Go.Proofs.YtdliddjkacbggaaGreatDoor.SimQ Go.Proofs.YtdliddjkacbggaaGreatDoor.SimR Go.Proofs.YtdliddjkacbggaaGreatDoor.SimS Go.Proofs.YtdliddjkacbggaaGreatDoor.SimU Go.Proofs.YtdliddjkacbggaaGreatDoor.SimY Go.Proofs.YtdliddjkacbggaaGreatDoor.SimYA
set_option maxRecDepth 20000
set_option linter.unusedVariables false
set_option linter.unusedSimpArgs false
set_option linter.unusedSectionVars false

/-- each name has a file of its own -/
def Own1 (D : Dk) : Prop := (∀ p i, mget D.now p = some i → i < D.fs.length) ∧ ∀ p q i, mget D.now p = some i → mget D.now q = some i → p = q
theorem fget_set {fs : List Fdt} {i j : Nat} {x : Fdt} : fget (fs.set i x) j = if j = i ∧ i < fs.length then x else fget fs j := by
  unfold fget
  by_cases hi : i < fs.length
  · by_cases e : j = i
    · rw [if_pos ⟨e, hi⟩, e, List.getD_eq_getElem?_getD, List.getElem?_set_self hi]; rfl
    · rw [if_neg (fun h => e h.1), List.getD_eq_getElem?_getD, List.getElem?_set_ne (Ne.symm e), ← List.getD_eq_getElem?_getD]
  · rw [if_neg (fun h => hi h.2), List.set_eq_of_length_le (by omega)]
theorem fget_app {fs : List Fdt} {j : Nat} (h : j < fs.length) (x : Fdt) : fget (fs ++ [x]) j = fget fs j := by
  unfold fget; rw [List.getD_eq_getElem?_getD, List.getElem?_append_left h, ← List.getD_eq_getElem?_getD]
theorem wasL_eq (D : Dk) (p : Pth) : D.wasL p = match mget D.now p with | some i => (fget D.fs i).now | none => [] := rfl
theorem Own1.write {D : Dk} (h : Own1 D) (p : Pth) (w : Wr) : Own1 (D.write p w) ∧ ∀ q, (D.write p w).wasL q = if q = p then w.on (D.wasL p) w.d.length else D.wasL q := by
  cases hm : mget D.now p with
  | some i =>
    have hi := h.1 p i hm
    have e : D.write p w = D.putF i ⟨w.on (fget D.fs i).now w.d.length, (fget D.fs i).stays, (fget D.fs i).w ++ [w]⟩ := by unfold Dk.write Dk.make; rw [hm]
    rw [e]
    refine ⟨⟨fun q j hq => by rw [fl_put]; exact h.1 q j hq, h.2⟩, fun q => ?_⟩
    rw [wasL_eq, wasL_eq D q, was_some hm]
    show (match mget D.now q with | some j => (fget (D.fs.set i _) j).now | none => []) = _
    cases hq : mget D.now q with
    | none => rw [if_neg (fun e => by rw [e, hm] at hq; cases hq)]
    | some j =>
      simp only
      rw [fget_set]
      by_cases e : q = p
      · rw [e, hm] at hq
        rw [if_pos e, if_pos ⟨(Option.some.inj hq).symm, hi⟩]
      · rw [if_neg e, if_neg (fun h2 => e (h.2 q p i (by rw [hq, h2.1]) hm))]
  | none =>
    have e : D.write p w = (mk1 D p).putF D.fs.length ⟨w.on [] w.d.length, [], [w]⟩ := by
      unfold Dk.write Dk.make; rw [hm]
      show (mk1 D p).putF D.fs.length ⟨w.on (fget (mk1 D p).fs D.fs.length).now w.d.length, (fget (mk1 D p).fs D.fs.length).stays, (fget (mk1 D p).fs D.fs.length).w ++ [w]⟩ = _
      rw [mk1_get]; rfl
    have hn : (mk1 D p).now = nput D.now p D.fs.length := by simp [mk1, Dk.change, Chg.ap]
    have hfs : (mk1 D p).fs = D.fs ++ [⟨[], [], []⟩] := rfl
    rw [e]
    refine ⟨⟨fun q j hq => ?_, fun q r j hq hr => ?_⟩, fun q => ?_⟩
    · rw [fl_put, hfs]
      have hq : mget (mk1 D p).now q = some j := hq
      rw [hn, mget_nput] at hq
      simp only [List.length_append, List.length_cons, List.length_nil]
      split at hq
      · have := Option.some.inj hq; omega
      · have := h.1 q j hq; omega
    · have hq : mget (mk1 D p).now q = some j := hq
      have hr : mget (mk1 D p).now r = some j := hr
      rw [hn, mget_nput] at hq hr
      split at hq
      · rename_i e1
        split at hr
        · rename_i e2; rw [e1, e2]
        · have h3 := Option.some.inj hq; have := h.1 r j hr; omega
      · split at hr
        · have h3 := Option.some.inj hr; have := h.1 q j hq; omega
        · exact h.2 q r j hq hr
    · rw [wasL_eq, wasL_eq D q, was_none hm]
      show (match mget (mk1 D p).now q with | some j => (fget ((mk1 D p).fs.set D.fs.length _) j).now | none => []) = _
      rw [hn, mget_nput, hfs]
      by_cases e1 : q = p
      · rw [if_pos e1, if_pos e1]; simp only; rw [fget_set, if_pos ⟨rfl, by simp⟩]
      · rw [if_neg e1, if_neg e1]
        cases hq : mget D.now q with
        | none => rfl
        | some j =>
          have hj := h.1 q j hq
          simp only
          rw [fget_set, if_neg (fun h2 => by omega), fget_app hj]

end Go.Proofs.YtdliddjkacbggaaGreatDoor.SimYE
/-
  A journal on a disk that goes on: what its steps come to (plain data).
-/
namespace Go.Proofs.YtdliddjkacbggaaGreatDoor.WalH
open Go.Proofs.YtdliddjkacbggaaGreatDoor.E Go.RowKit Go.Proofs.YtdliddjkacbggaaGreatDoor.SimA Go.Proofs.YtdliddjkacbggaaGreatDoor.SimB Go.Proofs.YtdliddjkacbggaaGreatDoor.SimC Go.Proofs.YtdliddjkacbggaaGreatDoor.SimD Go.Proofs.YtdliddjkacbggaaGreatDoor.SimE Go.Proofs.YtdliddjkacbggaaGreatDoor.SimF Go.Proofs.YtdliddjkacbggaaGreatDoor.SimG Go.Proofs.YtdliddjkacbggaaGreatDoor.SimH Go.Proofs.YtdliddjkacbggaaGreatDoor.SimI Go.Proofs.YtdliddjkacbggaaGreatDoor.SimQ Go.Proofs.YtdliddjkacbggaaGreatDoor.SimR Go.Proofs.YtdliddjkacbggaaGreatDoor.SimS Go.Proofs.YtdliddjkacbggaaGreatDoor.SimU Go.Proofs.YtdliddjkacbggaaGreatDoor.SimY Go.Proofs.YtdliddjkacbggaaGreatDoor.SimYA Go.Proofs.YtdliddjkacbggaaGreatDoor.SimYE Go.Proofs.YtdliddjkacbggaaGreatDoor.WalA Go.Proofs.YtdliddjkacbggaaGreatDoor.WalB Go.Proofs.YtdliddjkacbggaaGreatDoor.WalC Go.Proofs.YtdliddjkacbggaaGreatDoor.WalD Go.Proofs.YtdliddjkacbggaaGreatDoor.WalE Go.Proofs.YtdliddjkacbggaaGreatDoor.WalF Go.Proofs.YtdliddjkacbggaaGreatDoor.WalG
set_option maxRecDepth 20000
set_option linter.unusedVariables false
set_option linter.unusedSimpArgs false
set_option linter.unusedSectionVars false

theorem tw_append {a b : List UInt8} {f : UInt8 → Bool} (h : ∀ x ∈ a, f x = true) : (a ++ b).takeWhile f = a ++ b.takeWhile f := by
  induction a with
  | nil => rfl
  | cons x a ih => rw [List.cons_append, List.takeWhile_cons, if_pos (h x List.mem_cons_self), ih (fun y hy => h y (List.mem_cons_of_mem _ hy)), List.cons_append]
theorem headP_new (p : Pth) : headP (newP p) = headP p := by
  unfold headP newP
  have h : ((p ++ [46, 110, 101, 119]).reverse.takeWhile (fun c => decide (c ≠ 47))).length = 4 + (p.reverse.takeWhile (fun c => decide (c ≠ 47))).length := by
    rw [List.reverse_append, tw_append (by decide), List.length_append]; rfl
  rw [h, List.length_append, List.length_cons, List.length_cons, List.length_cons, List.length_cons, List.length_nil]
  rw [List.take_append_of_le_length (by omega)]
  congr 1; omega
theorem dirP_new {p : Pth} (h : nameB p = true) (h2 : nameB (newP p) = true) : dirP (newP p) = dirP p := by unfold dirP; rw [if_pos h, if_pos h2, headP_new]
theorem blt_new (p : Pth) : blt p (newP p) := by
  unfold blt newP
  induction p with
  | nil => decide
  | cons x p ih => simp only [List.cons_append, Op.bytesLess]; simpa using ih
theorem new_ne (p : Pth) : newP p ≠ p := fun e => by have := congrArg List.length e; rw [newP_len] at this; omega
theorem new_nn (p : Pth) : ¬ newP p = [] := by simp [newP]
structure One (cap most : Nat) (p : Pth) (x : List UInt8) (D : Dk) : Prop where
  dead : D.dead = false
  left : D.left = 0
  cap : D.cap = cap
  most : D.most = most
  nw : ∃ i, D.now = [(p, i)] ∧ i < D.fs.length ∧ (fget D.fs i).now = x
section
variable {cap most : Nat} {p : Pth} {x : List UInt8} {D : Dk}
theorem One.used (h : One cap most p x D) : D.used = x.length := by
  obtain ⟨i, h1, _, h2⟩ := h.nw
  unfold Dk.used usedL; rw [h1]; simp [h2]
theorem One.was (h : One cap most p x D) : D.wasL p = x := by
  obtain ⟨i, h1, _, h2⟩ := h.nw
  unfold Dk.wasL; rw [h1]; simp [mget, h2]
theorem One.read (h : One cap most p x D) (hn : nameB p = true) : D.readE p = 0 ∧ D.readL p = x := by
  obtain ⟨i, h1, _, h2⟩ := h.nw
  exact read_of h.dead hn (by rw [h1]; simp [mget]) h2
theorem One.begin (h : One cap most p x D) : D.begin = (true, D.begin.2) ∧ One cap most p x D.begin.2 := by
  have e := begin_go h.dead h.left
  rw [e]
  exact ⟨rfl, h.dead, by show D.left - 1 = 0; rw [h.left], h.cap, h.most, h.nw⟩
theorem One.lay (h : One cap most p x D) (hn : nameB p = true) (w : Wr) :
    ((D.lay p w).1 = 5 ∧ most < (w.on x w.d.length).length ∧ One cap most p x (D.lay p w).2) ∨ ((D.lay p w).1 = 12 ∧ cap < (w.on x w.d.length).length ∧ One cap most p x (D.lay p w).2) ∨
    ((D.lay p w).1 = 0 ∧ (w.on x w.d.length).length ≤ cap ∧ One cap most p (w.on x w.d.length) (D.lay p w).2) := by
  obtain ⟨hb, h1⟩ := h.begin
  rw [lay_go (by rw [hb])]
  by_cases c1 : most < (w.on x w.d.length).length
  · rw [layE_5 hn (by rw [h1.was, h1.most]; exact c1)]
    exact .inl ⟨rfl, c1, h1⟩
  by_cases c2 : cap < (w.on x w.d.length).length
  · rw [layE_12 hn (by rw [h1.was, h1.most]; exact c1) (by rw [h1.was, h1.cap, h1.used]; omega)]
    exact .inr (.inl ⟨rfl, c2, h1⟩)
  rw [layE_0 hn (by rw [h1.was, h1.most]; exact c1) (by rw [h1.was, h1.cap, h1.used]; omega)]
  refine .inr (.inr ⟨rfl, by omega, ?_⟩)
  simp only [if_true]
  obtain ⟨s1, s2, s3, s4, s5⟩ := sm_write D.begin.2 p w
  obtain ⟨i, e1, e2, e3⟩ := h1.nw
  have hm : mget D.begin.2.now p = some i := by rw [e1]; simp [mget]
  refine ⟨by rw [s5]; exact h1.dead, by rw [s4]; exact h1.left, by rw [s1]; exact h1.cap, by rw [s2]; exact h1.most, i, ?_⟩
  unfold Dk.write Dk.make
  rw [hm]
  refine ⟨e1, by show i < (D.begin.2.fs.set i _).length; rw [List.length_set]; exact e2, ?_⟩
  show (fget (D.begin.2.fs.set i _) i).now = _
  rw [fget_set, if_pos ⟨rfl, e2⟩, e3]
theorem One.sync (h : One cap most p x D) (hn : nameB p = true) : (D.sync p).1 = 0 ∧ One cap most p x (D.sync p).2 := by
  obtain ⟨hb, h1⟩ := h.begin
  obtain ⟨i, e1, e2, e3⟩ := h1.nw
  have hm : mget D.begin.2.now p = some i := by rw [e1]; simp [mget]
  have hl : D.begin.2.look p = 0 := by unfold Dk.look; rw [if_pos hn, hm]; rfl
  rw [sync_go (by rw [hb]), hl]
  refine ⟨rfl, ?_⟩
  simp only [if_true]
  rw [hm]
  refine ⟨h1.dead, h1.left, h1.cap, h1.most, i, e1, by show i < (D.begin.2.fs.set i _).length; rw [List.length_set]; exact e2, ?_⟩
  show (fget (D.begin.2.fs.set i _) i).now = _
  rw [fget_set, if_pos ⟨rfl, e2⟩]; exact e3
/-- a new journal beside the elder one, or beside none -/
structure Two (cap most : Nat) (p : Pth) (x : List UInt8) (D : Dk) : Prop where
  dead : D.dead = false
  left : D.left = 0
  cap : D.cap = cap
  most : D.most = most
  nw : ∃ k, mget D.now (newP p) = some k ∧ k < D.fs.length ∧ (fget D.fs k).now = x ∧ (Chg.ap ⟨newP p, p, some k⟩ D.now) = [(p, k)]
theorem Two.begin (h : Two cap most p x D) : D.begin = (true, D.begin.2) ∧ Two cap most p x D.begin.2 := by
  have e := begin_go h.dead h.left
  rw [e]
  exact ⟨rfl, h.dead, by show D.left - 1 = 0; rw [h.left], h.cap, h.most, h.nw⟩
theorem Two.sync (h : Two cap most p x D) (hn : nameB (newP p) = true) : (D.sync (newP p)).1 = 0 ∧ Two cap most p x (D.sync (newP p)).2 := by
  obtain ⟨hb, h1⟩ := h.begin
  obtain ⟨k, e1, e2, e3, e4⟩ := h1.nw
  have hl : D.begin.2.look (newP p) = 0 := by unfold Dk.look; rw [if_pos hn, e1]; rfl
  rw [sync_go (by rw [hb]), hl]
  refine ⟨rfl, ?_⟩
  simp only [if_true]
  rw [e1]
  refine ⟨h1.dead, h1.left, h1.cap, h1.most, k, e1, by show k < (D.begin.2.fs.set k _).length; rw [List.length_set]; exact e2, ?_, e4⟩
  show (fget (D.begin.2.fs.set k _) k).now = _
  rw [fget_set, if_pos ⟨rfl, e2⟩]; exact e3
theorem Two.rename (h : Two cap most p x D) (n1 : nameB p = true) (n2 : nameB (newP p) = true) : (D.rename (newP p) p).1 = 0 ∧ One cap most p x (D.rename (newP p) p).2 := by
  obtain ⟨hb, h1⟩ := h.begin
  obtain ⟨k, e1, e2, e3, e4⟩ := h1.nw
  have hl : D.begin.2.renE (newP p) p = 0 := by rw [renE_l n2 n1 (dirP_new n1 n2)]; unfold Dk.look; rw [if_pos n2, e1]; rfl
  rw [ren_go (by rw [hb]), hl]
  refine ⟨rfl, ?_⟩
  rw [if_pos ⟨rfl, new_ne p⟩, e1]
  exact ⟨h1.dead, h1.left, h1.cap, h1.most, k, e4, e2, e3⟩
theorem One.syncDir (h : One cap most p x D) {d : Pth} (hd : dirE d = 0) : (D.syncDir d).1 = 0 ∧ One cap most p x (D.syncDir d).2 := by
  obtain ⟨hb, h1⟩ := h.begin
  rw [sd_go (by rw [hb]), hd]
  exact ⟨rfl, h1.dead, h1.left, h1.cap, h1.most, h1.nw⟩
theorem fresh_run {D1 : Dk} {l : List Rec} (h : D.lay (newP p) ⟨false, encW l⟩ = (0, D1)) (h1 : Two cap most p (encW l) D1) (n1 : nameB p = true) (n2 : nameB (newP p) = true) (hd : dirE (dirP p) = 0) : (freshD D p l).1 = 0 ∧ One cap most p (encW l) (freshD D p l).2 := by
  obtain ⟨a1, a2⟩ := h1.sync n2
  obtain ⟨b1, b2⟩ := a2.rename n1 n2
  obtain ⟨c1, c2⟩ := b2.syncDir hd
  unfold freshD frS
  simp only [runD, h, if_true, a1, b1, c1]
  exact ⟨trivial, c2⟩
theorem fresh_bad {l : List Rec} (h : (D.lay (newP p) ⟨false, encW l⟩).1 ≠ 0) : freshD D p l = D.lay (newP p) ⟨false, encW l⟩ := by
  unfold freshD frS runD; rw [if_neg h]
theorem write_two {q : Pth} {k : Nat} {w : Wr} (hm : mget D.now q = none) : D.write q w = ({ D with fs := (D.fs ++ [(⟨[], [], []⟩ : Fdt)]).set D.fs.length ⟨w.on [] w.d.length, [], [w]⟩, now := nput D.now q D.fs.length, log := D.log ++ [⟨[], q, some D.fs.length⟩] } : Dk) := by
  unfold Dk.write Dk.make
  rw [hm]
  simp only [Dk.change, Dk.putF, Chg.ap, if_true]
  rw [show fget (D.fs ++ [(⟨[], [], []⟩ : Fdt)]) D.fs.length = ⟨[], [], []⟩ by simp [fget]]
  rfl
theorem One.fresh (h : One cap most p x D) (n1 : nameB p = true) (n2 : nameB (newP p) = true) (hd : dirE (dirP p) = 0) (l : List Rec) (hm : (encW l).length ≤ most) :
    ((freshD D p l).1 = 12 ∧ cap < x.length + (encW l).length ∧ One cap most p x (freshD D p l).2) ∨ ((freshD D p l).1 = 0 ∧ x.length + (encW l).length ≤ cap ∧ One cap most p (encW l) (freshD D p l).2) := by
  obtain ⟨hb, h1⟩ := h.begin
  obtain ⟨i, e1, e2, e3⟩ := h1.nw
  have hq : mget D.begin.2.now (newP p) = none := by rw [e1]; simp [mget, new_ne]
  have hw : D.begin.2.wasL (newP p) = [] := by unfold Dk.wasL; rw [hq]
  have ho : ((⟨false, encW l⟩ : Wr).on [] (encW l).length) = encW l := on_f _ _
  have hlg := lay_go (D := D) (p := newP p) (w := ⟨false, encW l⟩) (by rw [hb])
  by_cases c2 : cap < x.length + (encW l).length
  · rw [layE_12 n2 (by rw [hw, h1.most]; simp only [ho]; omega) (by rw [hw, h1.cap, h1.used]; simp only [ho, List.length_nil]; omega)] at hlg
    have hbad : (D.lay (newP p) ⟨false, encW l⟩).1 ≠ 0 := by rw [hlg]; exact Nat.succ_ne_zero 11
    rw [fresh_bad hbad, hlg]
    exact .inl ⟨rfl, c2, h1⟩
  · rw [layE_0 n2 (by rw [hw, h1.most]; simp only [ho]; omega) (by rw [hw, h1.cap, h1.used]; simp only [ho, List.length_nil]; omega)] at hlg
    simp only [if_true] at hlg
    refine .inr ?_
    have hT : Two cap most p (encW l) (D.begin.2.write (newP p) ⟨false, encW l⟩) := by
      rw [write_two (k := 0) hq]
      refine ⟨h1.dead, h1.left, h1.cap, h1.most, D.begin.2.fs.length, ?_, ?_, ?_, ?_⟩
      · show mget (nput _ _ _) _ = _; rw [mget_nput, if_pos rfl]
      · simp
      · show (fget ((_ : List Fdt).set _ _) _).now = _
        rw [fget_set, if_pos ⟨rfl, by simp⟩]; exact ho
      · show Chg.ap _ (nput D.begin.2.now _ _) = _
        have h9 : ¬ p = newP p := fun e => new_ne p e.symm
        rw [e1]; simp [Chg.ap, nput, blt_new, mdel, new_ne, blt_irr, new_nn, h9]
    have := fresh_run hlg hT n1 n2 hd
    exact ⟨this.1, by omega, this.2⟩
theorem One.start (n1 : nameB p = true) (n2 : nameB (newP p) = true) (hd : dirE (dirP p) = 0) (hm : 8 ≤ most) (hc : 8 ≤ cap) : (openD (Dk.empty cap most) p).1 = 0 ∧ (openD (Dk.empty cap most) p).2.1 = [] ∧ One cap most p (encW []) (openD (Dk.empty cap most) p).2.2 := by
  have hr : (Dk.empty cap most).readE p = 2 := by simp [Dk.readE, Dk.empty, Dk.look, n1, mget]
  have e8 : encW [] = W8 := rfl
  have hlg : (Dk.empty cap most).lay (newP p) ⟨false, encW []⟩ = (0, Dk.write ⟨cap, most, [], [], [], [], 1, 0, false⟩ (newP p) ⟨false, encW []⟩) := by
    unfold Dk.empty
    rw [lay_a n2 (by simp only [on_f]; exact hm) (by simp only [on_f]; simp [usedL, Dk.wasL, mget]; exact hc)]
  have hT : Two cap most p (encW []) (Dk.write ⟨cap, most, [], [], [], [], 1, 0, false⟩ (newP p) ⟨false, encW []⟩) := by
    rw [write_two (k := 0) rfl]
    refine ⟨rfl, rfl, rfl, rfl, 0, ?_, ?_, ?_, ?_⟩
    · show mget (nput _ _ _) _ = _; rw [mget_nput, if_pos rfl]; rfl
    · simp
    · simp [fget, on_f]
    · simp [Chg.ap, nput, mdel, new_nn]
  have := fresh_run hlg hT n1 n2 hd
  rw [open_b n1 n2 hr]
  exact ⟨this.1, rfl, this.2⟩
theorem runD_c0 {f : Stp} {fs : List Stp} {D : Dk} (h : (f D).1 = 0) : runD (f :: fs) D = runD fs (f D).2 := by rw [runD, if_pos h]
theorem runD_c1 {f : Stp} {fs : List Stp} {D : Dk} (h : (f D).1 ≠ 0) : runD (f :: fs) D = f D := by rw [runD, if_neg h]
/-- a record more: done, or no room -/
theorem One.recd (h : One cap most p x D) (hn : nameB p = true) (n : Nat) (r : Rec) (hm : x.length + 13 + r.length ≤ most) :
    ((runD (apS p n r) D).1 = 12 ∧ (One cap most p x (runD (apS p n r) D).2 ∨ One cap most p (x ++ layW n r) (runD (apS p n r) D).2) ∧ cap < x.length + 13 + r.length) ∨ ((runD (apS p n r) D).1 = 0 ∧ One cap most p (x ++ recW n r) (runD (apS p n r) D).2) := by
  have hl := layW_len n r
  have on1 : ∀ b : List UInt8, (⟨true, [67]⟩ : Wr).on b 1 = b ++ [67] := fun b => by simp [Wr.on]
  unfold apS
  rcases h.lay hn ⟨true, layW n r⟩ with ⟨_, e, _⟩ | ⟨e1, e2, e3⟩ | ⟨e1, e2, e3⟩
  · simp only [on_t, List.length_append] at e; omega
  · simp only [on_t, List.length_append] at e2
    rw [runD_c1 (by rw [e1]; decide)]
    exact .inl ⟨e1, .inl e3, by omega⟩
  · simp only [on_t, List.length_append] at e3 e2
    obtain ⟨f1, f2⟩ := e3.sync hn
    rw [runD_c0 e1, runD_c0 f1]
    rcases f2.lay hn ⟨true, [67]⟩ with ⟨_, e, _⟩ | ⟨g1, g2, g3⟩ | ⟨g1, g2, g3⟩
    · simp only [List.length_singleton, on1, List.length_append] at e; omega
    · simp only [List.length_singleton, on1, List.length_append] at g2
      rw [runD_c1 (by rw [g1]; decide)]
      exact .inl ⟨g1, .inr g3, by omega⟩
    · simp only [List.length_singleton, on1] at g3
      obtain ⟨k1, k2⟩ := g3.sync hn
      rw [runD_c0 g1, runD_c0 k1]
      refine .inr ⟨rfl, ?_⟩
      unfold recW; rw [← List.append_assoc]; exact k2
theorem One.recd2 (h : One cap most p x D) (hn : nameB p = true) (n : Nat) (r : Rec) (hm : x.length + 13 + r.length ≤ most) :
    ((runD (apS p n r) D).1 = 12 ∧ (One cap most p x (runD (apS p n r) D).2 ∨ One cap most p (x ++ layW n r) (runD (apS p n r) D).2 ∧ (x ++ layW n r).length ≤ cap)) ∨ ((runD (apS p n r) D).1 = 0 ∧ One cap most p (x ++ recW n r) (runD (apS p n r) D).2 ∧ (x ++ recW n r).length ≤ cap) := by
  have hl := layW_len n r
  have on1 : ∀ b : List UInt8, (⟨true, [67]⟩ : Wr).on b 1 = b ++ [67] := fun b => by simp [Wr.on]
  unfold apS
  rcases h.lay hn ⟨true, layW n r⟩ with ⟨_, e, _⟩ | ⟨e1, e2, e3⟩ | ⟨e1, e2, e3⟩
  · simp only [on_t, List.length_append] at e; omega
  · simp only [on_t, List.length_append] at e2
    rw [runD_c1 (by rw [e1]; decide)]
    exact .inl ⟨e1, .inl e3⟩
  · simp only [on_t, List.length_append] at e3 e2
    obtain ⟨f1, f2⟩ := e3.sync hn
    rw [runD_c0 e1, runD_c0 f1]
    rcases f2.lay hn ⟨true, [67]⟩ with ⟨_, e, _⟩ | ⟨g1, g2, g3⟩ | ⟨g1, g2, g3⟩
    · simp only [List.length_singleton, on1, List.length_append] at e; omega
    · simp only [List.length_singleton, on1, List.length_append] at g2
      rw [runD_c1 (by rw [g1]; decide)]
      exact .inl ⟨g1, .inr ⟨g3, by rw [List.length_append]; omega⟩⟩
    · simp only [List.length_singleton, on1, List.length_append] at g3 g2
      obtain ⟨k1, k2⟩ := g3.sync hn
      rw [runD_c0 g1, runD_c0 k1]
      refine .inr ⟨rfl, ?_, by rw [List.length_append, recW_len]; omega⟩
      unfold recW; rw [← List.append_assoc]; exact k2
end

end Go.Proofs.YtdliddjkacbggaaGreatDoor.WalH
/-
  A journal: the known example, and the statements' helpers.
-/
namespace Go.Proofs.YtdliddjkacbggaaGreatDoor.WalI
open Go.Proofs.YtdliddjkacbggaaGreatDoor.E Go.RowKit Go.Proofs.YtdliddjkacbggaaGreatDoor.SimA Go.Proofs.YtdliddjkacbggaaGreatDoor.SimB Go.Proofs.YtdliddjkacbggaaGreatDoor.SimC Go.Proofs.YtdliddjkacbggaaGreatDoor.SimD Go.Proofs.YtdliddjkacbggaaGreatDoor.SimE Go.Proofs.YtdliddjkacbggaaGreatDoor.SimF Go.Proofs.YtdliddjkacbggaaGreatDoor.SimG Go.Proofs.YtdliddjkacbggaaGreatDoor.SimH Go.Proofs.YtdliddjkacbggaaGreatDoor.SimI Go.Proofs.YtdliddjkacbggaaGreatDoor.SimQ Go.Proofs.YtdliddjkacbggaaGreatDoor.SimR Go.Proofs.YtdliddjkacbggaaGreatDoor.SimS Go.Proofs.YtdliddjkacbggaaGreatDoor.SimU Go.Proofs.YtdliddjkacbggaaGreatDoor.SimY Go.Proofs.YtdliddjkacbggaaGreatDoor.SimYA Go.Proofs.YtdliddjkacbggaaGreatDoor.SimYE Go.Proofs.YtdliddjkacbggaaGreatDoor.WalA Go.Proofs.YtdliddjkacbggaaGreatDoor.WalB Go.Proofs.YtdliddjkacbggaaGreatDoor.WalC Go.Proofs.YtdliddjkacbggaaGreatDoor.WalD Go.Proofs.YtdliddjkacbggaaGreatDoor.WalE Go.Proofs.YtdliddjkacbggaaGreatDoor.WalF Go.Proofs.YtdliddjkacbggaaGreatDoor.WalG Go.Proofs.YtdliddjkacbggaaGreatDoor.WalH
set_option maxRecDepth 20000
set_option linter.unusedVariables false
set_option linter.unusedSimpArgs false
set_option linter.unusedSectionVars false
set_option maxRecDepth 100000 in
theorem inf22 : Inf Tryz.prog 22 34 1 24 := ⟨Tryz.underlying22, _, _, rfl, rfl, rfl, rfl, rfl⟩
set_option maxRecDepth 100000 in
theorem inf34 : Inf Tryz.prog 34 5 1 1 := ⟨Tryz.underlying34, _, _, rfl, rfl, rfl, rfl, rfl⟩
theorem within3_ct (a : Int) (n : Nat) (w0 : World) (H0 : Heap)
    (hn : 1 ≤ n ∧ n ≤ 4611686018427387904) (ha : -9223372036854775808 ≤ a ∧ a ≤ 9223372036854775807) :
    Ct Tryz.prog w0 15 #[.int .i64 a, .int .i64 (n : Int)] H0 (fun r H2 => r = .int .i64 (wiN a n : Int) ∧ Nw H0 H2) := by
  refine Ct.enter (args := [.int .i64 a, .int .i64 (n : Int)]) Tryz.func15 rfl rfl rfl ?_
  intro Q0 hret
  have hm0 : Nw H0 H0 := Mo.refl _ _
  refine CW.seq (fun K1 hK1 hE1 => ?_)
  refine CW.region ?_
  refine LR.v (Y.assign rfl rfl) (Wd.u rfl) rfl rfl ?_
  refine LR.nil ?_
  refine hK1 _ _ ?_
  refine CW.seq (fun K2 hK2 hE2 => ?_)
  refine CW.region ?_
  refine LR.v (Y.move rfl rfl) (Wd.u rfl) rfl rfl ?_
  refine LR.v (Y.move rfl rfl) (Wd.u rfl) rfl rfl ?_
  refine LR.v (Y.rem rfl rfl rfl (by omega)) (Wd.u rfl) rfl rfl ?_
  have ht1 := Int.tmod_lt_of_pos a (show (0 : Int) < n by omega)
  have ht2 := Int.lt_tmod_of_pos a (show (0 : Int) < n by omega)
  refine LR.v (Y.assign rfl rfl) (Wd.u rfl) rfl rfl ?_
  refine LR.nil ?_
  refine hK2 _ _ ?_
  refine CW.seq (fun K3 hK3 hE3 => ?_)
  refine CW.seq (fun K4 hK4 hE4 => ?_)
  refine CW.region ?_
  refine LR.v (Y.move rfl rfl) (Wd.u rfl) rfl rfl ?_
  refine LR.v (Y.lss rfl rfl rfl) (Wd.u rfl) rfl rfl ?_
  refine LR.nil ?_
  refine hK4 _ _ ?_
  refine CW.condp rfl (fun c10 => ?_) (fun c10 => ?_)
  ·
    refine CW.region ?_
    refine LR.v (Y.move rfl rfl) (Wd.u rfl) rfl rfl ?_
    refine LR.v (Y.move rfl rfl) (Wd.u rfl) rfl rfl ?_
    refine LR.v (Y.addi rfl rfl rfl (by omega)) (Wd.u rfl) rfl rfl ?_
    refine LR.v (Y.assign rfl rfl) (Wd.u rfl) rfl rfl ?_
    refine LR.nil ?_
    refine hK3 _ _ ?_
    refine CW.seq (fun K5 hK5 hE5 => ?_)
    refine CW.region ?_
    refine LR.v (Y.move rfl rfl) (Wd.u rfl) rfl rfl ?_
    refine LR.v (Y.assign rfl rfl) (Wd.u rfl) rfl rfl ?_
    refine LR.nil ?_
    refine hK5 _ _ ?_
    refine CW.ret (hret .ret (.inr rfl) _ _ _ (res1 rfl rfl) ?_)
    exact ⟨by rw [wiN_neg (by omega) (by omega)], hm0⟩
  ·
    refine CW.skip ?_
    refine hK3 _ _ ?_
    refine CW.seq (fun K6 hK6 hE6 => ?_)
    refine CW.region ?_
    refine LR.v (Y.move rfl rfl) (Wd.u rfl) rfl rfl ?_
    refine LR.v (Y.assign rfl rfl) (Wd.u rfl) rfl rfl ?_
    refine LR.nil ?_
    refine hK6 _ _ ?_
    refine CW.ret (hret .ret (.inr rfl) _ _ _ (res1 rfl rfl) ?_)
    exact ⟨by rw [wiN_pos (by omega) (by omega)], hm0⟩


theorem one_opens {cap most : Nat} {p : Pth} {l : List Rec} {D : Dk} (h : One cap most p (encW l) D) (n1 : nameB p = true) (n2 : nameB (newP p) = true) (hl : ∀ r ∈ l, r.length ≤ 1048576) : openD D p = (0, l, D) := by
  obtain ⟨h1, h2⟩ := h.read n1
  have e1 : parE (D.readL p) = 0 := by rw [h2]; have := parE_enc l []; rwa [List.append_nil] at this
  have e2 : parL (D.readL p) = l := by rw [h2]; exact parL_all hl
  have e3 : ¬ parS (D.readL p) < (D.readL p).length := by
    unfold parS; unfold parE at e1; split at e1
    · rename_i h8; rw [if_pos h8, e2, h2]; omega
    · cases e1
  rw [open_f n1 n2 h1 e1 e3, e2]
theorem one_app {cap most : Nat} {p : Pth} {l : List Rec} {r : Rec} {D : Dk} (h : One cap most p (encW l) D) (n1 : nameB p = true) (hm : (encW l).length + 13 + r.length ≤ most) (hc : (encW l).length + 13 + r.length ≤ cap) : (appD D p l.length false r).1 = 0 ∧ (appD D p l.length false r).2.1 = l.length + 1 ∧ (appD D p l.length false r).2.2.1 = false ∧ One cap most p (encW (l ++ [r])) (appD D p l.length false r).2.2.2 := by
  rw [app_go (pre_0 rfl)]
  rcases h.recd n1 l.length r hm with ⟨_, _, h3⟩ | ⟨h1, h2⟩
  · omega
  · simp only [h1, if_true]
    refine ⟨trivial, trivial, trivial, ?_⟩
    rw [encW_snoc]; exact h2
def fewL (l : List Rec) : List Rec := (l.take 20).filter (fun r => decide (r.length < 3000))
theorem few_len (l : List Rec) : (fewL l).length ≤ 20 := Nat.le_trans (List.length_filter_le _ _) (by rw [List.length_take]; omega)
theorem few_mem {l : List Rec} : ∀ r ∈ fewL l, r.length < 3000 := fun r h => by simpa using (List.mem_filter.1 h).2
theorem few_sum {l : List Rec} (h : ∀ r ∈ l, r.length < 3000) : (l.map (fun r => 13 + r.length)).sum ≤ l.length * 3013 := by
  induction l with
  | nil => simp
  | cons r l ih =>
    have h1 := h r List.mem_cons_self
    have h2 := ih (fun x hx => h x (List.mem_cons_of_mem _ hx))
    simp only [List.map_cons, List.sum_cons, List.length_cons]; omega
theorem few_enc (l : List Rec) : (encW (fewL l)).length ≤ 60268 ∧ (encN 0 (fewL l)).length ≤ 60260 := by
  have h1 := few_len l
  have h2 := few_sum (few_mem (l := l))
  rw [encW_len, encN_len]; omega
theorem few_snoc {l : List Rec} {i : Nat} (h : i < l.length) : (l.take (i + 1)).filter (fun r => decide (r.length < 3000)) = (l.take i).filter (fun r => decide (r.length < 3000)) ++ (if l[i].length < 3000 then [l[i]] else []) := by
  rw [List.take_succ_eq_append_getElem h, List.filter_append, List.filter_cons, List.filter_nil]
  simp

set_option maxHeartbeats 4000000 in
theorem known3_ct (mx_ : Int) (w0 : World) (H0 : Heap)
    (mx : MX mx_ H0) (bf_mx : BF (fun b => b = 0) H0.size) :
    Ct Tryz.prog w0 6 #[] H0 (fun r H2 => r = .bool true ∧ Nw H0 H2) := by
  refine Ct.enter (args := []) Tryz.func6 rfl rfl rfl ?_
  intro Q0 hret
  have hm0 : Nw H0 H0 := Mo.refl _ _
  refine CW.seq (fun K1 hK1 hE1 => ?_)
  refine CW.region ?_
  refine LR.v (Y.assign rfl rfl) (Wd.u rfl) rfl rfl ?_
  refine LR.nil ?_
  refine hK1 _ _ ?_
  refine CW.seq (fun K2 hK2 hE2 => ?_)
  refine CW.region ?_
  -- call selvage/simfs.New
  refine LR.call rfl Tryz.call8 rfl (Wd.u rfl) rfl rfl (new_ct 65536 65536 w0 _ (by decide) (by decide)) (fun v7 H7 r7 => ?_)
  obtain ⟨Q7, g7, b7, rfl, hf, hkn7, hs7⟩ := r7
  have df1 := DFL.appK (DFL.nil) (bf_mx.mono hm0.size) hkn7
  have nx2 : NxK [] H0.size Q7 := NxK.tr (NxK.refl [] _) hkn7 hm0.size
  replace mx := mx.nw hs7
  replace hm0 := hm0.tr hs7
  have hz1 := hs7.size
  have hbk_hf := hf.bk
  have hS7 := Bs.empty 65536 65536
  have hst := One.start (p := [106]) (cap := 65536) (most := 65536) (by decide) (by decide) (by decide) (by decide) (by decide)
  refine LR.v (Y.move rfl rfl) (Wd.u rfl) rfl rfl ?_
  refine LR.v (Y.extract rfl rfl rfl) (Wd.u rfl) rfl rfl ?_
  refine LR.v (Y.extract rfl rfl rfl) (Wd.u rfl) rfl rfl ?_
  refine LR.v (Y.assign rfl rfl) (Wd.u rfl) rfl rfl ?_
  refine LR.v (Y.assign rfl rfl) (Wd.u rfl) rfl rfl ?_
  refine LR.nil ?_
  refine hK2 _ _ ?_
  refine CW.seq (fun K3 hK3 hE3 => ?_)
  refine CW.seq (fun K4 hK4 hE4 => ?_)
  refine CW.region ?_
  refine LR.v (Y.move rfl rfl) (Wd.u rfl) rfl rfl ?_
  refine LR.v ((Y.neq rfl rfl rfl).isF ((fun h => h rfl))) (Wd.u rfl) rfl rfl ?_
  refine LR.v (Y.move rfl rfl) (Wd.u rfl) rfl rfl ?_
  refine LR.v (Y.move rfl rfl) (Wd.g rfl rfl rfl) rfl rfl ?_
  refine LR.v (Y.peq rfl (by kernel_rfl) (by kernel_rfl) rfl rfl) (Wd.g rfl rfl rfl) rfl rfl ?_
  refine LR.v (Y.pick_f rfl rfl rfl) (Wd.u rfl) rfl rfl ?_
  refine LR.nil ?_
  refine hK4 _ _ ?_
  refine CW.cond_f rfl ?_
  refine CW.skip ?_
  refine hK3 _ _ ?_
  refine CW.seq (fun K5 hK5 hE5 => ?_)
  refine CW.region ?_
  refine LR.v (Y.move rfl rfl) (Wd.u rfl) rfl rfl ?_
  -- call selvage/wal.Open
  refine LR.call rfl Tryz.call9 rfl (Wd.u rfl) rfl rfl (wopen_ok mx_ Q7 g7 b7 (Dk.empty 65536 65536) [106] _ w0 _ hf mx (bf_mx.mono (by omega)) (df1) (by decide) hS7 (by decide) hst.1) (fun v18 H18 r18 => ?_)
  have ql3 := hf.bk
  obtain ⟨lb18, t18, l18, Q18, g18, G18, rfl, hf, hkd18, hlg, hkl18, dl218, hrl18, hw18, hx18, hGb18, hGf18, hGk18, hGl18, hs18⟩ := r18
  have df4 := DFL.appK (df1) (bf_mx.mono hm0.size) hkd18
  have nx5 : NxK [] H0.size Q18 := NxK.tr (nx2) hkd18 hm0.size
  have df6 := DF.app (DF.z) (bf_mx.mono hm0.size) hkl18
  have dj7 : DL (lb18 + 1) Q7 := DL.app2 (DL.zK) ql3 hkl18
  have nx8 : Nx 0 H0.size (lb18 + 1) := Nx.tr (Nx.refl 0 _) hkl18 hm0.size
  replace mx := mx.upL hs18 (df1)
  replace hm0 := (Mo.trL (ks := []) (hm0.mdn []) hs18 (MIL.ofK0 (nx2))).nil
  have hz2 := hs18.size
  have hbk_hf := hf.bk
  have hle_hlg := hlg.le
  have bf_hw18 := hGb18
  have bf_hx18 := hGb18
  have hS18 := bs_open hS7 [106]
  rw [hst.2.1] at hrl18
  have hl0 : l18.length = 0 := by have := congrArg List.length hrl18; simpa [recs] using this
  have hap := one_app hst.2.2 (l := []) (r := [97]) (by decide) (by decide) (by decide)
  rw [List.length_nil, ← hl0] at hap
  obtain ⟨ha1, ha2, ha3, ha4⟩ := hap
  refine LR.v (Y.move rfl rfl) (Wd.u rfl) rfl rfl ?_
  refine LR.v (Y.extract rfl rfl rfl) (Wd.u rfl) rfl rfl ?_
  refine LR.v (Y.extract rfl rfl rfl) (Wd.u rfl) rfl rfl ?_
  refine LR.v (Y.extract rfl rfl rfl) (Wd.u rfl) rfl rfl ?_
  refine LR.v (Y.assign rfl rfl) (Wd.u rfl) rfl rfl ?_
  refine LR.v (Y.assign rfl rfl) (Wd.u rfl) rfl rfl ?_
  refine LR.v (Y.assign rfl rfl) (Wd.u rfl) rfl rfl ?_
  refine LR.nil ?_
  refine hK5 _ _ ?_
  refine CW.seq (fun K6 hK6 hE6 => ?_)
  refine CW.seq (fun K7 hK7 hE7 => ?_)
  refine CW.region ?_
  refine LR.v (Y.move rfl rfl) (Wd.u rfl) rfl rfl ?_
  refine LR.v ((Y.neq rfl rfl rfl).isF ((fun h => h rfl))) (Wd.u rfl) rfl rfl ?_
  refine LR.v (Y.move rfl rfl) (Wd.u rfl) rfl rfl ?_
  refine LR.v (Y.move rfl rfl) (Wd.g rfl rfl rfl) rfl rfl ?_
  refine LR.v (Y.peq rfl (by kernel_rfl) (by kernel_rfl) rfl rfl) (Wd.g rfl rfl rfl) rfl rfl ?_
  refine LR.v (Y.pick_f rfl rfl rfl) (Wd.u rfl) rfl rfl ?_
  refine LR.v (Y.move rfl rfl) (Wd.u rfl) rfl rfl ?_
  refine LR.v (Y.move rfl rfl) (Wd.g rfl rfl rfl) rfl rfl ?_
  refine LR.v (Y.len hw18 rfl Tryz.runUnderlying22 rfl) (Wd.g rfl rfl rfl) rfl rfl ?_
  refine LR.v ((Y.neq rfl rfl rfl).isF ((fun h => h (by omega)))) (Wd.g rfl rfl rfl) rfl rfl ?_
  refine LR.v (Y.pick_f rfl rfl rfl) (Wd.u rfl) rfl rfl ?_
  refine LR.v (Y.move rfl rfl) (Wd.u rfl) rfl rfl ?_
  refine LR.v (Y.move rfl rfl) (Wd.g rfl rfl rfl) rfl rfl ?_
  refine LR.z (Z.litw _ ([(97 : UInt8)]) rfl inf34 rfl rfl rfl (by decide) (by decide) fB_len fB_one (rfl)) (Wd.g rfl rfl rfl) rfl rfl (fun v35 H35 r35 => ?_)
  obtain ⟨ow35, hs35, ob35, hH35⟩ := r35
  have hzs35 : H35.size = H18.size + 1 := by rw [hH35]; simp
  have df9 := (DF.new (bf_mx.mono hm0.size) : DF _ (H18.size + 1))
  have dj10 : DL (H18.size + 1) Q18 := DL.newK hf.bk
  have dj11 : Dj (lb18 + 1) (H18.size + 1) := Dj.new hlg.le
  have df12 := (DF.new (bf_hw18.mono (by omega)) : DF _ (H18.size + 1))
  have df13 := (DF.new (bf_hx18.mono (by omega)) : DF _ (H18.size + 1))
  have nx14 : Nx 0 H0.size (H18.size + 1) := Nx.new hm0.size
  replace mx := mx.nw hs35
  replace hf := hf.nw hs35
  replace hlg := hlg.nw hs35
  replace hw18 := hw18.nw hs35
  replace hx18 := fun x hx_ => (hx18 x hx_).nw hs35
  replace hm0 := hm0.tr hs35
  have hz3 := hs35.size
  refine LR.z (Z.bconst ow35 (by decide) rfl Tryz.underlying34 Tryz.underlying5 rfl) (Wd.g rfl rfl rfl) rfl rfl (fun v36 H36 r36 => ?_)
  obtain ⟨rfl, ow35, hs36⟩ := r36
  replace hs36 := hs36.md
  replace mx := mx.upL hs36 (DFL.cons df9 DFL.nil)
  replace hf := hf.upL hs36 (DKL.cons dj10 DKL.nil)
  replace hlg := hlg.upL hs36 (DL.cons dj11 DL.nil)
  replace hw18 := hw18.upL hs36 (DFL.cons df12 DFL.nil)
  replace hx18 := fun x hx_ => (hx18 x hx_).upL hs36 (DFL.cons df13 DFL.nil)
  replace hm0 := (Mo.trL (ks := []) (hm0.mdn []) hs36 (MIL.cons (MI.app MI.z (nx14) (Nat.le_refl _)) MIL.nil)).nil
  have hz4 := hs36.size
  obtain ⟨s36, rfl⟩ : ∃ s : SV, v36 = s.v := ⟨toSV v36, ow35.sv.symm⟩
  -- call (*selvage/wal.Log).Append
  refine LR.call rfl Tryz.call10 rfl (Wd.g rfl rfl rfl) rfl rfl (wapp_ct mx_ Q18 g18 b7 (openD (Dk.empty 65536 65536) [106]).2.2 lb18 [106] l18.length false s36 [97] _ _ w0 _ hf mx (bf_mx.mono (by omega)) (df4) hlg (dl218) (df6) ow35.rd (BF.of ow35.le) (DFL.of (dj10)) (DF.of (dj11.symm)) (by decide) (by decide) hS18 (by decide) (by omega)) (fun v37 H37 r37 => ?_)
  have ql15 := hf.bk
  have ql16 := hlg.le
  have ql17 := ow35.le
  obtain ⟨Q37, g37, rfl, hf, hkd37, hlg, dl237, hs37⟩ := r37
  have df18 := DFL.appK (df4) (bf_mx.mono hm0.size) hkd37
  have dj19 : DL (lb18 + 1) Q37 := DL.appK (dl218) ql16 hkd37
  have df20 := DFL.appK (hGk18) (bf_hw18.mono (by omega)) hkd37
  have df21 := DFL.appK (hGk18) (bf_hx18.mono (by omega)) hkd37
  have dj22 : DL (H18.size + 1) Q37 := DL.appK (dj10) ql17 hkd37
  have nx23 : NxK [] H0.size Q37 := NxK.tr (nx5) hkd37 hm0.size
  replace mx := mx.upL hs37 (DFL.app df4 (DFL.cons df6 DFL.nil))
  replace hw18 := hw18.upL hs37 (DFL.app hGk18 (DFL.cons hGl18 DFL.nil))
  replace hx18 := fun x hx_ => (hx18 x hx_).upL hs37 (DFL.app hGk18 (DFL.cons hGl18 DFL.nil))
  replace ow35 := ow35.upL hs37 (DL.app dj10 (DL.cons dj11.symm DL.nil))
  replace hm0 := (Mo.trL (ks := []) (hm0.mdn []) hs37 (MIL.app (MIL.ofK0 (nx5)) (MIL.cons (MI.app MI.z (nx8) (Nat.le_refl _)) MIL.nil))).nil
  have hz5 := hs37.size
  have hbk_hf := hf.bk
  have hS37 := bs_app hS18 [106] l18.length false [97]
  have hop2 : (openD (appD (openD (Dk.empty 65536 65536) [106]).2.2 [106] l18.length false [97]).2.2.2 [106]).1 = 0 ∧ (openD (appD (openD (Dk.empty 65536 65536) [106]).2.2 [106] l18.length false [97]).2.2.2 [106]).2.1 = [[97]] := by rw [one_opens ha4 (by decide) (by decide) (by decide)]; exact ⟨rfl, rfl⟩
  refine LR.v ((Y.neq rfl rfl rfl).isF ((fun h => h (by omega)))) (Wd.g rfl rfl rfl) rfl rfl ?_
  refine LR.v (Y.pick_f rfl rfl rfl) (Wd.u rfl) rfl rfl ?_
  refine LR.v (Y.move rfl rfl) (Wd.u rfl) rfl rfl ?_
  refine LR.v (Y.move rfl rfl) (Wd.g rfl rfl rfl) rfl rfl ?_
  -- call (*selvage/wal.Log).Count
  refine LR.call rfl Tryz.call11 rfl (Wd.g rfl rfl rfl) rfl rfl (count_ct lb18 _ _ _ _ w0 _ hlg) (fun v42 H42 r42 => ?_)
  obtain ⟨rfl, hs42⟩ := r42
  replace mx := mx.nw hs42
  replace hf := hf.nw hs42
  replace hlg := hlg.nw hs42
  replace hw18 := hw18.nw hs42
  replace hx18 := fun x hx_ => (hx18 x hx_).nw hs42
  replace ow35 := ow35.nw hs42
  replace hm0 := hm0.tr hs42
  have hz6 := hs42.size
  refine LR.v ((Y.neq rfl rfl rfl).isF ((fun h => h (by rw [ha2]; omega)))) (Wd.g rfl rfl rfl) rfl rfl ?_
  refine LR.v (Y.pick_f rfl rfl rfl) (Wd.u rfl) rfl rfl ?_
  refine LR.nil ?_
  refine hK7 _ _ ?_
  refine CW.cond_f rfl ?_
  refine CW.skip ?_
  refine hK6 _ _ ?_
  refine CW.seq (fun K8 hK8 hE8 => ?_)
  refine CW.region ?_
  refine LR.v (Y.move rfl rfl) (Wd.u rfl) rfl rfl ?_
  -- call selvage/wal.Open
  refine LR.call rfl Tryz.call9 rfl (Wd.u rfl) rfl rfl (wopen_ok mx_ Q37 g37 b7 (appD (openD (Dk.empty 65536 65536) [106]).2.2 [106] l18.length false [97]).2.2.2 [106] _ w0 _ hf mx (bf_mx.mono (by omega)) (df18) (by decide) hS37 (by decide) hop2.1) (fun v47 H47 r47 => ?_)
  have ql24 := hf.bk
  have ql25 := hlg.le
  have ql26 := ow35.le
  obtain ⟨lb47, t47, l47, Q47, g47, G47, rfl, hf, hkd47, hlh, hkl47, dl247, hrl47, hw47, hx47, hGb47, hGf47, hGk47, hGl47, hs47⟩ := r47
  have df27 := DFL.appK (df18) (bf_mx.mono hm0.size) hkd47
  have dj28 : DL (lb18 + 1) Q47 := DL.appK (dl237) ql25 hkd47
  have df29 := DFL.appK (df20) (bf_hw18.mono (by omega)) hkd47
  have df30 := DFL.appK (df21) (bf_hx18.mono (by omega)) hkd47
  have dj31 : DL (H18.size + 1) Q47 := DL.appK (dj22) ql26 hkd47
  have nx32 : NxK [] H0.size Q47 := NxK.tr (nx23) hkd47 hm0.size
  have df33 := DF.app (DF.z) (bf_mx.mono hm0.size) hkl47
  have dj34 : DL (lb47 + 1) Q37 := DL.app2 (DL.zK) ql24 hkl47
  have dj35 : Dj (lb18 + 1) (lb47 + 1) := Dj.app (Dj.z) ql25 hkl47
  have df36 := DF.app (DF.z) (bf_hw18.mono (by omega)) hkl47
  have df37 := DF.app (DF.z) (bf_hx18.mono (by omega)) hkl47
  have dj38 : Dj (H18.size + 1) (lb47 + 1) := Dj.app (Dj.z) ql26 hkl47
  have nx39 : Nx 0 H0.size (lb47 + 1) := Nx.tr (Nx.refl 0 _) hkl47 hm0.size
  replace mx := mx.upL hs47 (df18)
  replace hlg := hlg.upL hs47 (dl237)
  replace hw18 := hw18.upL hs47 (df20)
  replace hx18 := fun x hx_ => (hx18 x hx_).upL hs47 (df21)
  replace ow35 := ow35.upL hs47 (dj22)
  replace hm0 := (Mo.trL (ks := []) (hm0.mdn []) hs47 (MIL.ofK0 (nx23))).nil
  have hz7 := hs47.size
  have hbk_hf := hf.bk
  have hle_hlh := hlh.le
  have bf_hw47 := hGb47
  have df40 : DF _ (lb18 + 1) := DF.above hGf47 (by first | exact hle_hlg | exact hlt_hlg | omega)
  have df41 : DF _ (H18.size + 1) := DF.above hGf47 (by first | exact hle_ow35 | exact hlt_ow35 | omega)
  have bf_hx47 := hGb47
  have df42 : DF _ (lb18 + 1) := DF.above hGf47 (by first | exact hle_hlg | exact hlt_hlg | omega)
  have df43 : DF _ (H18.size + 1) := DF.above hGf47 (by first | exact hle_ow35 | exact hlt_ow35 | omega)
  rw [hop2.2] at hrl47
  have hl1 : l47.length = 1 := by have := congrArg List.length hrl47; simpa [recs] using this
  have hx1 := hx47 l47[0] (List.getElem_mem (by omega))
  have he1 : l47[0].2 = [97] := by have : (recs l47)[0]? = some [97] := (by rw [hrl47]; rfl); rw [List.getElem?_map, List.getElem?_eq_getElem (by omega)] at this; exact Option.some.inj this
  refine LR.v (Y.move rfl rfl) (Wd.u rfl) rfl rfl ?_
  refine LR.v (Y.extract rfl rfl rfl) (Wd.u rfl) rfl rfl ?_
  refine LR.v (Y.extract rfl rfl rfl) (Wd.u rfl) rfl rfl ?_
  refine LR.v (Y.extract rfl rfl rfl) (Wd.u rfl) rfl rfl ?_
  refine LR.v (Y.assign rfl rfl) (Wd.u rfl) rfl rfl ?_
  refine LR.v (Y.assign rfl rfl) (Wd.u rfl) rfl rfl ?_
  refine LR.nil ?_
  refine hK8 _ _ ?_
  refine CW.seq (fun K9 hK9 hE9 => ?_)
  refine CW.region ?_
  refine LR.v (Y.move rfl rfl) (Wd.u rfl) rfl rfl ?_
  refine LR.v ((Y.eql rfl rfl rfl).isT (rfl)) (Wd.u rfl) rfl rfl ?_
  refine LR.v (Y.move rfl rfl) (Wd.u rfl) rfl rfl ?_
  refine LR.v (Y.move rfl rfl) (Wd.g rfl rfl rfl) rfl rfl ?_
  refine LR.v (Y.len hw47 rfl Tryz.runUnderlying22 rfl) (Wd.g rfl rfl rfl) rfl rfl ?_
  refine LR.v ((Y.eql rfl rfl rfl).isT (by omega)) (Wd.g rfl rfl rfl) rfl rfl ?_
  refine LR.v (Y.pick_t rfl rfl rfl) (Wd.u rfl) rfl rfl ?_
  refine LR.v (Y.move rfl rfl) (Wd.u rfl) rfl rfl ?_
  refine LR.v (Y.move rfl rfl) (Wd.g rfl rfl rfl) rfl rfl ?_
  refine LR.e (g := fun ad => .pointer (some ad)) (Y.indexAddrF hw47 (0) rfl Tryz.runUnderlying22 Tryz.sizeOf34 rfl rfl (by first | rfl | omega) (by first | omega | (simp; omega) | (simp; done))) (Wd.g rfl rfl rfl) rfl rfl (fun ad60 pt60 => ?_)
  have bf_pt60 := bf_hw47
  refine LR.v (Y.load1 pt60.pt rfl Tryz.isAgg34 rfl) (Wd.g rfl rfl rfl) rfl rfl ?_
  refine LR.v (Y.cast (v2 := Str [97]) (Y.bstr hx1 rfl Tryz.underlying34 Tryz.underlying9 Tryz.underlying5 rfl) (by rw [he1])) (Wd.g rfl rfl rfl) rfl rfl ?_
  refine LR.v ((Y.seql rfl rfl rfl).isT (rfl)) (Wd.g rfl rfl rfl) rfl rfl ?_
  refine LR.v (Y.pick_t rfl rfl rfl) (Wd.u rfl) rfl rfl ?_
  refine LR.v (Y.assign rfl rfl) (Wd.u rfl) rfl rfl ?_
  refine LR.nil ?_
  refine hK9 _ _ ?_
  refine CW.ret (hret .ret (.inr rfl) _ _ _ (res1 rfl rfl) ?_)
  exact ⟨rfl, hm0⟩

theorem few_ct (s : SV) (l : List (SV × Rec)) (w0 : World) (H0 : Heap)
    (hl : RdT H0 fP 1 s.v l) (hx : ∀ x ∈ l, RdT H0 fB 1 x.1.v x.2) :
    Ct Tryz.prog w0 7 #[s.v] H0 (fun r H2 => ∃ t : SV, ∃ m : List (SV × Rec), r = t.v ∧ (recs m = fewL (recs l)) ∧ (Rd (fun b => H0.size ≤ b) H2 fP 1 t.v m) ∧ (∀ x ∈ m, Rd (fun b => H0.size ≤ b) H2 fB 1 x.1.v x.2) ∧ Nw H0 H2) := by
  refine Ct.enter (args := [s.v]) Tryz.func7 rfl rfl rfl ?_
  intro Q0 hret
  have hm0 : Nw H0 H0 := Mo.refl _ _
  replace hl := hl.bnd
  have bf_hl := hl.bf
  replace hx := fun x hx0 => (hx x hx0).bnd
  have bf_hx : BF (fun b => True ∧ b < H0.size) H0.size := fun b h => h.2
  have hll := hl.len
  have hln : (recs l).length = l.length := by simp [recs]
  refine CW.seq (fun K1 hK1 hE1 => ?_)
  refine CW.region ?_
  refine LR.v (Y.assign rfl rfl) (Wd.u rfl) rfl rfl ?_
  refine LR.nil ?_
  refine hK1 _ _ ?_
  refine CW.seq (fun K2 hK2 hE2 => ?_)
  refine CW.region ?_
  refine LR.v (Y.assign rfl rfl) (Wd.u rfl) rfl rfl ?_
  refine LR.nil ?_
  refine hK2 _ _ ?_
  refine CW.seq (fun K3 hK3 hE3 => ?_)
  refine CW.seq (fun K4 hK4 hE4 => ?_)
  refine CW.region ?_
  refine LR.v (Y.assign rfl rfl) (Wd.u rfl) rfl rfl ?_
  refine LR.nil ?_
  refine hK4 _ _ ?_
  refine CW.block (fun K5 hK5 hX5 hE5 => ?_)
  refine CW.loop (fun (s_ : (Nat) × (Value) × (Nat) × (List (SV × Rec)) × (Nat → Prop)) => match s_ with | (i, vo, ko, m, G) => [(0, s.v), (3, vo), (4, .int .i64 (i : Int))])
    (fun (s_ : (Nat) × (Value) × (Nat) × (List (SV × Rec)) × (Nat → Prop)) (H : Heap) => match s_ with | (i, vo, ko, m, G) => (i ≤ l.length ∧ i ≤ 20 ∧ m.length ≤ i) ∧ (recs m = ((recs l).take i).filter (fun r => decide (r.length < 3000))) ∧ (Ow ko 34 H fP 1 vo m) ∧ (∀ x ∈ m, Rd G H fB 1 x.1.v x.2) ∧ (BF G H.size) ∧ (DF G ko) ∧ (∀ c, G c → H0.size ≤ c) ∧ (Nx 0 H0.size ko) ∧ Nw H0 H)
    (fun (s_ : (Nat) × (Value) × (Nat) × (List (SV × Rec)) × (Nat → Prop)) => match s_ with | (i, vo, ko, m, G) => l.length - i) (0, .slice none 0 0, 0, [], fun _ => False) ⟨rfl, rfl, rfl, trivial⟩ ?_ ?_
  ·
    exact ⟨⟨by omega, by omega, by simp⟩, rfl, Ow.nil fP_len fP_one, (fun x h => by cases h), (fun b e => e.elim), (fun b e => e.elim), (fun c e => e.elim), Nx.refl _ _, Mo.refl _ _⟩
  rintro ⟨i, vo, ko, m, G⟩ HL1 hI1 K6 hN6 hE6
  obtain ⟨hi, hm, ow, hxa, bf_hxa, f1, hG, nxl_ow, hlm1⟩ := hI1
  have df1 := DF.app (DF.z) (bf_hl.mono hm0.size) nxl_ow
  have df2 := DF.app (DF.z) (bf_hx.mono hm0.size) nxl_ow
  have nx3 : Nx 0 H0.size ko := Nx.tr (Nx.refl 0 _) nxl_ow hm0.size
  replace hl := hl.nw hlm1
  replace hx := fun x hx0 => (hx x hx0).nw hlm1
  replace hm0 := hm0.tr hlm1
  have hz1 := hlm1.size
  have hle_ow := ow.le
  have nx4 := nxl_ow
  refine CW.seq (fun K7 hK7 hE7 => ?_)
  refine CW.seq (fun K8 hK8 hE8 => ?_)
  refine CW.region ?_
  refine LR.v (Y.move rfl rfl) (Wd.u rfl) rfl rfl ?_
  refine LR.v (Y.move rfl rfl) (Wd.u rfl) rfl rfl ?_
  refine LR.v (Y.len hl rfl Tryz.runUnderlying22 rfl) (Wd.u rfl) rfl rfl ?_
  refine LR.v (Y.lss rfl rfl rfl) (Wd.u rfl) rfl rfl ?_
  refine LR.v (Y.move rfl rfl) (Wd.u rfl) rfl rfl ?_
  refine LR.splitp (d := 9) rfl (fun g9 => ?_) (fun g9 => ?_)
  ·
    
    refine LR.v (Y.move rfl rfl) (Wd.g rfl rfl rfl) rfl rfl ?_
    refine LR.v (Y.lss rfl rfl rfl) (Wd.g rfl rfl rfl) rfl rfl ?_
    refine LR.v (Y.pick_t rfl rfl rfl) (Wd.u rfl) rfl rfl ?_
    refine LR.nil ?_
    refine hK8 _ _ ?_
    refine CW.condp rfl (fun c12 => ?_) (fun c12 => ?_)
    ·
      have hil : i < l.length := by omega
      have hxi := hx l[i] (List.getElem_mem hil)
      refine CW.skip ?_
      refine hK7 _ _ ?_
      refine CW.seq (fun K9 hK9 hE9 => ?_)
      refine CW.block (fun K10 hK10 hX10 hE10 => ?_)
      refine CW.seq (fun K11 hK11 hE11 => ?_)
      refine CW.region ?_
      refine LR.v (Y.move rfl rfl) (Wd.u rfl) rfl rfl ?_
      refine LR.v (Y.move rfl rfl) (Wd.u rfl) rfl rfl ?_
      refine LR.e (g := fun ad => .pointer (some ad)) (Y.indexAddrF hl (i) rfl Tryz.runUnderlying22 Tryz.sizeOf34 rfl rfl (by first | rfl | omega) (by first | omega | (simp; omega) | (simp; done))) (Wd.u rfl) rfl rfl (fun ad17 pt17 => ?_)
      have bf_pt17 := bf_hl
      refine LR.v (Y.load1 pt17.pt rfl Tryz.isAgg34 rfl) (Wd.u rfl) rfl rfl ?_
      refine LR.v (Y.len hxi rfl Tryz.runUnderlying34 rfl) (Wd.u rfl) rfl rfl ?_
      refine LR.v (Y.lss rfl rfl rfl) (Wd.u rfl) rfl rfl ?_
      refine LR.nil ?_
      refine hK11 _ _ ?_
      refine CW.condp rfl (fun c20 => ?_) (fun c20 => ?_)
      ·
        refine CW.region ?_
        refine LR.v (Y.move rfl rfl) (Wd.u rfl) rfl rfl ?_
        refine LR.z (Z.litw _ (([] : List UInt8)) rfl inf34 rfl rfl rfl (by decide) (by decide) fB_len fB_one (rfl)) (Wd.u rfl) rfl rfl (fun v22 H22 r22 => ?_)
        obtain ⟨nd, hs22, ob22, hH22⟩ := r22
        have hzs22 : H22.size = HL1.size + 1 := by rw [hH22]; simp
        have df5 := (DF.new (bf_hl.mono hm0.size) : DF _ (HL1.size + 1))
        have df6 := (DF.new (bf_hx.mono hm0.size) : DF _ (HL1.size + 1))
        have dj7 : Dj ko (HL1.size + 1) := Dj.new ow.le
        have df8 := (DF.new (bf_hxa.mono (by omega)) : DF _ (HL1.size + 1))
        have nx9 : Nx 0 H0.size (HL1.size + 1) := Nx.new hm0.size
        have nx10 : Nx 0 H0.size (HL1.size + 1) := Nx.new hlm1.size
        replace hl := hl.nw hs22
        replace hx := fun x hx0 => (hx x hx0).nw hs22
        replace ow := ow.nw hs22
        replace hxa := fun x hxa_ => (hxa x hxa_).nw hs22
        replace hm0 := hm0.tr hs22
        replace hlm1 := hlm1.tr hs22
        have hz2 := hs22.size
        refine LR.v (Y.move rfl rfl) (Wd.u rfl) rfl rfl ?_
        refine LR.v (Y.move rfl rfl) (Wd.u rfl) rfl rfl ?_
        refine LR.e (g := fun ad => .pointer (some ad)) (Y.indexAddrF hl (i) rfl Tryz.runUnderlying22 Tryz.sizeOf34 rfl rfl (by first | rfl | omega) (by first | omega | (simp; omega) | (simp; done))) (Wd.u rfl) rfl rfl (fun ad25 pt25 => ?_)
        have bf_pt25 := bf_hl
        refine LR.v (Y.load1 pt25.pt rfl Tryz.isAgg34 rfl) (Wd.u rfl) rfl rfl ?_
        refine LR.z (Z.apnd nd (hx l[i] (List.getElem_mem hil)) rfl inf34 rfl rfl (by simp only [List.length_nil]; omega) (by simp only [List.length_nil]; omega)) (Wd.u rfl) rfl rfl (fun v27 H27 r27 => ?_)
        obtain ⟨k27, nd, hk27, hs27⟩ := r27
        replace hk27 : Nx (HL1.size + 1) H22.size k27 := hk27
        replace hs27 := hs27.md
        have df11 := DF.app (df5) (bf_hl.mono hm0.size) hk27
        have df12 := DF.app (df6) (bf_hx.mono hm0.size) hk27
        have dj13 : Dj ko k27 := Dj.app (dj7) ow.le hk27
        have df14 := DF.app (df8) (bf_hxa.mono (by omega)) hk27
        have df15 := DF.app (df5) (bf_pt25.mono hm0.size) hk27
        have nx16 : Nx 0 H0.size k27 := Nx.tr (nx9) hk27 hm0.size
        have nx17 : Nx 0 H0.size k27 := Nx.tr (nx10) hk27 hlm1.size
        replace hl := hl.upL hs27 (DFL.cons df5 DFL.nil)
        replace hx := fun x hx0 => (hx x hx0).upL hs27 (DFL.cons df6 DFL.nil)
        replace ow := ow.upL hs27 (DL.cons dj7 DL.nil)
        replace hxa := fun x hxa_ => (hxa x hxa_).upL hs27 (DFL.cons df8 DFL.nil)
        replace pt25 := pt25.upL hs27 (DFL.cons df5 DFL.nil)
        replace hm0 := (Mo.trL (ks := []) (hm0.mdn []) hs27 (MIL.cons (MI.app MI.z (nx9) (Nat.le_refl _)) MIL.nil)).nil
        replace hlm1 := (Mo.trL (ks := []) (hlm1.mdn []) hs27 (MIL.cons (MI.app MI.z (nx10) (Nat.le_refl _)) MIL.nil)).nil
        have hz3 := hs27.size
        have hle_nd := nd.le
        rw [List.nil_append] at nd
        obtain ⟨s27, rfl⟩ : ∃ s : SV, v27 = s.v := ⟨toSV v27, nd.sv.symm⟩
        refine LR.z (Z.litw _ ([(s27, l[i].2)]) rfl inf22 rfl rfl rfl (by decide) (by decide) fP_len fP_one (rfl)) (Wd.u rfl) rfl rfl (fun v28 H28 r28 => ?_)
        obtain ⟨nw28, hs28, ob28, hH28⟩ := r28
        have hzs28 : H28.size = H27.size + 1 := by rw [hH28]; simp
        have df18 := (DF.new (bf_hl.mono hm0.size) : DF _ (H27.size + 1))
        have df19 := (DF.new (bf_hx.mono hm0.size) : DF _ (H27.size + 1))
        have dj20 : Dj ko (H27.size + 1) := Dj.new ow.le
        have df21 := (DF.new (bf_hxa.mono (by omega)) : DF _ (H27.size + 1))
        have dj22 : Dj k27 (H27.size + 1) := Dj.new nd.le
        have df23 := (DF.new (bf_pt25.mono hm0.size) : DF _ (H27.size + 1))
        have nx24 : Nx 0 H0.size (H27.size + 1) := Nx.new hm0.size
        have nx25 : Nx 0 H0.size (H27.size + 1) := Nx.new hlm1.size
        replace hl := hl.nw hs28
        replace hx := fun x hx0 => (hx x hx0).nw hs28
        replace ow := ow.nw hs28
        replace hxa := fun x hxa_ => (hxa x hxa_).nw hs28
        replace nd := nd.nw hs28
        replace pt25 := pt25.nw hs28
        replace hm0 := hm0.tr hs28
        replace hlm1 := hlm1.tr hs28
        have hz4 := hs28.size
        refine LR.z (Z.apnd ow nw28.rd rfl inf22 rfl rfl (by simp only [List.length_singleton]; omega) (by simp only [List.length_singleton]; omega)) (Wd.u rfl) rfl rfl (fun v29 H29 r29 => ?_)
        obtain ⟨k29, ow, hk29, hs29⟩ := r29
        replace hk29 : Nx ko H28.size k29 := hk29
        replace hs29 := hs29.md
        have df26 := DF.app (df1) (bf_hl.mono hm0.size) hk29
        have df27 := DF.app (df2) (bf_hx.mono hm0.size) hk29
        have df28 := DF.app (f1) (bf_hxa.mono (by omega)) hk29
        have dj29 : Dj k27 k29 := Dj.app (dj13.symm) nd.le hk29
        have df30 := DF.app (df1) (bf_pt25.mono hm0.size) hk29
        have dj31 : Dj (H27.size + 1) k29 := Dj.app (dj20.symm) nw28.le hk29
        have nx32 : Nx 0 H0.size k29 := Nx.tr (nx3) hk29 hm0.size
        have nx33 : Nx 0 H0.size k29 := Nx.tr (nx4) hk29 hlm1.size
        replace hl := hl.upL hs29 (DFL.cons df1 DFL.nil)
        replace hx := fun x hx0 => (hx x hx0).upL hs29 (DFL.cons df2 DFL.nil)
        replace hxa := fun x hxa_ => (hxa x hxa_).upL hs29 (DFL.cons f1 DFL.nil)
        replace nd := nd.upL hs29 (DL.cons dj13.symm DL.nil)
        replace pt25 := pt25.upL hs29 (DFL.cons df1 DFL.nil)
        replace nw28 := nw28.upL hs29 (DL.cons dj20.symm DL.nil)
        replace hm0 := (Mo.trL (ks := []) (hm0.mdn []) hs29 (MIL.cons (MI.app MI.z (nx3) (Nat.le_refl _)) MIL.nil)).nil
        replace hlm1 := (Mo.trL (ks := []) (hlm1.mdn []) hs29 (MIL.cons (MI.app MI.z (nx4) (Nat.le_refl _)) MIL.nil)).nil
        have hz5 := hs29.size
        have hle_ow := ow.le
        refine LR.v (Y.assign rfl rfl) (Wd.u rfl) rfl rfl ?_
        refine LR.nil ?_
        refine hK10 _ _ ?_
        refine hK9 _ _ ?_
        refine CW.region ?_
        refine LR.v (Y.move rfl rfl) (Wd.u rfl) rfl rfl ?_
        refine LR.v (Y.addi rfl rfl rfl (by omega)) (Wd.u rfl) rfl rfl ?_
        refine LR.v (Y.assign rfl rfl) (Wd.u rfl) rfl rfl ?_
        refine LR.nil ?_
        refine QN.sub (hN6 (i + 1, v29, k29, m ++ [(s27, l[i].2)], fun c => G c ∨ c + 1 = k27) _ ?_ ?_) ⟨rfl, rfl, (iv (by omega)), trivial⟩
        · exact ⟨⟨by omega, by omega, by simp; omega⟩, by rw [few_snoc (by omega)]; unfold recs at hm ⊢; rw [List.map_append, hm, List.getElem_map, if_pos (by omega)]; rfl, ow, snocP (α := Unit) (fb := fun _ => (s27, [])) hxa (fun c e => .inl e) (nd.rd.imp (fun c _ e => .inr e)), BF.or1 (bf_hxa.mono (by omega)) nd.le, DF.or1 (df28) (dj29.symm), fun c e => by rcases e with e | e; exact hG c e; exact (by have h9 := (nx16); unfold Nx at h9; omega), nx33, hlm1⟩
        · first | omega | (simp only; omega) | (simp; omega)
      ·
        refine CW.skip ?_
        refine hK10 _ _ ?_
        refine hK9 _ _ ?_
        refine CW.region ?_
        refine LR.v (Y.move rfl rfl) (Wd.u rfl) rfl rfl ?_
        refine LR.v (Y.addi rfl rfl rfl (by omega)) (Wd.u rfl) rfl rfl ?_
        refine LR.v (Y.assign rfl rfl) (Wd.u rfl) rfl rfl ?_
        refine LR.nil ?_
        refine QN.sub (hN6 (i + 1, vo, ko, m, G) _ ?_ ?_) ⟨rfl, rfl, (iv (by omega)), trivial⟩
        · exact ⟨⟨by omega, by omega, by omega⟩, by rw [few_snoc (by omega)]; unfold recs at hm ⊢; rw [hm, List.getElem_map, if_neg (by omega), List.append_nil], ow, hxa, (bf_hxa.mono (by omega)), f1, (by omega), nx4, hlm1⟩
        · first | omega | (simp only; omega) | (simp; omega)
    ·
      refine CW.exit (hE7 (.exit 0) nofun _ _ (hE6 (.exit 0) nofun _ _ (hX5 _ _ ?_)))
      refine hK3 _ _ ?_
      refine CW.seq (fun K12 hK12 hE12 => ?_)
      refine CW.region ?_
      refine LR.v (Y.move rfl rfl) (Wd.u rfl) rfl rfl ?_
      refine LR.v (Y.assign rfl rfl) (Wd.u rfl) rfl rfl ?_
      refine LR.nil ?_
      refine hK12 _ _ ?_
      refine CW.ret (hret .ret (.inr rfl) _ _ _ (res1 rfl rfl) ?_)
      obtain ⟨so, rfl⟩ : ∃ s : SV, vo = s.v := ⟨toSV vo, ow.sv.symm⟩
      have hfw : (recs l).take i = (recs l).take 20 := by
        rcases (show i = 20 ∨ i = l.length by omega) with e | e
        · rw [e]
        · rw [List.take_of_length_le (by omega), List.take_of_length_le (by omega)]
      exact ⟨so, m, rfl, by unfold fewL; rw [← hfw]; exact hm, (ow.rd.imp (fun c _ e => by have h9 := (nx3); unfold Nx at h9; omega)), (fun x h => (hxa x h).imp (fun c _ e => hG c e)), hm0⟩
  ·
    refine LR.gs rfl rfl rfl rfl rfl rfl ?_
    refine LR.gs rfl rfl rfl rfl rfl rfl ?_
    refine LR.v (Y.pick_f rfl rfl rfl) (Wd.u rfl) rfl rfl ?_
    refine LR.nil ?_
    refine hK8 _ _ ?_
    refine CW.cond_f rfl ?_
    refine CW.exit (hE7 (.exit 0) nofun _ _ (hE6 (.exit 0) nofun _ _ (hX5 _ _ ?_)))
    refine hK3 _ _ ?_
    refine CW.seq (fun K13 hK13 hE13 => ?_)
    refine CW.region ?_
    refine LR.v (Y.move rfl rfl) (Wd.u rfl) rfl rfl ?_
    refine LR.v (Y.assign rfl rfl) (Wd.u rfl) rfl rfl ?_
    refine LR.nil ?_
    refine hK13 _ _ ?_
    refine CW.ret (hret .ret (.inr rfl) _ _ _ (res1 rfl rfl) ?_)
    obtain ⟨so, rfl⟩ : ∃ s : SV, vo = s.v := ⟨toSV vo, ow.sv.symm⟩
    have hfw : (recs l).take i = (recs l).take 20 := by
      rcases (show i = 20 ∨ i = l.length by omega) with e | e
      · rw [e]
      · rw [List.take_of_length_le (by omega), List.take_of_length_le (by omega)]
    exact ⟨so, m, rfl, by unfold fewL; rw [← hfw]; exact hm, (ow.rd.imp (fun c _ e => by have h9 := (nx3); unfold Nx at h9; omega)), (fun x h => (hxa x h).imp (fun c _ e => hG c e)), hm0⟩

end Go.Proofs.YtdliddjkacbggaaGreatDoor.WalI
/-
  A journal's bytes: the document's functions.
-/
namespace Go.Proofs.YtdliddjkacbggaaGreatDoor.WalJ
open Go.Proofs.YtdliddjkacbggaaGreatDoor.E Go.RowKit Go.Proofs.YtdliddjkacbggaaGreatDoor.SumB Go.Proofs.YtdliddjkacbggaaGreatDoor.SumC Go.Proofs.YtdliddjkacbggaaGreatDoor.SumF Go.Proofs.YtdliddjkacbggaaGreatDoor.SumG Go.Proofs.YtdliddjkacbggaaGreatDoor.DelA Go.Proofs.YtdliddjkacbggaaGreatDoor.SimA Go.Proofs.YtdliddjkacbggaaGreatDoor.SimB Go.Proofs.YtdliddjkacbggaaGreatDoor.SimR Go.Proofs.YtdliddjkacbggaaGreatDoor.WalA Go.Proofs.YtdliddjkacbggaaGreatDoor.WalB Go.Proofs.YtdliddjkacbggaaGreatDoor.WalC Go.Proofs.YtdliddjkacbggaaGreatDoor.WalI
set_option maxRecDepth 20000
set_option linter.unusedVariables false
set_option linter.unusedSimpArgs false
set_option linter.unusedSectionVars false
set_option maxRecDepth 100000 in
theorem inf34 : Inf Tryz.prog 34 5 1 1 := ⟨Tryz.underlying34, _, _, rfl, rfl, rfl, rfl, rfl⟩
theorem spl2 {vs cs : List Value} (h : cs.length = vs.length) : splice cs 0 vs = vs := by simp [splice, h]


theorem sameR_ct (s t : SV) (a b : List (SV × Rec)) (w0 : World) (H0 : Heap)
    (ha : RdT H0 fP 1 s.v a) (hb : RdT H0 fP 1 t.v b) (hx : ∀ x ∈ a, RdT H0 fB 1 x.1.v x.2) (hy : ∀ x ∈ b, RdT H0 fB 1 x.1.v x.2) :
    Ct Tryz.prog w0 13 #[s.v, t.v] H0 (fun r H2 => r = .bool (decide (recs a = recs b)) ∧ Nw H0 H2) := by
  refine Ct.enter (args := [s.v, t.v]) Tryz.func13 rfl rfl rfl ?_
  intro Q0 hret
  have hm0 : Nw H0 H0 := Mo.refl _ _
  replace ha := ha.bnd
  have bf_ha := ha.bf
  replace hb := hb.bnd
  have bf_hb := hb.bf
  replace hx := fun x hx0 => (hx x hx0).bnd
  have bf_hx : BF (fun b => True ∧ b < H0.size) H0.size := fun b h => h.2
  replace hy := fun x hy0 => (hy x hy0).bnd
  have bf_hy : BF (fun b => True ∧ b < H0.size) H0.size := fun b h => h.2
  have hal := ha.len
  have hbl := hb.len
  have hla : (recs a).length = a.length := by simp [recs]
  have hlb : (recs b).length = b.length := by simp [recs]
  refine CW.seq (fun K1 hK1 hE1 => ?_)
  refine CW.region ?_
  refine LR.v (Y.assign rfl rfl) (Wd.u rfl) rfl rfl ?_
  refine LR.nil ?_
  refine hK1 _ _ ?_
  refine CW.seq (fun K2 hK2 hE2 => ?_)
  refine CW.seq (fun K3 hK3 hE3 => ?_)
  refine CW.region ?_
  refine LR.v (Y.move rfl rfl) (Wd.u rfl) rfl rfl ?_
  refine LR.v (Y.len ha rfl Tryz.runUnderlying22 rfl) (Wd.u rfl) rfl rfl ?_
  refine LR.v (Y.move rfl rfl) (Wd.u rfl) rfl rfl ?_
  refine LR.v (Y.len hb rfl Tryz.runUnderlying22 rfl) (Wd.u rfl) rfl rfl ?_
  refine LR.v (Y.neq rfl rfl rfl) (Wd.u rfl) rfl rfl ?_
  refine LR.nil ?_
  refine hK3 _ _ ?_
  refine CW.condp rfl (fun c10 => ?_) (fun c10 => ?_)
  ·
    refine CW.seq (fun K4 hK4 hE4 => ?_)
    refine CW.region ?_
    refine LR.v (Y.assign rfl rfl) (Wd.u rfl) rfl rfl ?_
    refine LR.nil ?_
    refine hK4 _ _ ?_
    refine CW.ret (hE2 .ret nofun _ _ (hret .ret (.inr rfl) _ _ _ (res1 rfl rfl) ?_))
    have hne : ¬ recs a = recs b := fun h => by have := congrArg List.length h; omega
    exact ⟨by rw [decide_eq_false hne], hm0⟩
  ·
    have hab : a.length = b.length := by omega
    refine CW.skip ?_
    refine hK2 _ _ ?_
    refine CW.seq (fun K5 hK5 hE5 => ?_)
    refine CW.seq (fun K6 hK6 hE6 => ?_)
    refine CW.region ?_
    refine LR.v (Y.assign rfl rfl) (Wd.u rfl) rfl rfl ?_
    refine LR.nil ?_
    refine hK6 _ _ ?_
    refine CW.block (fun K7 hK7 hX7 hE7 => ?_)
    refine CW.loop (fun (i : (Nat)) => [(0, s.v), (1, t.v), (5, .int .i64 (i : Int))])
      (fun (i : (Nat)) (H : Heap) => (i ≤ a.length) ∧ ((recs a).take i = (recs b).take i) ∧ Nw H0 H)
      (fun (i : (Nat)) => a.length - i) 0 ⟨rfl, rfl, rfl, trivial⟩ ?_ ?_
    ·
      exact ⟨(by omega), rfl, Mo.refl _ _⟩
    intro i HL1 hI1 K8 hN8 hE8
    obtain ⟨hi, he, hlm1⟩ := hI1
    replace ha := ha.nw hlm1
    replace hb := hb.nw hlm1
    replace hx := fun x hx0 => (hx x hx0).nw hlm1
    replace hy := fun x hy0 => (hy x hy0).nw hlm1
    replace hm0 := hm0.tr hlm1
    have hz1 := hlm1.size
    refine CW.seq (fun K9 hK9 hE9 => ?_)
    refine CW.seq (fun K10 hK10 hE10 => ?_)
    refine CW.region ?_
    refine LR.v (Y.move rfl rfl) (Wd.u rfl) rfl rfl ?_
    refine LR.v (Y.move rfl rfl) (Wd.u rfl) rfl rfl ?_
    refine LR.v (Y.len ha rfl Tryz.runUnderlying22 rfl) (Wd.u rfl) rfl rfl ?_
    refine LR.v (Y.lss rfl rfl rfl) (Wd.u rfl) rfl rfl ?_
    refine LR.nil ?_
    refine hK10 _ _ ?_
    refine CW.condp rfl (fun c14 => ?_) (fun c14 => ?_)
    ·
      have hil : i < a.length := by omega
      have hxi := hx a[i] (List.getElem_mem hil)
      have hyi := hy b[i] (List.getElem_mem (by omega))
      refine CW.skip ?_
      refine hK9 _ _ ?_
      refine CW.seq (fun K11 hK11 hE11 => ?_)
      refine CW.block (fun K12 hK12 hX12 hE12 => ?_)
      refine CW.seq (fun K13 hK13 hE13 => ?_)
      refine CW.region_draw rfl (by kernel_rfl) ?_
      refine LR.v (Y.move rfl rfl) (Wd.u rfl) rfl rfl ?_
      refine LR.v (Y.move rfl rfl) (Wd.u rfl) rfl rfl ?_
      refine LR.e (g := fun ad => .pointer (some ad)) (Y.indexAddrF ha (i) rfl Tryz.runUnderlying22 Tryz.sizeOf34 rfl rfl (by first | rfl | omega) (by first | omega | (simp; omega) | (simp; done))) (Wd.u rfl) rfl rfl (fun ad19 pt19 => ?_)
      have bf_pt19 := bf_ha
      refine LR.v (Y.load1 pt19.pt rfl Tryz.isAgg34 rfl) (Wd.u rfl) rfl rfl ?_
      refine LR.v (Y.bstr hxi rfl Tryz.underlying34 Tryz.underlying9 Tryz.underlying5 rfl) (Wd.u rfl) rfl rfl ?_
      refine LR.v (Y.move rfl rfl) (Wd.u rfl) rfl rfl ?_
      refine LR.v (Y.move rfl rfl) (Wd.u rfl) rfl rfl ?_
      refine LR.e (g := fun ad => .pointer (some ad)) (Y.indexAddrF hb (i) rfl Tryz.runUnderlying22 Tryz.sizeOf34 rfl rfl (by first | rfl | omega) (by first | omega | (simp; omega) | (simp; done))) (Wd.u rfl) rfl rfl (fun ad24 pt24 => ?_)
      have bf_pt24 := bf_hb
      refine LR.v (Y.load1 pt24.pt rfl Tryz.isAgg34 rfl) (Wd.u rfl) rfl rfl ?_
      refine LR.v (Y.bstr hyi rfl Tryz.underlying34 Tryz.underlying9 Tryz.underlying5 rfl) (Wd.u rfl) rfl rfl ?_
      refine LR.v (Y.sneq rfl rfl rfl) (Wd.u rfl) rfl rfl ?_
      refine LR.nil ?_
      refine hK13 _ _ ?_
      refine CW.condp rfl (fun c27 => ?_) (fun c27 => ?_)
      ·
        refine CW.seq (fun K14 hK14 hE14 => ?_)
        refine CW.region ?_
        refine LR.v (Y.assign rfl rfl) (Wd.u rfl) rfl rfl ?_
        refine LR.nil ?_
        refine hK14 _ _ ?_
        refine CW.ret (hE12 .ret nofun (by simp) _ _ (hE11 .ret nofun _ _ (hE8 .ret nofun _ _ (hE7 .ret nofun (by simp) _ _ (hE5 .ret nofun _ _ (hret .ret (.inr rfl) _ _ _ (res1 rfl rfl) ?_))))))
        have hne : ¬ recs a = recs b := fun h => c27 (by have : (recs a)[i]? = (recs b)[i]? := (by rw [h]); simp only [recs, List.getElem?_map] at this; rw [List.getElem?_eq_getElem hil, List.getElem?_eq_getElem (by omega)] at this; exact Option.some.inj this)
        exact ⟨by rw [decide_eq_false hne], hm0⟩
      ·
        refine CW.skip ?_
        refine hK12 _ _ ?_
        refine hK11 _ _ ?_
        refine CW.region ?_
        refine LR.v (Y.move rfl rfl) (Wd.u rfl) rfl rfl ?_
        refine LR.v (Y.addi rfl rfl rfl (by omega)) (Wd.u rfl) rfl rfl ?_
        refine LR.v (Y.assign rfl rfl) (Wd.u rfl) rfl rfl ?_
        refine LR.nil ?_
        refine QN.sub (hN8 (i + 1) _ ?_ ?_) ⟨rfl, rfl, (iv (by omega)), trivial⟩
        · exact ⟨(by omega), by rw [List.take_succ_eq_append_getElem (by omega), List.take_succ_eq_append_getElem (by omega), he]; simp only [recs, List.getElem_map]; rw [show a[i].2 = b[i].2 from Decidable.byContradiction (fun h => c27 h)], hlm1⟩
        · first | omega | (simp only; omega) | (simp; omega)
    ·
      refine CW.exit (hE9 (.exit 0) nofun _ _ (hE8 (.exit 0) nofun _ _ (hX7 _ _ ?_)))
      refine hK5 _ _ ?_
      refine CW.seq (fun K15 hK15 hE15 => ?_)
      refine CW.region ?_
      refine LR.v (Y.assign rfl rfl) (Wd.u rfl) rfl rfl ?_
      refine LR.nil ?_
      refine hK15 _ _ ?_
      refine CW.ret (hret .ret (.inr rfl) _ _ _ (res1 rfl rfl) ?_)
      have hil : i = a.length := by omega
      have he2 : recs a = recs b := by rw [← List.take_length (l := recs a), ← List.take_length (l := recs b), hla, hlb, ← hab, ← hil]; exact he
      exact ⟨by rw [decide_eq_true he2], hm0⟩

end Go.Proofs.YtdliddjkacbggaaGreatDoor.WalJ
/-
  A journal's bytes: read by the document; any bytes; bytes that were turned.
-/
namespace Go.Proofs.YtdliddjkacbggaaGreatDoor.WalK
open Go.Proofs.YtdliddjkacbggaaGreatDoor.E Go.RowKit Go.Proofs.YtdliddjkacbggaaGreatDoor.SumB Go.Proofs.YtdliddjkacbggaaGreatDoor.SumC Go.Proofs.YtdliddjkacbggaaGreatDoor.SumF Go.Proofs.YtdliddjkacbggaaGreatDoor.SumG Go.Proofs.YtdliddjkacbggaaGreatDoor.DelA Go.Proofs.YtdliddjkacbggaaGreatDoor.SimA Go.Proofs.YtdliddjkacbggaaGreatDoor.SimB Go.Proofs.YtdliddjkacbggaaGreatDoor.SimR Go.Proofs.YtdliddjkacbggaaGreatDoor.WalA Go.Proofs.YtdliddjkacbggaaGreatDoor.WalB Go.Proofs.YtdliddjkacbggaaGreatDoor.WalC Go.Proofs.YtdliddjkacbggaaGreatDoor.WalI Go.Proofs.YtdliddjkacbggaaGreatDoor.WalJ
set_option maxRecDepth 20000
set_option linter.unusedVariables false
set_option linter.unusedSimpArgs false
set_option linter.unusedSectionVars false
set_option maxRecDepth 100000 in
theorem inf22 : Inf Tryz.prog 22 34 1 24 := ⟨Tryz.underlying22, _, _, rfl, rfl, rfl, rfl, rfl⟩
set_option maxRecDepth 100000 in
theorem inf34 : Inf Tryz.prog 34 5 1 1 := ⟨Tryz.underlying34, _, _, rfl, rfl, rfl, rfl, rfl⟩

end Go.Proofs.YtdliddjkacbggaaGreatDoor.WalK
