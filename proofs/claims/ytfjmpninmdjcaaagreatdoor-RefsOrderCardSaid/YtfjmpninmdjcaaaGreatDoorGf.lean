/-
  Contracts of functions of the program, and plain laws: put together of several texts.
-/
import Derived.Test.YtfjmpninmdjcaaaGreatDoorGe
import Derived.Test.YtfjmpninmdjcaaaGreatDoorGa
import Derived.Test.YtfjmpninmdjcaaaGreatDoorGb
import Derived.Shelf.Vars
import Derived.Test.YtfjmpninmdjcaaaGreatDoorGc
import Derived.SizedLaws
set_option linter.unusedVariables false
set_option linter.unusedSimpArgs false
set_option linter.unusedSectionVars false
set_option linter.defProp false

namespace Go.Proofs.YtfjmpninmdjcaaaGreatDoor.WalE
open E Go.RowKit SimA SimB SimC SimD SimE SimF SimG SimH SimI SimQ SimR WalA WalB WalC WalD
set_option maxRecDepth 20000
set_option maxRecDepth 100000 in
theorem inf291 : Inf Tryz.prog 291 230 1 8 := ⟨Tryz.underlying291, _, _, rfl, rfl, rfl, rfl, rfl⟩
section
variable {w0 : World} {K : List Nat} {H : Heap} {mx_ : Int} {b c lb n c3 c7 N : Nat} {p : Pth} {br : Bool} {s : SV} {F : Nat → Prop} {D : Dk}
theorem ck_steps {l : List (SV × Rec)} (hS : LgS K H mx_ b c lb p n br) (h7 : VaS K H 9 c7 [Str (newP p)]) (h3 : VaS K H 104 c3 [s.v]) (hr : RwS K F H fP s.v l) (hx : ∀ x ∈ l, Rd F H fB 1 x.1.v x.2)
 (hrl : ∀ x ∈ l, x.2.length ≤ 1048576) (hel : (encN 0 (recs l)).length ≤ 274877900000) (hl : p.length ≤ 4294960000) (hB : Bs N D) (hN : N + 4 * ((encW (recs l)).length + 20) ≤ 536870912) :
 ∀ (i : Nat) (h : i < ([(169, [ptr c, ptr c7, ptr c3]), (172, [ptr c, ptr c7]), (173, [ptr c, ptr c7]), (175, [ptr c])] : List FnV).length) (K' : List Nat) (g' : Gh) (H' : Heap), PDk K' g' H' b (runD ((frS p (recs l)).take i) D).2 → NxK K H.size K' → Mo (Ms K) H H' →
  CloD w0 b (stp (frS p (recs l)) i) (.func (.func ([(169, [ptr c, ptr c7, ptr c3]), (172, [ptr c, ptr c7]), (173, [ptr c, ptr c7]), (175, [ptr c])] : List FnV)[i].1) #[] ([(169, [ptr c, ptr c7, ptr c3]), (172, [ptr c, ptr c7]), (173, [ptr c, ptr c7]), (175, [ptr c])] : List FnV)[i].2.toArray) K' H' (runD ((frS p (recs l)).take i) D).2 := by
 intro i hi K' g' H' hf hK hm
 have hB2 : Bd 274877906944 (runD ((frS p (recs l)).take i) D).2 := (bs_runT i (frS_bs p (recs l)) hB).bd (by have : (frS p (recs l)).length = 4 := rfl; rw [this]; omega)
 have hS := hS.up hm hK
 have h7 := h7.up hm hK
 have h3 := h3.up hm hK
 have hx2 : ∀ x ∈ l, Rd F H' fB 1 x.1.v x.2 := fun x h => (hx x h).upL hm hr.df
 have hr := hr.up hm hK
 match i, hi with
 | 0, _ => exact Clo.of (caps := [ptr c, ptr c7, ptr c3]) (args := []) c'169 (cwrite_ct mx_ K' g' b _ c lb p n br c7 c3 s l F w0 _ hf hS.mx hS.bmx hS.dmx hS.cv hS.lg hS.dc hS.dl h7.v h7.d h3.v h3.d hr.rd hr.bf hr.df hx2 hr.bf hr.df hrl hel hl hB2)
 | 1, _ => exact Clo.of (caps := [ptr c, ptr c7]) (args := []) c'172 (csync_ct mx_ K' g' b _ c lb p n br c7 w0 _ hf hS.mx hS.bmx hS.dmx hS.cv hS.lg hS.dc hS.dl h7.v h7.d hl hB2)
 | 2, _ => exact Clo.of (caps := [ptr c, ptr c7]) (args := []) c'173 (cren_ct mx_ K' g' b _ c lb p n br c7 w0 _ hf hS.mx hS.bmx hS.dmx hS.cv hS.lg hS.dc hS.dl h7.v h7.d hl hB2)
 | 3, _ => exact Clo.of (caps := [ptr c]) (args := []) c'175 (csd_ct mx_ K' g' b _ c lb p n br w0 _ hf hS.mx hS.bmx hS.dmx hS.cv hS.lg hS.dc hS.dl hl hB2)
theorem ap_steps {rc : Rec} (hS : LgS K H mx_ b c lb p n br) (h3 : VaS K H 57 c3 [s.v]) (hr : RwS K F H fB s.v rc) (hrl : rc.length ≤ 1048576) (hl : p.length ≤ 4294960000) (hB : Bs N D) (hN : N + 4 * (rc.length + 20) ≤ 536870912) :
 ∀ (i : Nat) (h : i < ([(109, [ptr c, ptr c3]), (106, [ptr c]), (112, [ptr c]), (106, [ptr c])] : List FnV).length) (K' : List Nat) (g' : Gh) (H' : Heap), PDk K' g' H' b (runD ((apS p n rc).take i) D).2 → NxK K H.size K' → Mo (Ms K) H H' →
  CloD w0 b (stp (apS p n rc) i) (.func (.func ([(109, [ptr c, ptr c3]), (106, [ptr c]), (112, [ptr c]), (106, [ptr c])] : List FnV)[i].1) #[] ([(109, [ptr c, ptr c3]), (106, [ptr c]), (112, [ptr c]), (106, [ptr c])] : List FnV)[i].2.toArray) K' H' (runD ((apS p n rc).take i) D).2 := by
 intro i hi K' g' H' hf hK hm
 have hB2 : Bd 274877906944 (runD ((apS p n rc).take i) D).2 := (bs_runT i (apS_bs p n rc) hB).bd (by have : (apS p n rc).length = 4 := rfl; rw [this]; omega)
 have hS := hS.up hm hK
 have h3 := h3.up hm hK
 have hr := hr.up hm hK
 match i, hi with
 | 0, _ => exact Clo.of (caps := [ptr c, ptr c3]) (args := []) c'109 (alay_ct mx_ K' g' b _ c lb p n br c3 s rc F w0 _ hf hS.mx hS.bmx hS.dmx hS.cv hS.lg hS.dc hS.dl h3.v h3.d hr.rd hr.bf hr.df (by omega) (by omega) hB2)
 | 1, _ => exact Clo.of (caps := [ptr c]) (args := []) c'106 (async_ct mx_ K' g' b _ c lb p n br w0 _ hf hS.mx hS.bmx hS.dmx hS.cv hS.lg hS.dc hS.dl (by omega) hB2)
 | 2, _ => exact Clo.of (caps := [ptr c]) (args := []) c'112 (amark_ct mx_ K' g' b _ c lb p n br w0 _ hf hS.mx hS.bmx hS.dmx hS.cv hS.lg hS.dc hS.dl (by omega) hB2)
 | 3, _ => exact Clo.of (caps := [ptr c]) (args := []) c'106 (async_ct mx_ K' g' b _ c lb p n br w0 _ hf hS.mx hS.bmx hS.dmx hS.cv hS.lg hS.dc hS.dl (by omega) hB2)
end
theorem encN_parL_le (b : List UInt8) : (encN 0 (parL b)).length ≤ b.length ∧ (encW (parL b)).length ≤ b.length + 8 := by
 by_cases h : parE b = 0
 · obtain ⟨t, e, _⟩ := parL_pre h
   have h2 := congrArg List.length e
   rw [List.length_append] at h2
   unfold encW at h2 ⊢
   rw [List.length_append] at h2 ⊢
   omega
 · have : parL b = [] := by unfold parE at h; unfold parL; split at h; exact absurd rfl h; rename_i h8; rw [if_neg h8]
   rw [this]; simp [encN, encW, W8]
theorem encN_sub (l : List Rec) (n : Nat) : (encN 0 (l.take n)).length ≤ (encN 0 l).length := by
 conv => rhs; rw [← List.take_append_drop n l, encN_app]
 rw [List.length_append]; omega
def mendD (D : Dk) (p : Pth) (n : Nat) : Nat × Dk := if D.readE p ≠ 0 then (D.readE p, D) else if parE (D.readL p) ≠ 0 then (parE (D.readL p), D) else freshD D p ((parL (D.readL p)).take n)
def mendN (D : Dk) (p : Pth) (n : Nat) : Nat := ((parL (D.readL p)).take n).length
def lgN (e m n : Nat) : Nat := if e = 0 then m else n
def lgB (e : Nat) (br : Bool) : Bool := if e = 0 then false else br
def preD (D : Dk) (p : Pth) (n : Nat) (br : Bool) : Nat × Nat × Dk := if br = true then ((mendD D p n).1, mendN D p n, (mendD D p n).2) else (0, n, D)
def appD (D : Dk) (p : Pth) (n : Nat) (br : Bool) (r : Rec) : Nat × Nat × Bool × Dk :=
 if (preD D p n br).1 ≠ 0 then ((preD D p n br).1, n, br, (preD D p n br).2.2)
 else
  let q := runD (apS p (preD D p n br).2.1 r) (preD D p n br).2.2
  (q.1, if q.1 = 0 then (preD D p n br).2.1 + 1 else (preD D p n br).2.1, if q.1 = 0 then false else true, q.2)
theorem bs_mend {N : Nat} {D : Dk} (h : Bs N D) (p : Pth) (n : Nat) : Bs (N + 4 * (N + 28)) (mendD D p n).2 := by
 unfold mendD; split
 · exact h.mono (by omega)
 · split
   · exact h.mono (by omega)
   · refine (bs_fresh h p _).mono ?_
     have h1 := (encN_parL_le (D.readL p)).1
     have h2 := encN_sub (parL (D.readL p)) n
     have h3 : (D.readL p).length ≤ N := by
      unfold Dk.readL Dk.wasL; split
      · split
        · exact (h.f _).1
        · exact Nat.zero_le _
      · exact Nat.zero_le _
     have h8 : W8.length = 8 := rfl
     unfold encW; rw [List.length_append]; omega
theorem readL_bd {N : Nat} {D : Dk} (h : Bs N D) (p : Pth) : (D.readL p).length ≤ N := by
 unfold Dk.readL Dk.wasL; split
 · split
   · exact (h.f _).1
   · exact Nat.zero_le _
 · exact Nat.zero_le _
theorem bs_app {N : Nat} {D : Dk} (h : Bs N D) (p : Pth) (n : Nat) (br : Bool) (r : Rec) : Bs (N + 4 * (N + 28) + 4 * (r.length + 20)) (appD D p n br r).2.2.2 := by
 have h1 : Bs (N + 4 * (N + 28)) (preD D p n br).2.2 := by
  unfold preD; split
  · exact bs_mend h p n
  · exact h.mono (by omega)
 unfold appD; split
 · exact h1.mono (by omega)
 · exact (bs_run (apS_bs p _ r) h1).mono (by simp [apS]; omega)
set_option maxHeartbeats 4000000 in
theorem ckpt_ct (mx_ : Int) (K : List Nat) (g : Gh) (b : Nat) (D : Dk) (lb : Nat) (p : Pth) (n : Nat) (br : Bool) (s : SV) (l : List (SV × Rec)) (F : Nat → Prop) (N : Nat) (w0 : World) (H0 : Heap)
 (hf : PDk K g H0 b D) (mx : MX mx_ H0) (bf_mx : BF (fun b => b = 0) H0.size) (dmx : DFL (fun b => b = 0) K) (hlg : Var 206 H0 lb [ptr b, Str p, .int .i64 (n : Int), .bool br]) (dl : DL (lb + 1) K) (dmv : DF (fun b => b = 0) (lb + 1)) (hr : Rd F H0 fP 1 s.v l) (bf_hr : BF F H0.size) (dfr : DFL F K) (hx : ∀ x ∈ l, Rd F H0 fB 1 x.1.v x.2) (bf_hx : BF F H0.size) (dfx : DFL F K) (hrl : ∀ x ∈ l, x.2.length ≤ 1048576) (hel : (encN 0 (recs l)).length ≤ 274877900000) (dlr : DF F (lb + 1)) (dlx : DF F (lb + 1)) (hl : p.length ≤ 4294960000) (hB : Bs N D) (hN : N + 4 * ((encW (recs l)).length + 20) ≤ 536870912) (hml : l.length ≤ 1073741824) :
 Ct Tryz.prog w0 90 #[ptr lb, s.v] H0 (fun r H2 => ∃ K2 : List Nat, ∃ g2 : Gh, r = .int .i64 ((freshD D p (recs l)).1 : Int) ∧ (PDk K2 g2 H2 b (freshD D p (recs l)).2) ∧ (NxK K H0.size K2) ∧ (Var 206 H2 lb [ptr b, Str p, .int .i64 (lgN (freshD D p (recs l)).1 l.length n : Int), .bool (lgB (freshD D p (recs l)).1 br)]) ∧ (DL (lb + 1) K2) ∧ Mo (Ms (K ++ [(lb + 1)])) H0 H2) := by
 refine Ct.enter (args := [ptr lb, s.v]) Tryz.func90 rfl rfl rfl ?_
 intro Q0 hret
 have hm0 : Mo (Ms (K ++ [(lb + 1)])) H0 H0 := Mo.refl _ _
 have nx_hm0_hf := NxK.refl K H0.size
 have hbk_hf := hf.bk
 have nx_hm0_hlg := Nx.refl (lb + 1) H0.size
 have hlt_hlg := hlg.lt
 refine CW.s1 (fun hK1 => CW.region ?_)
 refine LR.z1 (Z.boxv1 rfl rfl (rfl)) fun v2 H2 r2 => ?_
 obtain ⟨rfl, hc2, hs2, ob2, hH2⟩ := r2
 have hzs2 : H2.size = H0.size + 1 := by rw [hH2]; simp
 have dj1 : DL (H0.size + 1) K := DL.newK hf.bk
 have dj3 : Dj (lb + 1) (H0.size + 1) := Dj.new hlg.lt
 replace hf := hf.nw hs2
 replace mx := mx.nw hs2
 replace hlg := hlg.nw hs2
 replace hr := hr.nw hs2
 replace hx := fun x hx_ => (hx x hx_).nw hs2
 replace hm0 := hm0.trN hs2
 have hz1 := hs2.size
 replace hc2 : Var 103 H2 H0.size ([ptr lb]) := hc2
 refine LR.z1 (Z.boxv1 rfl rfl ((hr).oneCell)) fun v3 H3 r3 => ?_
 obtain ⟨rfl, hc3, hs3, ob3, hH3⟩ := r3
 have hzs3 : H3.size = H2.size + 1 := by rw [hH3]; simp
 have dj7 : DL (H2.size + 1) K := DL.newK hf.bk
 have dj9 : Dj (lb + 1) (H2.size + 1) := Dj.new hlg.lt
 replace hf := hf.nw hs3
 replace mx := mx.nw hs3
 replace hlg := hlg.nw hs3
 replace hr := hr.nw hs3
 replace hx := fun x hx_ => (hx x hx_).nw hs3
 replace hc2 := hc2.nw hs3
 replace hm0 := hm0.trN hs3
 have hz2 := hs3.size
 replace hc3 : Var 104 H3 H2.size ([s.v]) := hc3
 refine LR.a1 (LR.nil (hK1 _ _ ?_))
 refine CW.seq (fun K2 hK2 _ => CW.s1 (fun hK3 => CW.region ?_))
 refine LR.v1 (Y.load1 hc3.pt rfl a'104 rfl) ?_
 refine LR.v1 (Y.len hr rfl u'104 rfl) ?_
 refine LR.m1 (LR.nil (hK3 _ _ ?_))
 refine CW.block (fun _ _ hX4 _ => ?_)
 refine CW.loop (fun (i : (Nat)) => [(2, .pointer (some ⟨H0.size, 0, none⟩)), (3, .pointer (some ⟨H2.size, 0, none⟩)), (9, s.v), (10, .int .i64 (l.length : Int)), (11, .int .i64 (i : Int))])
  (fun (i : (Nat)) (H : Heap) => (i ≤ l.length) ∧ Nw H3 H)
  (fun (i : (Nat)) => l.length - i) 0 ⟨rfl, rfl, rfl, rfl, rfl, trivial⟩ ?_ ?_
 ·
  exact ⟨(by omega), Mo.refl _ _⟩
 intro i HL1 hI1 K5 hN5 hE5
 obtain ⟨hi, hlm1⟩ := hI1
 replace hf := hf.nw hlm1
 replace mx := mx.nw hlm1
 replace hlg := hlg.nw hlm1
 replace hr := hr.nw hlm1
 replace hx := fun x hx_ => (hx x hx_).nw hlm1
 replace hc2 := hc2.nw hlm1
 replace hc3 := hc3.nw hlm1
 replace hm0 := hm0.trN hlm1
 have hz3 := hlm1.size
 refine CW.s1 (fun hK6 => CW.region ?_)
 refine LR.v1 (Y.lss rfl rfl rfl) (LR.nil (hK6 _ _ ?_))
 refine CW.s2 (fun hK7 hE7 => ?_)
 refine CW.condp rfl (fun c12 => ?_) (fun c12 => ?_)
 ·
  have hil : i < l.length := by omega
  have hxi := hx l[i] (List.getElem_mem hil)
  have hri := hrl l[i] (List.getElem_mem hil)
  refine CW.skip (hK7 _ _ (CW.s1 (fun hK8 => CW.block (fun _ hK9 _ _ => CW.s1 (fun hK10 => CW.region ?_)))))
  refine LR.e1 (g := fun ad => .pointer (some ad)) (Y.iF hr (i) rfl u'104 s'57 rfl rfl) fun ad13 pt13 => ?_
  refine LR.v1 (Y.load1 pt13.pt rfl a'57 rfl) ?_
  refine LR.a1 (LR.nil (hK10 _ _ ?_))
  refine CW.s1 (fun hK11 => CW.region ?_)
  refine LR.m1 ?_
  refine LR.v1 (Y.len hxi rfl u'57 rfl) ?_
  refine LR.v1 ((Y.gtr rfl rfl rfl).isF (by omega)) (LR.nil (hK11 _ _ ?_))
  refine CW.cond_f rfl ?_
  refine CW.skip (hK9 _ _ (hK8 _ _ (CW.region ?_)))
  refine LR.v1 (Y.addi rfl rfl rfl (by omega)) ?_
  refine LR.m1 (LR.nil ?_)
  refine QN.sub (hN5 (i + 1) _ ?_ ?_) ⟨rfl, rfl, rfl, (iv (by omega)), (iv (by omega)), trivial⟩
  · exact ⟨(by omega), hlm1⟩
  · first | omega | (simp only; omega) | (simp; omega)
 ·
  refine CW.exit (hE7 (.exit 0) nofun _ _ (hE5 (.exit 0) nofun _ _ (hX4 _ _ ?_)))
  refine hK2 _ _ (CW.s1 (fun hK12 => CW.region ?_))
  refine LR.v1 (Y.load1 hc2.pt rfl a'103 rfl) ?_
  refine LR.v1 (Y.nilCheck rfl rfl) ?_
  refine LR.v1 (Y.FA hlg.pt rfl u'206 rfl s'9) ?_
  refine LR.v1 (Y.load1 (hlg.pt.drop 1) rfl a'9 rfl) ?_
  refine LR.v1 (Y.cast (v2 := Str (newP p)) (Y.sadd rfl rfl rfl (by simp only [List.length_cons, List.length_nil]; omega)) (rfl)) ?_
  refine LR.z1 (Z.allocv rfl z'9) fun v7 H7 r7 => ?_
  obtain ⟨rfl, hc7, hs7, ob7, hH7⟩ := r7
  have hzs7 : H7.size = HL1.size + 1 := by rw [hH7]; simp
  have dj14 : DL (HL1.size + 1) K := DL.newK hf.bk
  have df15 := (DF.new (bf_mx.mono hm0.size) : DF _ (HL1.size + 1))
  have dj16 : Dj (lb + 1) (HL1.size + 1) := Dj.new hlg.lt
  have df17 := (DF.new (bf_hr.mono hm0.size) : DF _ (HL1.size + 1))
  have df18 := (DF.new (bf_hx.mono hm0.size) : DF _ (HL1.size + 1))
  have dj19 : Dj (H0.size + 1) (HL1.size + 1) := Dj.new hc2.lt
  have dj20 : Dj (H2.size + 1) (HL1.size + 1) := Dj.new hc3.lt
  have nx21 : Nx 0 H0.size (HL1.size + 1) := Nx.new hm0.size
  replace hf := hf.nw hs7
  replace mx := mx.nw hs7
  replace hlg := hlg.nw hs7
  replace hr := hr.nw hs7
  replace hx := fun x hx_ => (hx x hx_).nw hs7
  replace hc2 := hc2.nw hs7
  replace hc3 := hc3.nw hs7
  replace hm0 := hm0.trN hs7
  have hz4 := hs7.size
  replace hc7 : Var 9 H7 HL1.size ([Str []]) := hc7
  refine LR.s1 (S.var1 hc7 0 ([Str (newP p)]) rfl rfl rfl (rfl) s'9 (by simp) (rfl)) fun H7_6 r7_6 => ?_
  obtain ⟨hc7, hs7_6⟩ := r7_6
  replace hs7_6 := hs7_6.md1
  replace hf := hf.upL hs7_6 (DKL.cons dj14 DKL.nil)
  replace mx := mx.upL hs7_6 (DFL.o df15)
  replace hlg := hlg.upL hs7_6 (DL.o dj16)
  replace hr := hr.upL hs7_6 (DFL.o df17)
  replace hx := fun x hx_ => (hx x hx_).upL hs7_6 (DFL.o df18)
  replace hc2 := hc2.upL hs7_6 (DL.o dj19)
  replace hc3 := hc3.upL hs7_6 (DL.o dj20)
  replace hm0 := hm0.trL hs7_6 (MIL.o (MI.q nx21))
  have hz5 := hs7_6.size
  refine LR.nil (hK12 _ _ (CW.s1 (fun hK13 => CW.region ?_)))
  refine LR.v1 (Y.makeFunc rfl rfl) ?_
  refine LR.v1 (Y.makeFunc rfl rfl) ?_
  refine LR.v1 (Y.makeFunc rfl rfl) ?_
  refine LR.v1 (Y.makeFunc rfl rfl) ?_
  refine LR.z1 (Z.litw _ (([(169, [ptr H0.size, ptr HL1.size, ptr H2.size]), (172, [ptr H0.size, ptr HL1.size]), (173, [ptr H0.size, ptr HL1.size]), (175, [ptr H0.size])] : List FnV)) rfl inf291 rfl rfl rfl (by decide) (by decide) fFn_len fFn_one (rfl)) fun v28 H28 r28 => ?_
  obtain ⟨ow28, hs28, ob28, hH28⟩ := r28
  have hzs28 : H28.size = H7_6.size + 1 := by rw [hH28]; simp
  have dj22 : DL (H7_6.size + 1) K := DL.newK hf.bk
  replace hf := hf.nw hs28
  replace mx := mx.nw hs28
  replace hlg := hlg.nw hs28
  replace hr := hr.nw hs28
  replace hx := fun x hx_ => (hx x hx_).nw hs28
  replace hc2 := hc2.nw hs28
  replace hc3 := hc3.nw hs28
  replace hc7 := hc7.nw hs28
  replace hm0 := hm0.trN hs28
  have hz6 := hs28.size
  refine LR.call rfl c'108 rfl (Wd.u rfl) rfl rfl (first_ct K g b D v28 [(169, [ptr H0.size, ptr HL1.size, ptr H2.size]), (172, [ptr H0.size, ptr HL1.size]), (173, [ptr H0.size, ptr HL1.size]), (175, [ptr H0.size])] (frS p (recs l)) _ w0 _ hf ow28.rd (BF.of ow28.le) (DFL.of (dj22)) rfl (ck_steps (LgS.mk mx (bf_mx.mono (by omega)) (dmx) hc2 hlg (dj1) (dl)) (VaS.mk hc7 (dj14)) (VaS.mk hc3 (dj7)) (RwS.mk hr (bf_hr.mono (by omega)) (dfr)) hx hrl hel hl hB hN)) (fun v29 H29 r29 => ?_)
  have ql32 := hlg.lt
  obtain ⟨K29, g29, rfl, hf, hkd29, hs29⟩ := r29
  have dj38 : DL (lb + 1) K29 := DL.appK (dl) ql32 hkd29
  have nx45 : NxK K H0.size K29 := NxK.tr (nx_hm0_hf) hkd29 hm0.size
  replace hlg := hlg.upL hs29 (dl)
  replace hr := hr.upL hs29 (dfr)
  replace hc2 := hc2.upL hs29 (dj1)
  replace hc3 := hc3.upL hs29 (dj7)
  replace hm0 := hm0.trL hs29 (MIL.ofK (nx_hm0_hf) (by intro k hk; simp [hk]))
  have hz7 := hs29.size
  have hbk_hf := hf.bk
  refine LR.a1 (LR.nil (hK13 _ _ ?_))
  refine CW.s1 (fun hK14 => CW.s1 (fun hK15 => CW.region ?_))
  refine LR.m1 ?_
  refine LR.v1 (Y.eql rfl rfl rfl) (LR.nil (hK15 _ _ ?_))
  refine CW.condp rfl (fun c31 => ?_) (fun c31 => ?_)
  ·
   refine CW.region_any (fun Hq => Mo (Ms [(lb + 1)]) H29 Hq) [] rfl ?_
   have hq10 : Mo (Ms [(lb + 1)]) H29 H29 := Mo.refl _ _
   have nx46 := Nx.refl (lb + 1) H29.size
   refine LH.t1 0 rfl (fun Hq hq => Y.load1 (hc2.upL hq (DL.o dj3.symm)).pt rfl a'103 rfl) hq10 ?_
   refine LH.t1 1 rfl (fun Hq hq => Y.load1 (hc2.upL hq (DL.o dj3.symm)).pt rfl a'103 rfl) hq10 ?_
   refine LH.t1 2 rfl (fun Hq hq => Y.load1 (hc3.upL hq (DL.o dj9.symm)).pt rfl a'104 rfl) hq10 ?_
   refine LH.t1 3 rfl (fun Hq hq => Y.len (hr.upL hq (DFL.o dlr)) rfl u'104 rfl) hq10 ?_
   refine LH.t1 4 rfl (fun Hq hq => Y.nilCheck rfl rfl) hq10 ?_
   refine LH.t1 5 rfl (fun Hq hq => Y.fieldAddrX hlg.pt rfl u'206 rfl rfl s'3 (by decide) rfl) hq10 ?_
   refine LH.o1 6 ?_
   refine LO.s rfl (S.var1 hlg 2 ([ptr b, Str p, .int .i64 (l.length : Int), .bool br]) rfl rfl rfl (rfl) s'3 (by simp) (rfl)) (Wd.u rfl) rfl (fun H10_6 r10_6 => ?_)
   obtain ⟨hlg, hs10_6⟩ := r10_6
   replace hs10_6 := hs10_6.md1
   replace hf := hf.upL hs10_6 (DKL.cons dj38 DKL.nil)
   replace hm0 := hm0.trL hs10_6 (MIL.o (MI.r nx_hm0_hlg))
   replace hq10 := hq10.trL hs10_6 (MIL.o (MI.r nx46))
   have hz8 := hs10_6.size
   refine ⟨.inr hq10, LH.narrow (SH2 := fun Hq => Mo (Ms [(lb + 1)]) H10_6 Hq) (fun Hq hq => hq10.trL hq (MIL.o (MI.r nx46))) ?_⟩
   have hq10 : Mo (Ms [(lb + 1)]) H10_6 H10_6 := Mo.refl _ _
   have nx47 := Nx.refl (lb + 1) H10_6.size
   refine LH.t1 7 rfl (fun Hq hq => Y.nilCheck rfl rfl) hq10 ?_
   refine LH.t1 8 rfl (fun Hq hq => Y.fieldAddrX hlg.pt rfl u'206 rfl rfl s'4 (by decide) rfl) hq10 ?_
   refine LH.o1 9 ?_
   refine LO.s rfl (S.var1 hlg 3 ([ptr b, Str p, .int .i64 (l.length : Int), .bool false]) rfl rfl rfl (rfl) s'4 (by simp) (rfl)) (Wd.u rfl) rfl (fun H10_9 r10_9 => ?_)
   obtain ⟨hlg, hs10_9⟩ := r10_9
   replace hs10_9 := hs10_9.md1
   replace hf := hf.upL hs10_9 (DKL.cons dj38 DKL.nil)
   replace hm0 := hm0.trL hs10_9 (MIL.o (MI.r nx_hm0_hlg))
   replace hq10 := hq10.trL hs10_9 (MIL.o (MI.r nx47))
   have hz9 := hs10_9.size
   refine ⟨.inr hq10, LH.narrow (SH2 := fun Hq => Mo (Ms [(lb + 1)]) H10_9 Hq) (fun Hq hq => hq10.trL hq (MIL.o (MI.r nx47))) ?_⟩
   refine LH.done (by kernel_rfl) ?_
   refine hK14 _ _ (CW.s1 (fun hK16 => CW.region ?_))
   refine LR.m1 ?_
   refine LR.a1 (LR.nil (hK16 _ _ ?_))
   refine CW.ret (hret .ret (.inr rfl) _ _ _ (res1 rfl rfl) ?_)
   have he0 : (runD (frS p (recs l)) D).1 = 0 := by omega
   exact ⟨_, _, rfl, hf, nx45, by unfold lgN lgB freshD; rw [if_pos he0, if_pos he0]; exact hlg, dj38, hm0⟩
  ·
   refine CW.skip (hK14 _ _ (CW.s1 (fun hK17 => CW.region ?_)))
   refine LR.m1 ?_
   refine LR.a1 (LR.nil (hK17 _ _ ?_))
   refine CW.ret (hret .ret (.inr rfl) _ _ _ (res1 rfl rfl) ?_)
   have he0 : (runD (frS p (recs l)) D).1 ≠ 0 := by omega
   exact ⟨_, _, rfl, hf, nx45, by unfold lgN lgB freshD; rw [if_neg he0, if_neg he0]; exact hlg, dj38, hm0⟩
end Go.Proofs.YtfjmpninmdjcaaaGreatDoor.WalE

namespace Go.Proofs.YtfjmpninmdjcaaaGreatDoor.WalF
open E Go.RowKit SimA SimB SimC SimD SimE SimF SimG SimH SimI SimQ SimR WalA WalB WalC WalD WalE
set_option maxRecDepth 20000
set_option maxRecDepth 100000 in
theorem inf291 : Inf Tryz.prog 291 230 1 8 := ⟨Tryz.underlying291, _, _, rfl, rfl, rfl, rfl, rfl⟩
theorem mend_1 {D : Dk} {p : Pth} {n : Nat} (h : D.readE p ≠ 0) : mendD D p n = (D.readE p, D) := by unfold mendD; rw [if_pos h]
theorem mend_2 {D : Dk} {p : Pth} {n : Nat} (h : D.readE p = 0) (h2 : parE (D.readL p) ≠ 0) : mendD D p n = (parE (D.readL p), D) := by unfold mendD; rw [if_neg (by omega), if_pos h2]
theorem mend_3 {D : Dk} {p : Pth} {n : Nat} (h : D.readE p = 0) (h2 : parE (D.readL p) = 0) : mendD D p n = freshD D p ((parL (D.readL p)).take n) := by unfold mendD; rw [if_neg (by omega), if_neg (by omega)]
theorem recs_take (l : List (SV × Rec)) (i n : Nat) (h : i = min n l.length) : recs (l.take i) = (recs l).take n := by
 unfold recs; rw [List.map_take, h]
 rcases Nat.le_total n l.length with h2 | h2
 · rw [Nat.min_eq_left h2]
 · rw [Nat.min_eq_right h2, List.take_of_length_le (by simp), List.take_of_length_le (by simpa using h2)]
theorem encW_bd (b : List UInt8) (n : Nat) : (encW ((parL b).take n)).length ≤ b.length + 8 := by
 have h1 := (encN_parL_le b).1
 have h2 := encN_sub (parL b) n
 have h8 : W8.length = 8 := rfl
 unfold encW; rw [List.length_append]; omega
theorem parL_many (b : List UInt8) : (parL b).length ≤ b.length + 8 := Nat.le_trans (encW_many _) (encN_parL_le b).2
theorem lgN_0 {m n e : Nat} (h : e = 0) : lgN e m n = m := if_pos h
theorem lgB_0 {e : Nat} {br : Bool} (h : e = 0) : lgB e br = false := if_pos h
theorem lgN_1 {m n e : Nat} (h : e ≠ 0) : lgN e m n = n := if_neg h
theorem lgB_1 {e : Nat} {br : Bool} (h : e ≠ 0) : lgB e br = br := if_neg h
set_option maxHeartbeats 4000000 in
theorem mend_ct (mx_ : Int) (K : List Nat) (g : Gh) (b : Nat) (D : Dk) (lb : Nat) (p : Pth) (n : Nat) (br : Bool) (N : Nat) (w0 : World) (H0 : Heap)
 (hf : PDk K g H0 b D) (mx : MX mx_ H0) (bf_mx : BF (fun b => b = 0) H0.size) (dmx : DFL (fun b => b = 0) K) (hlg : Var 206 H0 lb [ptr b, Str p, .int .i64 (n : Int), .bool br]) (dl : DL (lb + 1) K) (dmv : DF (fun b => b = 0) (lb + 1)) (hl : p.length ≤ 4294960000) (hB : Bs N D) (hN : N ≤ 90000000) (hnn : n ≤ 1073741824) :
 Ct Tryz.prog w0 105 #[ptr lb] H0 (fun r H2 => ∃ K2 : List Nat, ∃ g2 : Gh, r = .int .i64 ((mendD D p n).1 : Int) ∧ (PDk K2 g2 H2 b (mendD D p n).2) ∧ (NxK K H0.size K2) ∧ (Var 206 H2 lb [ptr b, Str p, .int .i64 (lgN (mendD D p n).1 (mendN D p n) n : Int), .bool (lgB (mendD D p n).1 br)]) ∧ (DL (lb + 1) K2) ∧ Mo (Ms (K ++ [(lb + 1)])) H0 H2) := by
 refine Ct.enter (args := [ptr lb]) Tryz.func105 rfl rfl rfl ?_
 intro Q0 hret
 have hm0 : Mo (Ms (K ++ [(lb + 1)])) H0 H0 := Mo.refl _ _
 have nx_hm0_hf := NxK.refl K H0.size
 have hbk_hf := hf.bk
 have nx_hm0_hlg := Nx.refl (lb + 1) H0.size
 have hlt_hlg := hlg.lt
 have hrb := readL_bd hB p
 have hcm := encW_bd (D.readL p)
 have hpm := parL_many (D.readL p)
 refine CW.s1 (fun hK1 => CW.region ?_)
 refine LR.a1 (LR.nil (hK1 _ _ ?_))
 refine CW.seq (fun K2 hK2 _ => ?_)
 refine CW.region_any (fun Hq => Nw H0 Hq) [] rfl ?_
 have hqs := Nw.refl H0
 refine LH.m1 0 rfl hqs ?_
 refine LH.t1 1 rfl (fun Hq hq => Y.nilCheck rfl rfl) hqs ?_
 refine LH.t1 2 rfl (fun Hq hq => Y.FA (hlg.pt.nw hq) rfl u'206 rfl s'34) hqs ?_
 refine LH.t1 3 rfl (fun Hq hq => Y.load1 (hlg.pt.nw hq) rfl a'34 rfl) hqs ?_
 refine LH.m1 4 rfl hqs ?_
 refine LH.t1 5 rfl (fun Hq hq => Y.nilCheck rfl rfl) hqs ?_
 refine LH.t1 6 rfl (fun Hq hq => Y.FA (hlg.pt.nw hq) rfl u'206 rfl s'9) hqs ?_
 refine LH.t1 7 rfl (fun Hq hq => Y.load1 ((hlg.pt.drop 1).nw hq) rfl a'9 rfl) hqs ?_
 refine LH.o1 8 ?_
 refine LO.call rfl rfl c'89 rfl (Wd.u rfl) rfl rfl (read_ct mx_ K g b D p w0 _ mx (bf_mx.mono (by omega)) hf (by omega) (fun i => by have := (hB.f i).1; omega)) (fun v16 H16 r16 => ?_)
 obtain ⟨s16, k16, rfl, ow16, hk16, hs16⟩ := r16
 replace hf := hf.nw hs16
 replace mx := mx.nw hs16
 replace hlg := hlg.nw hs16
 replace hm0 := hm0.trN hs16
 have hz1 := hs16.size
 have hle_ow16 := ow16.le
 have hq16 := hqs.tr hs16
 refine ⟨.inr hq16, LH.narrow (SH2 := fun Hq => Nw H16 Hq) (fun Hq hq => hq16.tr hq) ?_⟩
 have hqn16 := Nw.refl H16
 refine LH.m1 9 rfl hqn16 ?_
 refine LH.t1 10 rfl (fun Hq hq => Y.extract rfl rfl rfl) hqn16 ?_
 refine LH.t1 11 rfl (fun Hq hq => Y.extract rfl rfl rfl) hqn16 ?_
 refine LH.t1 12 rfl (fun Hq hq => Y.assign rfl rfl) hqn16 ?_
 refine LH.t1 13 rfl (fun Hq hq => Y.assign rfl rfl) hqn16 ?_
 refine LH.done (by kernel_rfl) ?_
 have hqe := hqn16
 refine hK2 _ _ (CW.s2 (fun hK3 hE3 => CW.s1 (fun hK4 => CW.region ?_)))
 refine LR.m1 ?_
 refine LR.v1 (Y.neq rfl rfl rfl) (LR.nil (hK4 _ _ ?_))
 refine CW.condp rfl (fun c20 => ?_) (fun c20 => ?_)
 ·
  refine CW.s1 (fun hK5 => CW.region ?_)
  refine LR.m1 ?_
  refine LR.a1 (LR.nil (hK5 _ _ ?_))
  refine CW.ret (hE3 .ret nofun _ _ (hret .ret (.inr rfl) _ _ _ (res1 rfl rfl) ?_))
  have hm := mend_1 (n := n) (show D.readE p ≠ 0 by omega)
  have hn0 : (mendD D p n).1 ≠ 0 := by rw [hm]; show D.readE p ≠ 0; omega
  exact ⟨_, _, by rw [hm]; rfl, by rw [hm]; exact hf, nx_hm0_hf, by rw [lgN_1 hn0, lgB_1 hn0]; exact hlg, dl, hm0⟩
 ·
  refine CW.skip (hK3 _ _ (CW.s1 (fun hK6 => CW.region ?_)))
  refine LR.m1 ?_
  refine LR.call rfl c'91 rfl (Wd.u rfl) rfl rfl (parse_ct s16 (D.readL p) w0 _ ow16.rd.any (by have := readL_bd hB p; omega)) (fun v24 H24 r24 => ?_)
  obtain ⟨t24, l24, rfl, hrc24, hw24, hx24, hs24⟩ := r24
  replace hf := hf.nw hs24
  replace mx := mx.nw hs24
  replace hlg := hlg.nw hs24
  replace hm0 := hm0.trN hs24
  have hz2 := hs24.size
  replace hw24 := hw24.bnd
  have bf_hw24 := hw24.bf
  have df5 : DFL (fun b => H16.size ≤ b ∧ b < H24.size) K := DFL.above (fun b h => h.1) (by first | exact hbk_hf | exact fun k hk => Nat.le_trans (hbk_hf k hk) (by omega) | assumption)
  have df6 : DF (fun b => H16.size ≤ b ∧ b < H24.size) (lb + 1) := DF.above (fun b h => h.1) (by first | exact hle_hlg | exact hlt_hlg | omega)
  replace hx24 := fun x hx_ => (hx24 x hx_).bnd
  have df8 : DFL (fun b => H16.size ≤ b ∧ b < H24.size) K := DFL.above (fun b h => h.1) (by first | exact hbk_hf | exact fun k hk => Nat.le_trans (hbk_hf k hk) (by omega) | assumption)
  have df9 : DF (fun b => H16.size ≤ b ∧ b < H24.size) (lb + 1) := DF.above (fun b h => h.1) (by first | exact hle_hlg | exact hlt_hlg | omega)
  refine LR.m1 ?_
  refine LR.v1 (Y.extract rfl rfl rfl) ?_
  refine LR.v1 (Y.extract rfl rfl rfl) ?_
  refine LR.v1 (Y.extract rfl rfl rfl) ?_
  refine LR.a1 ?_
  refine LR.a1 ?_
  refine LR.a1 (LR.nil (hK6 _ _ ?_))
  refine CW.s2 (fun hK7 hE7 => CW.s1 (fun hK8 => CW.region ?_))
  refine LR.m1 ?_
  refine LR.v1 (Y.neq rfl rfl rfl) (LR.nil (hK8 _ _ ?_))
  refine CW.condp rfl (fun c29 => ?_) (fun c29 => ?_)
  ·
   refine CW.s1 (fun hK9 => CW.region ?_)
   refine LR.m1 ?_
   refine LR.a1 (LR.nil (hK9 _ _ ?_))
   refine CW.ret (hE7 .ret nofun _ _ (hret .ret (.inr rfl) _ _ _ (res1 rfl rfl) ?_))
   have hm := mend_2 (n := n) (show D.readE p = 0 by omega) (show parE (D.readL p) ≠ 0 by omega)
   have hn0 : (mendD D p n).1 ≠ 0 := by rw [hm]; show parE (D.readL p) ≠ 0; omega
   exact ⟨_, _, by rw [hm]; rfl, by rw [hm]; exact hf, nx_hm0_hf, by rw [lgN_1 hn0, lgB_1 hn0]; exact hlg, dl, hm0⟩
  ·
   refine CW.skip (hK7 _ _ (CW.s1 (fun hK10 => CW.region ?_)))
   refine LR.m1 ?_
   refine LR.m1 ?_
   refine LR.m1 ?_
   refine LR.v1 (Y.nilCheck rfl rfl) ?_
   refine LR.v1 (Y.FA hlg.pt rfl u'206 rfl s'3) ?_
   refine LR.v1 (Y.load1 (hlg.pt.drop 2) rfl a'3 rfl) ?_
   refine LR.m1 ?_
   refine LR.v1 (Y.len hw24 rfl u'104 rfl) ?_
   refine LR.v1 (Y.cast (v2 := .int .i64 ((min n l24.length : Nat) : Int)) (Y.mini rfl rfl rfl) (ivv (by omega))) ?_
   refine LR.e1 (g := fun v => v) (Y.slice hw24 (0) (min n l24.length) rfl u'104 s'57 rfl (.inl ⟨rfl, rfl⟩) (.inr ⟨_, _, _, rfl, rfl, by first | rfl | omega⟩) (by omega) (by omega)) fun v40 rd40 => ?_
   rw [List.drop_zero] at rd40
   obtain ⟨s40, rfl⟩ : ∃ s : SV, v40 = s.v := ⟨toSV v40, rd40.sv.symm⟩
   have hrt := recs_take l24 (min n l24.length) n rfl
   rw [hrc24] at hrt
   have hlt24 := congrArg List.length hrc24
   simp only [recs, List.length_map] at hlt24
   refine LR.call rfl c'90 rfl (Wd.u rfl) rfl rfl (ckpt_ct mx_ K g b D lb p n br s40 (l24.take (min n l24.length)) _ N w0 _ hf mx (bf_mx.mono (by omega)) (dmx) hlg (dl) (dmv) rd40 (bf_hw24.mono (by omega)) (df5) (fun x h => hx24 x (List.mem_of_mem_take h)) (bf_hw24.mono (by omega)) (df8) (fun x h => parL_max _ _ (by rw [← hrc24]; exact List.mem_map_of_mem (List.mem_of_mem_take h))) (by rw [hrt]; have h1 := encN_sub (parL (D.readL p)) n; have h2 := (encN_parL_le (D.readL p)).1; omega) (df6) (df9) hl hB (by rw [hrt]; have := hcm n; omega) (by rw [List.length_take]; omega)) (fun v41 H41 r41 => ?_)
   obtain ⟨K41, g41, rfl, hf, hkd41, hlg, dl241, hs41⟩ := r41
   have nx20 : NxK K H0.size K41 := NxK.tr (nx_hm0_hf) hkd41 hm0.size
   replace hm0 := hm0.trL hs41 (MIL.app (MIL.ofK (nx_hm0_hf) (by intro k hk; simp [hk])) (MIL.o (MI.r nx_hm0_hlg)))
   have hz3 := hs41.size
   have hbk_hf := hf.bk
   refine LR.a1 (LR.nil (hK10 _ _ ?_))
   refine CW.ret (hret .ret (.inr rfl) _ _ _ (res1 rfl rfl) ?_)
   have hm := mend_3 (n := n) (show D.readE p = 0 by omega) (show parE (D.readL p) = 0 by omega)
   rw [hrt] at hf hlg
   exact ⟨_, _, by rw [hm, hrt], by rw [hm]; exact hf, nx20, by rw [hm]; unfold mendN; rw [show ((parL (D.readL p)).take n).length = (l24.take (min n l24.length)).length from by rw [← hrt]; exact List.length_map _]; exact hlg, dl241, hm0⟩
theorem pre_0 {D : Dk} {p : Pth} {n : Nat} {br : Bool} (h : br = false) : preD D p n br = (0, n, D) := by unfold preD; rw [h]; simp
theorem pre_1 {D : Dk} {p : Pth} {n : Nat} {br : Bool} (h : br = true) : preD D p n br = ((mendD D p n).1, mendN D p n, (mendD D p n).2) := by unfold preD; rw [if_pos h]
theorem app_bad {D : Dk} {p : Pth} {n : Nat} {br : Bool} {r : Rec} (h : br = true) (h2 : (mendD D p n).1 ≠ 0) : appD D p n br r = ((mendD D p n).1, n, br, (mendD D p n).2) := by unfold appD; rw [pre_1 h, if_pos h2]
theorem app_go {D D1 : Dk} {p : Pth} {n n1 : Nat} {br : Bool} {r : Rec} (h : preD D p n br = (0, n1, D1)) : appD D p n br r = ((runD (apS p n1 r) D1).1, if (runD (apS p n1 r) D1).1 = 0 then n1 + 1 else n1, if (runD (apS p n1 r) D1).1 = 0 then false else true, (runD (apS p n1 r) D1).2) := by
 unfold appD; rw [h]; simp
def openD (D : Dk) (p : Pth) : Nat × List Rec × Dk :=
 if nameB p = false ∨ nameB (newP p) = false then (7, [], D)
 else if D.readE p = 2 then ((freshD D p []).1, [], (freshD D p []).2)
 else if D.readE p ≠ 0 then (D.readE p, [], D)
 else if parE (D.readL p) ≠ 0 then (parE (D.readL p), [], D)
 else if parS (D.readL p) < (D.readL p).length then ((freshD D p (parL (D.readL p))).1, if (freshD D p (parL (D.readL p))).1 = 0 then parL (D.readL p) else [], (freshD D p (parL (D.readL p))).2)
 else (0, parL (D.readL p), D)
theorem bs_open {N : Nat} {D : Dk} (h : Bs N D) (p : Pth) : Bs (N + 4 * (N + 28)) (openD D p).2.2 := by
 have h1 := (encN_parL_le (D.readL p)).2
 have h2 := readL_bd h p
 unfold openD
 split
 · exact h.mono (by omega)
 split
 · exact (bs_fresh h p []).mono (by simp [encW, W8, encN]; omega)
 split
 · exact h.mono (by omega)
 split
 · exact h.mono (by omega)
 split
 · exact (bs_fresh h p _).mono (by omega)
 · exact h.mono (by omega)
set_option maxHeartbeats 4000000 in
theorem wapp_ct (mx_ : Int) (K : List Nat) (g : Gh) (b : Nat) (D : Dk) (lb : Nat) (p : Pth) (n : Nat) (br : Bool) (s : SV) (rc : Rec) (F : Nat → Prop) (N : Nat) (w0 : World) (H0 : Heap)
 (hf : PDk K g H0 b D) (mx : MX mx_ H0) (bf_mx : BF (fun b => b = 0) H0.size) (dmx : DFL (fun b => b = 0) K) (hlg : Var 206 H0 lb [ptr b, Str p, .int .i64 (n : Int), .bool br]) (dl : DL (lb + 1) K) (dmv : DF (fun b => b = 0) (lb + 1)) (hr : Rd F H0 fB 1 s.v rc) (bf_hr : BF F H0.size) (dfr : DFL F K) (dlr : DF F (lb + 1)) (hrl : rc.length ≤ 1048576) (hl : p.length ≤ 4294960000) (hB : Bs N D) (hN : N ≤ 80000000) (hnn : n ≤ 1000000000) :
 Ct Tryz.prog w0 38 #[ptr lb, s.v] H0 (fun r H2 => ∃ K2 : List Nat, ∃ g2 : Gh, r = .int .i64 ((appD D p n br rc).1 : Int) ∧ (PDk K2 g2 H2 b (appD D p n br rc).2.2.2) ∧ (NxK K H0.size K2) ∧ (Var 206 H2 lb [ptr b, Str p, .int .i64 ((appD D p n br rc).2.1 : Int), .bool (appD D p n br rc).2.2.1]) ∧ (DL (lb + 1) K2) ∧ Mo (Ms (K ++ [(lb + 1)])) H0 H2) := by
 refine Ct.enter (args := [ptr lb, s.v]) Tryz.func38 rfl rfl rfl ?_
 intro Q0 hret
 have hm0 : Mo (Ms (K ++ [(lb + 1)])) H0 H0 := Mo.refl _ _
 have nx_hm0_hf := NxK.refl K H0.size
 have hbk_hf := hf.bk
 have nx_hm0_hlg := Nx.refl (lb + 1) H0.size
 have hlt_hlg := hlg.lt
 have hrb := readL_bd hB p
 have hcm := encW_bd (D.readL p)
 have hpm := parL_many (D.readL p)
 refine CW.seq (fun K1 hK1 _ => CW.region ?_)
 refine LR.z1 (Z.boxv1 rfl rfl (rfl)) fun v2 H2 r2 => ?_
 obtain ⟨rfl, hc2, hs2, ob2, hH2⟩ := r2
 have hzs2 : H2.size = H0.size + 1 := by rw [hH2]; simp
 have dj1 : DL (H0.size + 1) K := DL.newK hf.bk
 have dj3 : Dj (lb + 1) (H0.size + 1) := Dj.new hlg.lt
 replace hf := hf.nw hs2
 replace mx := mx.nw hs2
 replace hlg := hlg.nw hs2
 replace hr := hr.nw hs2
 replace hm0 := hm0.trN hs2
 have hz1 := hs2.size
 replace hc2 : Var 103 H2 H0.size ([ptr lb]) := hc2
 refine LR.z1 (Z.boxv1 rfl rfl ((hr).oneCell)) fun v3 H3 r3 => ?_
 obtain ⟨rfl, hc3, hs3, ob3, hH3⟩ := r3
 have hzs3 : H3.size = H2.size + 1 := by rw [hH3]; simp
 have dj6 : DL (H2.size + 1) K := DL.newK hf.bk
 have dj8 : Dj (lb + 1) (H2.size + 1) := Dj.new hlg.lt
 replace hf := hf.nw hs3
 replace mx := mx.nw hs3
 replace hlg := hlg.nw hs3
 replace hr := hr.nw hs3
 replace hc2 := hc2.nw hs3
 replace hm0 := hm0.trN hs3
 have hz2 := hs3.size
 replace hc3 : Var 57 H3 H2.size ([s.v]) := hc3
 refine LR.a1 (LR.nil (hK1 _ _ ?_))
 refine CW.seq (fun K2 hK2 _ => CW.s1 (fun hK3 => CW.region ?_))
 refine LR.v1 (Y.load1 hc3.pt rfl a'57 rfl) ?_
 refine LR.v1 (Y.len hr rfl u'57 rfl) ?_
 refine LR.v1 ((Y.gtr rfl rfl rfl).isF (by omega)) (LR.nil (hK3 _ _ ?_))
 refine CW.cond_f rfl ?_
 refine CW.skip (hK2 _ _ ?_)
 refine CW.cut (fun (s_ : (List Nat) × (Gh) × (Dk) × (Nat)) => match s_ with | (K1, g1, D1, n1) => [(2, .pointer (some ⟨H0.size, 0, none⟩)), (3, .pointer (some ⟨H2.size, 0, none⟩))])
  (fun (s_ : (List Nat) × (Gh) × (Dk) × (Nat)) (H : Heap) => match s_ with | (K1, g1, D1, n1) => (PDk K1 g1 H b D1) ∧ (Var 206 H lb [ptr b, Str p, .int .i64 (n1 : Int), .bool false]) ∧ (preD D p n br = (0, n1, D1)) ∧ (Bs (N + 4 * (N + 28)) D1) ∧ (n1 ≤ 1100000000) ∧ (NxK K H3.size K1) ∧ (DL (lb + 1) K1) ∧ Mo (Ms (K ++ [(lb + 1)])) H3 H) (fun _ hK4 hE4 => ?_) ?_
 ·
  have hcm4 : Mo (Ms (K ++ [(lb + 1)])) H3 H3 := Mo.refl _ _
  have nx_hcm4_hf := NxK.refl K H3.size
  have nx_hcm4_hlg := Nx.refl (lb + 1) H3.size
  refine CW.s1 (fun hK5 => CW.region ?_)
  refine LR.v1 (Y.load1 hc2.pt rfl a'103 rfl) ?_
  refine LR.v1 (Y.nilCheck rfl rfl) ?_
  refine LR.v1 (Y.FA hlg.pt rfl u'206 rfl s'4) ?_
  refine LR.v1 (Y.load1 (hlg.pt.drop 3) rfl a'4 rfl) (LR.nil (hK5 _ _ ?_))
  refine CW.cond rfl (fun c14 => ?_) (fun c14 => ?_)
  ·
   refine CW.s1 (fun hK6 => CW.region ?_)
   refine LR.v1 (Y.load1 hc2.pt rfl a'103 rfl) ?_
   refine LR.call rfl c'105 rfl (Wd.u rfl) rfl rfl (mend_ct mx_ K g b D lb p n br N w0 _ hf mx (bf_mx.mono (by omega)) (dmx) hlg (dl) (dmv) hl hB (by omega) (by omega)) (fun v16 H16 r16 => ?_)
   obtain ⟨K16, g16, rfl, hf, hkd16, hlg, dl216, hs16⟩ := r16
   have nx21 : NxK K H0.size K16 := NxK.tr (nx_hm0_hf) hkd16 hm0.size
   have nx22 : NxK K H3.size K16 := NxK.tr (nx_hcm4_hf) hkd16 hcm4.size
   replace hm0 := hm0.trL hs16 (MIL.app (MIL.ofK (nx_hm0_hf) (by intro k hk; simp [hk])) (MIL.o (MI.r nx_hm0_hlg)))
   replace hcm4 := hcm4.trL hs16 (MIL.app (MIL.ofK (nx_hcm4_hf) (by intro k hk; simp [hk])) (MIL.o (MI.r nx_hcm4_hlg)))
   have hz3 := hs16.size
   have hbk_hf := hf.bk
   refine LR.a1 (LR.nil (hK6 _ _ ?_))
   refine CW.s1 (fun hK7 => CW.region ?_)
   refine LR.m1 ?_
   refine LR.v1 (Y.neq rfl rfl rfl) (LR.nil (hK7 _ _ ?_))
   refine CW.condp rfl (fun c18 => ?_) (fun c18 => ?_)
   ·
    refine CW.s1 (fun hK8 => CW.region ?_)
    refine LR.m1 ?_
    refine LR.a1 (LR.nil (hK8 _ _ ?_))
    refine CW.ret (hE4 .ret nofun _ _ (hret .ret (.inr rfl) _ _ _ (res1 rfl rfl) ?_))
    have hz : (mendD D p n).1 ≠ 0 := by omega
    have hgo := app_bad (r := rc) c14 hz
    exact ⟨_, _, by rw [hgo], by rw [hgo]; exact hf, nx21, by rw [hgo]; rw [lgN_1 hz, lgB_1 hz] at hlg; exact hlg, dl216, hm0⟩
   ·
    refine CW.skip ?_
    have hm0_ : (mendD D p n).1 = 0 := by omega
    refine QN.sub (hK4 (K16, g16, (mendD D p n).2, mendN D p n) _ ?_) ⟨rfl, rfl, trivial⟩
    exact ⟨hf, by rw [lgN_0 hm0_, lgB_0 hm0_] at hlg; exact hlg, by rw [pre_1 c14, hm0_], bs_mend hB p n, by unfold mendN; rw [List.length_take]; omega, nx22, dl216, hcm4⟩
  ·
   refine CW.skip ?_
   refine QN.sub (hK4 (K, g, D, n) _ ?_) ⟨rfl, rfl, trivial⟩
   exact ⟨hf, by rw [show br = false by simpa using c14] at hlg; exact hlg, pre_0 (by simpa using c14), hB.mono (by omega), (by omega), nx_hcm4_hf, dl, hcm4⟩
 ·
  rintro ⟨K1, g1, D1, n1⟩ Hcutc14 hIcutc14
  obtain ⟨hf, hlg, hpre, hB1, hn1, nxl_hf, dj_hf_hlg, hlmcutc14⟩ := hIcutc14
  have df23 := DFL.appK (dmx) (bf_mx.mono hm0.size) nxl_hf
  have df24 := DFL.appK (dfr) (bf_hr.mono hm0.size) nxl_hf
  have dj25 : DL (H0.size + 1) K1 := DL.appK (dj1) hc2.lt nxl_hf
  have dj26 : DL (H2.size + 1) K1 := DL.appK (dj6) hc3.lt nxl_hf
  have nx27 : NxK K H0.size K1 := NxK.tr (nx_hm0_hf) nxl_hf hm0.size
  replace mx := mx.upL hlmcutc14 (DFL.app dmx (DFL.o dmv))
  replace hr := hr.upL hlmcutc14 (DFL.app dfr (DFL.o dlr))
  replace hc2 := hc2.upL hlmcutc14 (DL.app dj1 (DL.o dj3.symm))
  replace hc3 := hc3.upL hlmcutc14 (DL.app dj6 (DL.o dj8.symm))
  replace hm0 := hm0.trL hlmcutc14 (MIL.app (MIL.ofK (nx_hm0_hf) (by intro k hk; simp [hk])) (MIL.o (MI.r nx_hm0_hlg)))
  have hz4 := hlmcutc14.size
  have hbk_hf := hf.bk
  have dj28 := dj_hf_hlg
  refine CW.s1 (fun hK9 => CW.region ?_)
  refine LR.v1 (Y.makeFunc rfl rfl) ?_
  refine LR.a1 (LR.nil (hK9 _ _ ?_))
  refine CW.s1 (fun hK10 => CW.region ?_)
  refine LR.v1 (Y.makeFunc rfl rfl) ?_
  refine LR.m1 ?_
  refine LR.v1 (Y.makeFunc rfl rfl) ?_
  refine LR.m1 ?_
  refine LR.z1 (Z.litw _ (([(109, [ptr H0.size, ptr H2.size]), (106, [ptr H0.size]), (112, [ptr H0.size]), (106, [ptr H0.size])] : List FnV)) rfl inf291 rfl rfl rfl (by decide) (by decide) fFn_len fFn_one (rfl)) fun v25 H25 r25 => ?_
  obtain ⟨ow25, hs25, ob25, hH25⟩ := r25
  have hzs25 : H25.size = Hcutc14.size + 1 := by rw [hH25]; simp
  have dj30 : DL (Hcutc14.size + 1) K1 := DL.newK hf.bk
  replace hf := hf.nw hs25
  replace mx := mx.nw hs25
  replace hr := hr.nw hs25
  replace hc2 := hc2.nw hs25
  replace hc3 := hc3.nw hs25
  replace hlg := hlg.nw hs25
  replace hm0 := hm0.trN hs25
  have hz5 := hs25.size
  refine LR.call rfl c'108 rfl (Wd.u rfl) rfl rfl (first_ct K1 g1 b D1 v25 [(109, [ptr H0.size, ptr H2.size]), (106, [ptr H0.size]), (112, [ptr H0.size]), (106, [ptr H0.size])] (apS p n1 rc) _ w0 _ hf ow25.rd (BF.of ow25.le) (DFL.of (dj30)) rfl (ap_steps (LgS.mk mx (bf_mx.mono (by omega)) (df23) hc2 hlg (dj25) (dj28)) (VaS.mk hc3 (dj26)) (RwS.mk hr (bf_hr.mono (by omega)) (df24)) hrl hl hB1 (by omega))) (fun v26 H26 r26 => ?_)
  have ql40 := hlg.lt
  obtain ⟨K26, g26, rfl, hf, hkd26, hs26⟩ := r26
  have dj46 : DL (lb + 1) K26 := DL.appK (dj28) ql40 hkd26
  have nx48 : NxK K H0.size K26 := NxK.tr (nx27) hkd26 hm0.size
  replace hc2 := hc2.upL hs26 (dj25)
  replace hlg := hlg.upL hs26 (dj28)
  replace hm0 := hm0.trL hs26 (MIL.ofK (nx27) (by intro k hk; simp [hk]))
  have hz6 := hs26.size
  have hbk_hf := hf.bk
  have hgo := app_go (r := rc) hpre
  refine LR.a1 (LR.nil (hK10 _ _ ?_))
  refine CW.s2 (fun hK11 hE11 => CW.s1 (fun hK12 => CW.region ?_))
  refine LR.m1 ?_
  refine LR.v1 (Y.neq rfl rfl rfl) (LR.nil (hK12 _ _ ?_))
  refine CW.condp rfl (fun c28 => ?_) (fun c28 => ?_)
  ·
   refine CW.s1 (fun hK13 => CW.region ?_)
   refine LR.v1 (Y.load1 hc2.pt rfl a'103 rfl) ?_
   refine LR.v1 (Y.nilCheck rfl rfl) ?_
   refine LR.v1 (Y.FA hlg.pt rfl u'206 rfl s'4) ?_
   refine LR.s1 (S.var1 hlg 3 ([ptr b, Str p, .int .i64 (n1 : Int), .bool true]) rfl rfl rfl (rfl) s'4 (by simp) (rfl)) fun H10_3 r10_3 => ?_
   obtain ⟨hlg, hs10_3⟩ := r10_3
   replace hs10_3 := hs10_3.md1
   replace hf := hf.upL hs10_3 (DKL.cons dj46 DKL.nil)
   replace hm0 := hm0.trL hs10_3 (MIL.o (MI.r nx_hm0_hlg))
   have hz7 := hs10_3.size
   refine LR.nil (hK13 _ _ (CW.s1 (fun hK14 => CW.region ?_)))
   refine LR.m1 ?_
   refine LR.a1 (LR.nil (hK14 _ _ ?_))
   refine CW.ret (hE11 .ret nofun _ _ (hret .ret (.inr rfl) _ _ _ (res1 rfl rfl) ?_))
   have hz : (runD (apS p n1 rc) D1).1 ≠ 0 := by omega
   rw [if_neg hz, if_neg hz] at hgo
   exact ⟨_, _, by rw [hgo], by rw [hgo]; exact hf, nx48, by rw [hgo]; exact hlg, dj46, hm0⟩
  ·
   refine CW.skip (hK11 _ _ (CW.s1 (fun hK15 => CW.region ?_)))
   refine LR.v1 (Y.load1 hc2.pt rfl a'103 rfl) ?_
   refine LR.v1 (Y.nilCheck rfl rfl) ?_
   refine LR.v1 (Y.FA hlg.pt rfl u'206 rfl s'3) ?_
   refine LR.v1 (Y.load1 (hlg.pt.drop 2) rfl a'3 rfl) ?_
   refine LR.v1 (Y.cast (v2 := .int .i64 ((n1 + 1 : Nat) : Int)) (Y.addi rfl rfl rfl (by omega)) (ivv (by omega))) ?_
   refine LR.v1 (Y.nilCheck rfl rfl) ?_
   refine LR.v1 (Y.FA hlg.pt rfl u'206 rfl s'3) ?_
   refine LR.s1 (S.var1 hlg 2 ([ptr b, Str p, .int .i64 ((n1 + 1 : Nat) : Int), .bool false]) rfl rfl rfl (rfl) s'3 (by simp) (rfl)) fun H12_7 r12_7 => ?_
   obtain ⟨hlg, hs12_7⟩ := r12_7
   replace hs12_7 := hs12_7.md1
   replace hf := hf.upL hs12_7 (DKL.cons dj46 DKL.nil)
   replace hm0 := hm0.trL hs12_7 (MIL.o (MI.r nx_hm0_hlg))
   have hz8 := hs12_7.size
   refine LR.nil (hK15 _ _ (CW.seq (fun K16 hK16 _ => CW.region ?_)))
   refine LR.a1 (LR.nil (hK16 _ _ ?_))
   refine CW.ret (hret .ret (.inr rfl) _ _ _ (res1 rfl rfl) ?_)
   have hz : (runD (apS p n1 rc) D1).1 = 0 := by omega
   rw [if_pos hz, if_pos hz] at hgo
   exact ⟨_, _, by rw [hgo, hz]; rfl, by rw [hgo]; exact hf, nx48, by rw [hgo]; exact hlg, dj46, hm0⟩
end Go.Proofs.YtfjmpninmdjcaaaGreatDoor.WalF

namespace Go.Proofs.YtfjmpninmdjcaaaGreatDoor.WalG
open E Go.RowKit SimA SimB SimC SimD SimE SimF SimG SimH SimI SimQ SimR WalA WalB WalC WalD WalE WalF
set_option maxRecDepth 20000
structure LgP (k : Nat) (H : Heap) (v : Value) (b : Nat) (p : Pth) (n : Nat) (br : Bool) : Prop where
 ex : (k = 0 ∧ v = .pointer none) ∨ ∃ lb, k = lb + 1 ∧ v = ptr lb ∧ Var 206 H lb [ptr b, Str p, .int .i64 (n : Int), .bool br]
section
variable {k b n : Nat} {H H' : Heap} {v : Value} {p : Pth} {br : Bool} {ks : List Nat}
theorem LgP.var {lb : Nat} (h : LgP (lb + 1) H v b p n br) : v = ptr lb ∧ Var 206 H lb [ptr b, Str p, .int .i64 (n : Int), .bool br] := by
 rcases h.ex with ⟨e, _⟩ | ⟨lb2, e, e2, h⟩
 · omega
 · obtain rfl : lb = lb2 := by omega
   exact ⟨e2, h⟩
end
section
variable {D : Dk} {p : Pth}
theorem open_a (h : nameB p = false ∨ nameB (newP p) = false) : openD D p = (7, [], D) := by unfold openD; rw [if_pos h]
theorem open_n (n1 : nameB p = true) (n2 : nameB (newP p) = true) : ¬ (nameB p = false ∨ nameB (newP p) = false) := by rw [n1, n2]; simp
theorem open_b (n1 : nameB p = true) (n2 : nameB (newP p) = true) (h : D.readE p = 2) : openD D p = ((freshD D p []).1, [], (freshD D p []).2) := by unfold openD; rw [if_neg (open_n n1 n2), if_pos h]
theorem open_c (n1 : nameB p = true) (n2 : nameB (newP p) = true) (h : D.readE p ≠ 2) (h2 : D.readE p ≠ 0) : openD D p = (D.readE p, [], D) := by unfold openD; rw [if_neg (open_n n1 n2), if_neg h, if_pos h2]
theorem open_d (n1 : nameB p = true) (n2 : nameB (newP p) = true) (h : D.readE p = 0) (h2 : parE (D.readL p) ≠ 0) : openD D p = (parE (D.readL p), [], D) := by unfold openD; rw [if_neg (open_n n1 n2), if_neg (by omega), if_neg (by omega), if_pos h2]
theorem open_e (n1 : nameB p = true) (n2 : nameB (newP p) = true) (h : D.readE p = 0) (h2 : parE (D.readL p) = 0) (h3 : parS (D.readL p) < (D.readL p).length) : openD D p = ((freshD D p (parL (D.readL p))).1, if (freshD D p (parL (D.readL p))).1 = 0 then parL (D.readL p) else [], (freshD D p (parL (D.readL p))).2) := by
 unfold openD; rw [if_neg (open_n n1 n2), if_neg (by omega), if_neg (by omega), if_neg (by omega), if_pos h3]
theorem open_f (n1 : nameB p = true) (n2 : nameB (newP p) = true) (h : D.readE p = 0) (h2 : parE (D.readL p) = 0) (h3 : ¬ parS (D.readL p) < (D.readL p).length) : openD D p = (0, parL (D.readL p), D) := by
 unfold openD; rw [if_neg (open_n n1 n2), if_neg (by omega), if_neg (by omega), if_neg (by omega), if_neg h3]
end
set_option maxHeartbeats 4000000 in
theorem wopen_ct (mx_ : Int) (K : List Nat) (g : Gh) (b : Nat) (D : Dk) (p : Pth) (N : Nat) (w0 : World) (H0 : Heap)
 (hf : PDk K g H0 b D) (mx : MX mx_ H0) (bf_mx : BF (fun b => b = 0) H0.size) (dmx : DFL (fun b => b = 0) K) (hl : p.length ≤ 4294960000) (hB : Bs N D) (hN : N ≤ 80000000) :
 Ct Tryz.prog w0 35 #[ptr b, Str p] H0 (fun r H2 => ∃ lv : Value, ∃ kl : Nat, ∃ t : SV, ∃ l : List (SV × Rec), ∃ K2 : List Nat, ∃ g2 : Gh, ∃ G : Nat → Prop, r = .tuple #[lv, t.v, .int .i64 ((openD D p).1 : Int)] ∧ (PDk K2 g2 H2 b (openD D p).2.2) ∧ (NxK K H0.size K2) ∧ (LgP kl H2 lv b p l.length false) ∧ (Nx 0 H0.size kl) ∧ (DL kl K2) ∧ (((openD D p).1 = 0 → ∃ lb, kl = lb + 1 ∧ lv = ptr lb) ∧ ((openD D p).1 ≠ 0 → kl = 0 ∧ lv = .pointer none)) ∧ (recs l = (openD D p).2.1) ∧ (Rd G H2 fP 1 t.v l) ∧ (∀ x ∈ l, Rd G H2 fB 1 x.1.v x.2) ∧ (BF G H2.size) ∧ (∀ c, G c → H0.size ≤ c) ∧ (DFL G K2) ∧ (DF G kl) ∧ Mo (Ms K) H0 H2) := by
 refine Ct.enter (args := [ptr b, Str p]) Tryz.func35 rfl rfl rfl ?_
 intro Q0 hret
 have hm0 : Mo (Ms K) H0 H0 := Mo.refl _ _
 have nx_hm0_hf := NxK.refl K H0.size
 have hbk_hf := hf.bk
 have hrb := readL_bd hB p
 have hcm := (encN_parL_le (D.readL p)).2
 have hpm := parL_many (D.readL p)
 refine CW.s1 (fun hK1 => CW.region ?_)
 refine LR.a1 ?_
 refine LR.a1 ?_
 refine LR.a1 (LR.nil (hK1 _ _ ?_))
 refine CW.seq (fun K2 hK2 hE2 => CW.s1 (fun hK3 => CW.region ?_))
 refine LR.m1 ?_
 refine LR.call rfl c'88 rfl (Wd.u rfl) rfl rfl (name_ct mx_ p w0 _ mx (bf_mx.mono (by omega)) (by omega)) (fun v13 H13 r13 => ?_)
 obtain ⟨rfl, hs13⟩ := r13
 replace hf := hf.nw hs13
 replace mx := mx.nw hs13
 replace hm0 := hm0.trN hs13
 have hz1 := hs13.size
 refine LR.v1 (Y.not rfl rfl) ?_
 refine LR.m1 ?_
 refine LR.split (d := 15) rfl (fun g15 => ?_) (fun g15 => ?_)
 ·
  have hop := open_a (D := D) (p := p) (.inl (by simpa using g15))
  refine LR.g1 ?_
  refine LR.g1 ?_
  refine LR.g1 ?_
  refine LR.g1 ?_
  refine LR.v1 (Y.pick_t rfl rfl rfl) (LR.nil (hK3 _ _ ?_))
  refine CW.cond_t rfl ?_
  refine CW.s1 (fun hK4 => CW.region ?_)
  refine LR.a1 ?_
  refine LR.a1 ?_
  refine LR.a1 (LR.nil (hK4 _ _ ?_))
  refine CW.ret (hE2 .ret nofun _ _ (hret .ret (.inr rfl) _ _ _ (res3 rfl rfl rfl rfl) ?_))
  exact ⟨.pointer none, 0, ⟨none, 0, 0⟩, [], _, _, (fun _ => False), by rw [hop]; rfl, by rw [hop]; exact hf, nx_hm0_hf, ⟨.inl ⟨rfl, rfl⟩⟩, (.inl rfl), DL.zK, ⟨fun h => absurd h (by rw [hop]; exact (Nat.succ_ne_zero 6)), fun _ => ⟨rfl, rfl⟩⟩, by rw [hop]; rfl, Rd.nil _ _ _ _, (fun x h => by cases h), (fun b h => h.elim), (fun c h => h.elim), (fun k hk b h => h.elim), (fun b h => h.elim), hm0⟩
 ·
  refine LR.w1 (Y.move rfl rfl) ?_
  refine LR.w1 (Y.cast (v2 := Str (newP p)) (Y.sadd rfl rfl rfl (by simp only [List.length_cons, List.length_nil]; omega)) (rfl)) ?_
  refine LR.call rfl c'88 rfl (Wd.g rfl rfl rfl) rfl rfl (name_ct mx_ (newP p) w0 _ mx (bf_mx.mono (by omega)) (by rw [newP_len]; omega)) (fun v18 H18 r18 => ?_)
  obtain ⟨rfl, hs18⟩ := r18
  replace hf := hf.nw hs18
  replace mx := mx.nw hs18
  replace hm0 := hm0.trN hs18
  have hz2 := hs18.size
  refine LR.w1 (Y.not rfl rfl) ?_
  refine LR.v1 (Y.pick_f rfl rfl rfl) (LR.nil (hK3 _ _ ?_))
  refine CW.cond rfl (fun c20 => ?_) (fun c20 => ?_)
  ·
   have hop := open_a (D := D) (p := p) (.inr (by simpa using c20))
   refine CW.s1 (fun hK5 => CW.region ?_)
   refine LR.a1 ?_
   refine LR.a1 ?_
   refine LR.a1 (LR.nil (hK5 _ _ ?_))
   refine CW.ret (hE2 .ret nofun _ _ (hret .ret (.inr rfl) _ _ _ (res3 rfl rfl rfl rfl) ?_))
   exact ⟨.pointer none, 0, ⟨none, 0, 0⟩, [], _, _, (fun _ => False), by rw [hop]; rfl, by rw [hop]; exact hf, nx_hm0_hf, ⟨.inl ⟨rfl, rfl⟩⟩, (.inl rfl), DL.zK, ⟨fun h => absurd h (by rw [hop]; exact (Nat.succ_ne_zero 6)), fun _ => ⟨rfl, rfl⟩⟩, by rw [hop]; rfl, Rd.nil _ _ _ _, (fun x h => by cases h), (fun b h => h.elim), (fun c h => h.elim), (fun k hk b h => h.elim), (fun b h => h.elim), hm0⟩
  ·
   have hn1 : nameB p = true := by simpa using g15
   have hn2 : nameB (newP p) = true := by simpa using c20
   refine CW.skip (hK2 _ _ (CW.s1 (fun hK6 => CW.region ?_)))
   refine LR.m1 ?_
   refine LR.m1 ?_
   refine LR.v1 (Y.build (v := .agg #[ptr b, Str p, .int .i64 0, .bool false]) rfl rfl (by intro w; kernel_rfl)) ?_
   refine LR.z1 (Z.boxv rfl rfl) fun v24 H24 r24 => ?_
   obtain ⟨rfl, hlg, hs24, ob24, hH24⟩ := r24
   have hzs24 : H24.size = H18.size + 1 := by rw [hH24]; simp
   have dj1 : DL (H18.size + 1) K := DL.newK hf.bk
   have df2 := (DF.new (bf_mx.mono hm0.size) : DF _ (H18.size + 1))
   have nx3 : Nx 0 H0.size (H18.size + 1) := Nx.new hm0.size
   replace hf := hf.nw hs24
   replace mx := mx.nw hs24
   replace hm0 := hm0.trN hs24
   have hz3 := hs24.size
   replace hlg : Var 206 H24 H18.size ([ptr b, Str p, .int .i64 ((0 : Nat) : Int), .bool false]) := hlg
   refine LR.a1 (LR.nil (hK6 _ _ ?_))
   refine CW.s1 (fun hK7 => CW.region ?_)
   refine LR.m1 ?_
   refine LR.m1 ?_
   refine LR.call rfl c'89 rfl (Wd.u rfl) rfl rfl (read_ct mx_ K g b D p w0 _ mx (bf_mx.mono (by omega)) hf (by omega) (fun i => by have := (hB.f i).1; omega)) (fun v28 H28 r28 => ?_)
   obtain ⟨s28, k28, rfl, ow28, hk28, hs28⟩ := r28
   replace hf := hf.nw hs28
   replace mx := mx.nw hs28
   replace hlg := hlg.nw hs28
   replace hm0 := hm0.trN hs28
   have hz4 := hs28.size
   have hle_ow28 := ow28.le
   refine LR.m1 ?_
   refine LR.v1 (Y.extract rfl rfl rfl) ?_
   refine LR.v1 (Y.extract rfl rfl rfl) ?_
   refine LR.a1 ?_
   refine LR.a1 (LR.nil (hK7 _ _ ?_))
   refine CW.s2 (fun hK8 hE8 => CW.s1 (fun hK9 => CW.region ?_))
   refine LR.m1 ?_
   refine LR.v1 (Y.eql rfl rfl rfl) (LR.nil (hK9 _ _ ?_))
   refine CW.condp rfl (fun c32 => ?_) (fun c32 => ?_)
   ·
    have hop := open_b (D := D) hn1 hn2 (by omega)
    refine CW.s2 (fun hK10 hE10 => CW.s1 (fun hK11 => CW.region ?_))
    refine LR.m1 ?_
    refine LR.call rfl c'90 rfl (Wd.u rfl) rfl rfl (ckpt_ct mx_ K g b D H18.size p 0 false ⟨none, 0, 0⟩ [] (fun _ => False) N w0 _ hf mx (bf_mx.mono (by omega)) (dmx) hlg (dj1) (df2) (Rd.nil _ _ _ _) (fun b h => h.elim) (fun k hk b h => h.elim) (fun x h => by cases h) (fun b h => h.elim) (fun k hk b h => h.elim) (fun x h => by cases h) (by simp [recs, encN]) (fun b h _ => h.elim) (fun b h _ => h.elim) hl hB (by simp [recs, encW, W8, encN]; omega) (by simp)) (fun v34 H34 r34 => ?_)
    obtain ⟨K34, g34, rfl, hf, hkd34, hlg, dl234, hs34⟩ := r34
    have nx14 : NxK K H0.size K34 := NxK.tr (nx_hm0_hf) hkd34 hm0.size
    replace hm0 := hm0.trL hs34 (MIL.app (MIL.ofK (nx_hm0_hf) (by intro k hk; simp [hk])) (MIL.o (MI.q nx3)))
    have hz5 := hs34.size
    have hbk_hf := hf.bk
    refine LR.a1 (LR.nil (hK11 _ _ ?_))
    refine CW.s1 (fun hK12 => CW.region ?_)
    refine LR.m1 ?_
    refine LR.v1 (Y.neq rfl rfl rfl) (LR.nil (hK12 _ _ ?_))
    refine CW.condp rfl (fun c36 => ?_) (fun c36 => ?_)
    ·
     refine CW.s1 (fun hK13 => CW.region ?_)
     refine LR.m1 ?_
     refine LR.a1 ?_
     refine LR.a1 ?_
     refine LR.a1 (LR.nil (hK13 _ _ ?_))
     refine CW.ret (hE10 .ret nofun _ _ (hE8 .ret nofun _ _ (hret .ret (.inr rfl) _ _ _ (res3 rfl rfl rfl rfl) ?_)))
     exact ⟨.pointer none, 0, ⟨none, 0, 0⟩, [], _, _, (fun _ => False), by rw [hop]; rfl, by rw [hop]; exact hf, nx14, ⟨.inl ⟨rfl, rfl⟩⟩, (.inl rfl), DL.zK, ⟨fun h => absurd h (by rw [hop]; exact (by have h9 := c36; simp only [recs, List.map_nil] at h9; show (freshD D p []).1 ≠ 0; omega)), fun _ => ⟨rfl, rfl⟩⟩, by rw [hop]; rfl, Rd.nil _ _ _ _, (fun x h => by cases h), (fun b h => h.elim), (fun c h => h.elim), (fun k hk b h => h.elim), (fun b h => h.elim), hm0⟩
    ·
     refine CW.skip (hK10 _ _ (CW.s1 (fun hK14 => CW.region ?_)))
     refine LR.m1 ?_
     refine LR.a1 ?_
     refine LR.a1 ?_
     refine LR.a1 (LR.nil (hK14 _ _ ?_))
     refine CW.ret (hE8 .ret nofun _ _ (hret .ret (.inr rfl) _ _ _ (res3 rfl rfl rfl rfl) ?_))
     have h8 : (freshD D p []).1 = 0 := by have h9 := c36; simp only [recs, List.map_nil] at h9; omega
     rw [h8] at hop
     exact ⟨ptr H18.size, (H18.size + 1), ⟨none, 0, 0⟩, [], _, _, (fun _ => False), by rw [hop]; rfl, by rw [hop]; exact hf, nx14, ⟨.inr ⟨_, rfl, rfl, by simp only [recs, List.map_nil] at hlg; rw [lgN_0 h8, lgB_0 h8] at hlg; exact hlg⟩⟩, nx3, dl234, ⟨fun _ => ⟨_, rfl, rfl⟩, fun h => absurd (by rw [hop]) h⟩, by rw [hop]; rfl, Rd.nil _ _ _ _, (fun x h => by cases h), (fun b h => h.elim), (fun c h => h.elim), (fun k hk b h => h.elim), (fun b h => h.elim), hm0⟩
   ·
    refine CW.skip (hK8 _ _ (CW.s2 (fun hK15 hE15 => CW.s1 (fun hK16 => CW.region ?_))))
    refine LR.m1 ?_
    refine LR.v1 (Y.neq rfl rfl rfl) (LR.nil (hK16 _ _ ?_))
    refine CW.condp rfl (fun c40 => ?_) (fun c40 => ?_)
    ·
     refine CW.s1 (fun hK17 => CW.region ?_)
     refine LR.m1 ?_
     refine LR.a1 ?_
     refine LR.a1 ?_
     refine LR.a1 (LR.nil (hK17 _ _ ?_))
     refine CW.ret (hE15 .ret nofun _ _ (hret .ret (.inr rfl) _ _ _ (res3 rfl rfl rfl rfl) ?_))
     have h8 : D.readE p ≠ 0 := by omega
     have hop := open_c (D := D) hn1 hn2 (by omega) h8
     exact ⟨.pointer none, 0, ⟨none, 0, 0⟩, [], _, _, (fun _ => False), by rw [hop]; rfl, by rw [hop]; exact hf, nx_hm0_hf, ⟨.inl ⟨rfl, rfl⟩⟩, (.inl rfl), DL.zK, ⟨fun h => absurd h (by rw [hop]; exact h8), fun _ => ⟨rfl, rfl⟩⟩, by rw [hop]; rfl, Rd.nil _ _ _ _, (fun x h => by cases h), (fun b h => h.elim), (fun c h => h.elim), (fun k hk b h => h.elim), (fun b h => h.elim), hm0⟩
    ·
     refine CW.skip (hK15 _ _ (CW.s1 (fun hK18 => CW.region ?_)))
     refine LR.m1 ?_
     refine LR.call rfl c'91 rfl (Wd.u rfl) rfl rfl (parse_ct s28 (D.readL p) w0 _ ow28.rd.any (by have := readL_bd hB p; omega)) (fun v44 H44 r44 => ?_)
     obtain ⟨t44, l44, rfl, hrc44, hw44, hx44, hs44⟩ := r44
     replace hf := hf.nw hs44
     replace mx := mx.nw hs44
     replace hlg := hlg.nw hs44
     replace ow28 := ow28.nw hs44
     replace hm0 := hm0.trN hs44
     have hz6 := hs44.size
     replace hw44 := hw44.bnd
     have bf_hw44 := hw44.bf
     have df15 : DFL (fun b => H28.size ≤ b ∧ b < H44.size) K := DFL.above (fun b h => h.1) (by first | exact hbk_hf | exact fun k hk => Nat.le_trans (hbk_hf k hk) (by omega) | assumption)
     have df16 : DF (fun b => H28.size ≤ b ∧ b < H44.size) (H18.size + 1) := DF.above (fun b h => h.1) (by first | exact hle_hlg | exact hlt_hlg | omega)
     replace hx44 := fun x hx_ => (hx44 x hx_).bnd
     have df18 : DFL (fun b => H28.size ≤ b ∧ b < H44.size) K := DFL.above (fun b h => h.1) (by first | exact hbk_hf | exact fun k hk => Nat.le_trans (hbk_hf k hk) (by omega) | assumption)
     have df19 : DF (fun b => H28.size ≤ b ∧ b < H44.size) (H18.size + 1) := DF.above (fun b h => h.1) (by first | exact hle_hlg | exact hlt_hlg | omega)
     refine LR.m1 ?_
     refine LR.v1 (Y.extract rfl rfl rfl) ?_
     refine LR.v1 (Y.extract rfl rfl rfl) ?_
     refine LR.v1 (Y.extract rfl rfl rfl) ?_
     have hlt44 := congrArg List.length hrc44
     simp only [recs, List.length_map] at hlt44
     refine LR.a1 ?_
     refine LR.a1 ?_
     refine LR.a1 (LR.nil (hK18 _ _ ?_))
     refine CW.s1 (fun hK19 => CW.s1 (fun hK20 => CW.region ?_))
     refine LR.m1 ?_
     refine LR.v1 (Y.eql rfl rfl rfl) ?_
     refine LR.m1 ?_
     refine LR.splitp (d := 50) rfl (fun g50 => ?_) (fun g50 => ?_)
     ·
      refine LR.w1 (Y.move rfl rfl) ?_
      refine LR.w1 (Y.move rfl rfl) ?_
      refine LR.w1 (Y.len ow28.rd rfl u'57 rfl) ?_
      refine LR.w1 (Y.lss rfl rfl rfl) ?_
      refine LR.v1 (Y.pick_t rfl rfl rfl) (LR.nil (hK20 _ _ ?_))
      refine CW.condp rfl (fun c55 => ?_) (fun c55 => ?_)
      ·
       refine CW.region ?_
       refine LR.m1 ?_
       refine LR.m1 ?_
       refine LR.call rfl c'90 rfl (Wd.u rfl) rfl rfl (ckpt_ct mx_ K g b D H18.size p 0 false t44 l44 _ N w0 _ hf mx (bf_mx.mono (by omega)) (dmx) hlg (dj1) (df2) hw44 (bf_hw44.mono (by omega)) (df15) hx44 (bf_hw44.mono (by omega)) (df18) (fun x h => parL_max _ _ (by rw [← hrc44]; exact List.mem_map_of_mem h)) (by rw [hrc44]; have h2 := (encN_parL_le (D.readL p)).1; omega) (df16) (df19) hl hB (by rw [hrc44]; omega) (by omega)) (fun v58 H58 r58 => ?_)
       obtain ⟨K58, g58, rfl, hf, hkd58, hlg, dl258, hs58⟩ := r58
       have df27 := DFL.appK (df15) (bf_hw44.mono (by omega)) hkd58
       have nx29 : NxK K H0.size K58 := NxK.tr (nx_hm0_hf) hkd58 hm0.size
       replace hw44 := hw44.upL hs58 (DFL.app df15 (DFL.o df16))
       replace hx44 := fun x hx_ => (hx44 x hx_).upL hs58 (DFL.app df18 (DFL.o df19))
       replace hm0 := hm0.trL hs58 (MIL.app (MIL.ofK (nx_hm0_hf) (by intro k hk; simp [hk])) (MIL.o (MI.q nx3)))
       have hz7 := hs58.size
       have hbk_hf := hf.bk
       refine LR.a1 (LR.nil (hK19 _ _ ?_))
       refine CW.s2 (fun hK21 hE21 => CW.s1 (fun hK22 => CW.region ?_))
       refine LR.m1 ?_
       refine LR.v1 (Y.neq rfl rfl rfl) (LR.nil (hK22 _ _ ?_))
       refine CW.condp rfl (fun c60 => ?_) (fun c60 => ?_)
       ·
        refine CW.s1 (fun hK23 => CW.region ?_)
        refine LR.m1 ?_
        refine LR.a1 ?_
        refine LR.a1 ?_
        refine LR.a1 (LR.nil (hK23 _ _ ?_))
        refine CW.ret (hE21 .ret nofun _ _ (hret .ret (.inr rfl) _ _ _ (res3 rfl rfl rfl rfl) ?_))
        have h8 : (freshD D p (parL (D.readL p))).1 ≠ 0 := by rw [← hrc44]; omega
        have hop := open_e (D := D) hn1 hn2 (by omega) (by omega) (by omega)
        rw [if_neg h8] at hop
        rw [hrc44] at hf
        exact ⟨.pointer none, 0, ⟨none, 0, 0⟩, [], _, _, (fun _ => False), by rw [hop, hrc44], by rw [hop]; exact hf, nx29, ⟨.inl ⟨rfl, rfl⟩⟩, (.inl rfl), DL.zK, ⟨fun h => absurd h (by rw [hop]; exact h8), fun _ => ⟨rfl, rfl⟩⟩, by rw [hop]; rfl, Rd.nil _ _ _ _, (fun x h => by cases h), (fun b h => h.elim), (fun c h => h.elim), (fun k hk b h => h.elim), (fun b h => h.elim), hm0⟩
       ·
        try (have h8 : (freshD D p (recs l44)).1 = 0 := (by omega); rw [lgN_0 h8, lgB_0 h8] at hlg)
        refine CW.skip (hK21 _ _ (CW.s1 (fun hK24 => CW.region ?_)))
        refine LR.m1 ?_
        refine LR.m1 ?_
        refine LR.v1 (Y.len hw44 rfl u'104 rfl) ?_
        refine LR.v1 (Y.nilCheck rfl rfl) ?_
        refine LR.v1 (Y.FA hlg.pt rfl u'206 rfl s'3) ?_
        refine LR.s1 (S.var1 hlg 2 ([ptr b, Str p, .int .i64 ((l44.length : Nat) : Int), .bool false]) rfl rfl rfl (rfl) s'3 (by simp) (rfl)) fun H17_5 r17_5 => ?_
        obtain ⟨hlg, hs17_5⟩ := r17_5
        replace hs17_5 := hs17_5.md1
        replace hf := hf.upL hs17_5 (DKL.cons dl258 DKL.nil)
        replace hw44 := hw44.upL hs17_5 (DFL.o df16)
        replace hx44 := fun x hx_ => (hx44 x hx_).upL hs17_5 (DFL.o df19)
        replace hm0 := hm0.trL hs17_5 (MIL.o (MI.q nx3))
        have hz8 := hs17_5.size
        refine LR.nil (hK24 _ _ (CW.s1 (fun hK25 => CW.region ?_)))
        refine LR.m1 ?_
        refine LR.m1 ?_
        refine LR.a1 ?_
        refine LR.a1 ?_
        refine LR.a1 (LR.nil (hK25 _ _ ?_))
        refine CW.ret (hret .ret (.inr rfl) _ _ _ (res3 rfl rfl rfl rfl) ?_)
        have hop : (openD D p).1 = 0 ∧ (openD D p).2.1 = parL (D.readL p) := by
         first
         | (have h9 := open_e (D := D) hn1 hn2 (by omega) (by omega) (by omega); have h8 : (freshD D p (parL (D.readL p))).1 = 0 := (by rw [← hrc44]; omega); rw [h8, if_pos rfl] at h9; rw [h9]; exact ⟨rfl, rfl⟩)
         | (have h9 := open_f (D := D) hn1 hn2 (by omega) (by omega) (by omega); rw [h9]; exact ⟨rfl, rfl⟩)
        exact ⟨ptr H18.size, (H18.size + 1), t44, l44, _, _, _, by rw [hop.1]; rfl, (by first | (have h9 := open_e (D := D) hn1 hn2 (by omega) (by omega) (by omega); rw [h9]; rw [hrc44] at hf; exact hf) | (have h9 := open_f (D := D) hn1 hn2 (by omega) (by omega) (by omega); rw [h9]; exact hf)), nx29, ⟨.inr ⟨_, rfl, rfl, hlg⟩⟩, nx3, dl258, ⟨fun _ => ⟨_, rfl, rfl⟩, fun h => absurd hop.1 h⟩, by rw [hop.2]; exact hrc44, hw44, (fun x h => hx44 x h), (bf_hw44.mono (by omega)), (fun c h => by have h9 := h.1; omega), (df27), (df16), hm0⟩
      ·
       refine CW.skip (hK19 _ _ (CW.s2 (fun hK26 hE26 => CW.s1 (fun hK27 => CW.region ?_))))
       refine LR.m1 ?_
       refine LR.v1 (Y.neq rfl rfl rfl) (LR.nil (hK27 _ _ ?_))
       refine CW.condp rfl (fun c60 => ?_) (fun c60 => ?_)
       ·
        refine CW.s1 (fun hK28 => CW.region ?_)
        refine LR.m1 ?_
        refine LR.a1 ?_
        refine LR.a1 ?_
        refine LR.a1 (LR.nil (hK28 _ _ ?_))
        refine CW.ret (hE26 .ret nofun _ _ (hret .ret (.inr rfl) _ _ _ (res3 rfl rfl rfl rfl) ?_))
        have h8 : parE (D.readL p) ≠ 0 := by omega
        have hop := open_d (D := D) hn1 hn2 (by omega) h8
        exact ⟨.pointer none, 0, ⟨none, 0, 0⟩, [], _, _, (fun _ => False), by rw [hop]; rfl, by rw [hop]; exact hf, nx_hm0_hf, ⟨.inl ⟨rfl, rfl⟩⟩, (.inl rfl), DL.zK, ⟨fun h => absurd h (by rw [hop]; exact h8), fun _ => ⟨rfl, rfl⟩⟩, by rw [hop]; rfl, Rd.nil _ _ _ _, (fun x h => by cases h), (fun b h => h.elim), (fun c h => h.elim), (fun k hk b h => h.elim), (fun b h => h.elim), hm0⟩
       ·
        try (have h8 : (freshD D p (recs l44)).1 = 0 := (by omega); rw [lgN_0 h8, lgB_0 h8] at hlg)
        refine CW.skip (hK26 _ _ (CW.s1 (fun hK29 => CW.region ?_)))
        refine LR.m1 ?_
        refine LR.m1 ?_
        refine LR.v1 (Y.len hw44 rfl u'104 rfl) ?_
        refine LR.v1 (Y.nilCheck rfl rfl) ?_
        refine LR.v1 (Y.FA hlg.pt rfl u'206 rfl s'3) ?_
        refine LR.s1 (S.var1 hlg 2 ([ptr b, Str p, .int .i64 ((l44.length : Nat) : Int), .bool false]) rfl rfl rfl (rfl) s'3 (by simp) (rfl)) fun H17_5 r17_5 => ?_
        obtain ⟨hlg, hs17_5⟩ := r17_5
        replace hs17_5 := hs17_5.md1
        replace hf := hf.upL hs17_5 (DKL.cons dj1 DKL.nil)
        replace hw44 := hw44.upL hs17_5 (DFL.o df16)
        replace hx44 := fun x hx_ => (hx44 x hx_).upL hs17_5 (DFL.o df19)
        replace hm0 := hm0.trL hs17_5 (MIL.o (MI.q nx3))
        have hz9 := hs17_5.size
        refine LR.nil (hK29 _ _ (CW.s1 (fun hK30 => CW.region ?_)))
        refine LR.m1 ?_
        refine LR.m1 ?_
        refine LR.a1 ?_
        refine LR.a1 ?_
        refine LR.a1 (LR.nil (hK30 _ _ ?_))
        refine CW.ret (hret .ret (.inr rfl) _ _ _ (res3 rfl rfl rfl rfl) ?_)
        have hop : (openD D p).1 = 0 ∧ (openD D p).2.1 = parL (D.readL p) := by
         first
         | (have h9 := open_e (D := D) hn1 hn2 (by omega) (by omega) (by omega); have h8 : (freshD D p (parL (D.readL p))).1 = 0 := (by rw [← hrc44]; omega); rw [h8, if_pos rfl] at h9; rw [h9]; exact ⟨rfl, rfl⟩)
         | (have h9 := open_f (D := D) hn1 hn2 (by omega) (by omega) (by omega); rw [h9]; exact ⟨rfl, rfl⟩)
        exact ⟨ptr H18.size, (H18.size + 1), t44, l44, _, _, _, by rw [hop.1]; rfl, (by first | (have h9 := open_e (D := D) hn1 hn2 (by omega) (by omega) (by omega); rw [h9]; rw [hrc44] at hf; exact hf) | (have h9 := open_f (D := D) hn1 hn2 (by omega) (by omega) (by omega); rw [h9]; exact hf)), nx_hm0_hf, ⟨.inr ⟨_, rfl, rfl, hlg⟩⟩, nx3, dj1, ⟨fun _ => ⟨_, rfl, rfl⟩, fun h => absurd hop.1 h⟩, by rw [hop.2]; exact hrc44, hw44, (fun x h => hx44 x h), (bf_hw44.mono (by omega)), (fun c h => by have h9 := h.1; omega), (df15), (df16), hm0⟩
     ·
      refine LR.g1 ?_
      refine LR.g1 ?_
      refine LR.g1 ?_
      refine LR.g1 ?_
      refine LR.v1 (Y.pick_f rfl rfl rfl) (LR.nil (hK20 _ _ ?_))
      refine CW.cond_f rfl ?_
      refine CW.skip (hK19 _ _ (CW.s2 (fun hK31 hE31 => CW.s1 (fun hK32 => CW.region ?_))))
      refine LR.m1 ?_
      refine LR.v1 (Y.neq rfl rfl rfl) (LR.nil (hK32 _ _ ?_))
      refine CW.condp rfl (fun c60 => ?_) (fun c60 => ?_)
      ·
       refine CW.s1 (fun hK33 => CW.region ?_)
       refine LR.m1 ?_
       refine LR.a1 ?_
       refine LR.a1 ?_
       refine LR.a1 (LR.nil (hK33 _ _ ?_))
       refine CW.ret (hE31 .ret nofun _ _ (hret .ret (.inr rfl) _ _ _ (res3 rfl rfl rfl rfl) ?_))
       have h8 : parE (D.readL p) ≠ 0 := by omega
       have hop := open_d (D := D) hn1 hn2 (by omega) h8
       exact ⟨.pointer none, 0, ⟨none, 0, 0⟩, [], _, _, (fun _ => False), by rw [hop]; rfl, by rw [hop]; exact hf, nx_hm0_hf, ⟨.inl ⟨rfl, rfl⟩⟩, (.inl rfl), DL.zK, ⟨fun h => absurd h (by rw [hop]; exact h8), fun _ => ⟨rfl, rfl⟩⟩, by rw [hop]; rfl, Rd.nil _ _ _ _, (fun x h => by cases h), (fun b h => h.elim), (fun c h => h.elim), (fun k hk b h => h.elim), (fun b h => h.elim), hm0⟩
      ·
       try (have h8 : (freshD D p (recs l44)).1 = 0 := (by omega); rw [lgN_0 h8, lgB_0 h8] at hlg)
       refine CW.skip (hK31 _ _ (CW.seq (fun K34 hK34 _ => CW.region ?_)))
       refine LR.m1 ?_
       refine LR.m1 ?_
       refine LR.v1 (Y.len hw44 rfl u'104 rfl) ?_
       refine LR.v1 (Y.nilCheck rfl rfl) ?_
       refine LR.v1 (Y.FA hlg.pt rfl u'206 rfl s'3) ?_
       refine LR.s1 (S.var1 hlg 2 ([ptr b, Str p, .int .i64 ((l44.length : Nat) : Int), .bool false]) rfl rfl rfl (rfl) s'3 (by simp) (rfl)) fun H17_5 r17_5 => ?_
       obtain ⟨hlg, hs17_5⟩ := r17_5
       replace hs17_5 := hs17_5.md1
       replace hf := hf.upL hs17_5 (DKL.cons dj1 DKL.nil)
       replace hw44 := hw44.upL hs17_5 (DFL.o df16)
       replace hx44 := fun x hx_ => (hx44 x hx_).upL hs17_5 (DFL.o df19)
       replace hm0 := hm0.trL hs17_5 (MIL.o (MI.q nx3))
       have hz10 := hs17_5.size
       refine LR.nil (hK34 _ _ (CW.s1 (fun hK35 => CW.region ?_)))
       refine LR.m1 ?_
       refine LR.m1 ?_
       refine LR.a1 ?_
       refine LR.a1 ?_
       refine LR.a1 (LR.nil (hK35 _ _ ?_))
       refine CW.ret (hret .ret (.inr rfl) _ _ _ (res3 rfl rfl rfl rfl) ?_)
       have hop : (openD D p).1 = 0 ∧ (openD D p).2.1 = parL (D.readL p) := by
        first
        | (have h9 := open_e (D := D) hn1 hn2 (by omega) (by omega) (by omega); have h8 : (freshD D p (parL (D.readL p))).1 = 0 := (by rw [← hrc44]; omega); rw [h8, if_pos rfl] at h9; rw [h9]; exact ⟨rfl, rfl⟩)
        | (have h9 := open_f (D := D) hn1 hn2 (by omega) (by omega) (by omega); rw [h9]; exact ⟨rfl, rfl⟩)
       exact ⟨ptr H18.size, (H18.size + 1), t44, l44, _, _, _, by rw [hop.1]; rfl, (by first | (have h9 := open_e (D := D) hn1 hn2 (by omega) (by omega) (by omega); rw [h9]; rw [hrc44] at hf; exact hf) | (have h9 := open_f (D := D) hn1 hn2 (by omega) (by omega) (by omega); rw [h9]; exact hf)), nx_hm0_hf, ⟨.inr ⟨_, rfl, rfl, hlg⟩⟩, nx3, dj1, ⟨fun _ => ⟨_, rfl, rfl⟩, fun h => absurd hop.1 h⟩, by rw [hop.2]; exact hrc44, hw44, (fun x h => hx44 x h), (bf_hw44.mono (by omega)), (fun c h => by have h9 := h.1; omega), (df15), (df16), hm0⟩
theorem wopen_ok (mx_ : Int) (K : List Nat) (g : Gh) (b : Nat) (D : Dk) (p : Pth) (N : Nat) (w0 : World) (H0 : Heap) (hf : PDk K g H0 b D) (mx : MX mx_ H0) (bf_mx : BF (fun b => b = 0) H0.size) (dmx : DFL (fun b => b = 0) K) (hl : p.length ≤ 4294960000) (hB : Bs N D) (hN : N ≤ 80000000) (he : (openD D p).1 = 0) :
 Ct Tryz.prog w0 35 #[ptr b, Str p] H0 (fun r H2 => ∃ (lb : Nat) (t : SV) (l : List (SV × Rec)) (K2 : List Nat) (g2 : Gh) (G : Nat → Prop), r = .tuple #[ptr lb, t.v, .int .i64 0] ∧ PDk K2 g2 H2 b (openD D p).2.2 ∧ NxK K H0.size K2 ∧ Var 206 H2 lb [ptr b, Str p, .int .i64 (l.length : Int), .bool false] ∧ Nx 0 H0.size (lb + 1) ∧ DL (lb + 1) K2 ∧ recs l = (openD D p).2.1 ∧ Rd G H2 fP 1 t.v l ∧ (∀ x ∈ l, Rd G H2 fB 1 x.1.v x.2) ∧ BF G H2.size ∧ (∀ c, G c → H0.size ≤ c) ∧ DFL G K2 ∧ DF G (lb + 1) ∧ Mo (Ms K) H0 H2) := by
 refine (wopen_ct mx_ K g b D p N w0 H0 hf mx bf_mx dmx hl hB hN).mono ?_
 rintro r H2 ⟨lv, kl, t, l, K2, g2, G, rfl, h1, h2, h3, h4, h5, h6, h7, h8, h9, h11, h12, h13, h14, h10⟩
 obtain ⟨lb, rfl, rfl⟩ := h6.1 he
 exact ⟨lb, t, l, K2, g2, G, by rw [he]; rfl, h1, h2, h3.var.2, h4, h5, h7, h8, h9, h11, h12, h13, h14, h10⟩
end Go.Proofs.YtfjmpninmdjcaaaGreatDoor.WalG

namespace Go.Proofs.YtfjmpninmdjcaaaGreatDoor.RefJ
open E Go.RowKit SimA SimB SimC SimD SimE SimF SimG SimH SimI SimQ SimR WalA WalB WalC WalD WalE WalF WalG RefA RefB RefP RefQ RefR RefD RefE RefG RefH RefI
set_option maxRecDepth 20000
abbrev PJ : Pth := [106, 111, 117, 114, 110, 97, 108]
theorem book_st (lb : Nat) (s s2 : TSt) : splice (ptr lb :: fSt s) 1 (fSt s2) = ptr lb :: fSt s2 := by
 unfold splice
 rw [fSt_len]
 rw [List.drop_eq_nil_of_le (by rw [List.length_cons, fSt_len]; omega)]
 simp
theorem book_len (lb : Nat) (s : TSt) : (ptr lb :: fSt s).length = 75 := by rw [List.length_cons, fSt_len]
theorem zSt_st {F : Nat → Prop} {H : Heap} : StR F H zSt := ⟨Rd.nil _ _ _ _, Rd.nil _ _ _ _, (fun y h => by cases h), Rd.nil _ _ _ _, Rd.nil _ _ _ _, (fun y h => by cases h)⟩
theorem zSt_m : zSt.m = zM := rfl
def doR (D : Dk) (n : Nat) (br : Bool) (m : MSt) (t : TTx) : Int × Nat × Bool × Dk × MSt :=
 if chkE m t ≠ 0 then (chkE m t, n, br, D, m)
 else if (appD D PJ n br (encT t)).1 ≠ 0 then (((appD D PJ n br (encT t)).1 : Int), (appD D PJ n br (encT t)).2.1, (appD D PJ n br (encT t)).2.2.1, (appD D PJ n br (encT t)).2.2.2, m)
 else (0, (appD D PJ n br (encT t)).2.1, (appD D PJ n br (encT t)).2.2.1, (appD D PJ n br (encT t)).2.2.2, m.ap t)
section
variable {D : Dk} {n : Nat} {br : Bool} {m : MSt} {t : TTx}
theorem do_1 (h : chkE m t ≠ 0) : doR D n br m t = (chkE m t, n, br, D, m) := by unfold doR; rw [if_pos h]
theorem do_2 (h : chkE m t = 0) (h2 : (appD D PJ n br (encT t)).1 ≠ 0) : doR D n br m t = (((appD D PJ n br (encT t)).1 : Int), (appD D PJ n br (encT t)).2.1, (appD D PJ n br (encT t)).2.2.1, (appD D PJ n br (encT t)).2.2.2, m) := by unfold doR; rw [if_neg (by rw [h]; decide), if_pos h2]
theorem do_3 (h : chkE m t = 0) (h2 : (appD D PJ n br (encT t)).1 = 0) : doR D n br m t = (0, (appD D PJ n br (encT t)).2.1, (appD D PJ n br (encT t)).2.2.1, (appD D PJ n br (encT t)).2.2.2, m.ap t) := by unfold doR; rw [if_neg (by rw [h]; decide), if_neg (by rw [h2]; decide)]
end
set_option maxHeartbeats 4000000 in
theorem open0_ct (mx_ : Int) (K : List Nat) (g : Gh) (b : Nat) (D : Dk) (N : Nat) (w0 : World) (H0 : Heap)
 (hf : PDk K g H0 b D) (mx : MX mx_ H0) (bf_mx : BF (fun b => b = 0) H0.size) (dmx : DFL (fun b => b = 0) K) (hB : Bs N D) (hN : N ≤ 80000000) (he : (openD D PJ).1 = 0) (hr : (openD D PJ).2.1 = []) :
 Ct Tryz.prog w0 14 #[ptr b] H0 (fun r H2 => ∃ bb : Nat, ∃ lb : Nat, ∃ K2 : List Nat, ∃ g2 : Gh, r = .tuple #[ptr bb, .int .i64 0] ∧ (PDk K2 g2 H2 b (openD D PJ).2.2) ∧ (NxK K H0.size K2) ∧ (Var 206 H2 lb [ptr b, Str PJ, .int .i64 0, .bool false]) ∧ (Nx 0 H0.size (lb + 1)) ∧ (DL (lb + 1) K2) ∧ (Var 108 H2 bb (ptr lb :: fSt zSt)) ∧ (Nx 0 H0.size (bb + 1)) ∧ (DL (bb + 1) K2) ∧ (Dj (lb + 1) (bb + 1)) ∧ Mo (Ms K) H0 H2) := by
 refine Ct.enter (args := [ptr b]) Tryz.func14 rfl rfl rfl ?_
 intro Q0 hret
 have hm0 : Mo (Ms K) H0 H0 := Mo.refl _ _
 have nx_hm0_hf := NxK.refl K H0.size
 have hbk_hf := hf.bk
 refine CW.s1 (fun hK1 => CW.region ?_)
 refine LR.a1 ?_
 refine LR.a1 (LR.nil (hK1 _ _ ?_))
 refine CW.seq (fun K2 hK2 _ => CW.region ?_)
 refine LR.m1 ?_
 refine LR.call rfl c'35 rfl (Wd.u rfl) rfl rfl (wopen_ok mx_ K g b D PJ _ w0 _ hf mx (bf_mx.mono (by omega)) (dmx) (by decide) hB (hN) he) (fun v14 H14 r14 => ?_)
 obtain ⟨lb14, t14, l14, Q14, g14, G14, rfl, hf, hkd14, hlg, hkl14, dl214, hrl14, hw14, hx14, hGb14, hGf14, hGk14, hGl14, hs14⟩ := r14
 have nx3 : NxK K H0.size Q14 := NxK.tr (nx_hm0_hf) hkd14 hm0.size
 have nx6 : Nx 0 H0.size (lb14 + 1) := Nx.tr (Nx.refl 0 _) hkl14 hm0.size
 replace hm0 := hm0.trL hs14 (MIL.ofK (nx_hm0_hf) (by intro k hk; simp [hk]))
 have hz1 := hs14.size
 have hbk_hf := hf.bk
 have hle_hlg := hlg.le
 rw [hr] at hrl14
 have hl0 : l14.length = 0 := by have := congrArg List.length hrl14; simpa [recs] using this
 rw [hl0] at hlg
 refine LR.m1 ?_
 refine LR.v1 (Y.extract rfl rfl rfl) ?_
 refine LR.v1 (Y.extract rfl rfl rfl) ?_
 refine LR.v1 (Y.extract rfl rfl rfl) ?_
 refine LR.a1 ?_
 refine LR.a1 ?_
 refine LR.a1 (LR.nil (hK2 _ _ ?_))
 refine CW.s1 (fun hK3 => CW.s1 (fun hK4 => CW.region ?_))
 refine LR.m1 ?_
 refine LR.v1 ((Y.neq rfl rfl rfl).isF ((fun h => h rfl))) (LR.nil (hK4 _ _ ?_))
 refine CW.cond_f rfl ?_
 refine CW.skip (hK3 _ _ (CW.s1 (fun hK5 => CW.region ?_)))
 refine LR.m1 ?_
 refine LR.v1 (Y.build (v := .agg (ptr lb14 :: fSt zSt).toArray) rfl rfl (by intro w; kernel_rfl)) ?_
 refine LR.z1 (Z.boxv rfl rfl) fun v23 H23 r23 => ?_
 obtain ⟨rfl, hbk, hs23, ob23, hH23⟩ := r23
 have hzs23 : H23.size = H14.size + 1 := by rw [hH23]; simp
 have dj7 : DL (H14.size + 1) Q14 := DL.newK hf.bk
 have dj9 : Dj (lb14 + 1) (H14.size + 1) := Dj.new hlg.le
 have nx12 : Nx 0 H0.size (H14.size + 1) := Nx.new hm0.size
 replace hf := hf.nw hs23
 replace hlg := hlg.nw hs23
 replace hw14 := hw14.nw hs23
 replace hm0 := hm0.trN hs23
 have hz2 := hs23.size
 replace hbk : Var 108 H23 H14.size ((ptr lb14 :: fSt zSt)) := hbk
 refine LR.a1 (LR.nil (hK5 _ _ ?_))
 refine CW.s1 (fun hK6 => CW.s1 (fun hK7 => CW.region ?_))
 refine LR.m1 ?_
 refine LR.v1 (Y.len hw14 rfl u'104 rfl) ?_
 refine LR.m1 (LR.nil (hK7 _ _ ?_))
 refine CW.block (fun _ _ hX8 _ => ?_)
 refine CW.loop (fun (_ : Unit) => [(7, .pointer (some ⟨H14.size, 0, none⟩)), (24, t14.v), (25, .int .i64 (l14.length : Int)), (26, .int .i64 0)])
  (fun (_ : Unit) (H : Heap) => (True) ∧ Nw H23 H)
  (fun (_ : Unit) => 0) () ⟨rfl, rfl, rfl, rfl, trivial⟩ ?_ ?_
 ·
  exact ⟨trivial, Mo.refl _ _⟩
 intro _ HL1 hI1 K9 hN9 hE9
 obtain ⟨htr, hlm1⟩ := hI1
 replace hf := hf.nw hlm1
 replace hlg := hlg.nw hlm1
 replace hbk := hbk.nw hlm1
 replace hm0 := hm0.trN hlm1
 have hz3 := hlm1.size
 refine CW.s1 (fun hK10 => CW.region ?_)
 refine LR.v1 (Y.lss rfl rfl rfl) (LR.nil (hK10 _ _ ?_))
 refine CW.s2 (fun _ hE11 => ?_)
 refine CW.condp rfl (fun c27 => ?_) (fun c27 => ?_)
 ·
  omega
 ·
  refine CW.exit (hE11 (.exit 0) nofun _ _ (hE9 (.exit 0) nofun _ _ (hX8 _ _ ?_)))
  refine hK6 _ _ (CW.s1 (fun hK12 => CW.region ?_))
  refine LR.m1 ?_
  refine LR.a1 ?_
  refine LR.a1 (LR.nil (hK12 _ _ ?_))
  refine CW.ret (hret .ret (.inr rfl) _ _ _ (res2 rfl rfl rfl) ?_)
  exact ⟨H14.size, lb14, Q14, g14, rfl, hf, nx3, hlg, nx6, dl214, hbk, nx12, dj7, dj9, hm0⟩
set_option maxHeartbeats 8000000 in
theorem do_ct (mx_ : Int) (K : List Nat) (g : Gh) (b : Nat) (D : Dk) (N lb bb n : Nat) (br : Bool) (s : TSt) (t : TTx) (F F2 : Nat → Prop) (w0 : World) (H0 : Heap)
 (hf : PDk K g H0 b D) (mx : MX mx_ H0) (bf_mx : BF (fun b => b = 0) H0.size) (dmx : DFL (fun b => b = 0) K) (hlg : Var 206 H0 lb [ptr b, Str PJ, .int .i64 (n : Int), .bool br]) (dl : DL (lb + 1) K) (dmv : DF (fun b => b = 0) (lb + 1)) (hbk : Var 108 H0 bb (ptr lb :: fSt s)) (dl3 : DL (bb + 1) K) (dlb : Dj (lb + 1) (bb + 1)) (dmb : DF (fun b => b = 0) (bb + 1)) (hs : ∀ u : Unit, StR F H0 s) (bf_hs : BF F H0.size) (sf : DFL F K) (sl : DF F (lb + 1)) (sb : DF F (bb + 1)) (ht : TxR F2 H0 t) (bf_ht : BF F2 H0.size) (tf : DFL F2 K) (tl_ : DF F2 (lb + 1)) (tb : DF F2 (bb + 1)) (ok : s.m.Ok) (hz : TxS t) (hB : Bs N D) (hN : N ≤ 80000000) (hnn : n ≤ 1000000000) :
 Ct Tryz.prog w0 15 #[ptr bb, txV t] H0 (fun r H2 => ∃ K2 : List Nat, ∃ g2 : Gh, ∃ s2 : TSt, ∃ G : Nat → Prop, r = .int .i64 (doR D n br s.m t).1 ∧ (PDk K2 g2 H2 b (doR D n br s.m t).2.2.2.1) ∧ (NxK K H0.size K2) ∧ (Var 206 H2 lb [ptr b, Str PJ, .int .i64 ((doR D n br s.m t).2.1 : Int), .bool (doR D n br s.m t).2.2.1]) ∧ (DL (lb + 1) K2) ∧ (Var 108 H2 bb (ptr lb :: fSt s2)) ∧ (DL (bb + 1) K2) ∧ (∀ u : Unit, StR G H2 s2) ∧ (BF G H2.size) ∧ (DFL G K2) ∧ (DF G (lb + 1)) ∧ (DF G (bb + 1)) ∧ (s2.m = (doR D n br s.m t).2.2.2.2) ∧ Mo (Ms (K ++ [(lb + 1), (bb + 1)])) H0 H2) := by
 refine Ct.enter (args := [ptr bb, txV t]) Tryz.func15 rfl rfl rfl ?_
 intro Q0 hret
 have hm0 : Mo (Ms (K ++ [(lb + 1), (bb + 1)])) H0 H0 := Mo.refl _ _
 have nx_hm0_hf := NxK.refl K H0.size
 have hbk_hf := hf.bk
 have nx_hm0_hlg := Nx.refl (lb + 1) H0.size
 have hlt_hlg := hlg.lt
 have nx_hm0_hbk := Nx.refl (bb + 1) H0.size
 have hlt_hbk := hbk.lt
 have hln := hz.ln
 refine CW.s1 (fun hK1 => CW.region ?_)
 refine LR.z1 (Z.boxv rfl rfl) fun v3 H3 r3 => ?_
 obtain ⟨rfl, va, hs3, ob3, hH3⟩ := r3
 have hzs3 : H3.size = H0.size + 1 := by rw [hH3]; simp
 have dj1 : DL (H0.size + 1) K := DL.newK hf.bk
 have dj3 : Dj (lb + 1) (H0.size + 1) := Dj.new hlg.lt
 replace hf := hf.nw hs3
 replace mx := mx.nw hs3
 replace hlg := hlg.nw hs3
 replace hbk := hbk.nw hs3
 replace hs := fun u => (hs u).nw hs3
 replace ht := ht.nw hs3
 replace hm0 := hm0.trN hs3
 have hz1 := hs3.size
 replace va : Var 32 H3 H0.size (fTx t) := va
 refine LR.a1 (LR.nil (hK1 _ _ ?_))
 refine CW.seq (fun K2 hK2 hE2 => CW.s1 (fun hK3 => ?_))
 refine CW.region_tail 5 rfl (by kernel_rfl) (fun T1 hT1 => ?_)
 refine LR.m1 ?_
 refine LR.v1 (Y.nilCheck rfl rfl) ?_
 refine LR.v1 (Y.FA hbk.pt rfl u'108 rfl s'47) ?_
 refine LR.v1 (Y.loadN (hbk.pt.drop 1) rfl a'47 s'47 (fSt_len _) rfl) ?_
 refine LR.v1 (Y.loadN va.pt rfl a'32 s'32 (fTx_len _) rfl) ?_
 refine LR.nil (hT1 _ ?_)
 refine LR.call rfl c'23 rfl (Wd.u rfl) rfl rfl (check_ct s t F F2 mx_ w0 _ mx (bf_mx.mono (by omega)) (hs ()) (bf_hs.mono (by omega)) ht (bf_ht.mono (by omega)) ok hz) (fun v14 H14 r14 => ?_)
 obtain ⟨rfl, hs14⟩ := r14
 replace hf := hf.nw hs14
 replace mx := mx.nw hs14
 replace hlg := hlg.nw hs14
 replace hbk := hbk.nw hs14
 replace hs := fun u => (hs u).nw hs14
 replace ht := ht.nw hs14
 replace va := va.nw hs14
 replace hm0 := hm0.trN hs14
 have hz2 := hs14.size
 refine LR.a1 (LR.nil (hK3 _ _ ?_))
 refine CW.s1 (fun hK4 => CW.region ?_)
 refine LR.m1 ?_
 refine LR.v1 (Y.neq rfl rfl rfl) (LR.nil (hK4 _ _ ?_))
 refine CW.condp rfl (fun c16 => ?_) (fun c16 => ?_)
 ·
  have hd := do_1 (D := D) (n := n) (br := br) c16
  refine CW.s1 (fun hK5 => CW.region ?_)
  refine LR.m1 ?_
  refine LR.a1 (LR.nil (hK5 _ _ ?_))
  refine CW.ret (hE2 .ret nofun _ _ (hret .ret (.inr rfl) _ _ _ (res1 rfl rfl) ?_))
  exact ⟨K, g, s, F, by rw [hd], (by rw [hd]; exact hf), nx_hm0_hf, (by rw [hd]; exact hlg), dl, hbk, dl3, hs, (bf_hs.mono (by omega)), (sf), (sl), (sb), by rw [hd], hm0⟩
 ·
  have hc0 : chkE s.m t = 0 := by simpa using c16
  have hx := encX_of hz hc0
  refine CW.skip (hK2 _ _ (CW.s1 (fun hK6 => CW.region ?_)))
  refine LR.v1 (Y.loadN va.pt rfl a'32 s'32 (fTx_len _) rfl) ?_
  refine LR.call rfl c'37 rfl (Wd.u rfl) rfl rfl (enc_ct t F2 w0 _ ht (bf_ht.mono (by omega)) hx) (fun v20 H20 r20 => ?_)
  obtain ⟨se, ke, rfl, ow, hke, hs20⟩ := r20
  have dj8 : DL ke K := DL.app2 (DL.zK) hf.bk hke
  have dj10 : Dj (lb + 1) ke := Dj.app (Dj.z) hlg.lt hke
  replace hf := hf.nw hs20
  replace mx := mx.nw hs20
  replace hlg := hlg.nw hs20
  replace hbk := hbk.nw hs20
  replace hs := fun u => (hs u).nw hs20
  replace ht := ht.nw hs20
  replace va := va.nw hs20
  replace hm0 := hm0.trN hs20
  have hz3 := hs20.size
  have hle_ow := ow.le
  refine LR.m1 ?_
  refine LR.v1 (Y.extract rfl rfl rfl) ?_
  refine LR.v1 (Y.extract rfl rfl rfl) ?_
  refine LR.a1 ?_
  refine LR.a1 (LR.nil (hK6 _ _ ?_))
  refine CW.s2 (fun hK7 hE7 => CW.s1 (fun hK8 => CW.region ?_))
  refine LR.m1 ?_
  refine LR.v1 (Y.nilCheck rfl rfl) ?_
  refine LR.v1 (Y.FA hbk.pt rfl u'108 rfl s'103) ?_
  refine LR.v1 (Y.load1 hbk.pt rfl a'103 rfl) ?_
  refine LR.m1 ?_
  refine LR.call rfl c'38 rfl (Wd.u rfl) rfl rfl (wapp_ct mx_ K g b D lb PJ n br se (encT t) _ N w0 _ hf mx (bf_mx.mono (by omega)) (dmx) hlg (dl) (dmv) ow.rd (BF.of ow.le) (DFL.of (dj8)) (DF.of (dj10.symm)) hln (by decide) hB hN hnn) (fun v28 H28 r28 => ?_)
  have ql18 := hbk.lt
  obtain ⟨K28, g28, rfl, hf, hkd28, hlg, dl228, hs28⟩ := r28
  have dj23 : DL (bb + 1) K28 := DL.appK (dl3) ql18 hkd28
  have df24 := DFL.appK (sf) (bf_hs.mono hm0.size) hkd28
  have nx28 : NxK K H0.size K28 := NxK.tr (nx_hm0_hf) hkd28 hm0.size
  replace hbk := hbk.upL hs28 (DL.app dl3 (DL.o dlb.symm))
  replace hs := fun u => (hs u).upL hs28 (DFL.app sf (DFL.o sl))
  replace ht := ht.upL hs28 (DFL.app tf (DFL.o tl_))
  replace va := va.upL hs28 (DL.app dj1 (DL.o dj3.symm))
  replace hm0 := hm0.trL hs28 (MIL.app (MIL.ofK (nx_hm0_hf) (by intro k hk; simp [hk])) (MIL.o (MI.r nx_hm0_hlg)))
  have hz4 := hs28.size
  have hbk_hf := hf.bk
  refine LR.a1 (LR.nil (hK8 _ _ ?_))
  refine CW.s1 (fun hK9 => CW.region ?_)
  refine LR.m1 ?_
  refine LR.v1 (Y.neq rfl rfl rfl) (LR.nil (hK9 _ _ ?_))
  refine CW.condp rfl (fun c30 => ?_) (fun c30 => ?_)
  ·
   have hd := do_2 (D := D) (n := n) (br := br) hc0 (by omega)
   refine CW.s1 (fun hK10 => CW.region ?_)
   refine LR.m1 ?_
   refine LR.a1 (LR.nil (hK10 _ _ ?_))
   refine CW.ret (hE7 .ret nofun _ _ (hret .ret (.inr rfl) _ _ _ (res1 rfl rfl) ?_))
   exact ⟨K28, g28, s, F, by rw [hd], (by rw [hd]; exact hf), nx28, (by rw [hd]; exact hlg), dl228, hbk, dj23, hs, (bf_hs.mono (by omega)), (df24), (sl), (sb), by rw [hd], hm0⟩
  ·
   have hd := do_3 (D := D) (n := n) (br := br) hc0 (by omega)
   refine CW.skip (hK7 _ _ (CW.s1 (fun hK11 => ?_)))
   refine CW.region_any (fun Hq => Nw H28 Hq) [7, 8, 9] rfl ?_
   have hqs := Nw.refl H28
   refine LH.m1 0 rfl hqs ?_
   refine LH.m1 1 rfl hqs ?_
   refine LH.t1 2 rfl (fun Hq hq => Y.nilCheck rfl rfl) hqs ?_
   refine LH.t1 3 rfl (fun Hq hq => Y.FA (hbk.pt.nw hq) rfl u'108 rfl s'47) hqs ?_
   refine LH.t1 4 rfl (fun Hq hq => Y.loadN ((hbk.pt.drop 1).nw hq) rfl a'47 s'47 (fSt_len _) rfl) hqs ?_
   refine LH.t1 5 rfl (fun Hq hq => Y.loadN (va.pt.nw hq) rfl a'32 s'32 (fTx_len _) rfl) hqs ?_
   refine LH.o1 6 ?_
   refine LO.call rfl rfl c'24 rfl (Wd.u rfl) rfl rfl (apply_ct s t F F2 w0 _ (hs ()) (bf_hs.mono (by omega)) ht (bf_ht.mono (by omega)) ok hc0 hz) (fun v38 H38 r38 => ?_)
   obtain ⟨s9, rfl, hs9, hm9, hs38⟩ := r38
   replace hf := hf.nw hs38
   replace hlg := hlg.nw hs38
   replace hbk := hbk.nw hs38
   replace hs := fun u => (hs u).nw hs38
   replace hm0 := hm0.trN hs38
   have hz5 := hs38.size
   replace hs9 := hs9.bnd
   have bf_hs9 := hs9.bf
   have df29 : DFL (fun b => H28.size ≤ b ∧ b < H38.size) K28 := DFL.above (fun b h => h.1) (by first | exact hbk_hf | exact fun k hk => Nat.le_trans (hbk_hf k hk) (by omega) | assumption)
   have df30 : DF (fun b => H28.size ≤ b ∧ b < H38.size) (lb + 1) := DF.above (fun b h => h.1) (by first | exact hle_hlg | exact hlt_hlg | omega)
   have df31 : DF (fun b => H28.size ≤ b ∧ b < H38.size) (bb + 1) := DF.above (fun b h => h.1) (by first | exact hle_hbk | exact hlt_hbk | omega)
   have hq38 := hqs.tr hs38
   refine ⟨.inr hq38, LH.narrow (SH2 := fun Hq => Nw H38 Hq) (fun Hq hq => hq38.tr hq) ?_⟩
   have hqn38 := Nw.refl H38
   refine LH.o1 7 ?_
   refine LO.v rfl (Y.nilCheck rfl rfl) (Wd.u rfl) rfl rfl (.inl rfl) ?_
   refine LH.o1 8 ?_
   refine LO.v rfl (Y.FA hbk.pt rfl u'108 rfl s'47) (Wd.u rfl) rfl rfl (.inl rfl) ?_
   refine LH.o1 9 ?_
   refine LO.s rfl (S.var hbk (_) ((ptr lb :: fSt s9)) rfl rfl rfl rfl ((fSt_one _)) s'47 (fSt_len _) (by rw [book_len]; exact Nat.le_of_ble_eq_true rfl) ((book_st _ _ _))) (Wd.u rfl) rfl (fun H8_9 r8_9 => ?_)
   obtain ⟨hbk, hs8_9⟩ := r8_9
   replace hs8_9 := hs8_9.md1
   replace hf := hf.upL hs8_9 (DKL.cons dj23 DKL.nil)
   replace hlg := hlg.upL hs8_9 (DL.o dlb)
   replace hs := fun u => (hs u).upL hs8_9 (DFL.o sb)
   replace hs9 := hs9.upL hs8_9 (DFL.o df31)
   replace hm0 := hm0.trL hs8_9 (MIL.o (MI.r nx_hm0_hbk))
   have hz6 := hs8_9.size
   refine ⟨.inl rfl, ?_⟩
   refine LH.done (by kernel_rfl) ?_
   have hqe := hqn38
   refine hK11 _ _ (CW.s1 (fun hK12 => CW.region ?_))
   refine LR.a1 (LR.nil (hK12 _ _ ?_))
   refine CW.ret (hret .ret (.inr rfl) _ _ _ (res1 rfl rfl) ?_)
   exact ⟨K28, g28, s9, _, by rw [hd], (by rw [hd]; exact hf), nx28, (by rw [hd]; exact hlg), dl228, hbk, dj23, (fun _ => hs9), (bf_hs9.mono (by omega)), (df29), (df30), (df31), by rw [hd]; exact hm9, hm0⟩
theorem state_ct (lb bb : Nat) (s : TSt) (F : Nat → Prop) (w0 : World) (H0 : Heap)
 (hbk : Var 108 H0 bb (ptr lb :: fSt s)) (hs : StR F H0 s) (bf_hs : BF F H0.size) (ok : s.m.Ok) :
 Ct Tryz.prog w0 17 #[ptr bb] H0 (fun r H2 => ∃ s2 : TSt, r = stV s2 ∧ (StR (fun b => H0.size ≤ b) H2 s2) ∧ (s2.m = s.m) ∧ Nw H0 H2) := by
 refine Ct.enter (args := [ptr bb]) Tryz.func17 rfl rfl rfl ?_
 intro Q0 hret
 have hm0 : Nw H0 H0 := Mo.refl _ _
 have hlt_hbk := hbk.lt
 refine CW.s1 (fun hK1 => CW.region ?_)
 refine LR.z1 (Z.allocv rfl z'47) fun v2 H2 r2 => ?_
 obtain ⟨rfl, vr, hs2, ob2, hH2⟩ := r2
 have hzs2 : H2.size = H0.size + 1 := by rw [hH2]; simp
 have nx3 : Nx 0 H0.size (H0.size + 1) := Nx.new hm0.size
 replace hbk := hbk.nw hs2
 replace hs := hs.nw hs2
 replace hm0 := hm0.tr hs2
 have hz1 := hs2.size
 refine LR.nil (hK1 _ _ (CW.s1 (fun hK2 => CW.region ?_)))
 refine LR.m1 ?_
 refine LR.v1 (Y.nilCheck rfl rfl) ?_
 refine LR.v1 (Y.FA hbk.pt rfl u'108 rfl s'47) ?_
 refine LR.v1 (Y.loadN (hbk.pt.drop 1) rfl a'47 s'47 (fSt_len _) rfl) ?_
 refine LR.call rfl c'39 rfl (Wd.u rfl) rfl rfl (twin_ct s F w0 _ hs (bf_hs.mono (by omega)) ok) (fun v7 H7 r7 => ?_)
 obtain ⟨s7, ke, G, rfl, hq, ow, hke, hbf, hab, hdf, hm7, hs7⟩ := r7
 have dj6 : Dj (H0.size + 1) ke := Dj.app (Dj.z) vr.lt hke
 have nx7 : Nx 0 H0.size ke := Nx.tr (Nx.refl 0 _) hke hm0.size
 replace vr := vr.nw hs7
 replace hm0 := hm0.tr hs7
 have hz2 := hs7.size
 have hle_ow := ow.le
 have df9 : DF _ (H0.size + 1) := DF.above hab (by first | exact hle_vr | exact hlt_vr | omega)
 refine LR.s1 (S.var vr (_) (fSt s7) rfl rfl rfl rfl (fSt_one _) s'47 (fSt_len _) (by decide) ((splice_all2 (fSt_len _).symm))) fun H1_5 r1_5 => ?_
 obtain ⟨vr, hs1_5⟩ := r1_5
 replace hs1_5 := hs1_5.md1
 replace ow := ow.upL hs1_5 (DL.o dj6.symm)
 replace hq := hq.upL hs1_5 (DFL.o df9)
 replace hm0 := hm0.tq hs1_5 (MIL.o (MI.q nx3))
 have hz3 := hs1_5.size
 refine LR.nil (hK2 _ _ ?_)
 refine CW.ret (hret .ret (.inr rfl) _ _ _ (resC rfl rfl vr.pt a'47 s'47 (fSt_len _)) ?_)
 exact ⟨s7, rfl, (StQ.st (hq.imp (fun b _ e => by have q1 := hab b e; omega)) (ow.rd.imp (fun b _ e => by have q1 := (nx7); unfold Nx at q1; omega))), hm7, hm0⟩
end Go.Proofs.YtfjmpninmdjcaaaGreatDoor.RefJ

namespace Go.Proofs.YtfjmpninmdjcaaaGreatDoor.RefV
open E Go.RowKit NamA NamB NamC NamD RefA RefB RefP
set_option maxRecDepth 20000
def idN (j : Nat) : Ide := ⟨1 :: UInt8.ofNat j :: List.replicate 30 0, by simp⟩
def whN (i : Nat) : List UInt8 := [UInt8.ofNat (97 + i % 26)]
def oldN (i : Nat) : Ide := if i = 0 then Zid else idN (i - 1)
def lnN (i : Nat) : TLn := ⟨oldN i, idN i, whN i⟩
def lgN (i : Nat) : List TLn := lastN ((List.range i).map lnN)
theorem chkE_mv {s : MSt} {t : TTx} {e : Int} (h0 : noneE t = 0) (h1 : headE2 t = 0) (h2 : movesE s.rf t.ml = e) (h3 : sqE2 t = 0) (h4 : memsE s.me t.el = 0) : chkE s t = e := by
 unfold chkE
 rw [h0, h1, h2, h3, h4]
 by_cases he : e = 0 <;> simp [he]
theorem gput_new {β : Type} : ∀ {l : List (Pth × β)} {p : Pth} {i : β}, mget l p = none → (gput l p i).length = l.length + 1
 | [], _, _, _ => rfl
 | x :: l, p, i, h => by
   simp only [mget] at h
   split at h
   · cases h
   · rename_i hne
     unfold gput
     rw [if_neg (fun e => hne e.symm)]
     split
     · rfl
     · rw [List.length_cons, List.length_cons, gput_new h]
theorem atM_none {s : MSt} (h : s.Ok) {n : Pth} (ha : atM s.rf n = Zid) : mget s.rf n = none := by
 cases hg : mget s.rf n with
 | none => rfl
 | some z =>
   unfold atM at ha
   rw [hg, Option.getD_some] at ha
   exact absurd ha (h.nz _ (E.mget_mem hg))
theorem mvE_zero {l : RL} {pre : List TMv} {m : TMv} (h : mvE l pre m = 0) : chk m.n = 0 ∧ m.n ∉ pre.map (·.n) ∧ atM l m.n = m.o ∧ m.w ≠ m.o := by
 unfold mvE at h
 split at h
 · cases h
 rename_i h1
 split at h
 · cases h
 rename_i h2
 split at h
 · cases h
 rename_i h3
 split at h
 · cases h
 rename_i h4
 exact ⟨by simpa using h1, h2, by simpa using h3, h4⟩
def idM (i : Nat) : Ide := ⟨UInt8.ofNat (i + 1) :: List.replicate 31 0, by simp⟩
def idK (i : Nat) : Ide := ⟨UInt8.ofNat (7 * i) :: 1 :: List.replicate 30 0, by simp⟩
theorem idK_inj {i j : Nat} (hi : i < 30) (hj : j < 30) (h : (idK i).1 = (idK j).1) : i = j := by
 have h1 := congrArg (fun z : List UInt8 => z.getD 0 0) h
 simp only [idK, List.getD_cons_zero] at h1
 have h2 := congrArg UInt8.toNat h1
 rw [UInt8.toNat_ofNat', UInt8.toNat_ofNat'] at h2
 omega
structure OrdI (s : MSt) (i n : Nat) : Prop where
 ok : s.Ok
 rn : s.rf.length = n
 mn : s.me.length = n
 ks : ∀ y ∈ s.me, ∃ j, j < i ∧ y.1 = (idK j).1
theorem OrdI.zero : OrdI zM 0 0 := ⟨zM_ok, rfl, rfl, fun y h => by cases h⟩
theorem OrdI.more {s : MSt} {i n : Nat} (h : OrdI s i n) : OrdI s (i + 1) n := ⟨h.ok, h.rn, h.mn, fun y hy => by obtain ⟨j, h1, h2⟩ := h.ks y hy; exact ⟨j, by omega, h2⟩⟩
theorem OrdI.step {s : MSt} {i n : Nat} {x : Pth} {t : TTx} {w : Ide} (h : OrdI s i n) (hi : i < 30) (hw : w ≠ Zid) (e1 : t.ml = [⟨x, Zid, w, []⟩]) (e2 : ∃ v, t.el = [⟨idK i, v, x⟩]) (hc : chkE s t = 0) : OrdI (s.ap t) (i + 1) (n + 1) := by
 obtain ⟨v, e2⟩ := e2
 have c := chkE_zero hc
 have hm := c.mv
 rw [e1, mvsE] at hm
 have h0 : mvE s.rf [] ⟨x, Zid, w, []⟩ = 0 := by
  by_cases hq : mvE s.rf [] ⟨x, Zid, w, []⟩ ≠ 0
  · rw [if_pos hq] at hm; exact hm
  · simpa using hq
 have hn := atM_none h.ok (mvE_zero h0).2.2.1
 have hk : mget s.me (idK i).1 = none := by
  cases hg : mget s.me (idK i).1 with
  | none => rfl
  | some z =>
    obtain ⟨j, h1, h2⟩ := h.ks _ (E.mget_mem hg)
    have := idK_inj hi (by omega) h2
    omega
 refine ⟨h.ok.ap hc, ?_, ?_, fun y hy => ?_⟩
 · show (t.ml.foldl mvR s.rf).length = _
   rw [e1, List.foldl_cons, List.foldl_nil, mvR, if_neg hw, gput_new hn, h.rn]
 · show (adM s.me t.el).length = _
   rw [e2]
   show (gput s.me (idK i).1 x).length = _
   rw [gput_new hk, h.mn]
 · have hy : y ∈ adM s.me t.el := hy
   rcases adM_mem hy with hy | ⟨m, hm, e⟩
   · obtain ⟨j, h1, h2⟩ := h.ks y hy; exact ⟨j, by omega, h2⟩
   · rw [e2, List.mem_singleton] at hm
     rw [e, hm]; exact ⟨i, by omega, rfl⟩
end Go.Proofs.YtfjmpninmdjcaaaGreatDoor.RefV

namespace Go.Proofs.YtfjmpninmdjcaaaGreatDoor.SimS
open E Go.RowKit SimA SimB SimC SimD SimE SimF SimG SimH SimI SimJ SimK SimQ SimR
set_option maxRecDepth 20000
theorem lay_a {c m : Nat} {fs : List Fdt} {nw st : Nms} {lg : List Chg} {op : Nat} {p : Pth} {w : Wr} (hn : nameB p = true) (h1 : (w.on (Dk.wasL ⟨c, m, fs, nw, st, lg, op + 1, 0, false⟩ p) w.d.length).length ≤ m) (h2 : usedL fs nw + (w.on (Dk.wasL ⟨c, m, fs, nw, st, lg, op + 1, 0, false⟩ p) w.d.length).length ≤ c + (Dk.wasL ⟨c, m, fs, nw, st, lg, op + 1, 0, false⟩ p).length) :
 Dk.lay ⟨c, m, fs, nw, st, lg, op, 0, false⟩ p w = (0, Dk.write ⟨c, m, fs, nw, st, lg, op + 1, 0, false⟩ p w) := by
 have hb : Dk.begin ⟨c, m, fs, nw, st, lg, op, 0, false⟩ = (true, ⟨c, m, fs, nw, st, lg, op + 1, 0, false⟩) := by simp [Dk.begin]
 have he := layE_0 (D := ⟨c, m, fs, nw, st, lg, op + 1, 0, false⟩) hn (Nat.not_lt.2 h1) (Nat.not_lt.2 h2)
 rw [lay_go (by rw [hb]), hb]
 simp only [he, if_true]
theorem on_f (b : List UInt8) (d : List UInt8) : (⟨false, d⟩ : Wr).on b d.length = d := by simp [Wr.on]
theorem on_t (b : List UInt8) (d : List UInt8) : (⟨true, d⟩ : Wr).on b d.length = b ++ d := by simp [Wr.on]
end Go.Proofs.YtfjmpninmdjcaaaGreatDoor.SimS

namespace Go.Proofs.YtfjmpninmdjcaaaGreatDoor.SimY
open E Go.RowKit SimA SimB SimC SimD SimE SimF SimG SimH SimI SimJ SimK SimQ SimR SimS
set_option maxRecDepth 20000
section
variable {H : Type} {enc : TypeId × Value → H} {P : Program} {W : World} {base : Nat} {sp : Nat → Bool} {held : Bool}
open Go.ChangeShapes Go.WideShapes Go.ChangeAt Go.RowKit Go.Deep
end
theorem begin_go {D : Dk} (h : D.dead = false) (h2 : D.left = 0) : D.begin = (true, { D with left := D.left - 1, ops := D.ops + 1 }) := by
 unfold Dk.begin; rw [if_neg (by rw [h]; decide), if_neg (by omega)]
end Go.Proofs.YtfjmpninmdjcaaaGreatDoor.SimY

namespace Go.Proofs.YtfjmpninmdjcaaaGreatDoor.SimYA
open E Go.RowKit SimA SimB SimC SimD SimE SimF SimG SimH SimI SimJ SimK SimQ SimR SimS SimY
set_option maxRecDepth 20000
def Sm (D E : Dk) : Prop := E.cap = D.cap ∧ E.most = D.most ∧ E.ops = D.ops ∧ E.left = D.left ∧ E.dead = D.dead
theorem Sm.rfl {D : Dk} : Sm D D := ⟨Eq.refl _, Eq.refl _, Eq.refl _, Eq.refl _, Eq.refl _⟩
theorem sm_write (D : Dk) (p : Pth) (w : Wr) : Sm D (D.write p w) := by
 unfold Dk.write Dk.make
 cases mget D.now p with
 | some i => exact Sm.rfl
 | none => exact Sm.rfl
end Go.Proofs.YtfjmpninmdjcaaaGreatDoor.SimYA

namespace Go.Proofs.YtfjmpninmdjcaaaGreatDoor.SimYE
open E Go.RowKit SimA SimB SimC SimD SimE SimF SimG SimH SimI SimJ SimK SimQ SimR SimS SimY SimYA
set_option maxRecDepth 20000
theorem fget_set {fs : List Fdt} {i j : Nat} {x : Fdt} : fget (fs.set i x) j = if j = i ∧ i < fs.length then x else fget fs j := by
 unfold fget
 by_cases hi : i < fs.length
 · by_cases e : j = i
   · rw [if_pos ⟨e, hi⟩, e, List.getD_eq_getElem?_getD, List.getElem?_set_self hi]; rfl
   · rw [if_neg (fun h => e h.1), List.getD_eq_getElem?_getD, List.getElem?_set_ne (Ne.symm e), ← List.getD_eq_getElem?_getD]
 · rw [if_neg (fun h => hi h.2), List.set_eq_of_length_le (by omega)]
end Go.Proofs.YtfjmpninmdjcaaaGreatDoor.SimYE

namespace Go.Proofs.YtfjmpninmdjcaaaGreatDoor.WalH
open E Go.RowKit SimA SimB SimC SimD SimE SimF SimG SimH SimI SimQ SimR SimS SimY SimYA SimYE WalA WalB WalC WalD WalE WalF WalG
set_option maxRecDepth 20000
theorem tw_append {a b : List UInt8} {f : UInt8 → Bool} (h : ∀ x ∈ a, f x = true) : (a ++ b).takeWhile f = a ++ b.takeWhile f := by
 induction a with
 | nil => rfl
 | cons x a ih => rw [List.cons_append, List.takeWhile_cons, if_pos (h x List.mem_cons_self), ih (fun y hy => h y (List.mem_cons_of_mem _ hy)), List.cons_append]
theorem headP_new (p : Pth) : headP (newP p) = headP p := by
 unfold headP newP
 have h : ((p ++ [46, 110, 101, 119]).reverse.takeWhile (fun c => decide (c ≠ 47))).length = 4 + (p.reverse.takeWhile (fun c => decide (c ≠ 47))).length := by
  rw [List.reverse_append, tw_append (by decide), List.length_append]; rfl
 rw [h, List.length_append, List.length_cons, List.length_cons, List.length_cons, List.length_cons, List.length_nil]
 rw [List.take_append_of_le_length (by omega)]
 congr 1; omega
theorem dirP_new {p : Pth} (h : nameB p = true) (h2 : nameB (newP p) = true) : dirP (newP p) = dirP p := by unfold dirP; rw [if_pos h, if_pos h2, headP_new]
theorem blt_new (p : Pth) : blt p (newP p) := by
 unfold blt newP
 induction p with
 | nil => decide
 | cons x p ih => simp only [List.cons_append, Op.bytesLess]; simpa using ih
theorem new_ne (p : Pth) : newP p ≠ p := fun e => by have := congrArg List.length e; rw [newP_len] at this; omega
theorem new_nn (p : Pth) : ¬ newP p = [] := by simp [newP]
structure One (cap most : Nat) (p : Pth) (x : List UInt8) (D : Dk) : Prop where
 dead : D.dead = false
 left : D.left = 0
 cap : D.cap = cap
 most : D.most = most
 nw : ∃ i, D.now = [(p, i)] ∧ i < D.fs.length ∧ (fget D.fs i).now = x
section
variable {cap most : Nat} {p : Pth} {x : List UInt8} {D : Dk}
theorem One.used (h : One cap most p x D) : D.used = x.length := by
 obtain ⟨i, h1, _, h2⟩ := h.nw
 unfold Dk.used usedL; rw [h1]; simp [h2]
theorem One.was (h : One cap most p x D) : D.wasL p = x := by
 obtain ⟨i, h1, _, h2⟩ := h.nw
 unfold Dk.wasL; rw [h1]; simp [mget, h2]
theorem One.begin (h : One cap most p x D) : D.begin = (true, D.begin.2) ∧ One cap most p x D.begin.2 := by
 have e := begin_go h.dead h.left
 rw [e]
 exact ⟨rfl, h.dead, by show D.left - 1 = 0; rw [h.left], h.cap, h.most, h.nw⟩
theorem One.lay (h : One cap most p x D) (hn : nameB p = true) (w : Wr) :
 ((D.lay p w).1 = 5 ∧ most < (w.on x w.d.length).length ∧ One cap most p x (D.lay p w).2) ∨ ((D.lay p w).1 = 12 ∧ cap < (w.on x w.d.length).length ∧ One cap most p x (D.lay p w).2) ∨
 ((D.lay p w).1 = 0 ∧ (w.on x w.d.length).length ≤ cap ∧ One cap most p (w.on x w.d.length) (D.lay p w).2) := by
 obtain ⟨hb, h1⟩ := h.begin
 rw [lay_go (by rw [hb])]
 by_cases c1 : most < (w.on x w.d.length).length
 · rw [layE_5 hn (by rw [h1.was, h1.most]; exact c1)]
   exact .inl ⟨rfl, c1, h1⟩
 by_cases c2 : cap < (w.on x w.d.length).length
 · rw [layE_12 hn (by rw [h1.was, h1.most]; exact c1) (by rw [h1.was, h1.cap, h1.used]; omega)]
   exact .inr (.inl ⟨rfl, c2, h1⟩)
 rw [layE_0 hn (by rw [h1.was, h1.most]; exact c1) (by rw [h1.was, h1.cap, h1.used]; omega)]
 refine .inr (.inr ⟨rfl, by omega, ?_⟩)
 simp only [if_true]
 obtain ⟨s1, s2, s3, s4, s5⟩ := sm_write D.begin.2 p w
 obtain ⟨i, e1, e2, e3⟩ := h1.nw
 have hm : mget D.begin.2.now p = some i := by rw [e1]; simp [mget]
 refine ⟨by rw [s5]; exact h1.dead, by rw [s4]; exact h1.left, by rw [s1]; exact h1.cap, by rw [s2]; exact h1.most, i, ?_⟩
 unfold Dk.write Dk.make
 rw [hm]
 refine ⟨e1, by show i < (D.begin.2.fs.set i _).length; rw [List.length_set]; exact e2, ?_⟩
 show (fget (D.begin.2.fs.set i _) i).now = _
 rw [fget_set, if_pos ⟨rfl, e2⟩, e3]
theorem One.sync (h : One cap most p x D) (hn : nameB p = true) : (D.sync p).1 = 0 ∧ One cap most p x (D.sync p).2 := by
 obtain ⟨hb, h1⟩ := h.begin
 obtain ⟨i, e1, e2, e3⟩ := h1.nw
 have hm : mget D.begin.2.now p = some i := by rw [e1]; simp [mget]
 have hl : D.begin.2.look p = 0 := by unfold Dk.look; rw [if_pos hn, hm]; rfl
 rw [sync_go (by rw [hb]), hl]
 refine ⟨rfl, ?_⟩
 simp only [if_true]
 rw [hm]
 refine ⟨h1.dead, h1.left, h1.cap, h1.most, i, e1, by show i < (D.begin.2.fs.set i _).length; rw [List.length_set]; exact e2, ?_⟩
 show (fget (D.begin.2.fs.set i _) i).now = _
 rw [fget_set, if_pos ⟨rfl, e2⟩]; exact e3
structure Two (cap most : Nat) (p : Pth) (x : List UInt8) (D : Dk) : Prop where
 dead : D.dead = false
 left : D.left = 0
 cap : D.cap = cap
 most : D.most = most
 nw : ∃ k, mget D.now (newP p) = some k ∧ k < D.fs.length ∧ (fget D.fs k).now = x ∧ (Chg.ap ⟨newP p, p, some k⟩ D.now) = [(p, k)]
theorem Two.begin (h : Two cap most p x D) : D.begin = (true, D.begin.2) ∧ Two cap most p x D.begin.2 := by
 have e := begin_go h.dead h.left
 rw [e]
 exact ⟨rfl, h.dead, by show D.left - 1 = 0; rw [h.left], h.cap, h.most, h.nw⟩
theorem Two.sync (h : Two cap most p x D) (hn : nameB (newP p) = true) : (D.sync (newP p)).1 = 0 ∧ Two cap most p x (D.sync (newP p)).2 := by
 obtain ⟨hb, h1⟩ := h.begin
 obtain ⟨k, e1, e2, e3, e4⟩ := h1.nw
 have hl : D.begin.2.look (newP p) = 0 := by unfold Dk.look; rw [if_pos hn, e1]; rfl
 rw [sync_go (by rw [hb]), hl]
 refine ⟨rfl, ?_⟩
 simp only [if_true]
 rw [e1]
 refine ⟨h1.dead, h1.left, h1.cap, h1.most, k, e1, by show k < (D.begin.2.fs.set k _).length; rw [List.length_set]; exact e2, ?_, e4⟩
 show (fget (D.begin.2.fs.set k _) k).now = _
 rw [fget_set, if_pos ⟨rfl, e2⟩]; exact e3
theorem Two.rename (h : Two cap most p x D) (n1 : nameB p = true) (n2 : nameB (newP p) = true) : (D.rename (newP p) p).1 = 0 ∧ One cap most p x (D.rename (newP p) p).2 := by
 obtain ⟨hb, h1⟩ := h.begin
 obtain ⟨k, e1, e2, e3, e4⟩ := h1.nw
 have hl : D.begin.2.renE (newP p) p = 0 := by rw [renE_l n2 n1 (dirP_new n1 n2)]; unfold Dk.look; rw [if_pos n2, e1]; rfl
 rw [ren_go (by rw [hb]), hl]
 refine ⟨rfl, ?_⟩
 rw [if_pos ⟨rfl, new_ne p⟩, e1]
 exact ⟨h1.dead, h1.left, h1.cap, h1.most, k, e4, e2, e3⟩
theorem One.syncDir (h : One cap most p x D) {d : Pth} (hd : dirE d = 0) : (D.syncDir d).1 = 0 ∧ One cap most p x (D.syncDir d).2 := by
 obtain ⟨hb, h1⟩ := h.begin
 rw [sd_go (by rw [hb]), hd]
 exact ⟨rfl, h1.dead, h1.left, h1.cap, h1.most, h1.nw⟩
theorem fresh_run {D1 : Dk} {l : List Rec} (h : D.lay (newP p) ⟨false, encW l⟩ = (0, D1)) (h1 : Two cap most p (encW l) D1) (n1 : nameB p = true) (n2 : nameB (newP p) = true) (hd : dirE (dirP p) = 0) : (freshD D p l).1 = 0 ∧ One cap most p (encW l) (freshD D p l).2 := by
 obtain ⟨a1, a2⟩ := h1.sync n2
 obtain ⟨b1, b2⟩ := a2.rename n1 n2
 obtain ⟨c1, c2⟩ := b2.syncDir hd
 unfold freshD frS
 simp only [runD, h, if_true, a1, b1, c1]
 exact ⟨trivial, c2⟩
theorem fresh_bad {l : List Rec} (h : (D.lay (newP p) ⟨false, encW l⟩).1 ≠ 0) : freshD D p l = D.lay (newP p) ⟨false, encW l⟩ := by
 unfold freshD frS runD; rw [if_neg h]
theorem write_two {q : Pth} {k : Nat} {w : Wr} (hm : mget D.now q = none) : D.write q w = ({ D with fs := (D.fs ++ [(⟨[], [], []⟩ : Fdt)]).set D.fs.length ⟨w.on [] w.d.length, [], [w]⟩, now := nput D.now q D.fs.length, log := D.log ++ [⟨[], q, some D.fs.length⟩] } : Dk) := by
 unfold Dk.write Dk.make
 rw [hm]
 simp only [Dk.change, Dk.putF, Chg.ap, if_true]
 rw [show fget (D.fs ++ [(⟨[], [], []⟩ : Fdt)]) D.fs.length = ⟨[], [], []⟩ by simp [fget]]
 rfl
theorem One.fresh (h : One cap most p x D) (n1 : nameB p = true) (n2 : nameB (newP p) = true) (hd : dirE (dirP p) = 0) (l : List Rec) (hm : (encW l).length ≤ most) :
 ((freshD D p l).1 = 12 ∧ cap < x.length + (encW l).length ∧ One cap most p x (freshD D p l).2) ∨ ((freshD D p l).1 = 0 ∧ x.length + (encW l).length ≤ cap ∧ One cap most p (encW l) (freshD D p l).2) := by
 obtain ⟨hb, h1⟩ := h.begin
 obtain ⟨i, e1, e2, e3⟩ := h1.nw
 have hq : mget D.begin.2.now (newP p) = none := by rw [e1]; simp [mget, new_ne]
 have hw : D.begin.2.wasL (newP p) = [] := by unfold Dk.wasL; rw [hq]
 have ho : ((⟨false, encW l⟩ : Wr).on [] (encW l).length) = encW l := on_f _ _
 have hlg := lay_go (D := D) (p := newP p) (w := ⟨false, encW l⟩) (by rw [hb])
 by_cases c2 : cap < x.length + (encW l).length
 · rw [layE_12 n2 (by rw [hw, h1.most]; simp only [ho]; omega) (by rw [hw, h1.cap, h1.used]; simp only [ho, List.length_nil]; omega)] at hlg
   have hbad : (D.lay (newP p) ⟨false, encW l⟩).1 ≠ 0 := by rw [hlg]; exact Nat.succ_ne_zero 11
   rw [fresh_bad hbad, hlg]
   exact .inl ⟨rfl, c2, h1⟩
 · rw [layE_0 n2 (by rw [hw, h1.most]; simp only [ho]; omega) (by rw [hw, h1.cap, h1.used]; simp only [ho, List.length_nil]; omega)] at hlg
   simp only [if_true] at hlg
   refine .inr ?_
   have hT : Two cap most p (encW l) (D.begin.2.write (newP p) ⟨false, encW l⟩) := by
    rw [write_two (k := 0) hq]
    refine ⟨h1.dead, h1.left, h1.cap, h1.most, D.begin.2.fs.length, ?_, ?_, ?_, ?_⟩
    · show mget (nput _ _ _) _ = _; rw [mget_nput, if_pos rfl]
    · simp
    · show (fget ((_ : List Fdt).set _ _) _).now = _
      rw [fget_set, if_pos ⟨rfl, by simp⟩]; exact ho
    · show Chg.ap _ (nput D.begin.2.now _ _) = _
      have h9 : ¬ p = newP p := fun e => new_ne p e.symm
      rw [e1]; simp [Chg.ap, nput, blt_new, mdel, new_ne, blt_irr, new_nn, h9]
   have := fresh_run hlg hT n1 n2 hd
   exact ⟨this.1, by omega, this.2⟩
theorem One.start (n1 : nameB p = true) (n2 : nameB (newP p) = true) (hd : dirE (dirP p) = 0) (hm : 8 ≤ most) (hc : 8 ≤ cap) : (openD (Dk.empty cap most) p).1 = 0 ∧ (openD (Dk.empty cap most) p).2.1 = [] ∧ One cap most p (encW []) (openD (Dk.empty cap most) p).2.2 := by
 have hr : (Dk.empty cap most).readE p = 2 := by simp [Dk.readE, Dk.empty, Dk.look, n1, mget]
 have e8 : encW [] = W8 := rfl
 have hlg : (Dk.empty cap most).lay (newP p) ⟨false, encW []⟩ = (0, Dk.write ⟨cap, most, [], [], [], [], 1, 0, false⟩ (newP p) ⟨false, encW []⟩) := by
  unfold Dk.empty
  rw [lay_a n2 (by simp only [on_f]; exact hm) (by simp only [on_f]; simp [usedL, Dk.wasL, mget]; exact hc)]
 have hT : Two cap most p (encW []) (Dk.write ⟨cap, most, [], [], [], [], 1, 0, false⟩ (newP p) ⟨false, encW []⟩) := by
  rw [write_two (k := 0) rfl]
  refine ⟨rfl, rfl, rfl, rfl, 0, ?_, ?_, ?_, ?_⟩
  · show mget (nput _ _ _) _ = _; rw [mget_nput, if_pos rfl]; rfl
  · simp
  · simp [fget, on_f]
  · simp [Chg.ap, nput, mdel, new_nn]
 have := fresh_run hlg hT n1 n2 hd
 rw [open_b n1 n2 hr]
 exact ⟨this.1, rfl, this.2⟩
theorem runD_c0 {f : Stp} {fs : List Stp} {D : Dk} (h : (f D).1 = 0) : runD (f :: fs) D = runD fs (f D).2 := by rw [runD, if_pos h]
theorem runD_c1 {f : Stp} {fs : List Stp} {D : Dk} (h : (f D).1 ≠ 0) : runD (f :: fs) D = f D := by rw [runD, if_neg h]
theorem One.recd (h : One cap most p x D) (hn : nameB p = true) (n : Nat) (r : Rec) (hm : x.length + 13 + r.length ≤ most) :
 ((runD (apS p n r) D).1 = 12 ∧ (One cap most p x (runD (apS p n r) D).2 ∨ One cap most p (x ++ layW n r) (runD (apS p n r) D).2) ∧ cap < x.length + 13 + r.length) ∨ ((runD (apS p n r) D).1 = 0 ∧ One cap most p (x ++ recW n r) (runD (apS p n r) D).2) := by
 have hl := layW_len n r
 have on1 : ∀ b : List UInt8, (⟨true, [67]⟩ : Wr).on b 1 = b ++ [67] := fun b => by simp [Wr.on]
 unfold apS
 rcases h.lay hn ⟨true, layW n r⟩ with ⟨_, e, _⟩ | ⟨e1, e2, e3⟩ | ⟨e1, e2, e3⟩
 · simp only [on_t, List.length_append] at e; omega
 · simp only [on_t, List.length_append] at e2
   rw [runD_c1 (by rw [e1]; decide)]
   exact .inl ⟨e1, .inl e3, by omega⟩
 · simp only [on_t, List.length_append] at e3 e2
   obtain ⟨f1, f2⟩ := e3.sync hn
   rw [runD_c0 e1, runD_c0 f1]
   rcases f2.lay hn ⟨true, [67]⟩ with ⟨_, e, _⟩ | ⟨g1, g2, g3⟩ | ⟨g1, g2, g3⟩
   · simp only [List.length_singleton, on1, List.length_append] at e; omega
   · simp only [List.length_singleton, on1, List.length_append] at g2
     rw [runD_c1 (by rw [g1]; decide)]
     exact .inl ⟨g1, .inr g3, by omega⟩
   · simp only [List.length_singleton, on1] at g3
     obtain ⟨k1, k2⟩ := g3.sync hn
     rw [runD_c0 g1, runD_c0 k1]
     refine .inr ⟨rfl, ?_⟩
     unfold recW; rw [← List.append_assoc]; exact k2
end
end Go.Proofs.YtfjmpninmdjcaaaGreatDoor.WalH

namespace Go.Proofs.YtfjmpninmdjcaaaGreatDoor.WalI
open E Go.RowKit SimA SimB SimC SimD SimE SimF SimG SimH SimI SimQ SimR SimS SimY SimYA SimYE WalA WalB WalC WalD WalE WalF WalG WalH
set_option maxRecDepth 20000
theorem one_app {cap most : Nat} {p : Pth} {l : List Rec} {r : Rec} {D : Dk} (h : One cap most p (encW l) D) (n1 : nameB p = true) (hm : (encW l).length + 13 + r.length ≤ most) (hc : (encW l).length + 13 + r.length ≤ cap) : (appD D p l.length false r).1 = 0 ∧ (appD D p l.length false r).2.1 = l.length + 1 ∧ (appD D p l.length false r).2.2.1 = false ∧ One cap most p (encW (l ++ [r])) (appD D p l.length false r).2.2.2 := by
 rw [app_go (pre_0 rfl)]
 rcases h.recd n1 l.length r hm with ⟨_, _, h3⟩ | ⟨h1, h2⟩
 · omega
 · simp only [h1, if_true]
   refine ⟨trivial, trivial, trivial, ?_⟩
   rw [encW_snoc]; exact h2
end Go.Proofs.YtfjmpninmdjcaaaGreatDoor.WalI

namespace Go.Proofs.YtfjmpninmdjcaaaGreatDoor.RefK
open E Go.RowKit SimA SimB SimC SimD SimE SimF SimG SimH SimI SimQ SimR SimS SimY SimYA SimYE WalA WalB WalC WalD WalE WalF WalG WalH WalI RefA RefB RefP RefQ RefR RefD RefE RefG RefH RefI RefJ RefV Num
set_option maxRecDepth 20000
set_option maxRecDepth 100000 in
theorem inf24 : Inf Tryz.prog 24 52 66 96 := ⟨Tryz.underlying24, _, _, rfl, rfl, rfl, rfl, rfl⟩
def id7 : Ide := ⟨7 :: List.replicate 31 0, by simp⟩
def mK : TMv := ⟨[109, 97, 105, 110], Zid, id7, [99, 111, 109, 109, 105, 116]⟩
def tK (s : SV) : TTx := ⟨false, [], s, [mK], false, zSq, n0, []⟩
theorem kn_0 (s : SV) : noneE (tK s) = 0 ∧ headE2 (tK s) = 0 ∧ sqE2 (tK s) = 0 := ⟨by unfold noneE; simp [tK], by unfold headE2; simp [tK], by unfold sqE2; simp [tK]⟩
theorem kn_1 (s : SV) : chkE zM (tK s) = 0 := chkE_mv (kn_0 s).1 (kn_0 s).2.1 (by show movesE [] [mK] = 0; decide +kernel) (kn_0 s).2.2 (by show memsE [] [] = 0; decide)
theorem kn_2 (s : SV) : chkE (zM.ap (tK s)) (tK s) = 21 := chkE_mv (kn_0 s).1 (kn_0 s).2.1 (by show movesE ([mK].foldl mvR []) [mK] = 21; decide +kernel) (kn_0 s).2.2 (by show memsE [] [] = 0; decide)
theorem kn_ap (s : SV) : zM.ap (tK s) = ⟨[], [([109, 97, 105, 110], id7)], [([109, 97, 105, 110], [⟨Zid, id7, [99, 111, 109, 109, 105, 116]⟩])], zSq, []⟩ := by
 have h : ¬ id7 = Zid := by intro h; have h1 := congrArg (fun z : Ide => z.1.getD 0 0) h; simp only [id7, Zid, List.getD_cons_zero] at h1; revert h1; decide
 unfold MSt.ap tK
 simp [mvR, mvG, mK, h, adM, gput, zM, mget, lastN]
theorem enc_len0 {t : TTx} (h1 : t.hh = false) (h2 : t.hs = false) : (encT t).length = 5 + (t.ml.flatMap mvT).length + (t.el.flatMap mmT).length := by
 unfold encT
 rw [h1, h2]
 simp only [List.length_append, numL_len, Bool.false_eq_true, if_false, List.length_nil]; omega
theorem txs0 {t : TTx} (h1 : t.hh = false) (h2 : t.hs = false) (h3 : t.q = zSq) (h4 : t.hd = []) (h5 : t.ml.length ≤ 65535) (h6 : t.el.length ≤ 65535) (h7 : ∀ m ∈ t.ml, m.y.length ≤ 65535 ∧ m.n.length ≤ 140737488355328) (h8 : (t.ml.flatMap mvT).length + (t.el.flatMap mmT).length ≤ 1048571) : TxS t :=
 ⟨h5, h6, fun m hm => (h7 m hm).1, fun m hm => (h7 m hm).2, by rw [h4]; simp, by rw [h3]; simp [zSq], by rw [h3]; simp [zSq], by rw [enc_len0 h1 h2]; omega⟩
theorem tK_s (s : SV) : TxS (tK s) := txs0 rfl rfl rfl rfl (Nat.le_of_ble_eq_true rfl) (Nat.le_of_ble_eq_true rfl) (fun m hm => by rw [List.mem_singleton.1 hm]; decide) (by simp only [tK, List.flatMap_cons, List.flatMap_nil, List.append_nil, mvT_len, mK, List.length_cons, List.length_nil]; decide)
theorem rl_one {l : List TRf} {x : Pth × Ide} (h : rlM l = [x]) : l.length = 1 := by have := congrArg List.length h; simpa [rlM] using this
theorem ll_one {l : List TLg} {n : Pth} {k : List TLn} (h : llM l = [(n, k)]) : ∃ y : TLg, l = [y] ∧ y.n = n ∧ y.l = k := by
 match l, h with
 | [y], h =>
   simp only [llM, List.map_cons, List.map_nil, List.cons.injEq, Prod.mk.injEq, and_true] at h
   exact ⟨y, rfl, h.1, h.2⟩
theorem tkR {F : Nat → Prop} {H : Heap} {s : SV} (h : Rd F H fMv 66 s.v [mK]) : TxR F H (tK s) := ⟨h, Rd.nil _ _ _ _, Rd.nil _ _ _ _, fun y hy => by cases hy⟩
set_option maxHeartbeats 1600000 in
theorem known10_ct (mx_ : Int) (w0 : World) (H0 : Heap)
 (mx : MX mx_ H0) (bf_mx : BF (fun b => b = 0) H0.size) :
 Ct Tryz.prog w0 11 #[] H0 (fun r H2 => r = .bool true ∧ Nw H0 H2) := by
 refine Ct.enter (args := []) Tryz.func11 rfl rfl rfl ?_
 intro Q0 hret
 have hm0 : Nw H0 H0 := Mo.refl _ _
 refine CW.s1 (fun hK1 => CW.region ?_)
 refine LR.a1 (LR.nil (hK1 _ _ ?_))
 refine CW.s1 (fun hK2 => CW.region ?_)
 refine LR.call rfl c'12 rfl (Wd.u rfl) rfl rfl (new_ct 65536 65536 w0 _ (by decide) (by decide)) (fun v10 H10 r10 => ?_)
 obtain ⟨Q10, g10, b10, rfl, hf, hkn10, hs10⟩ := r10
 have df1 := DFL.appK (DFL.nil) (bf_mx.mono hm0.size) hkn10
 have nx2 : NxK [] H0.size Q10 := NxK.tr (NxK.refl [] _) hkn10 hm0.size
 replace mx := mx.nw hs10
 replace hm0 := hm0.tr hs10
 have hz1 := hs10.size
 have hbk_hf := hf.bk
 have hS10 := Bs.empty 65536 65536
 have hst := One.start (p := PJ) (cap := 65536) (most := 65536) (by decide) (by decide) (by decide) (by decide) (by decide)
 refine LR.m1 ?_
 refine LR.v1 (Y.extract rfl rfl rfl) ?_
 refine LR.v1 (Y.extract rfl rfl rfl) ?_
 refine LR.a1 ?_
 refine LR.a1 (LR.nil (hK2 _ _ ?_))
 refine CW.s1 (fun hK3 => CW.s1 (fun hK4 => CW.region ?_))
 refine LR.m1 ?_
 refine LR.v1 (Y.peq rfl (by kernel_rfl) (by kernel_rfl) rfl rfl) (LR.nil (hK4 _ _ ?_))
 refine CW.cond_f rfl ?_
 refine CW.skip (hK3 _ _ (CW.s1 (fun hK5 => CW.region ?_)))
 refine LR.m1 ?_
 refine LR.call rfl c'14 rfl (Wd.u rfl) rfl rfl (open0_ct mx_ Q10 g10 b10 (Dk.empty 65536 65536) _ w0 _ hf mx (bf_mx.mono (by omega)) (df1) hS10 (by omega) hst.1 hst.2.1) (fun v17 H17 r17 => ?_)
 obtain ⟨bb17, lb17, Q17, g17, rfl, hf, hkd17, hlg, hkl17, dl217, hbk, hkb17, dl317, dlb17, hs17⟩ := r17
 have df4 := DFL.appK (df1) (bf_mx.mono hm0.size) hkd17
 have nx5 : NxK [] H0.size Q17 := NxK.tr (nx2) hkd17 hm0.size
 have df6 := DF.app (DF.z) (bf_mx.mono hm0.size) hkl17
 have nx8 : Nx 0 H0.size (lb17 + 1) := Nx.tr (Nx.refl 0 _) hkl17 hm0.size
 have df9 := DF.app (DF.z) (bf_mx.mono hm0.size) hkb17
 have nx11 : Nx 0 H0.size (bb17 + 1) := Nx.tr (Nx.refl 0 _) hkb17 hm0.size
 replace mx := mx.upL hs17 (df1)
 replace hm0 := hm0.tq hs17 (MIL.ofK0 (nx2))
 have hz2 := hs17.size
 have hbk_hf := hf.bk
 have hle_hlg := hlg.le
 have hle_hbk := hbk.le
 obtain ⟨D1, hD1, hone, hS17⟩ : ∃ D1, (openD (Dk.empty 65536 65536) PJ).2.2 = D1 ∧ One 65536 65536 PJ (encW []) D1 ∧ Bs _ D1 := ⟨_, rfl, hst.2.2, bs_open hS10 PJ⟩
 rw [hD1] at hf
 refine LR.m1 ?_
 refine LR.v1 (Y.extract rfl rfl rfl) ?_
 refine LR.v1 (Y.extract rfl rfl rfl) ?_
 refine LR.a1 ?_
 refine LR.a1 (LR.nil (hK5 _ _ ?_))
 refine CW.s1 (fun hK6 => CW.s1 (fun hK7 => CW.region ?_))
 refine LR.m1 ?_
 refine LR.v1 ((Y.neq rfl rfl rfl).isF ((fun h => h rfl))) ?_
 refine LR.m1 ?_
 refine LR.w1 (Y.move rfl rfl) ?_
 refine LR.w1 (Y.peq rfl (by kernel_rfl) (by kernel_rfl) rfl rfl) ?_
 refine LR.v1 (Y.pick_f rfl rfl rfl) (LR.nil (hK7 _ _ ?_))
 refine CW.cond_f rfl ?_
 refine CW.skip (hK6 _ _ (CW.s1 (fun hK8 => CW.region ?_)))
 refine LR.v1 (Y.build (v := vA id7) rfl rfl (by intro w; kernel_rfl)) ?_
 refine LR.v1 (Y.build (v := .agg (fMv mK).toArray) rfl rfl (by intro w; kernel_rfl)) ?_
 refine LR.z1 (Z.litw _ ([mK]) rfl inf24 rfl rfl rfl (by decide) (by decide) fMv_len fMv_one (rfl)) fun v28 H28 r28 => ?_
 obtain ⟨ow28, hs28, ob28, hH28⟩ := r28
 have hzs28 : H28.size = H17.size + 1 := by rw [hH28]; simp
 have dj13 : DL (H17.size + 1) Q17 := DL.newK hf.bk
 have dj14 : Dj (lb17 + 1) (H17.size + 1) := Dj.new hlg.le
 have dj15 : Dj (bb17 + 1) (H17.size + 1) := Dj.new hbk.le
 replace mx := mx.nw hs28
 replace hf := hf.nw hs28
 replace hlg := hlg.nw hs28
 replace hbk := hbk.nw hs28
 replace hm0 := hm0.tr hs28
 have hz3 := hs28.size
 obtain ⟨s28, rfl⟩ : ∃ s : SV, v28 = s.v := ⟨toSV v28, ow28.sv.symm⟩
 refine LR.v1 (Y.build (v := txV (tK s28)) rfl rfl (by intro w; kernel_rfl)) ?_
 refine LR.z1 (Z.allocv rfl z'32) fun v5 H5 r5 => ?_
 obtain ⟨rfl, vt, hs5, ob5, hH5⟩ := r5
 have hzs5 : H5.size = H28.size + 1 := by rw [hH5]; simp
 have df17 := (DF.new (bf_mx.mono hm0.size) : DF _ (H28.size + 1))
 have dj18 : DL (H28.size + 1) Q17 := DL.newK hf.bk
 have dj19 : Dj (lb17 + 1) (H28.size + 1) := Dj.new hlg.le
 have dj20 : Dj (bb17 + 1) (H28.size + 1) := Dj.new hbk.le
 have dj21 : Dj (H17.size + 1) (H28.size + 1) := Dj.new ow28.le
 have nx22 : Nx 0 H0.size (H28.size + 1) := Nx.new hm0.size
 replace mx := mx.nw hs5
 replace hf := hf.nw hs5
 replace hlg := hlg.nw hs5
 replace hbk := hbk.nw hs5
 replace ow28 := ow28.nw hs5
 replace hm0 := hm0.tr hs5
 have hz4 := hs5.size
 refine LR.s1 (S.var vt (_) (fTx (tK s28)) rfl rfl rfl rfl (fTx_one _) s'32 (fTx_len _) (by decide) ((splice_all2 (fTx_len _).symm))) fun H7_5 r7_5 => ?_
 obtain ⟨vt, hs7_5⟩ := r7_5
 replace hs7_5 := hs7_5.md1
 replace mx := mx.upL hs7_5 (DFL.o df17)
 replace hf := hf.upL hs7_5 (DKL.cons dj18 DKL.nil)
 replace hlg := hlg.upL hs7_5 (DL.o dj19)
 replace hbk := hbk.upL hs7_5 (DL.o dj20)
 replace ow28 := ow28.upL hs7_5 (DL.o dj21)
 replace hm0 := hm0.tq hs7_5 (MIL.o (MI.q nx22))
 have hz5 := hs7_5.size
 refine LR.nil (hK8 _ _ (CW.s1 (fun hK9 => ?_)))
 refine CW.region_any (fun Hq => Mo (Ms (Q17 ++ [(lb17 + 1), (bb17 + 1)])) H7_5 Hq) [] rfl ?_
 have hq8 : Mo (Ms (Q17 ++ [(lb17 + 1), (bb17 + 1)])) H7_5 H7_5 := Mo.refl _ _
 have nx23 := NxK.refl Q17 H7_5.size
 have nx24 := Nx.refl (lb17 + 1) H7_5.size
 have nx25 := Nx.refl (bb17 + 1) H7_5.size
 have hel := enc_len0 (t := tK s28) rfl rfl
 have hel2 : (encT (tK s28)).length ≤ 100 := by rw [hel]; simp [tK, mvT_len, mK]
 have hap := one_app hone (l := []) (r := encT (tK s28)) (by decide) (by rw [hel]; simp [tK, mvT_len, mK, encW, encN, W8]) (by rw [hel]; simp [tK, mvT_len, mK, encW, encN, W8])
 rw [List.length_nil] at hap
 refine LH.m1 0 rfl hq8 ?_
 refine LH.t1 1 rfl (fun Hq hq => Y.loadN (vt.upL hq (DL.app dj18 (DL.cons dj19.symm (DL.o dj20.symm)))).pt rfl a'32 s'32 (fTx_len _) rfl) hq8 ?_
 refine LH.m1 3 rfl hq8 ?_
 refine LH.t1 4 rfl (fun Hq hq => Y.loadN (vt.upL hq (DL.app dj18 (DL.cons dj19.symm (DL.o dj20.symm)))).pt rfl a'32 s'32 (fTx_len _) rfl) hq8 ?_
 refine LH.o1 2 ?_
 refine LO.call rfl rfl c'15 rfl (Wd.u rfl) rfl rfl (do_ct mx_ Q17 g17 b10 D1 _ lb17 bb17 0 false zSt (tK s28) _ _ w0 _ hf mx (bf_mx.mono (by omega)) (df4) hlg (dl217) (df6) hbk (dl317) (dlb17) (df9) (fun _ => zSt_st) (fun b (h : False) => h.elim) (fun k hk b (h : False) => h.elim) (fun b (h : False) => h.elim) (fun b (h : False) => h.elim) (tkR ow28.rd) (BF.of ow28.le) (DFL.of (dj13)) (DF.of (dj14.symm)) (DF.of (dj15.symm)) zM_ok (tK_s s28) hS17 (by omega) (by omega)) (fun v32 H32 r32 => ?_)
 have ql29 := ow28.le
 obtain ⟨Q32, g32, s32, G32, rfl, hf, hkd32, hlg, dl232, hbk, dl432, sr32, bf_sr32, q1_32, q2_32, q3_32, hm32, hs32⟩ := r32
 have df31 := DFL.appK (df4) (bf_mx.mono hm0.size) hkd32
 have dj34 : DL (H17.size + 1) Q32 := DL.appK (dj13) ql29 hkd32
 have nx36 : NxK [] H0.size Q32 := NxK.tr (nx5) hkd32 hm0.size
 have nx37 : NxK Q17 H7_5.size Q32 := NxK.tr (nx23) hkd32 hq8.size
 replace mx := mx.upL hs32 (DFL.app df4 (DFL.cons df6 (DFL.o df9)))
 replace ow28 := ow28.upL hs32 (DL.app dj13 (DL.cons dj14.symm (DL.o dj15.symm)))
 replace hm0 := hm0.tq hs32 (MIL.app (MIL.ofK0 (nx5)) (MIL.cons (MI.q nx8) (MIL.o (MI.q nx11))))
 replace hq8 := hq8.trL hs32 (MIL.app (MIL.ofK (nx23) (by intro k hk; simp [hk])) (MIL.cons (MI.r nx24) (MIL.o (MI.r nx25))))
 have hz6 := hs32.size
 have hbk_hf := hf.bk
 have df38 := q1_32
 have df39 := q2_32
 have df40 := q3_32
 have hd32 := do_3 (D := D1) (n := 0) (br := false) (kn_1 s28) hap.1
 rw [zSt_m] at hf hlg hm32
 rw [hd32] at hf hlg hm32
 rw [hap.2.1, hap.2.2.1] at hlg
 have hS32 := bs_app hS17 PJ 0 false (encT (tK s28))
 have hmc : chkE s32.m (tK s28) = 21 := by rw [hm32]; exact kn_2 s28
 refine ⟨.inr hq8, LH.narrow (SH2 := fun Hq => Mo (Ms (Q32 ++ [(lb17 + 1), (bb17 + 1)])) H32 Hq) (fun Hq hq => hq8.trL hq (MIL.app (MIL.ofK (nx37) (by intro k hk; simp [hk])) (MIL.cons (MI.r nx24) (MIL.o (MI.r nx25))))) ?_⟩
 have hq8 : Mo (Ms (Q32 ++ [(lb17 + 1), (bb17 + 1)])) H32 H32 := Mo.refl _ _
 have nx41 := NxK.refl Q32 H32.size
 have nx42 := Nx.refl (lb17 + 1) H32.size
 have nx43 := Nx.refl (bb17 + 1) H32.size
 refine LH.o1 5 ?_
 refine LO.call rfl rfl c'15 rfl (Wd.u rfl) rfl rfl (do_ct mx_ Q32 g32 b10 (appD D1 PJ 0 false (encT (tK s28))).2.2.2 _ lb17 bb17 (0 + 1) false s32 (tK s28) _ _ w0 _ hf mx (bf_mx.mono (by omega)) (df31) hlg (dl232) (df6) hbk (dl432) (dlb17) (df9) sr32 (bf_sr32.mono (by omega)) (df38) (df39) (df40) (tkR ow28.rd) (BF.of ow28.le) (DFL.of (dj34)) (DF.of (dj14.symm)) (DF.of (dj15.symm)) (by rw [hm32]; exact zM_ok.ap (kn_1 s28)) (tK_s s28) hS32 (by omega) (by omega)) (fun v35 H35 r35 => ?_)
 obtain ⟨Q35, g35, s35, G35, rfl, hf, hkd35, hlg, dl235, hbk, dl435, sr35, bf_sr35, q1_35, q2_35, q3_35, hm35, hs35⟩ := r35
 have nx56 : NxK Q32 H32.size Q35 := NxK.tr (nx41) hkd35 hq8.size
 replace hm0 := hm0.tq hs35 (MIL.app (MIL.ofK0 (nx36)) (MIL.cons (MI.q nx8) (MIL.o (MI.q nx11))))
 replace hq8 := hq8.trL hs35 (MIL.app (MIL.ofK (nx41) (by intro k hk; simp [hk])) (MIL.cons (MI.r nx42) (MIL.o (MI.r nx43))))
 have hz7 := hs35.size
 have hbk_hf := hf.bk
 have hd35 := do_1 (D := (appD D1 PJ 0 false (encT (tK s28))).2.2.2) (n := 0 + 1) (br := false) (t := tK s28) (m := s32.m) (by rw [hmc]; decide)
 rw [hd35] at hf hlg hm35
 obtain ⟨hm, hme⟩ : ∃ hm, hm = hm35.trans (hm32.trans (kn_ap s28)) := ⟨_, rfl⟩
 refine ⟨.inr hq8, LH.narrow (SH2 := fun Hq => Mo (Ms (Q35 ++ [(lb17 + 1), (bb17 + 1)])) H35 Hq) (fun Hq hq => hq8.trL hq (MIL.app (MIL.ofK (nx56) (by intro k hk; simp [hk])) (MIL.cons (MI.r nx42) (MIL.o (MI.r nx43))))) ?_⟩
 have hq8 : Mo (Ms (Q35 ++ [(lb17 + 1), (bb17 + 1)])) H35 H35 := Mo.refl _ _
 refine LH.t1 6 rfl (fun Hq hq => Y.assign rfl rfl) hq8 ?_
 refine LH.t1 7 rfl (fun Hq hq => Y.assign rfl rfl) hq8 ?_
 refine LH.done (by kernel_rfl) ?_
 refine hK9 _ _ (CW.s1 (fun hK10 => CW.region ?_))
 refine LR.m1 ?_
 refine LR.call rfl c'17 rfl (Wd.u rfl) rfl rfl (state_ct lb17 bb17 s35 _ w0 _ hbk (sr35 ()) (bf_sr35.mono (by omega)) (by rw [hm]; exact (kn_ap s28) ▸ zM_ok.ap (kn_1 s28))) (fun v37 H37 r37 => ?_)
 obtain ⟨s37, rfl, sv37, hm37, hs37⟩ := r37
 replace sr35 := fun u => (sr35 u).nw hs37
 replace hm0 := hm0.tr hs37
 have hz8 := hs37.size
 replace sv37 := sv37.bnd
 have bf_sv37 := sv37.bf
 rw [hm] at hm37
 have hrl := rl_one (congrArg MSt.rf hm37)
 obtain ⟨y, hy1, hy2, hy3⟩ := ll_one (congrArg MSt.lg hm37)
 have hll1 : s37.ll.length = 1 := by rw [hy1]; rfl
 have hl0 : s37.ll[0].l = [⟨Zid, id7, [99, 111, 109, 109, 105, 116]⟩] := by simp only [hy1]; exact hy3
 have hll2 : s37.ll[0].l.length = 1 := by rw [hl0]; rfl
 refine LR.z1 (Z.allocv rfl z'47) fun v8 H8 r8 => ?_
 obtain ⟨rfl, v8s, hs8, ob8, hH8⟩ := r8
 have hzs8 : H8.size = H37.size + 1 := by rw [hH8]; simp
 have df72 := (DF.new (bf_sr35.mono (by omega)) : DF _ (H37.size + 1))
 have df73 := (DF.new (bf_sv37.mono (by omega)) : DF _ (H37.size + 1))
 have nx74 : Nx 0 H0.size (H37.size + 1) := Nx.new hm0.size
 replace sr35 := fun u => (sr35 u).nw hs8
 replace sv37 := sv37.nw hs8
 replace hm0 := hm0.tr hs8
 have hz9 := hs8.size
 refine LR.s1 (S.var v8s (_) (fSt s37) rfl rfl rfl rfl (fSt_one _) s'47 (fSt_len _) (by decide) ((splice_all2 (fSt_len _).symm))) fun H9_3 r9_3 => ?_
 obtain ⟨v8s, hs9_3⟩ := r9_3
 replace hs9_3 := hs9_3.md1
 replace sr35 := fun u => (sr35 u).upL hs9_3 (DFL.o df72)
 replace sv37 := sv37.upL hs9_3 (DFL.o df73)
 replace hm0 := hm0.tq hs9_3 (MIL.o (MI.q nx74))
 have hz10 := hs9_3.size
 refine LR.nil (hK10 _ _ (CW.s1 (fun hK11 => CW.region ?_)))
 refine LR.m1 ?_
 refine LR.v1 ((Y.eql rfl rfl rfl).isT (by rw [zSt_m, hd32])) ?_
 refine LR.m1 ?_
 refine LR.w1 (Y.move rfl rfl) ?_
 refine LR.w1 ((Y.eql rfl rfl rfl).isT (by rw [hd35]; exact hmc)) ?_
 refine LR.v1 (Y.pick_t rfl rfl rfl) ?_
 refine LR.m1 ?_
 refine LR.w1 (Y.FA v8s.pt rfl u'47 rfl s'44) ?_
 refine LR.w1 (Y.load1 (v8s.pt.drop 1) rfl a'44 rfl) ?_
 refine LR.w1 (Y.len sv37.r rfl u'44 rfl) ?_
 refine LR.w1 ((Y.eql rfl rfl rfl).isT (by omega)) ?_
 refine LR.v1 (Y.pick_t rfl rfl rfl) ?_
 refine LR.m1 ?_
 refine LR.w1 (Y.FA v8s.pt rfl u'47 rfl s'45) ?_
 refine LR.w1 (Y.load1 (v8s.pt.drop 2) rfl a'45 rfl) ?_
 refine LR.w1 (Y.len sv37.g rfl u'45 rfl) ?_
 refine LR.w1 ((Y.eql rfl rfl rfl).isT (by omega)) ?_
 refine LR.v1 (Y.pick_t rfl rfl rfl) ?_
 refine LR.m1 ?_
 refine LR.w1 (Y.FA v8s.pt rfl u'47 rfl s'45) ?_
 refine LR.w1 (Y.load1 (v8s.pt.drop 2) rfl a'45 rfl) ?_
 refine LR.e (g := fun ad => .pointer (some ad)) (Y.indexAddrF sv37.g (0) rfl u'45 s'62 rfl rfl (by first | rfl | omega) (by omega)) (Wd.g rfl rfl rfl) rfl rfl (fun ad59 pt59 => ?_)
 refine LR.w1 (Y.FA pt59.pt rfl u'62 rfl s'60) ?_
 refine LR.w1 (Y.load1 (pt59.pt.drop 1) rfl a'60 rfl) ?_
 refine LR.w1 (Y.len (sv37.n _ (List.getElem_mem _)) rfl u'60 rfl) ?_
 refine LR.w1 ((Y.eql rfl rfl rfl).isT (by omega)) ?_
 refine LR.v1 (Y.pick_t rfl rfl rfl) ?_
 refine LR.m1 ?_
 refine LR.w1 (Y.FA v8s.pt rfl u'47 rfl s'45) ?_
 refine LR.w1 (Y.load1 (v8s.pt.drop 2) rfl a'45 rfl) ?_
 refine LR.e (g := fun ad => .pointer (some ad)) (Y.indexAddrF sv37.g (0) rfl u'45 s'62 rfl rfl (by first | rfl | omega) (by omega)) (Wd.g rfl rfl rfl) rfl rfl (fun ad68 pt68 => ?_)
 refine LR.w1 (Y.FA pt68.pt rfl u'62 rfl s'60) ?_
 refine LR.w1 (Y.load1 (pt68.pt.drop 1) rfl a'60 rfl) ?_
 refine LR.e (g := fun ad => .pointer (some ad)) (Y.indexAddrF (sv37.n _ (List.getElem_mem _)) (0) rfl u'60 s'64 rfl rfl (by first | rfl | omega) (by omega)) (Wd.g rfl rfl rfl) rfl rfl (fun ad71 pt71 => ?_)
 refine LR.w1 (Y.FA pt71.pt rfl u'64 rfl s'9) ?_
 refine LR.w1 (Y.load1 pt71.pt.ln64 rfl a'9 rfl) ?_
 refine LR.w1 ((Y.seql rfl rfl rfl).isT (by simp only [hl0]; rfl)) ?_
 refine LR.v1 (Y.pick_t rfl rfl rfl) ?_
 refine LR.a1 (LR.nil (hK11 _ _ ?_))
 refine CW.ret (hret .ret (.inr rfl) _ _ _ (res1 rfl rfl) ?_)
 exact ⟨rfl, hm0⟩
end Go.Proofs.YtfjmpninmdjcaaaGreatDoor.RefK

namespace Go.Proofs.YtfjmpninmdjcaaaGreatDoor.RefL
open E Go.RowKit SimA SimB SimC SimR RefA RefB RefP RefQ RefR RefD RefE RefG RefH RefI RefJ RefK RefV Num
set_option maxRecDepth 20000
theorem within10_ct (a : Int) (n : Nat) (w0 : World) (H0 : Heap)
 (hn : 1 ≤ n ∧ n ≤ 4611686018427387904) (ha : -9223372036854775808 ≤ a ∧ a ≤ 9223372036854775807) :
 Ct Tryz.prog w0 21 #[.int .i64 a, .int .i64 (n : Int)] H0 (fun r H2 => r = .int .i64 (wiN a n : Int) ∧ Nw H0 H2) := by
 refine Ct.enter (args := [.int .i64 a, .int .i64 (n : Int)]) Tryz.func21 rfl rfl rfl ?_
 intro Q0 hret
 have hm0 : Nw H0 H0 := Mo.refl _ _
 refine CW.s1 (fun hK1 => CW.region ?_)
 refine LR.a1 (LR.nil (hK1 _ _ ?_))
 refine CW.s1 (fun hK2 => CW.region ?_)
 refine LR.m1 ?_
 refine LR.m1 ?_
 refine LR.v1 (Y.rem rfl rfl rfl (by omega)) ?_
 have ht1 := Int.tmod_lt_of_pos a (show (0 : Int) < n by omega)
 have ht2 := Int.lt_tmod_of_pos a (show (0 : Int) < n by omega)
 refine LR.a1 (LR.nil (hK2 _ _ ?_))
 refine CW.s1 (fun hK3 => CW.s1 (fun hK4 => CW.region ?_))
 refine LR.m1 ?_
 refine LR.v1 (Y.lss rfl rfl rfl) (LR.nil (hK4 _ _ ?_))
 refine CW.condp rfl (fun c10 => ?_) (fun c10 => ?_)
 ·
  refine CW.region ?_
  refine LR.m1 ?_
  refine LR.m1 ?_
  refine LR.v1 (Y.addi rfl rfl rfl (by omega)) ?_
  refine LR.a1 (LR.nil (hK3 _ _ ?_))
  refine CW.s1 (fun hK5 => CW.region ?_)
  refine LR.m1 ?_
  refine LR.a1 (LR.nil (hK5 _ _ ?_))
  refine CW.ret (hret .ret (.inr rfl) _ _ _ (res1 rfl rfl) ?_)
  exact ⟨by rw [wiN_neg (by omega) (by omega)], hm0⟩
 ·
  refine CW.skip (hK3 _ _ (CW.s1 (fun hK6 => CW.region ?_)))
  refine LR.m1 ?_
  refine LR.a1 (LR.nil (hK6 _ _ ?_))
  refine CW.ret (hret .ret (.inr rfl) _ _ _ (res1 rfl rfl) ?_)
  exact ⟨by rw [wiN_pos (by omega) (by omega)], hm0⟩
theorem m1 {l : List TLg} {y : TLg} (h : l = [y]) : y ∈ l := by rw [h]; exact List.mem_cons_self
end Go.Proofs.YtfjmpninmdjcaaaGreatDoor.RefL

namespace Go.Proofs.YtfjmpninmdjcaaaGreatDoor.RefM
open E Go.RowKit SimA SimB SimC SimR RefA RefB RefP RefQ RefR RefD RefE RefG RefH RefI RefJ RefK RefV RefL Num
set_option maxRecDepth 20000
theorem el_0 {s : TSt} {n : Nat} (h : s.m.me.length = n) : s.el.length = n := by rw [← h]; simp [TSt.m, elM]
theorem rl_0 {s : TSt} {n : Nat} (h : s.m.rf.length = n) : s.rl.length = n := by rw [← h]; simp [TSt.m, rlM]
theorem ll_0 {s : TSt} (h : s.m.Ok) : s.ll.length = s.rl.length := by
 have h2 := congrArg List.length h.lk
 rw [List.length_map, List.length_map] at h2
 simpa [TSt.m, rlM, llM] using h2
end Go.Proofs.YtfjmpninmdjcaaaGreatDoor.RefM

namespace Go.Proofs.YtfjmpninmdjcaaaGreatDoor.RefN
open E Go.RowKit SimA SimB SimC SimR RefA RefB RefP RefQ RefR RefD RefE RefG RefH RefI RefJ RefK RefV RefL RefM Num
set_option maxRecDepth 20000
set_option maxRecDepth 100000 in
theorem inf24 : Inf Tryz.prog 24 52 66 96 := ⟨Tryz.underlying24, _, _, rfl, rfl, rfl, rfl, rfl⟩
set_option maxRecDepth 100000 in
theorem inf30 : Inf Tryz.prog 30 68 33 56 := ⟨Tryz.underlying30, _, _, rfl, rfl, rfl, rfl, rfl⟩
def tO (sm se sd : SV) (x : Pth) (i : Nat) : TTx := ⟨false, [], sm, [⟨x, Zid, idM i, []⟩], false, zSq, se, [⟨idK i, sd, x⟩]⟩
theorem tOR {F : Nat → Prop} {H : Heap} {sm se sd : SV} {x : Pth} {i : Nat} (h : Rd F H fMv 66 sm.v [⟨x, Zid, idM i, []⟩]) (h2 : Rd F H fMm 33 se.v [⟨idK i, sd, x⟩]) (h3 : Rd F H fB 1 sd.v x) : TxR F H (tO sm se sd x i) := ⟨h, Rd.nil _ _ _ _, h2, fun y hy => by rw [List.mem_singleton.1 hy]; exact h3⟩
theorem tO_s {sm se sd : SV} {x : Pth} {i : Nat} (h : x.length ≤ 2000) : TxS (tO sm se sd x i) := txs0 rfl rfl rfl rfl (Nat.le_of_ble_eq_true rfl) (Nat.le_of_ble_eq_true rfl) (fun m hm => by rw [List.mem_singleton.1 hm]; exact ⟨Nat.zero_le _, by show x.length ≤ 140737488355328; omega⟩) (by simp only [tO, List.flatMap_cons, List.flatMap_nil, List.append_nil, mvT_len, mmT_len, List.length_nil]; omega)
theorem idM_nz {i : Nat} (h : i < 30) : idM i ≠ Zid := by
 intro e
 have h1 := congrArg (fun z : Ide => z.1.getD 0 0) e
 simp only [idM, Zid, List.getD_cons_zero] at h1
 have h2 := congrArg UInt8.toNat h1
 rw [UInt8.toNat_ofNat'] at h2
 simp at h2; omega
theorem nm_eq {s : TSt} (ok : s.m.Ok) {k : Nat} (h1 : k < s.rl.length) (h2 : k < s.ll.length) : s.rl[k].n = s.ll[k].n := by
 have h := ok.lk
 have h3 : s.ll.map (·.n) = s.rl.map (·.n) := by simpa [TSt.m, rlM, llM, Function.comp_def] using h
 have h4 := List.getElem_of_eq h3 (i := k) (by simpa using h2)
 simpa using h4.symm
theorem rl_lt {s : TSt} (ok : s.m.Ok) {i j : Nat} (h : i < j) (hj : j < s.rl.length) : blt (s.rl[i]'(by omega)).n s.rl[j].n := by
 have h1 := List.pairwise_iff_getElem.1 ok.ra i j (by simp [TSt.m, rlM]; omega) (by simpa [TSt.m, rlM] using hj) h
 simpa [TSt.m, rlM] using h1
theorem el_lt {s : TSt} (ok : s.m.Ok) {i j : Nat} (h : i < j) (hj : j < s.el.length) : blt (s.el[i]'(by omega)).k.1 s.el[j].k.1 := by
 have h1 := List.pairwise_iff_getElem.1 ok.ma i j (by simp [TSt.m, elM]; omega) (by simpa [TSt.m, elM] using hj) h
 simpa [TSt.m, elM] using h1
theorem leq_F {x y : Pth} (h : blt x y) : Value.bool (Op.bytesLess y x || decide (y = x)) = .bool false := by
 have h1 : Op.bytesLess y x = false := by cases q : Op.bytesLess y x with | false => rfl | true => exact absurd q (blt_asym h)
 have h2 : ¬ y = x := fun e => blt_ne h e.symm
 rw [h1, decide_eq_false h2]; rfl
set_option maxHeartbeats 1600000 in
theorem refsOrder_ct (mx_ : Int) (sv : SV) (l : List Pth) (by_ : Int) (w0 : World) (H0 : Heap)
 (mx : MX mx_ H0) (bf_mx : BF (fun b => b = 0) H0.size) (hl : RdT H0 fS 1 sv.v l) (hx : ∀ x ∈ l, x.length ≤ 140737488355328) (hby : -9223372036854775808 ≤ by_ ∧ by_ ≤ 9223372036854775807) :
 Ct Tryz.prog w0 6 #[sv.v, .int .i64 by_] H0 (fun r H2 => r = .bool true ∧ Nw H0 H2) := by
 refine Ct.enter (args := [sv.v, .int .i64 by_]) Tryz.func6 rfl rfl rfl ?_
 intro Q0 hret
 have hm0 : Nw H0 H0 := Mo.refl _ _
 replace hl := hl.bnd
 have bf_hl := hl.bf
 have hll := hl.len
 refine CW.s1 (fun hK1 => CW.region ?_)
 refine LR.a1 (LR.nil (hK1 _ _ ?_))
 refine CW.s1 (fun hK2 => CW.s1 (fun hK3 => CW.region ?_))
 refine LR.call rfl c'11 rfl (Wd.u rfl) rfl rfl (known10_ct mx_ w0 _ mx (bf_mx.mono (by omega))) (fun v11 H11 r11 => ?_)
 obtain ⟨rfl, hs11⟩ := r11
 replace mx := mx.nw hs11
 replace hl := hl.nw hs11
 replace hm0 := hm0.tr hs11
 have hz1 := hs11.size
 refine LR.v1 (Y.not rfl rfl) (LR.nil (hK3 _ _ ?_))
 refine CW.cond_f rfl ?_
 refine CW.skip (hK2 _ _ (CW.s2 (fun hK4 hE4 => CW.s1 (fun hK5 => CW.region ?_))))
 refine LR.m1 ?_
 refine LR.v1 (Y.len hl rfl u'69 rfl) ?_
 refine LR.v1 (Y.gtr rfl rfl rfl) (LR.nil (hK5 _ _ ?_))
 refine CW.condp rfl (fun c15 => ?_) (fun c15 => ?_)
 ·
  refine CW.s1 (fun hK6 => CW.region ?_)
  refine LR.a1 (LR.nil (hK6 _ _ ?_))
  refine CW.ret (hE4 .ret nofun _ _ (hret .ret (.inr rfl) _ _ _ (res1 rfl rfl) ?_))
  exact ⟨rfl, hm0⟩
 ·
  refine CW.skip (hK4 _ _ (CW.s1 (fun hK7 => CW.region ?_)))
  refine LR.z1 (Z.allocv rfl z'47) fun v5 H5 r5 => ?_
  obtain ⟨rfl, vs, hs5, ob5, hH5⟩ := r5
  have hzs5 : H5.size = H11.size + 1 := by rw [hH5]; simp
  have df1 := (DF.new (bf_mx.mono hm0.size) : DF _ (H11.size + 1))
  have df2 := (DF.new (bf_hl.mono hm0.size) : DF _ (H11.size + 1))
  have nx3 : Nx 0 H0.size (H11.size + 1) := Nx.new hm0.size
  replace mx := mx.nw hs5
  replace hl := hl.nw hs5
  replace hm0 := hm0.tr hs5
  have hz2 := hs5.size
  replace vs : Var 47 H5 H11.size (fSt zSt) := vs
  refine LR.nil (hK7 _ _ (CW.s1 (fun hK8 => CW.region ?_)))
  refine LR.a1 (LR.nil (hK8 _ _ ?_))
  refine CW.s1 (fun hK9 => CW.s1 (fun hK10 => CW.region ?_))
  refine LR.a1 (LR.nil (hK10 _ _ ?_))
  refine CW.block (fun _ _ hX11 _ => ?_)
  refine CW.loop (fun (s_ : (Nat) × (Nat) × (TSt)) => match s_ with | (i, n, s) => [(0, sv.v), (1, .int .i64 by_), (5, .pointer (some ⟨H11.size, 0, none⟩)), (6, .int .i64 (n : Int)), (7, .int .i64 (i : Int))])
   (fun (s_ : (Nat) × (Nat) × (TSt)) (H : Heap) => match s_ with | (i, n, s) => (i ≤ l.length) ∧ (Var 47 H H11.size (fSt s)) ∧ (∀ u : Unit, StR (fun b => H11.size < b ∧ b < H.size) H s) ∧ (BF (fun b => H11.size < b ∧ b < H.size) H.size) ∧ (DF (fun b => H11.size < b ∧ b < H.size) (H11.size + 1)) ∧ (OrdI s.m i n) ∧ (n ≤ i) ∧ Mo (Ms [(H11.size + 1)]) H5 H)
   (fun (s_ : (Nat) × (Nat) × (TSt)) => match s_ with | (i, n, s) => l.length - i) (0, 0, zSt) ⟨rfl, rfl, rfl, rfl, rfl, trivial⟩ ?_ ?_
  ·
   exact ⟨(by omega), vs, (fun _ => zSt_st), (fun b e => e.2), (fun b e h => by have q := e.1; omega), OrdI.zero, (by omega), Mo.refl _ _⟩
  rintro ⟨i, n, s⟩ HL1 hI1 K12 hN12 hE12
  obtain ⟨hi, vs, hs, bf_hs, f1, ho, hni, hlm1⟩ := hI1
  replace mx := mx.upL hlm1 (DFL.o df1)
  replace hl := hl.upL hlm1 (DFL.o df2)
  replace hm0 := hm0.tq hlm1 (MIL.o (MI.q nx3))
  have hz3 := hlm1.size
  have nx_hlm1_vs := Nx.refl (H11.size + 1) H5.size
  refine CW.s2 (fun hK13 hE13 => CW.s1 (fun hK14 => CW.region ?_))
  refine LR.m1 ?_
  refine LR.m1 ?_
  refine LR.v1 (Y.len hl rfl u'69 rfl) ?_
  refine LR.v1 (Y.lss rfl rfl rfl) (LR.nil (hK14 _ _ ?_))
  refine CW.condp rfl (fun c19 => ?_) (fun c19 => ?_)
  ·
   refine CW.skip (hK13 _ _ (CW.s1 (fun hK15 => CW.block (fun _ hK16 _ _ => CW.s1 (fun hK17 => CW.region ?_)))))
   refine LR.m1 ?_
   refine LR.m1 ?_
   refine LR.m1 ?_
   refine LR.m1 ?_
   refine LR.v1 (Y.len hl rfl u'69 rfl) ?_
   refine LR.call rfl c'21 rfl (Wd.u rfl) rfl rfl (within10_ct by_ l.length w0 _ (by omega) hby) (fun v27 H27 r27 => ?_)
   obtain ⟨rfl, hs27⟩ := r27
   replace mx := mx.nw hs27
   replace hl := hl.nw hs27
   replace vs := vs.nw hs27
   replace hs := fun u => (hs u).nw hs27
   replace hm0 := hm0.tr hs27
   replace hlm1 := hlm1.trN hs27
   have hz4 := hs27.size
   have hwk := wiN_lt (a := by_) (show 0 < l.length by omega)
   obtain ⟨q, hq⟩ : ∃ q, q = (i + wiN by_ l.length) % l.length := ⟨_, rfl⟩
   have hql : q < l.length := by rw [hq]; exact Nat.mod_lt _ (by omega)
   refine LR.v1 (Y.cast (v2 := .int .i64 ((i + wiN by_ l.length : Nat) : Int)) (Y.addi rfl rfl rfl (by omega)) (ivv (by omega))) ?_
   refine LR.m1 ?_
   refine LR.v1 (Y.len hl rfl u'69 rfl) ?_
   refine LR.v1 (Y.cast (v2 := .int .i64 (q : Int)) (Y.remi rfl rfl rfl (by omega)) (by rw [hq]; exact ivv (Int.ofNat_tmod _ _).symm)) ?_
   obtain ⟨x, hx9⟩ : ∃ x, x = l[q] := ⟨_, rfl⟩
   have hxl := hx x (by rw [hx9]; exact List.getElem_mem hql)
   refine LR.e1 (g := fun ad => .pointer (some ad)) (Y.iF hl (q) rfl u'69 s'9 rfl rfl) fun ad32 pt32 => ?_
   refine LR.v1 (Y.cast (v2 := Str x) (Y.load1 pt32.pt rfl a'9 rfl) (by rw [hx9])) ?_
   refine LR.a1 (LR.nil (hK17 _ _ ?_))
   refine CW.s1 (fun hK18 => CW.region ?_)
   refine LR.m1 ?_
   refine LR.m1 ?_
   refine LR.v1 (Y.cast (v2 := .int .i64 ((i + 1 : Nat) : Int)) (Y.addi rfl rfl rfl (by omega)) (ivv (by omega))) ?_
   refine LR.v1 (Y.conv_u8 rfl u'3 u'5 rfl) ?_
   refine LR.v1 (Y.build (v := vA (idM i)) rfl rfl (by intro w; kernel_rfl)) ?_
   refine LR.v1 (Y.build (v := .agg (fMv ⟨x, Zid, idM i, []⟩).toArray) rfl rfl (by intro w; kernel_rfl)) ?_
   refine LR.z1 (Z.litw _ ([(⟨x, Zid, idM i, []⟩ : TMv)]) rfl inf24 rfl rfl rfl (by decide) (by decide) fMv_len fMv_one (rfl)) fun v40 H40 r40 => ?_
   obtain ⟨ow40, hs40, ob40, hH40⟩ := r40
   have hzs40 : H40.size = H27.size + 1 := by rw [hH40]; simp
   replace mx := mx.nw hs40
   replace vs := vs.nw hs40
   replace hs := fun u => (hs u).nw hs40
   replace hm0 := hm0.tr hs40
   replace hlm1 := hlm1.trN hs40
   have hz5 := hs40.size
   obtain ⟨s40, rfl⟩ : ∃ s : SV, v40 = s.v := ⟨toSV v40, ow40.sv.symm⟩
   refine LR.m1 ?_
   refine LR.v1 (Y.cast (v2 := .int .i64 ((7 * i : Nat) : Int)) (Y.muli rfl rfl rfl (by omega)) (ivv (by omega))) ?_
   refine LR.v1 (Y.conv_u8 rfl u'3 u'5 rfl) ?_
   refine LR.v1 (Y.build (v := vA (idK i)) rfl rfl (by intro w; kernel_rfl)) ?_
   refine LR.m1 ?_
   refine LR.z1 (Z.strbw rfl Tryz.underlying9 Tryz.underlying57 Tryz.underlying5 rfl (by omega)) fun v46 H46 r46 => ?_
   obtain ⟨ow46, hs46, hzs46⟩ := r46
   replace mx := mx.nw hs46
   replace vs := vs.nw hs46
   replace hs := fun u => (hs u).nw hs46
   replace ow40 := ow40.nw hs46
   replace hm0 := hm0.tr hs46
   replace hlm1 := hlm1.trN hs46
   have hz6 := hs46.size
   obtain ⟨s46, rfl⟩ : ∃ s : SV, v46 = s.v := ⟨toSV v46, ow46.sv.symm⟩
   refine LR.v1 (Y.build (v := mmV ⟨idK i, s46, x⟩) rfl rfl (by intro w; kernel_rfl)) ?_
   refine LR.z1 (Z.litw _ ([(⟨idK i, s46, x⟩ : TMm)]) rfl inf30 rfl rfl rfl (by decide) (by decide) fMm_len fMm_one (rfl)) fun v48 H48 r48 => ?_
   obtain ⟨ow48, hs48, ob48, hH48⟩ := r48
   have hzs48 : H48.size = H46.size + 1 := by rw [hH48]; simp
   replace mx := mx.nw hs48
   replace vs := vs.nw hs48
   replace hs := fun u => (hs u).nw hs48
   replace ow40 := ow40.nw hs48
   replace ow46 := ow46.nw hs48
   replace hm0 := hm0.tr hs48
   replace hlm1 := hlm1.trN hs48
   have hz7 := hs48.size
   obtain ⟨s48, rfl⟩ : ∃ s : SV, v48 = s.v := ⟨toSV v48, ow48.sv.symm⟩
   refine LR.v1 (Y.build (v := txV (tO s40 s48 s46 x i)) rfl rfl (by intro w; kernel_rfl)) ?_
   refine LR.z1 (Z.allocv rfl z'32) fun v9 H9 r9 => ?_
   obtain ⟨rfl, vt, hs9, ob9, hH9⟩ := r9
   have hzs9 : H9.size = H48.size + 1 := by rw [hH9]; simp
   have df25 := (DF.new (bf_mx.mono hm0.size) : DF _ (H48.size + 1))
   have dj27 : Dj (H11.size + 1) (H48.size + 1) := Dj.new vs.lt
   have df28 := (DF.new (bf_hs.mono (by omega)) : DF _ (H48.size + 1))
   have dj29 : Dj (H27.size + 1) (H48.size + 1) := Dj.new ow40.le
   have dj30 : Dj (H40.size + 1) (H48.size + 1) := Dj.new ow46.le
   have dj31 : Dj (H46.size + 1) (H48.size + 1) := Dj.new ow48.le
   have nx33 : Nx 0 H5.size (H48.size + 1) := Nx.new hlm1.size
   replace mx := mx.nw hs9
   replace vs := vs.nw hs9
   replace hs := fun u => (hs u).nw hs9
   replace ow40 := ow40.nw hs9
   replace ow46 := ow46.nw hs9
   replace ow48 := ow48.nw hs9
   replace hlm1 := hlm1.trN hs9
   have hz8 := hs9.size
   refine LR.s1 (S.var vt (_) (fTx (tO s40 s48 s46 x i)) rfl rfl rfl rfl (fTx_one _) s'32 (fTx_len _) (by decide) ((splice_all2 (fTx_len _).symm))) fun H11_17 r11_17 => ?_
   obtain ⟨vt, hs11_17⟩ := r11_17
   replace hs11_17 := hs11_17.md1
   replace mx := mx.upL hs11_17 (DFL.o df25)
   replace vs := vs.upL hs11_17 (DL.o dj27)
   replace hs := fun u => (hs u).upL hs11_17 (DFL.o df28)
   replace ow40 := ow40.upL hs11_17 (DL.o dj29)
   replace ow46 := ow46.upL hs11_17 (DL.o dj30)
   replace ow48 := ow48.upL hs11_17 (DL.o dj31)
   replace hlm1 := hlm1.trL hs11_17 (MIL.o (MI.q nx33))
   have hz9 := hs11_17.size
   refine LR.nil (hK18 _ _ (CW.s1 (fun hK19 => CW.region ?_)))
   refine LR.m1 ?_
   refine LR.v1 (Y.slen rfl u'9 rfl) ?_
   refine LR.v1 (Y.lss rfl rfl rfl) ?_
   refine LR.m1 ?_
   refine LR.splitp (d := 53) rfl (fun g53 => ?_) (fun g53 => ?_)
   ·
    have hz9 : TxS (tO s40 s48 s46 x i) := tO_s (by omega)
    refine LR.w1 (Y.loadN vs.pt rfl a'47 s'47 (fSt_len _) rfl) ?_
    refine LR.w1 (Y.loadN vt.pt rfl a'32 s'32 (fTx_len _) rfl) ?_
    refine LR.call rfl c'23 rfl (Wd.g rfl rfl rfl) rfl rfl (check_ct s (tO s40 s48 s46 x i) _ (fun b => b + 1 = (H27.size + 1) ∨ b + 1 = (H46.size + 1) ∨ b + 1 = (H40.size + 1)) mx_ w0 _ mx (bf_mx.mono (by omega)) (hs ()) (bf_hs.mono (by omega)) (tOR (ow40.rd.imp (fun b _ e => .inl e)) (ow48.rd.imp (fun b _ e => .inr (.inl e))) (ow46.rd.imp (fun b _ e => .inr (.inr e)))) (fun b e => by have q1 := ow40.le; have q2 := ow48.le; have q3 := ow46.le; omega) ho.ok hz9) (fun v56 H56 r56 => ?_)
    obtain ⟨rfl, hs56⟩ := r56
    replace vs := vs.nw hs56
    replace hs := fun u => (hs u).nw hs56
    replace ow40 := ow40.nw hs56
    replace ow46 := ow46.nw hs56
    replace ow48 := ow48.nw hs56
    replace vt := vt.nw hs56
    replace hlm1 := hlm1.trN hs56
    have hz10 := hs56.size
    refine LR.w1 (Y.eql rfl rfl rfl) ?_
    refine LR.v1 (Y.pick_t rfl rfl rfl) (LR.nil (hK19 _ _ ?_))
    refine CW.condp rfl (fun c58 => ?_) (fun c58 => ?_)
    ·
     have hc9 : chkE s.m (tO s40 s48 s46 x i) = 0 := c58
     refine CW.s1 (fun hK20 => CW.region ?_)
     refine LR.v1 (Y.loadN vs.pt rfl a'47 s'47 (fSt_len _) rfl) ?_
     refine LR.v1 (Y.loadN vt.pt rfl a'32 s'32 (fTx_len _) rfl) ?_
     refine LR.call rfl c'24 rfl (Wd.u rfl) rfl rfl (apply_ct s (tO s40 s48 s46 x i) _ (fun b => b + 1 = (H27.size + 1) ∨ b + 1 = (H46.size + 1) ∨ b + 1 = (H40.size + 1)) w0 _ (hs ()) (bf_hs.mono (by omega)) (tOR (ow40.rd.imp (fun b _ e => .inl e)) (ow48.rd.imp (fun b _ e => .inr (.inl e))) (ow46.rd.imp (fun b _ e => .inr (.inr e)))) (fun b e => by have q1 := ow40.le; have q2 := ow48.le; have q3 := ow46.le; omega) ho.ok hc9 hz9) (fun v61 H61 r61 => ?_)
     obtain ⟨s61, rfl, sv61, hm61, hs61⟩ := r61
     replace vs := vs.nw hs61
     replace hs := fun u => (hs u).nw hs61
     replace hlm1 := hlm1.trN hs61
     have hz11 := hs61.size
     replace sv61 := sv61.bnd
     have df34 : DF (fun b => H56.size ≤ b ∧ b < H61.size) (H11.size + 1) := DF.above (fun b h => h.1) (by first | exact hle_vs | exact hlt_vs | omega)
     refine LR.s1 (S.var vs (_) (fSt s61) rfl rfl rfl rfl (fSt_one _) s'47 (fSt_len _) (by rw [fSt_len]; exact Nat.le_refl _) ((splice_all2 ((fSt_len _).trans (fSt_len _).symm)))) fun H13_3 r13_3 => ?_
     obtain ⟨vs, hs13_3⟩ := r13_3
     replace hs13_3 := hs13_3.md1
     replace hs := fun u => (hs u).upL hs13_3 (DFL.o f1)
     replace sv61 := sv61.upL hs13_3 (DFL.o df34)
     replace hlm1 := hlm1.trL hs13_3 (MIL.o (MI.r nx_hlm1_vs))
     have hz12 := hs13_3.size
     refine LR.nil (hK20 _ _ (CW.region ?_))
     refine LR.m1 ?_
     refine LR.v1 (Y.addi rfl rfl rfl (by omega)) ?_
     refine LR.a1 (LR.nil (hK16 _ _ ?_))
     refine hK15 _ _ (CW.region ?_)
     refine LR.m1 ?_
     refine LR.v1 (Y.addi rfl rfl rfl (by omega)) ?_
     refine LR.a1 (LR.nil ?_)
     refine QN.sub (hN12 (i + 1, n + 1, s61) _ ?_ ?_) ⟨rfl, (iv (by omega)), rfl, (iv (by omega)), (iv (by omega)), trivial⟩
     · exact ⟨(by omega), vs, (fun _ => sv61.imp (fun b hb e => ⟨by have q := e.1; omega, hb⟩)), (fun b e => e.2), (fun b e h => by have q := e.1; omega), by rw [hm61]; exact ho.step (by omega) (idM_nz (by omega)) rfl ⟨_, rfl⟩ hc9, (by omega), hlm1⟩
     · first | omega | (simp only; omega) | (simp; omega)
    ·
     refine CW.skip (hK16 _ _ (hK15 _ _ (CW.region ?_)))
     refine LR.m1 ?_
     refine LR.v1 (Y.addi rfl rfl rfl (by omega)) ?_
     refine LR.a1 (LR.nil ?_)
     refine QN.sub (hN12 (i + 1, n, s) _ ?_ ?_) ⟨rfl, (iv (by omega)), rfl, (iv (by omega)), (iv (by omega)), trivial⟩
     · exact ⟨(by omega), vs, (fun _ => (hs ()).imp (fun b hb e => ⟨e.1, hb⟩)), (fun b e => e.2), (fun b e h => by have q := e.1; omega), ho.more, (by omega), hlm1⟩
     · first | omega | (simp only; omega) | (simp; omega)
   ·
    refine LR.g1 ?_
    refine LR.g1 ?_
    refine LR.g1 ?_
    refine LR.g1 ?_
    refine LR.v1 (Y.pick_f rfl rfl rfl) (LR.nil (hK19 _ _ ?_))
    refine CW.cond_f rfl ?_
    refine CW.skip (hK16 _ _ (hK15 _ _ (CW.region ?_)))
    refine LR.m1 ?_
    refine LR.v1 (Y.addi rfl rfl rfl (by omega)) ?_
    refine LR.a1 (LR.nil ?_)
    refine QN.sub (hN12 (i + 1, n, s) _ ?_ ?_) ⟨rfl, (iv (by omega)), rfl, (iv (by omega)), (iv (by omega)), trivial⟩
    · exact ⟨(by omega), vs, (fun _ => (hs ()).imp (fun b hb e => ⟨e.1, hb⟩)), (fun b e => e.2), (fun b e h => by have q := e.1; omega), ho.more, (by omega), hlm1⟩
    · first | omega | (simp only; omega) | (simp; omega)
  ·
   have ok := ho.ok
   have hl1 := rl_0 (s := s) ho.rn
   have hl2 := el_0 (s := s) ho.mn
   have hl3 := ll_0 ok
   refine CW.exit (hE13 (.exit 0) nofun _ _ (hE12 (.exit 0) nofun _ _ (hX11 _ _ ?_)))
   refine hK9 _ _ (CW.s1 (fun hK21 => CW.s1 (fun hK22 => CW.region ?_)))
   refine LR.v1 (Y.FA vs.pt rfl u'47 rfl s'44) ?_
   refine LR.v1 (Y.load1 (vs.pt.drop 1) rfl a'44 rfl) ?_
   refine LR.v1 (Y.len (hs ()).r rfl u'44 rfl) ?_
   refine LR.m1 ?_
   refine LR.v1 ((Y.neq rfl rfl rfl).isF ((fun h => h (by omega)))) ?_
   refine LR.m1 ?_
   refine LR.w1 (Y.FA vs.pt rfl u'47 rfl s'45) ?_
   refine LR.w1 (Y.load1 (vs.pt.drop 2) rfl a'45 rfl) ?_
   refine LR.w1 (Y.len (hs ()).g rfl u'45 rfl) ?_
   refine LR.w1 (Y.move rfl rfl) ?_
   refine LR.w1 ((Y.neq rfl rfl rfl).isF ((fun h => h (by omega)))) ?_
   refine LR.v1 (Y.pick_f rfl rfl rfl) ?_
   refine LR.m1 ?_
   refine LR.w1 (Y.FA vs.pt rfl u'47 rfl s'30) ?_
   refine LR.w1 (Y.load1 vs.pt.st73 rfl a'30 rfl) ?_
   refine LR.w1 (Y.len (hs ()).e rfl u'30 rfl) ?_
   refine LR.w1 (Y.move rfl rfl) ?_
   refine LR.w1 ((Y.neq rfl rfl rfl).isF ((fun h => h (by omega)))) ?_
   refine LR.v1 (Y.pick_f rfl rfl rfl) (LR.nil (hK22 _ _ ?_))
   refine CW.cond_f rfl ?_
   refine CW.skip (hK21 _ _ (CW.s1 (fun hK23 => CW.s1 (fun hK24 => CW.region ?_))))
   refine LR.a1 (LR.nil (hK24 _ _ ?_))
   refine CW.block (fun _ _ hX25 _ => ?_)
   refine CW.loop (fun (k : (Nat)) => [(5, .pointer (some ⟨H11.size, 0, none⟩)), (6, .int .i64 (n : Int)), (10, .int .i64 (k : Int))])
    (fun (k : (Nat)) (H : Heap) => (k ≤ n) ∧ Nw HL1 H)
    (fun (k : (Nat)) => n - k) 0 ⟨rfl, rfl, rfl, trivial⟩ ?_ ?_
   ·
    exact ⟨(by omega), Mo.refl _ _⟩
   intro k HL2 hI2 K26 hN26 hE26
   obtain ⟨hk, hlm2⟩ := hI2
   replace vs := vs.nw hlm2
   replace hs := fun u => (hs u).nw hlm2
   replace hm0 := hm0.tr hlm2
   have hz13 := hlm2.size
   refine CW.s2 (fun hK27 hE27 => CW.s1 (fun hK28 => CW.region ?_))
   refine LR.m1 ?_
   refine LR.m1 ?_
   refine LR.v1 (Y.lss rfl rfl rfl) (LR.nil (hK28 _ _ ?_))
   refine CW.condp rfl (fun c85 => ?_) (fun c85 => ?_)
   ·
    have hkn : k < n := by omega
    obtain ⟨a, ha9⟩ : ∃ a, a = s.rl[k] := ⟨_, rfl⟩
    obtain ⟨y, hy9⟩ : ∃ y, y = s.ll[k] := ⟨_, rfl⟩
    obtain ⟨e, e9⟩ : ∃ e, e = s.el[k] := ⟨_, rfl⟩
    obtain ⟨a0, ha0⟩ : ∃ a, a = s.rl[k - 1] := ⟨_, rfl⟩
    obtain ⟨e0, e09⟩ : ∃ e, e = s.el[k - 1] := ⟨_, rfl⟩
    have hay : a.n = y.n := by rw [ha9, hy9]; exact nm_eq ok _ _
    have haa : 0 < k → blt a0.n a.n := fun h => by rw [ha0, ha9]; exact rl_lt ok (by omega) (by omega)
    have hee : 0 < k → blt e0.k.1 e.k.1 := fun h => by rw [e09, e9]; exact el_lt ok (by omega) (by omega)
    refine CW.skip (hK27 _ _ (CW.s1 (fun hK29 => CW.block (fun _ hK30 _ _ => CW.s1 (fun hK31 => ?_)))))
    refine CW.region_draw rfl (by kernel_rfl) ?_
    refine LR.v1 (Y.FA vs.pt rfl u'47 rfl s'44) ?_
    refine LR.v1 (Y.load1 (vs.pt.drop 1) rfl a'44 rfl) ?_
    refine LR.m1 ?_
    refine LR.e1 (g := fun ad => .pointer (some ad)) (Y.indexAddrF (hs ()).r (k) rfl u'44 s'71 rfl rfl (by first | rfl | omega) (by omega)) fun ad91 pt91 => ?_
    refine LR.v1 (Y.FA pt91.pt rfl u'71 rfl s'9) ?_
    refine LR.v1 (Y.cast (v2 := Str a.n) (Y.load1 pt91.pt rfl a'9 rfl) (by rw [ha9])) ?_
    refine LR.v1 (Y.FA vs.pt rfl u'47 rfl s'45) ?_
    refine LR.v1 (Y.load1 (vs.pt.drop 2) rfl a'45 rfl) ?_
    refine LR.m1 ?_
    refine LR.e1 (g := fun ad => .pointer (some ad)) (Y.indexAddrF (hs ()).g (k) rfl u'45 s'62 rfl rfl (by first | rfl | omega) (by omega)) fun ad97 pt97 => ?_
    refine LR.v1 (Y.FA pt97.pt rfl u'62 rfl s'9) ?_
    refine LR.v1 (Y.cast (v2 := Str y.n) (Y.load1 pt97.pt rfl a'9 rfl) (by rw [hy9])) ?_
    refine LR.v1 ((Y.sneq rfl rfl rfl).isF ((fun h => h hay))) ?_
    refine LR.m1 ?_
    refine LR.w1 (Y.move rfl rfl) ?_
    refine LR.w1 (Y.gtr rfl rfl rfl) ?_
    refine LR.w1 (Y.move rfl rfl) ?_
    refine LR.splitp (d := 104) rfl (fun g104 => ?_) (fun g104 => ?_)
    ·
     refine LR.w1 (Y.FA vs.pt rfl u'47 rfl s'44) ?_
     refine LR.w1 (Y.load1 (vs.pt.drop 1) rfl a'44 rfl) ?_
     refine LR.w1 (Y.move rfl rfl) ?_
     refine LR.e (g := fun ad => .pointer (some ad)) (Y.indexAddrF (hs ()).r (k) rfl u'44 s'71 rfl rfl (by first | rfl | omega) (by omega)) (Wd.g rfl rfl rfl) rfl rfl (fun ad108 pt108 => ?_)
     refine LR.w1 (Y.FA pt108.pt rfl u'71 rfl s'9) ?_
     refine LR.w1 (Y.cast (v2 := Str a.n) (Y.load1 pt108.pt rfl a'9 rfl) (by rw [ha9])) ?_
     refine LR.w1 (Y.FA vs.pt rfl u'47 rfl s'44) ?_
     refine LR.w1 (Y.load1 (vs.pt.drop 1) rfl a'44 rfl) ?_
     refine LR.w1 (Y.move rfl rfl) ?_
     refine LR.w1 (Y.cast (v2 := .int .i64 ((k - 1 : Nat) : Int)) (Y.subi rfl rfl rfl (by omega)) (ivv (by omega))) ?_
     refine LR.e (g := fun ad => .pointer (some ad)) (Y.indexAddrF (hs ()).r (k - 1) rfl u'44 s'71 rfl rfl (by first | rfl | omega) (by omega)) (Wd.g rfl rfl rfl) rfl rfl (fun ad115 pt115 => ?_)
     refine LR.w1 (Y.FA pt115.pt rfl u'71 rfl s'9) ?_
     refine LR.w1 (Y.cast (v2 := Str a0.n) (Y.load1 pt115.pt rfl a'9 rfl) (by rw [ha0])) ?_
     refine LR.w1 (Y.cast (v2 := .bool false) (Y.stleq rfl rfl rfl) (leq_F (haa (by omega)))) ?_
     refine LR.w1 (Y.move rfl rfl) ?_
     refine LR.w1 (Y.FA vs.pt rfl u'47 rfl s'30) ?_
     refine LR.w1 (Y.load1 vs.pt.st73 rfl a'30 rfl) ?_
     refine LR.w1 (Y.move rfl rfl) ?_
     refine LR.e (g := fun ad => .pointer (some ad)) (Y.indexAddrF (hs ()).e (k) rfl u'30 s'68 rfl rfl (by first | rfl | omega) (by omega)) (Wd.g rfl rfl rfl) rfl rfl (fun ad123 pt123 => ?_)
     have bf_pt123 := bf_hs
     refine LR.w1 (Y.FA pt123.pt rfl u'68 rfl s'26) ?_
     refine LR.e (g := fun v => v) (Y.sliceArrE (F := (fun _ => True)) (f := fB) (xs := e.k.1) (pt123.pt.drop 0) trivial (Nat.lt_of_lt_of_le (bf_pt123 _ pt123.f) (by omega)) e.k.2 (fun i x h => ⟨by rw [← e9]; exact mm_at h, rfl⟩) (0) (32) rfl (fun w => .inl (u'26 w)) s'5 rfl (.inl ⟨rfl, rfl⟩) (.inl ⟨rfl, rfl⟩) (by omega) (by omega) (by decide)) (Wd.g rfl rfl rfl) rfl rfl (fun v125 rd125 => ?_)
     rw [List.drop_zero, List.take_of_length_le (by rw [e.k.2]; omega)] at rd125
     refine LR.w1 (Y.bstr rd125 rfl Tryz.underlying57 Tryz.underlying9 Tryz.underlying5 rfl) ?_
     refine LR.w1 (Y.FA vs.pt rfl u'47 rfl s'30) ?_
     refine LR.w1 (Y.load1 vs.pt.st73 rfl a'30 rfl) ?_
     refine LR.w1 (Y.move rfl rfl) ?_
     refine LR.w1 (Y.cast (v2 := .int .i64 ((k - 1 : Nat) : Int)) (Y.subi rfl rfl rfl (by omega)) (ivv (by omega))) ?_
     refine LR.e (g := fun ad => .pointer (some ad)) (Y.indexAddrF (hs ()).e (k - 1) rfl u'30 s'68 rfl rfl (by first | rfl | omega) (by omega)) (Wd.g rfl rfl rfl) rfl rfl (fun ad131 pt131 => ?_)
     have bf_pt131 := bf_hs
     refine LR.w1 (Y.FA pt131.pt rfl u'68 rfl s'26) ?_
     refine LR.e (g := fun v => v) (Y.sliceArrE (F := (fun _ => True)) (f := fB) (xs := e0.k.1) (pt131.pt.drop 0) trivial (Nat.lt_of_lt_of_le (bf_pt131 _ pt131.f) (by omega)) e0.k.2 (fun i x h => ⟨by rw [← e09]; exact mm_at h, rfl⟩) (0) (32) rfl (fun w => .inl (u'26 w)) s'5 rfl (.inl ⟨rfl, rfl⟩) (.inl ⟨rfl, rfl⟩) (by omega) (by omega) (by decide)) (Wd.g rfl rfl rfl) rfl rfl (fun v133 rd133 => ?_)
     rw [List.drop_zero, List.take_of_length_le (by rw [e0.k.2]; omega)] at rd133
     refine LR.w1 (Y.bstr rd133 rfl Tryz.underlying57 Tryz.underlying9 Tryz.underlying5 rfl) ?_
     refine LR.w1 (Y.cast (v2 := .bool false) (Y.stleq rfl rfl rfl) (leq_F (hee (by omega)))) ?_
     refine LR.w1 (Y.pick_f rfl rfl rfl) ?_
     refine LR.w1 (Y.pick_t rfl rfl rfl) ?_
     refine LR.v1 (Y.pick_f rfl rfl rfl) (LR.nil (hK31 _ _ ?_))
     refine CW.cond_f rfl ?_
     refine CW.skip (hK30 _ _ (hK29 _ _ (CW.region ?_)))
     refine LR.m1 ?_
     refine LR.v1 (Y.addi rfl rfl rfl (by omega)) ?_
     refine LR.a1 (LR.nil ?_)
     refine QN.sub (hN26 (k + 1) _ ?_ ?_) ⟨rfl, (iv (by omega)), (iv (by omega)), trivial⟩
     · exact ⟨(by omega), hlm2⟩
     · first | omega | (simp only; omega) | (simp; omega)
    ·
     refine LR.g1 ?_
     refine LR.g1 ?_
     refine LR.g1 ?_
     refine LR.g1 ?_
     refine LR.g1 ?_
     refine LR.g1 ?_
     refine LR.g1 ?_
     refine LR.g1 ?_
     refine LR.g1 ?_
     refine LR.g1 ?_
     refine LR.g1 ?_
     refine LR.g1 ?_
     refine LR.g1 ?_
     refine LR.g1 ?_
     refine LR.g1 ?_
     refine LR.gsu rfl rfl rfl rfl rfl ?_
     refine LR.gsu rfl rfl rfl rfl rfl ?_
     refine LR.gsu rfl rfl rfl rfl rfl ?_
     refine LR.gsu rfl rfl rfl rfl rfl ?_
     refine LR.gsu rfl rfl rfl rfl rfl ?_
     refine LR.gsu rfl rfl rfl rfl rfl ?_
     refine LR.gsu rfl rfl rfl rfl rfl ?_
     refine LR.gsu rfl rfl rfl rfl rfl ?_
     refine LR.gsu rfl rfl rfl rfl rfl ?_
     refine LR.gsu rfl rfl rfl rfl rfl ?_
     refine LR.gsu rfl rfl rfl rfl rfl ?_
     refine LR.gsu rfl rfl rfl rfl rfl ?_
     refine LR.gsu rfl rfl rfl rfl rfl ?_
     refine LR.gsu rfl rfl rfl rfl rfl ?_
     refine LR.gsu rfl rfl rfl rfl rfl ?_
     refine LR.gsu rfl rfl rfl rfl rfl ?_
     refine LR.g1 ?_
     refine LR.w1 (Y.pick_f rfl rfl rfl) ?_
     refine LR.v1 (Y.pick_f rfl rfl rfl) (LR.nil (hK31 _ _ ?_))
     refine CW.cond_f rfl ?_
     refine CW.skip (hK30 _ _ (hK29 _ _ (CW.region ?_)))
     refine LR.m1 ?_
     refine LR.v1 (Y.addi rfl rfl rfl (by omega)) ?_
     refine LR.a1 (LR.nil ?_)
     refine QN.sub (hN26 (k + 1) _ ?_ ?_) ⟨rfl, (iv (by omega)), (iv (by omega)), trivial⟩
     · exact ⟨(by omega), hlm2⟩
     · first | omega | (simp only; omega) | (simp; omega)
   ·
    refine CW.exit (hE27 (.exit 2) nofun _ _ (hE26 (.exit 2) nofun _ _ (hX25 _ _ ?_)))
    refine hK23 _ _ (CW.s1 (fun hK32 => CW.region ?_))
    refine LR.a1 (LR.nil (hK32 _ _ ?_))
    refine CW.ret (hret .ret (.inr rfl) _ _ _ (res1 rfl rfl) ?_)
    exact ⟨rfl, hm0⟩
end Go.Proofs.YtfjmpninmdjcaaaGreatDoor.RefN

namespace Go.Proofs.YtfjmpninmdjcaaaGreatDoor.E
open Go.ChangeShapes Go.WideShapes Go.ChangeAt Go.RowKit Go.Deep
section
variable {H : Type} {enc : TypeId × Value → H} {P : Program} {W : World} {base : Nat} {sp : Nat → Bool} {held : Bool}
theorem mem_weightsAll {e : TypeId} {d : DataW H} : ∀ {ds : List (DataW H)}, d ∈ ds → ∀ n ∈ d.weights P e, n ∈ DataW.weightsAll P e ds
 | x :: ds, h, n, hn => by
   simp only [DataW.weightsAll, List.mem_append]
   rcases List.mem_cons.1 h with rfl | h
   · exact .inl hn
   · exact .inr (mem_weightsAll h n hn)
def Wt (P : Program) (t : TypeId) (d : DataW H) : Prop := ∀ n ∈ d.weights P t, n ≤ reachBytes
theorem Wt.of {ts : List TypeId} {ds : List (DataW H)} {j : Nat} {t : TypeId} {d : DataW H} (h : (DataW.weightsEach P ts ds).all (· ≤ reachBytes) = true) (ht : ts[j]? = some t) (hd : ds[j]? = some d) : Wt P t d := fun n hn => by
 have := List.all_eq_true.1 h _ (DataW.weights_mem_each ht hd n hn)
 simpa using this
theorem Wt.slice {t e : TypeId} {els spr : List (DataW H)} (hu : P.underlying t = some (.slice e)) (h : Wt P t (.slice els spr)) : (els.length + spr.length) * P.bytesOf e ≤ reachBytes ∧ ∀ x ∈ els, Wt P e x :=
 ⟨h _ (by simp [DataW.weights, hu]), fun x hx n hn => h n (by simp only [DataW.weights, hu, List.mem_cons, List.mem_append]; exact .inr (.inl (mem_weightsAll hx n hn)))⟩
theorem Wt.str {t : TypeId} {b : List UInt8} (h : Wt (H := H) P t (.lit (.string b))) : b.length ≤ reachBytes := h _ (by simp [DataW.weights])
theorem read_sliceD {α : Type} (f : α → List Value) (sz : Nat) (Ψ : DataW H → α → Prop) {t e : TypeId} {v : Value} {d : DataW H} {p : List MemPlace} (hv : v.cells = #[v]) (ht : P.underlying t = some (.slice e)) (hc : P.cellsOf e = sz) (hsz : 0 < sz)
 (elem : ∀ n cs' y ps, DataW.trod enc P W base sp held n e cs' = some (y, ps) → cs'.length = sz → ∃ x, cs' = f x ∧ Ψ y x) (h : DataW.Trod enc P W base sp held t v d p) :
 ∃ l : List α, RdT W.heap f sz v l ∧ ∃ D : Nat → DataW H, (∀ (i : Nat) x, l[i]? = some x → Ψ (D i) x) ∧ ((l = [] ∧ d = .nil) ∨ ∃ spr, d = .slice ((List.range l.length).map D) spr) := by
 obtain ⟨fuel, h⟩ := h
 rw [hv] at h
 rcases open_slice ht h with ⟨h1, h2⟩ | ⟨a, len, cap, m, n, D, Pl, h1, h2, h3, h4, h5, h6, h7⟩
 · simp only [Array.toList, List.cons.injEq, and_true] at h1
   simp only [Prod.mk.injEq] at h2
   obtain ⟨rfl, rfl⟩ := h2
   subst h1
   exact ⟨[], Rd.nil _ _ _ _, fun _ => .nil, (fun i x h => by simp at h), .inl ⟨rfl, rfl⟩⟩
 · simp only [List.cons.injEq, and_true] at h1
   simp only [Prod.mk.injEq] at h6
   obtain ⟨rfl, rfl⟩ := h6
   subst h1
   have hm : len ≤ m := by rw [h5]; split <;> omega
   have : ∀ i, i < len → ∃ x : α, ∃ cs', W.cells? base (a.add (i * sz)) sz = some cs' ∧ cs' = f x ∧ Ψ (D i) x := by
    intro i hi
    obtain ⟨cs', hcs, htr⟩ := h7 i (by omega)
    rw [hc] at hcs
    obtain ⟨_, hl, _⟩ := World.cells?_some hcs
    obtain ⟨x, hx⟩ := elem n cs' _ _ htr hl
    exact ⟨x, cs', hcs, hx⟩
   obtain ⟨l, hl, hp⟩ := list_of this
   refine ⟨l, ⟨some a, cap, by rw [hl], by omega, h4, fun hne => ?_⟩, D, fun i x hx => ?_, .inr ⟨_, by rw [hl]⟩⟩
   · have hlen : 0 < l.length := List.length_pos_iff.2 hne
     obtain ⟨cs0, hcs0, hcs0', _⟩ := hp 0 l[0] (by simp [hlen])
     obtain ⟨_, hl0, hcell0⟩ := World.cells?_some hcs0
     have hc0 := hcell0 0 (by omega)
     have hh : W.cell? a = some (cs0[0]'(by omega)) := by
      simp only [Nat.zero_mul] at hc0
      rw [← List.getElem?_eq_getElem, ← hc0]
      simp [Addr.add]
     have hspot : a.spot = none := World.cell?_spot hh
     refine ⟨a, rfl, hspot, trivial, World.block_lt_of_cell? W a hh, fun i x hx => ⟨rfl, fun j c hj => ?_⟩⟩
     obtain ⟨cs', hcs', rfl, _⟩ := hp i x hx
     obtain ⟨_, hl', hcell'⟩ := World.cells?_some hcs'
     have hjl := (List.getElem?_eq_some_iff.1 hj).1
     have := hcell' j (by rw [← hl']; exact hjl)
     rw [hj] at this
     rw [add_eq hspot, add_eq rfl] at this
     show cell W.heap _ = _
     rw [← (At.cell (w0 := W) ⟨rfl, rfl, rfl, rfl, Nat.le_refl _⟩ _)]
     exact this
   · obtain ⟨_, _, _, h8⟩ := hp i x hx
     exact h8
theorem wt_elems {α : Type} {t e : TypeId} {d : DataW H} {l : List α} {D : Nat → DataW H} (hu : P.underlying t = some (.slice e)) (h : (l = [] ∧ d = .nil) ∨ ∃ spr, d = .slice ((List.range l.length).map D) spr) (hw : Wt P t d) : l.length * P.bytesOf e ≤ reachBytes ∧ ∀ i, i < l.length → Wt P e (D i) := by
 rcases h with ⟨rfl, rfl⟩ | ⟨spr, rfl⟩
 · exact ⟨by simp, fun i hi => by simp at hi⟩
 · obtain ⟨h1, h2⟩ := hw.slice hu
   simp only [List.length_map, List.length_range] at h1
   exact ⟨Nat.le_trans (Nat.mul_le_mul_right _ (by omega)) h1, fun i hi => h2 _ (List.mem_map.2 ⟨i, by simpa using hi, rfl⟩)⟩
theorem read_bytesW {t e : TypeId} {v : Value} {d : DataW H} {p : List MemPlace} (hv : v.cells = #[v]) (ht : P.underlying t = some (.slice e)) (he : P.underlying e = some (.int .u8)) (hc : P.cellsOf e = 1) (hb : P.bytesOf e = 1) (h : DataW.Trod enc P W base sp held t v d p) :
 ∃ l : List UInt8, RdT W.heap fB 1 v l ∧ (Wt P t d → l.length ≤ reachBytes) := by
 obtain ⟨l, h1, D, _, h2⟩ := read_sliceD fB 1 (fun _ _ => True) hv ht hc (by omega) (fun n cs' y ps hy hl => by
  obtain ⟨x, rfl, h3, h4⟩ := DataW.trod_int he hy
  obtain ⟨b, rfl⟩ := u8_of h4
  exact ⟨b, rfl, trivial⟩) h
 exact ⟨l, h1, fun hw => by have := (wt_elems ht h2 hw).1; rw [hb] at this; omega⟩
theorem read_strsW {t e : TypeId} {v : Value} {d : DataW H} {p : List MemPlace} (hv : v.cells = #[v]) (ht : P.underlying t = some (.slice e)) (he : P.underlying e = some .string) (hc : P.cellsOf e = 1) (h : DataW.Trod enc P W base sp held t v d p) :
 ∃ l : List (List UInt8), RdT W.heap fS 1 v l ∧ (Wt P t d → l.length * P.bytesOf e ≤ reachBytes ∧ ∀ s ∈ l, s.length ≤ reachBytes) := by
 obtain ⟨l, h1, D, h3, h2⟩ := read_sliceD fS 1 (fun y s => y = .lit (.string s)) hv ht hc (by omega) (fun n cs' y ps hy hl => by
  obtain ⟨s, rfl, h3⟩ := DataW.trod_string he hy
  simp only [Prod.mk.injEq] at h3
  exact ⟨s.data.toList, rfl, h3.1.1⟩) h
 refine ⟨l, h1, fun hw => ?_⟩
 obtain ⟨w1, w2⟩ := wt_elems ht h2 hw
 refine ⟨w1, fun s hs => ?_⟩
 obtain ⟨i, hi⟩ := List.mem_iff_getElem?.1 hs
 have w3 := w2 i (List.getElem?_eq_some_iff.1 hi).1
 rw [h3 i s hi] at w3
 exact w3.str
end
end Go.Proofs.YtfjmpninmdjcaaaGreatDoor.E
