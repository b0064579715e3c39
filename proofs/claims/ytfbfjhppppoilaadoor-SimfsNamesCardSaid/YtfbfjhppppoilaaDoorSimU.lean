/-
  The disk: a file is published (plain data).
-/
import Derived.Test.YtfbfjhppppoilaaDoorSimS
namespace Go.Proofs.YtfbfjhppppoilaaDoor.SimU
open Go.Proofs.YtfbfjhppppoilaaDoor.E Go.RowKit Go.Proofs.YtfbfjhppppoilaaDoor.SimA Go.Proofs.YtfbfjhppppoilaaDoor.SimB Go.Proofs.YtfbfjhppppoilaaDoor.SimC Go.Proofs.YtfbfjhppppoilaaDoor.SimD Go.Proofs.YtfbfjhppppoilaaDoor.SimE Go.Proofs.YtfbfjhppppoilaaDoor.SimF Go.Proofs.YtfbfjhppppoilaaDoor.SimG Go.Proofs.YtfbfjhppppoilaaDoor.SimH Go.Proofs.YtfbfjhppppoilaaDoor.SimI Go.Proofs.YtfbfjhppppoilaaDoor.SimJ Go.Proofs.YtfbfjhppppoilaaDoor.SimK Go.Proofs.YtfbfjhppppoilaaDoor.SimL Go.Proofs.YtfbfjhppppoilaaDoor.SimM Go.Proofs.YtfbfjhppppoilaaDoor.SimN Go.Proofs.YtfbfjhppppoilaaDoor.SimP Go.Proofs.YtfbfjhppppoilaaDoor.SimQ Go.Proofs.YtfbfjhppppoilaaDoor.SimR Go.Proofs.YtfbfjhppppoilaaDoor.SimS
set_option maxRecDepth 20000
set_option linter.unusedVariables false
set_option linter.unusedSimpArgs false
set_option linter.unusedSectionVars false

theorem lay_b {D D1 : Dk} {p : Pth} {w : Wr} (hb : D.begin = (true, D1)) (hn : nameB p = true) (h1 : (w.on (D1.wasL p) w.d.length).length ≤ D1.most) (h2 : D1.used + (w.on (D1.wasL p) w.d.length).length ≤ D1.cap + (D1.wasL p).length) : D.lay p w = (0, D1.write p w) := by
  have he := layE_0 (D := D1) hn (Nat.not_lt.2 h1) (Nat.not_lt.2 h2)
  rw [lay_go (by rw [hb]), hb]
  simp only [he, if_true]
def startD (p d : Pth) (x : List UInt8) : Dk := ((((Dk.empty 1048576 65536).lay p ⟨false, x⟩).2.sync p).2.syncDir d).2
theorem start_1 {p : Pth} {x : List UInt8} (hn : nameB p = true) (h : x.length ≤ 3000) : (Dk.empty 1048576 65536).lay p ⟨false, x⟩ = (0, ⟨1048576, 65536, [⟨x, [], [⟨false, x⟩]⟩], [(p, 0)], [], [⟨[], p, some 0⟩], 1, 0, false⟩) := by
  unfold Dk.empty
  rw [lay_a hn (by simp only [on_f]; omega) (by simp only [on_f]; simp [usedL, Dk.wasL, mget]; omega)]
  simp [Dk.write, Dk.make, mget, nput, Dk.change, Chg.ap, Dk.putF, fget, on_f]
theorem start_2 {p : Pth} {x : List UInt8} (hn : nameB p = true) : Dk.sync ⟨1048576, 65536, [⟨x, [], [⟨false, x⟩]⟩], [(p, 0)], [], [⟨[], p, some 0⟩], 1, 0, false⟩ p = (0, ⟨1048576, 65536, [⟨x, x, []⟩], [(p, 0)], [], [⟨[], p, some 0⟩], 2, 0, false⟩) := by
  simp [Dk.sync, Dk.begin, Dk.look, hn, mget, Dk.syncF, Dk.putF, fget]
theorem start_3 {p d : Pth} {x : List UInt8} (hd : dirP p = d) (he : dirE d = 0) : Dk.syncDir ⟨1048576, 65536, [⟨x, x, []⟩], [(p, 0)], [], [⟨[], p, some 0⟩], 2, 0, false⟩ d = (0, ⟨1048576, 65536, [⟨x, x, []⟩], [(p, 0)], [(p, 0)], [], 3, 0, false⟩) := by
  simp [Dk.syncDir, Dk.begin, he, Dk.stayD, merge, hd, nput, Chg.dir]
theorem start_all {p d : Pth} {x : List UInt8} (hn : nameB p = true) (hd : dirP p = d) (he : dirE d = 0) (h : x.length ≤ 3000) :
    ((Dk.empty 1048576 65536).lay p ⟨false, x⟩).1 = 0 ∧ (((Dk.empty 1048576 65536).lay p ⟨false, x⟩).2.sync p).1 = 0 ∧ ((((Dk.empty 1048576 65536).lay p ⟨false, x⟩).2.sync p).2.syncDir d).1 = 0 ∧ startD p d x = ⟨1048576, 65536, [⟨x, x, []⟩], [(p, 0)], [(p, 0)], [], 3, 0, false⟩ := by
  unfold startD
  rw [start_1 hn h]
  simp only
  rw [start_2 hn]
  simp only
  rw [start_3 hd he]
  simp
abbrev pX : Pth := [100, 47, 120]
abbrev pN : Pth := [100, 47, 110, 101, 119]
theorem nX : nameB pX = true := by decide
theorem nN : nameB pN = true := by decide
theorem dX : dirP pX = [100] := by decide
theorem dN : dirP pN = [100] := by decide
theorem eD : dirE [100] = 0 := by decide
theorem bNX : blt pN pX := by decide
theorem bXN : ¬ blt pX pN := by decide
def pub5 (old : List UInt8) (n : Nat) : Dk := (startD pX [100] old).stop n
def pub6 (old new : List UInt8) (n : Nat) : Dk := ((pub5 old n).lay pN ⟨false, new⟩).2
def pub7 (old new : List UInt8) (n : Nat) : Dk := ((pub6 old new n).sync pN).2
def pub8 (old new : List UInt8) (n : Nat) : Dk := ((pub7 old new n).rename pN pX).2
def pub9 (old new : List UInt8) (n : Nat) : Nat × Dk := (pub8 old new n).syncDir [100]
theorem dead_ops {D : Dk} (h : D.dead = true) : D.begin = (false, D) := by simp [Dk.begin, h]
theorem pub5_ {old : List UInt8} {n : Nat} (h : old.length ≤ 3000) : pub5 old n = ⟨1048576, 65536, [⟨old, old, []⟩], [(pX, 0)], [(pX, 0)], [], 3, n, false⟩ := by
  unfold pub5; rw [(start_all nX dX eD h).2.2.2]; rfl
theorem pub6_ {old new : List UInt8} {n : Nat} (h : old.length ≤ 3000) (h2 : new.length ≤ 3000) (hn : 2 ≤ n) : pub6 old new n = ⟨1048576, 65536, [⟨old, old, []⟩, ⟨new, [], [⟨false, new⟩]⟩], [(pN, 1), (pX, 0)], [(pX, 0)], [⟨[], pN, some 1⟩], 4, n - 1, false⟩ := by
  unfold pub6
  have hb : Dk.begin ⟨1048576, 65536, [⟨old, old, []⟩], [(pX, 0)], [(pX, 0)], [], 3, n, false⟩ = (true, ⟨1048576, 65536, [⟨old, old, []⟩], [(pX, 0)], [(pX, 0)], [], 4, n - 1, false⟩) := by
    unfold Dk.begin; rw [if_neg (by simp), if_neg (by show ¬ n = 1; omega)]
  rw [pub5_ h, lay_b hb nN (by simp only [on_f]; omega) (by simp only [on_f]; simp [Dk.used, usedL, Dk.wasL, mget, fget]; omega)]
  simp [Dk.write, Dk.make, mget, nput, Dk.change, Chg.ap, Dk.putF, fget, on_f, bXN]
theorem pub7_ {old new : List UInt8} {n : Nat} (h : old.length ≤ 3000) (h2 : new.length ≤ 3000) (hn : 3 ≤ n) : pub7 old new n = ⟨1048576, 65536, [⟨old, old, []⟩, ⟨new, new, []⟩], [(pN, 1), (pX, 0)], [(pX, 0)], [⟨[], pN, some 1⟩], 5, n - 2, false⟩ := by
  unfold pub7
  rw [pub6_ h h2 (by omega)]
  have hb : ¬ n - 1 = 1 := by omega
  simp [Dk.sync, Dk.begin, hb, Dk.look, nN, mget, Dk.syncF, Dk.putF, fget]
  omega
theorem pub8_ {old new : List UInt8} {n : Nat} (h : old.length ≤ 3000) (h2 : new.length ≤ 3000) (hn : 4 ≤ n) : pub8 old new n = ⟨1048576, 65536, [⟨old, old, []⟩, ⟨new, new, []⟩], [(pX, 1)], [(pX, 0)], [⟨[], pN, some 1⟩, ⟨pN, pX, some 1⟩], 6, n - 3, false⟩ := by
  unfold pub8
  rw [pub7_ h h2 (by omega)]
  have hb : ¬ n - 2 = 1 := by omega
  simp [Dk.rename, Dk.begin, hb, Dk.renE, nN, nX, dN, dX, Dk.look, mget, Dk.change, Chg.ap, mdel, nput, blt_irr]
  omega
theorem pub9_ {old new : List UInt8} {n : Nat} (h : old.length ≤ 3000) (h2 : new.length ≤ 3000) (hn : 5 ≤ n) : pub9 old new n = (0, ⟨1048576, 65536, [⟨old, old, []⟩, ⟨new, new, []⟩], [(pX, 1)], [(pX, 1)], [], 7, n - 4, false⟩) := by
  unfold pub9
  rw [pub8_ h h2 (by omega)]
  have hb : ¬ n - 3 = 1 := by omega
  simp [Dk.syncDir, Dk.begin, hb, eD, Dk.stayD, merge, dX, dN, nput, Chg.dir]
  omega

def Xd (fs : List Fdt) (nw : Nms) (lg : List Chg) (op : Nat) : Dk := ⟨1048576, 65536, fs, nw, [(pX, 0)], lg, op, 0, true⟩
theorem dead_lay {D : Dk} {p : Pth} {w : Wr} (h : D.dead = true) : D.lay p w = (11, D) := by rw [lay_dead (by rw [dead_ops h]), dead_ops h]
theorem dead_sync {D : Dk} {p : Pth} (h : D.dead = true) : D.sync p = (11, D) := by rw [sync_dead (by rw [dead_ops h]), dead_ops h]
theorem dead_ren {D : Dk} {p q : Pth} (h : D.dead = true) : D.rename p q = (11, D) := by rw [ren_dead (by rw [dead_ops h]), dead_ops h]
theorem dead_rem {D : Dk} {p : Pth} (h : D.dead = true) : D.remove p = (11, D) := by rw [rem_dead (by rw [dead_ops h]), dead_ops h]
theorem dead_sd {D : Dk} {p : Pth} (h : D.dead = true) : D.syncDir p = (11, D) := by rw [sd_dead (by rw [dead_ops h]), dead_ops h]
theorem last_ops {D : Dk} (h : D.dead = false) (h2 : D.left = 1) : D.begin = (false, { D with left := 0, dead := true }) := by unfold Dk.begin; rw [if_neg (by rw [h]; decide), if_pos h2]
theorem pub9_1 {old new : List UInt8} (h : old.length ≤ 3000) : pub9 old new 1 = (11, Xd [⟨old, old, []⟩] [(pX, 0)] [] 3) := by
  have e := last_ops (D := pub5 old 1) (by rw [pub5_ h]) (by rw [pub5_ h])
  have e6 : pub6 old new 1 = Xd [⟨old, old, []⟩] [(pX, 0)] [] 3 := by unfold pub6; rw [lay_dead (by rw [e]), e, pub5_ h]; rfl
  have e7 : pub7 old new 1 = Xd [⟨old, old, []⟩] [(pX, 0)] [] 3 := by unfold pub7; rw [e6, dead_sync rfl]
  have e8 : pub8 old new 1 = Xd [⟨old, old, []⟩] [(pX, 0)] [] 3 := by unfold pub8; rw [e7, dead_ren rfl]
  unfold pub9; rw [e8, dead_sd rfl]
theorem pub9_2 {old new : List UInt8} (h : old.length ≤ 3000) (h2 : new.length ≤ 3000) : pub9 old new 2 = (11, Xd [⟨old, old, []⟩, ⟨new, [], [⟨false, new⟩]⟩] [(pN, 1), (pX, 0)] [⟨[], pN, some 1⟩] 4) := by
  have e := last_ops (D := pub6 old new 2) (by rw [pub6_ h h2 (by decide)]) (by rw [pub6_ h h2 (by decide)])
  have e7 : pub7 old new 2 = Xd [⟨old, old, []⟩, ⟨new, [], [⟨false, new⟩]⟩] [(pN, 1), (pX, 0)] [⟨[], pN, some 1⟩] 4 := by unfold pub7; rw [sync_dead (by rw [e]), e, pub6_ h h2 (by decide)]; rfl
  have e8 : pub8 old new 2 = Xd [⟨old, old, []⟩, ⟨new, [], [⟨false, new⟩]⟩] [(pN, 1), (pX, 0)] [⟨[], pN, some 1⟩] 4 := by unfold pub8; rw [e7, dead_ren rfl]
  unfold pub9; rw [e8, dead_sd rfl]
theorem pub9_3 {old new : List UInt8} (h : old.length ≤ 3000) (h2 : new.length ≤ 3000) : pub9 old new 3 = (11, Xd [⟨old, old, []⟩, ⟨new, new, []⟩] [(pN, 1), (pX, 0)] [⟨[], pN, some 1⟩] 5) := by
  have e := last_ops (D := pub7 old new 3) (by rw [pub7_ h h2 (by decide)]) (by rw [pub7_ h h2 (by decide)])
  have e8 : pub8 old new 3 = Xd [⟨old, old, []⟩, ⟨new, new, []⟩] [(pN, 1), (pX, 0)] [⟨[], pN, some 1⟩] 5 := by unfold pub8; rw [ren_dead (by rw [e]), e, pub7_ h h2 (by decide)]; rfl
  unfold pub9; rw [e8, dead_sd rfl]
theorem pub9_4 {old new : List UInt8} (h : old.length ≤ 3000) (h2 : new.length ≤ 3000) : pub9 old new 4 = (11, Xd [⟨old, old, []⟩, ⟨new, new, []⟩] [(pX, 1)] [⟨[], pN, some 1⟩, ⟨pN, pX, some 1⟩] 6) := by
  have e := last_ops (D := pub8 old new 4) (by rw [pub8_ h h2 (by decide)]) (by rw [pub8_ h h2 (by decide)])
  unfold pub9; rw [sd_dead (by rw [e]), e, pub8_ h h2 (by decide)]; rfl
theorem bNN : ¬ blt pN pN := blt_irr _
theorem crash_1 (old : List UInt8) (op : Nat) (picks : List Int) : ((Xd [⟨old, old, []⟩] [(pX, 0)] [] op).crash picks).readE pX = 0 ∧ ((Xd [⟨old, old, []⟩] [(pX, 0)] [] op).crash picks).readL pX = old := by
  have e : (Xd [⟨old, old, []⟩] [(pX, 0)] [] op).crash picks = ⟨1048576, 65536, [⟨old, old, []⟩], [(pX, 0)], [(pX, 0)], [], op, 0, false⟩ := by simp [Xd, Dk.crash, Dk.crashA, Dk.crashN, Dk.dirty, crashF, fget]
  rw [e]
  have h1 : Dk.readE ⟨1048576, 65536, [⟨old, old, []⟩], [(pX, 0)], [(pX, 0)], [], op, 0, false⟩ pX = 0 := by simp [Dk.readE, Dk.look, nX, mget]
  exact ⟨h1, by unfold Dk.readL; rw [if_pos h1]; simp [Dk.wasL, mget, fget]⟩
theorem read_of {D : Dk} {p : Pth} {i : Nat} {x : List UInt8} (hd : D.dead = false) (hn : nameB p = true) (hg : mget D.now p = some i) (hx : (fget D.fs i).now = x) : D.readE p = 0 ∧ D.readL p = x := by
  have h1 : D.readE p = 0 := by unfold Dk.readE; rw [hd]; simp [Dk.look, hn, hg]
  exact ⟨h1, by unfold Dk.readL; rw [if_pos h1, was_some hg, hx]⟩
theorem crash_2 (old : List UInt8) (f : Fdt) (op : Nat) (picks : List Int) : ((Xd [⟨old, old, []⟩, f] [(pN, 1), (pX, 0)] [⟨[], pN, some 1⟩] op).crash picks).readE pX = 0 ∧ ((Xd [⟨old, old, []⟩, f] [(pN, 1), (pX, 0)] [⟨[], pN, some 1⟩] op).crash picks).readL pX = old := by
  have hk := pickN_lt picks 0 (m := 2) (by decide)
  have hN : (Xd [⟨old, old, []⟩, f] [(pN, 1), (pX, 0)] [⟨[], pN, some 1⟩] op).crashN picks = (apl (List.take (pickN picks 0 2) [⟨[], pN, some 1⟩]) [(pX, 0)], 1) := by
    simp [Xd, Dk.crashN, Dk.dirty, insP, crashD, Dk.chgs, Chg.dir, dN]
  rcases (show pickN picks 0 2 = 0 ∨ pickN picks 0 2 = 1 by omega) with e | e
  · rw [e] at hN
    refine read_of (i := 0) rfl nX ?_ ?_
    · show mget (Dk.crashN _ picks).1 pX = some 0; rw [hN]; rfl
    · show (fget (Dk.crashA _ picks).1 0).now = old; unfold Dk.crashA; rw [hN]; simp [apl, crashF, Xd, fget]
  · rw [e] at hN
    have e2 : apl (List.take 1 [⟨[], pN, some 1⟩]) [(pX, 0)] = [(pN, 1), (pX, 0)] := by simp [apl, Chg.ap, nput, bXN]
    rw [e2] at hN
    refine read_of (i := 0) rfl nX ?_ ?_
    · show mget (Dk.crashN _ picks).1 pX = some 0; rw [hN]; rfl
    · show (fget (Dk.crashA _ picks).1 0).now = old; unfold Dk.crashA; rw [hN]
      simp only [List.foldl_cons, List.foldl_nil, crashF, Xd]
      by_cases hw : f.w = []
      · simp [fget, hw]
      · simp [fget, hw]
theorem crash_4 (old new : List UInt8) (op : Nat) (picks : List Int) : ((Xd [⟨old, old, []⟩, ⟨new, new, []⟩] [(pX, 1)] [⟨[], pN, some 1⟩, ⟨pN, pX, some 1⟩] op).crash picks).readE pX = 0 ∧ (((Xd [⟨old, old, []⟩, ⟨new, new, []⟩] [(pX, 1)] [⟨[], pN, some 1⟩, ⟨pN, pX, some 1⟩] op).crash picks).readL pX = old ∨ ((Xd [⟨old, old, []⟩, ⟨new, new, []⟩] [(pX, 1)] [⟨[], pN, some 1⟩, ⟨pN, pX, some 1⟩] op).crash picks).readL pX = new) := by
  have hk := pickN_lt picks 0 (m := 3) (by decide)
  have hN : (Xd [⟨old, old, []⟩, ⟨new, new, []⟩] [(pX, 1)] [⟨[], pN, some 1⟩, ⟨pN, pX, some 1⟩] op).crashN picks = (apl (List.take (pickN picks 0 3) [⟨[], pN, some 1⟩, ⟨pN, pX, some 1⟩]) [(pX, 0)], 1) := by
    simp [Xd, Dk.crashN, Dk.dirty, insP, crashD, Dk.chgs, Chg.dir, dN, blt_irr]
  rcases (show pickN picks 0 3 = 0 ∨ pickN picks 0 3 = 1 ∨ pickN picks 0 3 = 2 by omega) with e | e | e
  · rw [e] at hN
    obtain ⟨r1, r2⟩ := read_of (D := (Xd [⟨old, old, []⟩, ⟨new, new, []⟩] [(pX, 1)] [⟨[], pN, some 1⟩, ⟨pN, pX, some 1⟩] op).crash picks) (p := pX) (i := 0) (x := old) rfl nX (by show mget (Dk.crashN _ picks).1 pX = some 0; rw [hN]; rfl) (by show (fget (Dk.crashA _ picks).1 0).now = old; unfold Dk.crashA; rw [hN]; simp [apl, crashF, Xd, fget])
    exact ⟨r1, .inl r2⟩
  · rw [e] at hN
    have e2 : apl (List.take 1 [⟨[], pN, some 1⟩, ⟨pN, pX, some 1⟩]) [(pX, 0)] = [(pN, 1), (pX, 0)] := by simp [apl, Chg.ap, nput, bXN]
    rw [e2] at hN
    obtain ⟨r1, r2⟩ := read_of (D := (Xd [⟨old, old, []⟩, ⟨new, new, []⟩] [(pX, 1)] [⟨[], pN, some 1⟩, ⟨pN, pX, some 1⟩] op).crash picks) (p := pX) (i := 0) (x := old) rfl nX (by show mget (Dk.crashN _ picks).1 pX = some 0; rw [hN]; rfl) (by show (fget (Dk.crashA _ picks).1 0).now = old; unfold Dk.crashA; rw [hN]; simp [crashF, Xd, fget])
    exact ⟨r1, .inl r2⟩
  · rw [e] at hN
    have e2 : apl (List.take 2 [⟨[], pN, some 1⟩, ⟨pN, pX, some 1⟩]) [(pX, 0)] = [(pX, 1)] := by simp [apl, Chg.ap, nput, bXN, mdel, blt_irr]
    rw [e2] at hN
    obtain ⟨r1, r2⟩ := read_of (D := (Xd [⟨old, old, []⟩, ⟨new, new, []⟩] [(pX, 1)] [⟨[], pN, some 1⟩, ⟨pN, pX, some 1⟩] op).crash picks) (p := pX) (i := 1) (x := new) rfl nX (by show mget (Dk.crashN _ picks).1 pX = some 1; rw [hN]; rfl) (by show (fget (Dk.crashA _ picks).1 1).now = new; unfold Dk.crashA; rw [hN]; simp [crashF, Xd, fget])
    exact ⟨r1, .inr r2⟩
theorem crash_5 (old new : List UInt8) (op lf : Nat) (picks : List Int) : ((Dk.crash ⟨1048576, 65536, [⟨old, old, []⟩, ⟨new, new, []⟩], [(pX, 1)], [(pX, 1)], [], op, lf, false⟩ picks)).readE pX = 0 ∧ (Dk.crash ⟨1048576, 65536, [⟨old, old, []⟩, ⟨new, new, []⟩], [(pX, 1)], [(pX, 1)], [], op, lf, false⟩ picks).readL pX = new := by
  refine read_of (i := 1) rfl nX ?_ ?_
  · show mget (Dk.crashN _ picks).1 pX = some 1; simp [Dk.crashN, Dk.dirty, mget]
  · show (fget (Dk.crashA _ picks).1 1).now = new; unfold Dk.crashA; simp [Dk.crashN, Dk.dirty, crashF, fget]
theorem readE_dead {fs : List Fdt} {nw : Nms} {lg : List Chg} {op : Nat} (p : Pth) : (Xd fs nw lg op).readE p = 11 := by simp [Xd, Dk.readE]
theorem pub_all {old new : List UInt8} {n : Nat} (picks : List Int) (h : old.length ≤ 3000) (h2 : new.length ≤ 3000) (h1 : 1 ≤ n) (h5 : n ≤ 5) :
    ((pub9 old new n).1 = 11 ↔ n ≤ 4) ∧ (n ≤ 4 → (pub9 old new n).2.readE pX = 11) ∧ ((pub9 old new n).2.crash picks).readE pX = 0 ∧ (5 ≤ n → ((pub9 old new n).2.crash picks).readL pX = new) ∧ (n ≤ 3 → ((pub9 old new n).2.crash picks).readL pX = old) ∧ (((pub9 old new n).2.crash picks).readL pX = old ∨ ((pub9 old new n).2.crash picks).readL pX = new) := by
  rcases (show n = 1 ∨ n = 2 ∨ n = 3 ∨ n = 4 ∨ n = 5 by omega) with rfl | rfl | rfl | rfl | rfl
  · rw [pub9_1 h]; obtain ⟨r1, r2⟩ := crash_1 old 3 picks
    exact ⟨by simp, fun _ => readE_dead _, r1, by simp, fun _ => r2, .inl r2⟩
  · rw [pub9_2 h h2]; obtain ⟨r1, r2⟩ := crash_2 old ⟨new, [], [⟨false, new⟩]⟩ 4 picks
    exact ⟨by simp, fun _ => readE_dead _, r1, by simp, fun _ => r2, .inl r2⟩
  · rw [pub9_3 h h2]; obtain ⟨r1, r2⟩ := crash_2 old ⟨new, new, []⟩ 5 picks
    exact ⟨by simp, fun _ => readE_dead _, r1, by simp, fun _ => r2, .inl r2⟩
  · rw [pub9_4 h h2]; obtain ⟨r1, r2⟩ := crash_4 old new 6 picks
    exact ⟨by simp, fun _ => readE_dead _, r1, by simp, by simp, r2⟩
  · rw [pub9_ h h2 (by omega)]; obtain ⟨r1, r2⟩ := crash_5 old new 7 (5 - 4) picks
    exact ⟨by simp, by simp, r1, fun _ => r2, by simp, .inr r2⟩

end Go.Proofs.YtfbfjhppppoilaaDoor.SimU
