/-
  The disk: what single steps of a disk that goes come to: plain data.
-/
import Derived.Test.YtfbfjhppppoilaaDoorSimR
namespace Go.Proofs.YtfbfjhppppoilaaDoor.SimS
open Go.Proofs.YtfbfjhppppoilaaDoor.E Go.RowKit Go.Proofs.YtfbfjhppppoilaaDoor.SimA Go.Proofs.YtfbfjhppppoilaaDoor.SimB Go.Proofs.YtfbfjhppppoilaaDoor.SimC Go.Proofs.YtfbfjhppppoilaaDoor.SimD Go.Proofs.YtfbfjhppppoilaaDoor.SimE Go.Proofs.YtfbfjhppppoilaaDoor.SimF Go.Proofs.YtfbfjhppppoilaaDoor.SimG Go.Proofs.YtfbfjhppppoilaaDoor.SimH Go.Proofs.YtfbfjhppppoilaaDoor.SimI Go.Proofs.YtfbfjhppppoilaaDoor.SimJ Go.Proofs.YtfbfjhppppoilaaDoor.SimK Go.Proofs.YtfbfjhppppoilaaDoor.SimL Go.Proofs.YtfbfjhppppoilaaDoor.SimM Go.Proofs.YtfbfjhppppoilaaDoor.SimN Go.Proofs.YtfbfjhppppoilaaDoor.SimP Go.Proofs.YtfbfjhppppoilaaDoor.SimQ Go.Proofs.YtfbfjhppppoilaaDoor.SimR
set_option maxRecDepth 20000
set_option linter.unusedVariables false
set_option linter.unusedSimpArgs false
set_option linter.unusedSectionVars false

theorem lay_a {c m : Nat} {fs : List Fdt} {nw st : Nms} {lg : List Chg} {op : Nat} {p : Pth} {w : Wr} (hn : nameB p = true) (h1 : (w.on (Dk.wasL ⟨c, m, fs, nw, st, lg, op + 1, 0, false⟩ p) w.d.length).length ≤ m) (h2 : usedL fs nw + (w.on (Dk.wasL ⟨c, m, fs, nw, st, lg, op + 1, 0, false⟩ p) w.d.length).length ≤ c + (Dk.wasL ⟨c, m, fs, nw, st, lg, op + 1, 0, false⟩ p).length) :
    Dk.lay ⟨c, m, fs, nw, st, lg, op, 0, false⟩ p w = (0, Dk.write ⟨c, m, fs, nw, st, lg, op + 1, 0, false⟩ p w) := by
  have hb : Dk.begin ⟨c, m, fs, nw, st, lg, op, 0, false⟩ = (true, ⟨c, m, fs, nw, st, lg, op + 1, 0, false⟩) := by simp [Dk.begin]
  have he := layE_0 (D := ⟨c, m, fs, nw, st, lg, op + 1, 0, false⟩) hn (Nat.not_lt.2 h1) (Nat.not_lt.2 h2)
  rw [lay_go (by rw [hb]), hb]
  simp only [he, if_true]
theorem on_f (b : List UInt8) (d : List UInt8) : (⟨false, d⟩ : Wr).on b d.length = d := by simp [Wr.on]
theorem on_t (b : List UInt8) (d : List UInt8) : (⟨true, d⟩ : Wr).on b d.length = b ++ d := by simp [Wr.on]
def tornD (was : List UInt8) (w : Wr) : Dk := ((((((Dk.empty 1048576 65536).lay [120] ⟨false, was⟩).2.sync [120]).2.syncDir []).2).lay [120] w).2
def tornB (was : List UInt8) (w : Wr) (pick : Int) : List UInt8 := wayW [w] was (wiN pick (1 + w.ways))
theorem torn_3 {was : List UInt8} (h : was.length ≤ 500) : ((((Dk.empty 1048576 65536).lay [120] ⟨false, was⟩).2.sync [120]).2.syncDir []).2 = ⟨1048576, 65536, [⟨was, was, []⟩], [([120], 0)], [([120], 0)], [], 3, 0, false⟩ := by
  have e1 : (Dk.empty 1048576 65536).lay [120] ⟨false, was⟩ = (0, ⟨1048576, 65536, [⟨was, [], [⟨false, was⟩]⟩], [([120], 0)], [], [⟨[], [120], some 0⟩], 1, 0, false⟩) := by
    unfold Dk.empty
    rw [lay_a (by decide) (by simp only [on_f]; omega) (by simp only [on_f]; simp [usedL, Dk.wasL, mget]; omega)]
    simp [Dk.write, Dk.make, mget, nput, Dk.change, Chg.ap, Dk.putF, fget, on_f]
  rw [e1]
  have e2 : Dk.sync ⟨1048576, 65536, [⟨was, [], [⟨false, was⟩]⟩], [([120], 0)], [], [⟨[], [120], some 0⟩], 1, 0, false⟩ [120] = (0, ⟨1048576, 65536, [⟨was, was, []⟩], [([120], 0)], [], [⟨[], [120], some 0⟩], 2, 0, false⟩) := by
    simp [Dk.sync, Dk.begin, Dk.look, show nameB [120] = true by decide, mget, Dk.syncF, Dk.putF, fget]
  rw [e2]
  simp [Dk.syncDir, Dk.begin, dirE, Dk.stayD, merge, show dirP [120] = [] by decide, nput, Chg.dir]
theorem torn_4 {was : List UInt8} {w : Wr} (h : was.length ≤ 500) (h2 : w.d.length ≤ 500) : tornD was w = ⟨1048576, 65536, [⟨w.on was w.d.length, was, [w]⟩], [([120], 0)], [([120], 0)], [], 4, 0, false⟩ := by
  have h3 := on_le w was w.d.length
  unfold tornD
  rw [torn_3 h, lay_a (by decide) (by simp only [Dk.wasL, mget, if_true, fget, List.getD_cons_zero]; omega) (by simp only [Dk.wasL, mget, if_true, fget, List.getD_cons_zero, usedL, List.map_cons, List.map_nil, List.sum_cons, List.sum_nil]; omega)]
  simp [Dk.write, Dk.make, mget, Dk.putF, fget]
theorem torn_pick (w : Wr) (pick : Int) : pickN [pick] 0 (waysF [w]) = wiN pick (1 + w.ways) := by
  simp [pickN, wiN, waysF]
theorem torn_all {was : List UInt8} {w : Wr} {pick : Int} (h : was.length ≤ 500) (h2 : w.d.length ≤ 500) :
    ((tornD was w).crashA [pick]).2 = 1 ∧ ((tornD was w).crash [pick]).readE [120] = 0 ∧ ((tornD was w).crash [pick]).readL [120] = tornB was w pick ∧ (((tornD was w).crash [pick]).crashA [pick]).2 = 0 := by
  rw [torn_4 h h2]
  have e : (Dk.crash ⟨1048576, 65536, [⟨w.on was w.d.length, was, [w]⟩], [([120], 0)], [([120], 0)], [], 4, 0, false⟩ [pick]) = ⟨1048576, 65536, [⟨tornB was w pick, tornB was w pick, []⟩], [([120], 0)], [([120], 0)], [], 4, 0, false⟩ := by
    simp [Dk.crash, Dk.crashA, Dk.crashN, Dk.dirty, crashF, fget, torn_pick, tornB]
  refine ⟨by simp [Dk.crashA, Dk.crashN, Dk.dirty, crashF, fget], ?_, ?_, ?_⟩
  · rw [e]; simp [Dk.readE, Dk.look, show nameB [120] = true by decide, mget]
  · rw [e]; simp [Dk.readL, Dk.readE, Dk.look, show nameB [120] = true by decide, mget, Dk.wasL, fget]
  · rw [e]; simp [Dk.crashA, Dk.crashN, Dk.dirty, crashF, fget]

end Go.Proofs.YtfbfjhppppoilaaDoor.SimS
