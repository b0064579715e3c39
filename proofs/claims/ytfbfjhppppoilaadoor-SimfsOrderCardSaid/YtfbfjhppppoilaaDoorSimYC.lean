/-
  The disk: of changes that were not synced a front stays (plain data).
-/
import Derived.Test.YtfbfjhppppoilaaDoorSimY
namespace Go.Proofs.YtfbfjhppppoilaaDoor.SimYC
open Go.Proofs.YtfbfjhppppoilaaDoor.E Go.RowKit Go.Proofs.YtfbfjhppppoilaaDoor.SimA Go.Proofs.YtfbfjhppppoilaaDoor.SimB Go.Proofs.YtfbfjhppppoilaaDoor.SimC Go.Proofs.YtfbfjhppppoilaaDoor.SimD Go.Proofs.YtfbfjhppppoilaaDoor.SimE Go.Proofs.YtfbfjhppppoilaaDoor.SimF Go.Proofs.YtfbfjhppppoilaaDoor.SimG Go.Proofs.YtfbfjhppppoilaaDoor.SimH Go.Proofs.YtfbfjhppppoilaaDoor.SimI Go.Proofs.YtfbfjhppppoilaaDoor.SimJ Go.Proofs.YtfbfjhppppoilaaDoor.SimK Go.Proofs.YtfbfjhppppoilaaDoor.SimL Go.Proofs.YtfbfjhppppoilaaDoor.SimM Go.Proofs.YtfbfjhppppoilaaDoor.SimN Go.Proofs.YtfbfjhppppoilaaDoor.SimP Go.Proofs.YtfbfjhppppoilaaDoor.SimQ Go.Proofs.YtfbfjhppppoilaaDoor.SimR Go.Proofs.YtfbfjhppppoilaaDoor.SimS Go.Proofs.YtfbfjhppppoilaaDoor.SimU Go.Proofs.YtfbfjhppppoilaaDoor.SimY
set_option maxRecDepth 20000
set_option linter.unusedVariables false
set_option linter.unusedSimpArgs false
set_option linter.unusedSectionVars false

def ordP (i : Nat) : Pth := [100, 47, UInt8.ofNat (97 + i)]
def ordD : Nat → Dk
  | 0 => Dk.empty 65536 1024
  | i + 1 => (((ordD i).lay (ordP i) ⟨false, [UInt8.ofNat i]⟩).2.sync (ordP i)).2
theorem ordD_bs : ∀ i, Bs (6 * i) (ordD i)
  | 0 => Bs.empty _ _
  | i + 1 => by
    have h := (((ordD_bs i).lay (ordP i) ⟨false, [UInt8.ofNat i]⟩).sync (ordP i))
    exact h.mono (by simp only [List.length_cons, List.length_nil]; omega)
theorem crash_one {D : Dk} {d : Pth} {n : Nat} {pick : Int} (hd : D.dirty = [d]) (hc : D.chgs d = D.log) (hl : D.log.length = n) (h0 : n ≠ 0) (hw : ∀ i, (fget D.fs i).w = []) :
    D.crashN [pick] = (apl (D.log.take (wiN pick (n + 1))) D.stays, 1) ∧ D.crashA [pick] = (D.fs, 1) := by
  have h1 : D.crashN [pick] = (apl (D.log.take (wiN pick (n + 1))) D.stays, 1) := by
    unfold Dk.crashN
    rw [hd, List.foldl_cons, List.foldl_nil]
    unfold crashD
    rw [hc, if_neg (fun e => h0 (by rw [← hl, e]; rfl)), hl]
    simp [pickN, wiN]
  refine ⟨h1, ?_⟩
  unfold Dk.crashA
  rw [h1]
  have key : ∀ (L : Nms) (s : List Fdt × Nat), s.1 = D.fs → L.foldl (crashF [pick]) s = s := by
    intro L
    induction L with
    | nil => intro s _; rfl
    | cons x L ih =>
      intro s hs
      rw [List.foldl_cons]
      have : crashF [pick] s x = s := by unfold crashF; simp only; rw [if_pos (by rw [hs]; exact hw _)]
      rw [this]; exact ih s hs
  exact key _ _ rfl
def ordOk (n : Nat) : Bool := decide ((ordD n).dirty = [[100]]) && decide ((ordD n).chgs [100] = (ordD n).log) && decide ((ordD n).log.length = n) && (ordD n).fs.all (fun f => f.w.isEmpty) && decide ((ordD n).stays = [])
def ordCk (n k : Nat) : Bool :=
  let l := apl ((ordD n).log.take k) []
  decide ((l.filter (fun x => dirP x.1 = [100])).map (·.1) = (List.range k).map ordP) && (List.range k).all (fun i => match mget l (ordP i) with | some j => decide ((fget (ordD n).fs j).now = [UInt8.ofNat i]) && nameB (ordP i) | none => false)
theorem ord_ok : ∀ n : Fin 10, n.val ≠ 0 → ordOk n.val = true := by decide +kernel
theorem ord_ck : ∀ n : Fin 10, ∀ k : Fin 10, n.val ≠ 0 → k.val ≤ n.val → ordCk n.val k.val = true := by decide +kernel
theorem ord_all {n : Nat} (pick : Int) (h1 : 1 ≤ n) (h9 : n ≤ 9) :
    ((ordD n).crashA [pick]).2 = 1 ∧ ((ordD n).crash [pick]).listE [100] = 0 ∧ ((ordD n).crash [pick]).listL [100] = (List.range (wiN pick (n + 1))).map ordP ∧ ∀ i, i < wiN pick (n + 1) → ((ordD n).crash [pick]).readE (ordP i) = 0 ∧ ((ordD n).crash [pick]).readL (ordP i) = [UInt8.ofNat i] := by
  have ho := ord_ok ⟨n, by omega⟩ (by simp only; omega)
  have hk := wiN_lt (a := pick) (show 0 < n + 1 by omega)
  have hc := ord_ck ⟨n, by omega⟩ ⟨wiN pick (n + 1), by omega⟩ (by simp only; omega) (by simp only; omega)
  simp only [ordOk, Bool.and_eq_true, decide_eq_true_eq, List.all_eq_true] at ho
  obtain ⟨⟨⟨⟨o1, o2⟩, o3⟩, o4⟩, o5⟩ := ho
  have hw : ∀ i, (fget (ordD n).fs i).w = [] := fun i => by
    by_cases hi : i < (ordD n).fs.length
    · have := o4 _ (List.getElem_mem hi)
      unfold fget
      rw [List.getD_eq_getElem?_getD, List.getElem?_eq_getElem hi]; simpa using this
    · unfold fget
      rw [List.getD_eq_getElem?_getD, List.getElem?_eq_none (by omega)]; rfl
  obtain ⟨c1, c2⟩ := crash_one (pick := pick) o1 o2 o3 (by omega) hw
  rw [o5] at c1
  simp only [ordCk, Bool.and_eq_true, decide_eq_true_eq, List.all_eq_true, List.mem_range] at hc
  obtain ⟨k1, k2⟩ := hc
  have hnow : ((ordD n).crash [pick]).now = apl ((ordD n).log.take (wiN pick (n + 1))) [] := by show ((ordD n).crashN [pick]).1 = _; rw [c1]
  have hfs : ((ordD n).crash [pick]).fs = (ordD n).fs := by show ((ordD n).crashA [pick]).1 = _; rw [c2]
  have hE : ((ordD n).crash [pick]).listE [100] = 0 := by unfold Dk.listE; rw [if_neg (by simp [Dk.crash])]; decide
  refine ⟨by rw [c2], hE, ?_, fun i hi => ?_⟩
  · unfold Dk.listL; rw [if_pos hE, hnow]; exact k1
  · have h := k2 i hi
    cases hm : mget (apl ((ordD n).log.take (wiN pick (n + 1))) []) (ordP i) with
    | none => rw [hm] at h; cases h
    | some j =>
      rw [hm] at h
      simp only [Bool.and_eq_true, decide_eq_true_eq] at h
      exact read_of rfl h.2 (by rw [hnow]; exact hm) (by rw [hfs]; exact h.1)

end Go.Proofs.YtfbfjhppppoilaaDoor.SimYC
