/-
  Names: the library's functions on texts, and what a name is.
-/
import Derived.Lib.SplitLaws
import Derived.Test.YtabopjdbgkhacaaDoorShelf
import Derived.Test.YtabopjdbgkhacaaDoorClo
import Derived.Test.YtabopjdbgkhacaaDoorExt
import Derived.Test.YtabopjdbgkhacaaDoorOw
import Derived.Lib.Bytealg
namespace Go.Proofs.YtabopjdbgkhacaaDoor.NamA
open Go.Proofs.YtabopjdbgkhacaaDoor.E Go.RowKit
set_option maxRecDepth 20000
set_option linter.unusedVariables false
set_option linter.unusedSimpArgs false
set_option linter.unusedSectionVars false

/-! ### contracts of the library's, as this engine's -/
theorem Ct.still {P : Program} {w0 : World} {f : FuncId} {args : Array Value} {H : Heap} {v : Value} (h : ∀ w, At w0 H w → Calls P f args w fun e w' => e = .returned v ∧ w' = w) : Ct P w0 f args H (fun r H2 => r = v ∧ Nw H H2) :=
  fun w ha => (h w ha).mono (fun e w' ⟨he, hw⟩ => ⟨v, H, he, by rw [hw]; exact ha, rfl, Nw.refl _⟩)
/-- the library's variable holds some number -/
abbrev MX (m : Int) (H : Heap) : Prop := PtF (fun b => b = 0) H ⟨0, 0, none⟩ [.int .i64 m]
theorem MX.cell {m : Int} {H : Heap} {w0 w : World} (h : MX m H) (ha : At w0 H w) : w.cell? ⟨0, 0, none⟩ = some (.int .i64 m) := by
  have := h.pt.cells 0 (.int .i64 m) rfl
  rw [ha.cell]; exact this
theorem contains_ct (s sub : List UInt8) (mx_ : Int) (w0 : World) (H0 : Heap) (mx : MX mx_ H0) (hs : s.length < 4294967281) : Ct Tryd.prog w0 62 #[Str s, Str sub] H0 (fun r H2 => r = .bool (Lib.contains s sub) ∧ Nw H0 H2) :=
  Ct.still (fun w ha => by
    have h : Calls Tryd.prog 62 #[Str s, Str sub] w fun e w' => e = .returned (.bool (Lib.contains s sub)) ∧ w' = w := Any.strings_Contains Tryd.lays144 ⟨s.toArray⟩ ⟨sub.toArray⟩ mx_ w (by simpa [ByteArray.size] using hs) (mx.cell ha)
    exact h)
/-- a text's pieces between its slashes; cur: what the first begins with -/
def sp (cur : List UInt8) : List UInt8 → List (List UInt8)
  | [] => [cur]
  | c :: l => if c = 47 then cur :: sp [] l else sp (cur ++ [c]) l
theorem sp_split : ∀ (s cur : List UInt8), ∃ p ps, Lib.splitK [47] 0 (s.count 47) s = p :: ps ∧ sp cur s = (cur ++ p) :: ps
  | [], cur => ⟨[], [], rfl, by simp [sp]⟩
  | c :: l, cur => by
    by_cases h : c = 47
    · subst h
      obtain ⟨p, ps, h1, h2⟩ := sp_split l []
      refine ⟨[], p :: ps, ?_, by rw [sp, if_pos rfl, h2]; simp⟩
      have hi : Lib.index (47 :: l) [47] = 0 := by simp [Lib.index]
      rw [List.count_cons_self, Lib.splitK, hi]
      simpa using h1
    · obtain ⟨p, ps, h1, h2⟩ := sp_split l (cur ++ [c])
      refine ⟨c :: p, ps, ?_, by rw [sp, if_neg h, h2]; simp⟩
      have hc : (c :: l).count 47 = l.count 47 := by rw [List.count_cons]; simp [h]
      rw [hc]
      have hq : ((47 : UInt8) == c) = false := by simpa using fun e : (47 : UInt8) = c => h e.symm
      have hpre : ([47] : List UInt8).isPrefixOf (c :: l) = false := by rw [List.isPrefixOf, hq]; rfl
      cases hk : l.count 47 with
      | zero => rw [hk, Lib.splitK] at h1; obtain ⟨rfl, rfl⟩ := List.cons.inj h1; rfl
      | succ k =>
        rw [hk, Lib.splitK] at h1
        rw [Lib.splitK, Lib.index, hpre]
        by_cases hm : Lib.index l [47] = -1
        · simp [hm] at h1 ⊢; exact h1
        · obtain ⟨j, hj⟩ : ∃ j : Nat, Lib.index l [47] = j := by
            have := Lib.index_ge l [47]
            exact ⟨(Lib.index l [47]).toNat, by omega⟩
          have hj1 : ¬ ((j : Int) = -1) := by omega
          have hj2 : ¬ ((j : Int) + 1 = -1) := by omega
          have hj3 : ((j : Int) + 1).toNat = j + 1 := by omega
          simp [hj, hj1] at h1
          simp [hj, hj1, hj2, hj3, h1]
theorem split_sp (s : List UInt8) : Lib.splitK [47] 0 (s.count 47) s = sp [] s := by
  obtain ⟨p, ps, h1, h2⟩ := sp_split s []
  rw [h1, h2]; simp
theorem fS_flat : ∀ l : List ByteArray, l.map Value.string = (l.map (·.data.toList)).flatMap fS
  | [] => rfl
  | x :: l => by
    have e : Value.string x = Str x.data.toList := by cases x; simp [Str]
    simp [fS_flat l, e]
set_option maxRecDepth 100000 in
theorem inf_str : (Tryd.prog.info? 9).map (fun i => (i.zero, i.size, i.bytes)) = some (some (.string ByteArray.empty), 1, 16) := by kernel_rfl
theorem split_ct (s : List UInt8) (mx_ : Int) (w0 : World) (H0 : Heap) (mx : MX mx_ H0) (hs : s.length < 4294967281) : Ct Tryd.prog w0 39 #[Str s, Str [47]] H0 (fun r H2 => ∃ vr : Value, ∃ kr : Nat, r = vr ∧ (Ow kr 9 H2 fS 1 vr (sp [] s)) ∧ (Nx 0 H0.size kr) ∧ Nw H0 H2) := by
  intro w ha
  have h : Calls Tryd.prog 39 #[Str s, Str [47]] w fun e w' => e = .returned (.slice (some ⟨w.heap.size, 0, none⟩) (Lib.countB ⟨s.toArray⟩ ⟨#[47]⟩ + 1) (Lib.countB ⟨s.toArray⟩ ⟨#[47]⟩ + 1)) ∧ w' = w.alloc (.cells ((Lib.splitB ⟨#[47]⟩ 0 (Lib.countB ⟨s.toArray⟩ ⟨#[47]⟩) ⟨s.toArray⟩).map Value.string).toArray 9) := Any.strings_Split Tryd.lays146 inf_str ⟨s.toArray⟩ ⟨#[47]⟩ mx_ w (by simpa [ByteArray.size] using hs) (mx.cell ha) (by decide)
  refine h.mono ?_
  rintro e w' ⟨rfl, rfl⟩
  have hcb : Lib.countB ⟨s.toArray⟩ ⟨#[47]⟩ = s.count 47 := by show Lib.count s [47] = _; exact Lib.count_one 47 s
  have hsp : (Lib.splitB ⟨#[47]⟩ 0 (Lib.countB ⟨s.toArray⟩ ⟨#[47]⟩) ⟨s.toArray⟩).map (·.data.toList) = sp [] s := by
    rw [Lib.splitB_data, hcb]; exact split_sp s
  have hlen : (sp [] s).length = Lib.countB ⟨s.toArray⟩ ⟨#[47]⟩ + 1 := by
    rw [← hsp, List.length_map]; exact Lib.splitB_all ⟨#[47]⟩ (by decide) 0 _ ⟨s.toArray⟩ rfl
  have hh := ha.heap
  have hle : s.count 47 ≤ s.length := List.count_le_length
  refine ⟨_, _, rfl, ha.alloc _, _, H0.size + 1, rfl, ?_, by unfold Nx; omega, Nw.pu _ _⟩
  refine ⟨⟨fS_len, fS_one, .inr ⟨w.heap.size, Lib.countB ⟨s.toArray⟩ ⟨#[47]⟩ + 1, ((Lib.splitB ⟨#[47]⟩ 0 (Lib.countB ⟨s.toArray⟩ ⟨#[47]⟩) ⟨s.toArray⟩).map Value.string).toArray, by rw [hlen], by rw [hh], .of (by rw [hh]; simp), by rw [hlen]; exact Nat.le_refl _, by rw [hcb]; unfold maxLen; omega, ?_, ?_⟩⟩, by simp⟩
  · rw [List.size_toArray, List.length_map, Nat.mul_one]; have := congrArg List.length hsp; rw [List.length_map] at this; omega
  · have : (sp [] s).length * 1 = ((Lib.splitB ⟨#[47]⟩ 0 (Lib.countB ⟨s.toArray⟩ ⟨#[47]⟩) ⟨s.toArray⟩).map Value.string).length := by
      rw [List.length_map, Nat.mul_one, ← hsp, List.length_map]
    show (List.map Value.string _).take _ = _
    rw [this, List.take_length, fS_flat, hsp]

end Go.Proofs.YtabopjdbgkhacaaDoor.NamA
