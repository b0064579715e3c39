/-
  The keys of a map, collected into a row of one's own, and sorted.
-/
import Derived.Test.YtepdhokpfecdnaaGraK
namespace Go.Proofs.Ytepdhokpfecdnaa.GraL
open Go.Proofs.Ytepdhokpfecdnaa.E Go.RowKit Go.Proofs.Ytepdhokpfecdnaa.GraA Go.Proofs.Ytepdhokpfecdnaa.GraB Go.Proofs.Ytepdhokpfecdnaa.GraC Go.Proofs.Ytepdhokpfecdnaa.GraD Go.Proofs.Ytepdhokpfecdnaa.GraE Go.Proofs.Ytepdhokpfecdnaa.GraF Go.Proofs.Ytepdhokpfecdnaa.GraG Go.Proofs.Ytepdhokpfecdnaa.GraH Go.Proofs.Ytepdhokpfecdnaa.GraI Go.Proofs.Ytepdhokpfecdnaa.GraJ Go.Proofs.Ytepdhokpfecdnaa.GraK
set_option maxRecDepth 20000
set_option linter.unusedVariables false
set_option linter.unusedSimpArgs false
set_option linter.unusedSectionVars false

theorem Fr.start {n : Nat} {args : List Value} (hk : args.length ≤ n) : Fr n (argL args 0) { tmps := args.toArray ++ Array.replicate (n - args.toArray.size) undef, defers := [] } := by
  refine ⟨rfl, ?_, ?_⟩
  · simp; omega
  · intro t v e
    obtain ⟨_, h2⟩ := argL_get args 0 t v e
    simp only [Nat.sub_zero] at h2
    simp only
    have hlt := (List.getElem?_eq_some_iff.1 h2).1
    rw [Array.getElem?_append_left (by simpa using hlt)]
    simpa using h2
theorem LRD.v {P : Program} {w0 : World} {Q : Exit → Act → World → Prop} {n : Nat} {l : FL} {H : Heap} {ops : Array Oper} {rest : List Oper} {o : Oper} {ds : List Deferred} {v : Value} {d : Nat} (hy : Y P w0 n l H o v) (hnd : ∀ c, o.op ≠ .defer c) (hw : Wd ops l o) (hd : o.dst = some d) (hn : Nat.blt d n = true)
    (h : ∀ a w, Fr n ((d, v) :: l) a → At w0 H w → wpListIn (FW none) 0 P ops Q rest { a with defers := ds } w) : ∀ a w, Fr n l a → At w0 H w → wpListIn (FW none) 0 P ops Q (o :: rest) { a with defers := ds } w := by
  intro a w hf ha
  have hp := hf.put hn v
  rw [← hd] at hp
  unfold wpListIn
  rw [if_pos (hw n a hf)]
  refine ⟨fun _ _ => trivial, ?_⟩
  rw [Oper.semAt_eq _ _ _ hnd]
  show Oper.uponIn _ _ _ _ _ _ _ ((execOp a.eval o).run P w)
  rw [hy a w hf ha, Oper.uponIn_value]
  have h2 := h _ w hp ha
  have e : ({ a with defers := ds } : Act).put o.dst v = { (a.put o.dst v) with defers := ds } := by rw [hd]; rfl
  rw [e]; exact h2
theorem append_ct (bx mb : Nat) (mm : List (Ide × Int)) (w0 : World) (H0 : Heap) (hx : Var 72 H0 bx [.map (some mb)]) (hso : Mp H0 vA (Value.int .i64) mb mm) (hmm : mm.length ≤ 5000) :
    Ct Try.prog w0 51 #[.slice none 0 0, .func (.func 42) #[] #[.pointer (some ⟨bx, 0, none⟩)]] H0 (fun r H2 => ∃ s : SV, ∃ k : Nat, ∃ out : List Ide, r = s.v ∧ (Ow k 30 H2 fA 32 s.v out) ∧ (Nx 0 H0.size k) ∧ (out.Nodup ∧ ∀ k, k ∈ out ↔ k ∈ mm.map (·.1)) ∧ Nw H0 H2) := by
  intro w ha
  refine callsIn_wide.1 (callsIn_of_wp_marks (n := 0) Try.func51 rfl trivial ?_)
  have hf0 := Fr.start (n := Try.f51.ntmps) (args := [.slice none 0 0, .func (.func 42) #[] #[.pointer (some ⟨bx, 0, none⟩)]]) (Nat.le_of_ble_eq_true rfl)
  refine wpIn_seq (wpIn_wide.2 ?_)
  refine (CW.region (w0 := w0) (H := H0) (n := Try.f51.ntmps) (l := argL [.slice none 0 0, .func (.func 42) #[] #[.pointer (some ⟨bx, 0, none⟩)]] 0) ?_) _ w hf0 ha
  refine LR.z (Z.boxv1 rfl rfl rfl) (Wd.u rfl) rfl rfl (fun v2 H1 r2 => ?_)
  obtain ⟨rfl, hB, hs1, ob1, hH1⟩ := r2
  have hz1 : H1.size = H0.size + 1 := by rw [hH1]; simp
  have hxl := hx.lt; have hsl := hso.lt
  replace hx := hx.nw hs1; replace hso := hso.nw hs1
  refine LR.v (Y.assign rfl rfl) (Wd.u rfl) rfl rfl ?_
  refine LR.nil (fun a1 w1 hf1 ha1 => ?_)
  show (Code.seq _ _).wpIn Fence.wide 0 _ _ a1 w1
  refine wpIn_seq (wpIn_seq (wpIn_wide.2 ?_))
  refine (CW.region (w0 := w0) (H := H1) ?_) a1 w1 hf1 ha1
  refine LR.v (Y.move rfl rfl) (Wd.u rfl) rfl rfl ?_
  refine LR.nil (fun a2 w2 hf2 ha2 => ?_)
  show (Code.block _ _).wpIn Fence.wide 0 _ _ a2 w2
  refine wpIn_block (wpIn_rangeFunc (fun fn _ => ?_))
  obtain ⟨rc, hrc⟩ : ∃ rc : Loop, rc = { state := .ready, pending := none, fn, tmps := a2.tmps, params := #[7], assign := asOf (rfOf (Try.f51.body.getD .skip)), body := boOf (rfOf (Try.f51.body.getD .skip)), defers := w2.heap.size } := ⟨_, rfl⟩
  have hst : (Instr.enterLoop fn a2.tmps #[7] (asOf (rfOf (Try.f51.body.getD .skip))) (boOf (rfOf (Try.f51.body.getD .skip))) none).run Try.prog w2 = .ok (w2.heap.size + 1, [{ target := .collected w2.heap.size, args := #[] }]) ((w2.alloc (.deferred (some []))).alloc (.loop rc)) := by
    rw [hrc]; exact run_enterLoop_outer fn a2.tmps #[7] _ _
  have ha3 : At w0 ((H1.push (.deferred (some []))).push (.loop rc)) ((w2.alloc (.deferred (some []))).alloc (.loop rc)) := (ha2.alloc _).alloc _
  obtain ⟨w3, hw3⟩ : ∃ w3, w3 = (w2.alloc (.deferred (some []))).alloc (.loop rc) := ⟨_, rfl⟩
  rw [← hw3] at hst ha3
  obtain ⟨H3, hH3⟩ : ∃ H3, H3 = (H1.push (.deferred (some []))).push (.loop rc) := ⟨_, rfl⟩
  rw [← hH3] at ha3
  have hz3 : H3.size = H1.size + 2 := by rw [hH3]; simp
  have hw2 : w2.heap.size = H1.size := by rw [ha2.heap]
  have hs3 : Nw H1 H3 := by rw [hH3]; exact (Nw.pu _ _).tr (Nw.pu _ _)
  replace hx := hx.nw hs3; replace hso := hso.nw hs3; replace hB := hB.nw hs3
  have hD : Dfr H3 H1.size := ⟨by rw [hH3, Array.getElem?_push, if_neg (by simp)]; exact Array.getElem?_push_size⟩
  have hl : Lpr H3 (H1.size + 1) rc := ⟨by
    have h9 := Array.getElem?_push_size (xs := H1.push (.deferred (some []))) (x := Obj.loop rc)
    rw [Array.size_push, ← hH3] at h9
    exact h9⟩
  have hap : ApR rc H0.size := by
    subst hrc
    exact ⟨rfl, rfl, rfl, rfl, rfl, ⟨rfl, hf2.size, fun t v e => (hf2.sub (l' := [(2, .pointer (some ⟨H0.size, 0, none⟩))]) ⟨rfl, trivial⟩).get t v e⟩⟩
  have hyi : ∀ w, (callFunc 42 #[.func (.yield (H1.size + 1)) #[] #[], .pointer (some ⟨bx, 0, none⟩)]).run Try.prog w = .ok (.enter 42 #[.func (.yield (H1.size + 1)) #[] #[], .pointer (some ⟨bx, 0, none⟩)]) w := fun w => enters_of Try.func42 (by kernel_rfl) rfl _ w
  refine ⟨w2.heap.size + 1, [{ target := .collected w2.heap.size, args := #[] }], w3, { target := .fn (.func 42) #[.pointer (some ⟨bx, 0, none⟩)], args := #[.func (.yield (H1.size + 1)) #[] #[]] }, w3, 42, #[.func (.yield (H1.size + 1)) #[] #[], .pointer (some ⟨bx, 0, none⟩)], w3, hst, ?_, fun _ _ => trivial, ?_, fun h => (by cases h), ?_⟩
  · have h6 := hf2.get 6 (.func (.func 42) #[] #[.pointer (some ⟨bx, 0, none⟩)]) rfl
    rw [hw2]
    simp [resolve, rangeCall, Deferred.ofValue, Act.eval, h6]
  · exact hyi _
  refine callsIn_wide.2 ((keys1_ct rc (H1.size + 1) H0.size bx mb H1.size 0 (.slice none 0 0) mm w0 H3 hx hso hD hl hB (Ow.nil fA_len fA_one) hap hmm (Dj.of (by omega)) Dj.z Dj.z (Dj.of (by omega)) (Dj.of (by omega)) Dj.z (Dj.of (by omega)) (Dj.of (by omega)) Dj.z (Dj.of (by omega)) (Dj.of (by omega)) Dj.z _ ha3).mono ?_)
  rintro e w4 ⟨r4, H4, rfl, ha4, vr2, k2, out, rfl, hl4, hB4, ow4, hk4, hout, hm4⟩
  have hD4 : Dfr H4 H1.size := hD.upL hm4 (DL.cons (Dj.of (by omega)) (DL.cons (Dj.of (by omega)) (DL.cons Dj.z DL.nil)))
  have hlw : w4.heap[w2.heap.size + 1]? = some (.loop rc) := by rw [ha4.heap, hw2]; exact hl4.at_
  have hrp : rc.pending = none := hap.pe
  have hend := run_endLoop (P := Try.prog) hlw (by rw [hap.st]; simp)
  rw [hrp] at hend
  refine ⟨none, _, hend, ?_⟩
  have hs5 : Mo (fun c => c = H1.size + 1) H4 (H4.setIfInBounds (H1.size + 1) (.loop { rc with state := .exhausted })) := mo_set _
  have ha5 : At w0 (H4.setIfInBounds (H1.size + 1) (.loop { rc with state := .exhausted })) (w4.putObj (w2.heap.size + 1) (.loop { rc with state := .exhausted })) := by
    unfold World.putObj
    rw [ha4.heap, hw2]
    exact ha4.set
  rw [hrp] at hs5 ha5
  obtain ⟨w5, hw5⟩ : ∃ w5, w5 = w4.putObj (w2.heap.size + 1) (.loop { rc with state := .exhausted, pending := none }) := ⟨_, rfl⟩
  obtain ⟨H5, hH5⟩ : ∃ H5, H5 = H4.setIfInBounds (H1.size + 1) (.loop { rc with state := .exhausted, pending := none }) := ⟨_, rfl⟩
  rw [← hw5] at ha5
  rw [← hH5] at hs5 ha5
  rw [← hw5]
  have hz4 := hm4.size
  have hz5 := hs5.size
  have hs5' := hs5.md1
  have dk : ∀ c, c + 1 ≤ H3.size → Dj k2 (c + 1) := fun c hc q h1 h2 => by unfold Nx at hk4; omega
  replace hB4 := hB4.upL hs5' (DL.cons (Dj.of (by omega)) DL.nil)
  replace ow4 := ow4.upL hs5' (DL.cons (dk _ (by omega)) DL.nil)
  replace hD4 := hD4.upL hs5' (DL.cons (Dj.of (by omega)) DL.nil)
  have hm0 : Mo (Ms []) H0 H5 := by
    have q0 := ((Mo.refl (S := Ms []) H0).trN hs1).trN hs3
    have q1 := q0.trL hm4 (MIL.cons (MI.new (by omega)) (MIL.cons (MI.new (Nat.le_refl _)) (MIL.cons MI.z MIL.nil)))
    exact q1.trL hs5' (MIL.cons (MI.new (by omega)) MIL.nil)
  show (Code.seq _ _).wpIn Fence.wide 0 _ _ _ w5
  refine wpIn_seq (wpIn_region_lit ?_)
  refine LRD.v (w0 := w0) (H := H5) (Y.load1 hB4.pt rfl Try.isAgg28 rfl) (by intro c e; cases e) (Wd.u rfl) rfl rfl ?_ a2 w5 hf2 ha5
  refine LRD.v (w0 := w0) (H := H5) (Y.assign rfl rfl) (by intro c e; cases e) (Wd.u rfl) rfl rfl ?_
  intro a6 w6 hf6 ha6
  show Code.ret.wpIn Fence.wide 0 _ _ _ w6
  refine wpIn_ret ?_
  show LeavesInM Fence.wide 0 _ _ a6.tmps _ ([{ target := .collected w2.heap.size, args := #[] }] ++ a2.defers) .returning w6
  rw [hf2.defers, List.append_nil]
  have hDw : w6.heap[w2.heap.size]? = some (.deferred (some [])) := by rw [ha6.heap, hw2]; exact hD4.at_
  refine ⟨by simp, .inl ⟨_, _, rfl, run_takeDeferred (P := Try.prog) hDw, ?_⟩⟩
  have hs7 : Mo (fun c => c = H1.size) H5 (H5.setIfInBounds H1.size (.deferred none)) := mo_set _
  have ha7 : At w0 (H5.setIfInBounds H1.size (.deferred none)) (w6.putObj w2.heap.size (.deferred none)) := by
    unfold World.putObj
    rw [ha6.heap, hw2]
    exact ha6.set
  have hs7' := hs7.md1
  obtain ⟨s, hs⟩ : ∃ s : SV, vr2 = s.v := ⟨toSV vr2, ow4.sv.symm⟩
  refine ⟨vr2, res1 rfl rfl _ _ hf6 ha7, vr2, _, rfl, ha7, s, k2, out, hs, ?_, ?_, hout, ?_⟩
  · rw [← hs]; exact ow4.upL hs7' (DL.cons (dk _ (by omega)) DL.nil)
  · unfold Nx at hk4 ⊢; omega
  · exact (hm0.trL hs7' (MIL.cons (MI.new (by omega)) MIL.nil)).nil

end Go.Proofs.Ytepdhokpfecdnaa.GraL
