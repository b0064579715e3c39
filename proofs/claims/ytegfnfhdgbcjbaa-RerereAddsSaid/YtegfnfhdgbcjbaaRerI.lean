/-
  slices.Insert of one memory.
-/
import Derived.Test.YtegfnfhdgbcjbaaRerH
namespace Go.Proofs.Ytegfnfhdgbcjbaa.RerI
open Go.Proofs.Ytegfnfhdgbcjbaa.E Go.RowKit Go.Proofs.Ytegfnfhdgbcjbaa.LinM Go.Proofs.Ytegfnfhdgbcjbaa.LinC Go.Proofs.Ytegfnfhdgbcjbaa.LinL Go.Proofs.Ytegfnfhdgbcjbaa.LinN Go.Proofs.Ytegfnfhdgbcjbaa.MerA Go.Proofs.Ytegfnfhdgbcjbaa.MerB Go.Proofs.Ytegfnfhdgbcjbaa.MerC Go.Proofs.Ytegfnfhdgbcjbaa.MerD Go.Proofs.Ytegfnfhdgbcjbaa.MerE Go.Proofs.Ytegfnfhdgbcjbaa.MerF Go.Proofs.Ytegfnfhdgbcjbaa.MerH Go.Proofs.Ytegfnfhdgbcjbaa.MerL Go.Proofs.Ytegfnfhdgbcjbaa.MerM Go.Proofs.Ytegfnfhdgbcjbaa.MerN Go.Proofs.Ytegfnfhdgbcjbaa.SumA Go.Proofs.Ytegfnfhdgbcjbaa.SumB Go.Proofs.Ytegfnfhdgbcjbaa.SumC Go.Proofs.Ytegfnfhdgbcjbaa.SumD Go.Proofs.Ytegfnfhdgbcjbaa.SumE Go.Proofs.Ytegfnfhdgbcjbaa.SumF Go.Proofs.Ytegfnfhdgbcjbaa.SumG Go.Proofs.Ytegfnfhdgbcjbaa.SumK Go.Proofs.Ytegfnfhdgbcjbaa.SumL Go.Proofs.Ytegfnfhdgbcjbaa.SumM Go.Proofs.Ytegfnfhdgbcjbaa.DelA Go.Proofs.Ytegfnfhdgbcjbaa.RerA Go.Proofs.Ytegfnfhdgbcjbaa.RerB Go.Proofs.Ytegfnfhdgbcjbaa.RerF Go.Proofs.Ytegfnfhdgbcjbaa.RerG Go.Proofs.Ytegfnfhdgbcjbaa.RerH
set_option maxRecDepth 20000
set_option linter.unusedVariables false
set_option linter.unusedSimpArgs false
set_option linter.unusedSectionVars false
set_option maxRecDepth 100000 in
theorem inf40 : Inf Try.prog 40 47 33 56 := ⟨Try.underlying40, _, _, rfl, rfl, rfl, rfl, rfl⟩

def Mz : Mm := ⟨Z32, [], ⟨none, 0, 0⟩⟩
theorem ins_end {l : List Mm} {x : Mm} {i : Nat} (h : i = l.length) : l ++ [x] = l.take i ++ x :: l.drop i := by subst h; simp
theorem ins_grow {l : List Mm} {x : Mm} {i n : Nat} (hi : i < l.length) (hn : n = l.length + 1 - i) :
    ((l.take i ++ List.replicate n Mz).take i ++ [x] ++ (l.take i ++ List.replicate n Mz).drop (i + 1)).take (i + 1) ++ l.drop i ++ ((l.take i ++ List.replicate n Mz).take i ++ [x] ++ (l.take i ++ List.replicate n Mz).drop (i + 1)).drop (i + 1 + (l.drop i).length) = l.take i ++ x :: l.drop i := by
  have h1 : (l.take i).length = i := by rw [List.length_take]; omega
  have h2 : (l.take i ++ [x]).length = i + 1 := by simp [h1]
  have e1 : (l.take i ++ List.replicate n Mz).take i = l.take i := List.take_left' h1
  rw [e1, List.take_left' h2]
  have e2 : (l.take i ++ [x] ++ (l.take i ++ List.replicate n Mz).drop (i + 1)).drop (i + 1 + (l.drop i).length) = [] := List.drop_eq_nil_of_le (by simp [h1]; omega)
  rw [e2]; simp
theorem ins_up {l : List Mm} {x : Mm} {i : Nat} (hi : i < l.length) : (l.take (i + 1) ++ l.drop i).take i ++ [x] ++ (l.take (i + 1) ++ l.drop i).drop (i + 1) = l.take i ++ x :: l.drop i := by
  have h1 : (l.take (i + 1)).length = i + 1 := by rw [List.length_take]; omega
  rw [List.drop_left' h1, List.take_append_of_le_length (by omega), List.take_take, Nat.min_eq_left (by omega)]; simp
theorem rd_take {F : Nat → Prop} {H : Heap} {l : List Mm} {g cap i : Nat} (h : Rd F H fM 33 (.slice (some ⟨g, 0, none⟩) l.length cap) l) : Rd F H fM 33 (.slice (some ⟨g, 0, none⟩) (l.take i).length cap) (l.take i) := by
  obtain ⟨a, c, e, h1, h2, h3⟩ := h.ex
  cases e
  refine ⟨_, _, rfl, by rw [List.length_take]; omega, h2, fun hne => ?_⟩
  obtain ⟨ad, e1, e2, e3, e4, e5⟩ := h3 (by intro e; subst e; simp at hne)
  exact ⟨ad, e1, e2, e3, e4, fun j x hx => e5 j x (by rw [List.getElem?_take] at hx; split at hx; exact hx; cases hx)⟩
theorem rd_drop {F : Nat → Prop} {H : Heap} {l : List Mm} {g cap i : Nat} (h : Rd F H fM 33 (.slice (some ⟨g, 0, none⟩) l.length cap) l) : Rd F H fM 33 (.slice (some ⟨g, i * 33, none⟩) (l.drop i).length (cap - i)) (l.drop i) := by
  obtain ⟨a, c, e, h1, h2, h3⟩ := h.ex
  cases e
  refine ⟨_, _, rfl, by rw [List.length_drop]; omega, by omega, fun hne => ?_⟩
  obtain ⟨ad, e1, e2, e3, e4, e5⟩ := h3 (by intro e; subst e; simp at hne)
  cases e1
  refine ⟨_, rfl, rfl, e3, e4, fun j x hx => ?_⟩
  rw [List.getElem?_drop] at hx
  have := e5 (i + j) x hx
  simpa [Nat.add_mul] using this
section
variable {P : Program} {w0 : World} {n : Nat} {l : FL} {H : Heap} {o : Oper}
/-- rows of unlike blocks share nothing -/
theorem Y.overlaps {f : FuncId} {fn : Func} {args : List Operand} {ats : Array TypeId} {tS tR e : TypeId} {g gx lx cx off lb cb sz : Nat} {cs : List Value} {csx : Array Value} (hx : H[gx]? = some (.cells csx e (0, 0))) (hv : Var e H g cs) (hne : gx ≠ g) (hcs : cs.length ≠ 0)
    (ho : o.op = .call { callee := .value (.func f), args := args.toArray, argTypes := ats }) (hf : P.funcs[f]? = some fn) (hname : (fn.name == "runtime.NumGoroutine") = false) (hb : fn.body.isNone = true) (hn : Extern.findNext fn = none) (he : Extern.find fn = some (Extern.SlicesOverlaps.overlaps #[tS, tS] #[tR]))
    (ht : P.underlying tS = some (.slice e)) (hs : ∀ w, (sizeOf e).run P w = .ok sz w) (ha : opvs l args = some [.slice (some ⟨gx, 0, none⟩) lx cx, .slice (some ⟨g, off, none⟩) lb cb]) : Y P w0 n l H o (.bool false) := by
  refine Y.ext ho hf hname hb hn he ha (fun w hw => ?_)
  obtain ⟨fz, h1, _⟩ := hv.row
  refine Lib.run_overlaps_apart w tS tR e ht sz hs ⟨gx, 0, none⟩ ⟨g, off, none⟩ lx cx lb cb hne e e csx.size cs.toArray.size ?_ ?_ (by simpa using hcs) ?_ ?_
  · simp [World.shape?, hw.heap, hx]
  · simp [World.shape?, hw.heap, h1]
  · simp [World.frozen?, hw.heap, hx]
  · simp [World.frozen?, hw.heap, hx]
end

section
variable {α : Type} {P : Program} {w0 : World} {n : Nat} {l : FL} {H : Heap} {o : Oper} {e : TypeId} {f : α → List Value} {sz : Nat}
theorem Z.lit0 {t : TypeId} {k bytes : Nat} {parts : List (Nat × Operand)} (vs : List Value) (zs : List α) (ho : o.op = .buildSlice t k parts.toArray) (hinf : Inf P t e sz bytes) (hp : opvs l (parts.map (·.2)) = some vs) (hi : parts.map (·.1) = List.range k) (hk : vs.length = k) (hks : k * sz ≤ 16777216) (hk16 : k ≤ 16777216)
    (hc : ∀ x, (f x).length = sz) (h1 : ∀ x, ∀ u ∈ f x, u.oneCell' = true) (hz : vs.map (fun v => v.cells.toList) = zs.map f) :
    Z P w0 n l H o (fun r H' => Own (fun b => b = H.size) e H' f sz r zs ∧ Nw H H' ∧ ∃ c : Array Value, H' = H.push (.cells c e (0, 0))) := by
  obtain ⟨ht, i, z, hi', hz', hsz, hby, hzs⟩ := hinf
  subst hsz
  intro a w hf ha
  have hev := hf.evals hp
  have hzl : zs.length = k := by have := congrArg List.length hz; simpa [hk] using this.symm
  have hparts : (parts.toArray.map (fun (x : Nat × Operand) => (x.1, a.eval x.2))).toList = (vs.zipIdx 0).map (fun p => (p.2, p.1)) := by
    have e1 : parts.map (fun (x : Nat × Operand) => (x.1, a.eval x.2)) = (List.range k).zip vs := by
      rw [← hi, ← hev, List.map_map]
      clear hi hev hp ho
      induction parts with
      | nil => rfl
      | cons p ps ih => simp [ih]
    rw [List.map_toArray]
    simp only
    rw [e1, List.zipIdx_eq_zip_range', map_zip_swap_range hk]
  have hcells : ∀ v ∈ vs, v.cells.size = i.size := by
    intro v hv
    have : v.cells.toList ∈ zs.map f := by rw [← hz]; exact List.mem_map.2 ⟨v, hv, rfl⟩
    obtain ⟨x, _, hx⟩ := List.mem_map.1 this
    have := hc x
    rw [hx] at this
    simpa using this
  have hfl : vs.flatMap (fun v => v.cells.toList) = zs.flatMap f := by rw [List.flatMap_def, List.flatMap_def, hz]
  have hbase : ∀ (zc : Array Value), ((Array.range (k * i.size)).map (zc[· % zc.size]!)).toList = [] ++ ((Array.range (k * i.size)).map (zc[· % zc.size]!)).toList := fun _ => rfl
  have hrun : ∃ cs : Array Value, cs.toList = zs.flatMap f ∧ (Instr.buildSlice t k (parts.toArray.map (fun (x : Nat × Operand) => (x.1, a.eval x.2)))).run P w = .ok (.slice (some ⟨w.heap.size, 0, none⟩) k k) (w.alloc (.cells cs e)) := by
    by_cases h0 : k * i.size = 0
    · obtain ⟨r, hr, hrl⟩ := fill_row i.size vs 0 #[] [] [] rfl (by simp) (by simp [hk, h0]) hcells
      refine ⟨r, by rw [hrl, hfl]; rfl, ?_⟩
      simp only [Instr.buildSlice, Sem.run_bind, run_underlying ht, Result.andThen_ok, sizeOf, typeInfo, run_program, hi', Sem.run_pure, hparts]
      have hz0 : ∀ g : Nat → Value, (Array.range 0).map g = #[] := fun g => by simp
      simp [h0, hz0, hr, newRow]
    · obtain ⟨r, hr, hrl⟩ := fill_row i.size vs 0 ((Array.range (k * i.size)).map (z.cells[· % z.cells.size]!)) [] _ (hbase _) (by simp) (by simp [hk]) hcells
      refine ⟨r, by rw [hrl, hfl]; rfl, ?_⟩
      simp only [Instr.buildSlice, Sem.run_bind, run_underlying ht, Result.andThen_ok, sizeOf, typeInfo, run_program, hi', Sem.run_pure, hparts]
      have hlim : ¬ (k * i.size > 2 ^ 24) := by simp only [Nat.reducePow]; omega
      simp [h0, hlim, zeroValue, typeInfo, hi', hz', hr, newRow]
  obtain ⟨cs, hcs, hrun⟩ := hrun
  refine ⟨.slice (some ⟨w.heap.size, 0, none⟩) k k, H.push (.cells cs e), w.alloc (.cells cs e), ?_, ha.alloc (.cells cs e), ⟨hc, h1, .inr ⟨H.size, k, cs, ?_, rfl, .of (by simp), ?_, ?_, ?_, ?_⟩⟩, Nw.pu _ _, _, rfl⟩
  · simp only [execOp, ho, Sem.run_bind, hrun, Result.andThen_ok, Sem.run_pure]
  · rw [hzl, ha.heap]
  · omega
  · unfold maxLen; omega
  · rw [← Array.length_toList, hcs, length_flatMap hc, hzl]
  · rw [← length_flatMap hc, List.take_of_length_le (by rw [← hcs]; exact Nat.le_refl _), hcs]
theorem Z.litz {t : TypeId} {k bytes : Nat} {parts : List (Nat × Operand)} (vs : List Value) (zs : List α) (ho : o.op = .buildSlice t k parts.toArray) (hinf : Inf P t e sz bytes) (hp : opvs l (parts.map (·.2)) = some vs) (hi : parts.map (·.1) = List.range k) (hk : vs.length = k) (hks : k * sz ≤ 16777216) (hk16 : k ≤ 16777216)
    (hc : ∀ x, (f x).length = sz) (h1 : ∀ x, ∀ u ∈ f x, u.oneCell' = true) (hz : vs.map (fun v => v.cells.toList) = zs.map f) :
    Z P w0 n l H o (fun r H' => Ow (H.size + 1) e H' f sz r zs ∧ Nw H H' ∧ ∃ c : Array Value, H' = H.push (.cells c e (0, 0))) :=
  (Z.lit0 vs zs ho hinf hp hi hk hks hk16 hc h1 hz).mono fun r H' ⟨h1, h2, c, h3⟩ => ⟨Ow.new (fun _ e => e) h1 h3, h2, c, h3⟩
end

set_option maxHeartbeats 4000000 in
theorem insert_ct (k kx : Nat) (v vx : Value) (l : List Mm) (x : Mm) (i : Nat) (w0 : World) (H0 : Heap)
    (ow : Ow k 47 H0 fM 33 v l) (ox : Ow kx 47 H0 fM 33 vx [x]) (dj : Dj k kx) (hil : i ≤ l.length) (hzx : ∃ c, H0[kx - 1]? = some (.cells c 47 (0, 0))) (hll : l.length ≤ 1048576) :
    Ct Try.prog w0 35 #[v, .int .i64 i, vx] H0 (fun r H2 => ∃ vr : Value, ∃ kr : Nat, r = vr ∧ (Ow kr 47 H2 fM 33 vr (l.take i ++ x :: l.drop i)) ∧ (Nx k H0.size kr) ∧ Mo (Ms [k]) H0 H2) := by
  refine Ct.enter (args := [v, .int .i64 i, vx]) Try.func35 rfl rfl rfl ?_
  intro Q0 hret
  have hm0 : Mo (Ms [k]) H0 H0 := Mo.refl _ _
  have nx_hm0_ow := Nx.refl k H0.size
  have hle_ow := ow.le
  have nx_hm0_ox := Nx.refl kx H0.size
  have hle_ox := ox.le
  have hlm := ow.len
  refine CW.seq (fun K1 hK1 hE1 => ?_)
  refine CW.region ?_
  refine LR.v (Y.assign rfl rfl) (Wd.u rfl) rfl rfl ?_
  refine LR.nil ?_
  refine hK1 _ _ ?_
  refine CW.seq (fun K2 hK2 hE2 => ?_)
  refine CW.region ?_
  refine LR.v (Y.move rfl rfl) (Wd.u rfl) rfl rfl ?_
  refine LR.v (Y.move rfl rfl) (Wd.u rfl) rfl rfl ?_
  refine LR.e (g := fun v => v) (Y.slice ow.rd (i) (l.length) rfl Try.runUnderlying40 Try.sizeOf47 rfl (.inr ⟨_, _, _, rfl, rfl, by first | rfl | omega⟩) (.inl ⟨rfl, rfl⟩) (by omega) (by omega)) (Wd.u rfl) rfl rfl (fun v12 rd12 => ?_)
  have bf_rd12 := BF.of ow.le
  refine LR.nil ?_
  refine hK2 _ _ ?_
  refine CW.seq (fun K3 hK3 hE3 => ?_)
  refine CW.region ?_
  refine LR.v (Y.move rfl rfl) (Wd.u rfl) rfl rfl ?_
  refine LR.v (Y.cast (v2 := .int .i64 1) (Y.len ox.rd rfl Try.runUnderlying40 rfl) (rfl)) (Wd.u rfl) rfl rfl ?_
  refine LR.v (Y.assign rfl rfl) (Wd.u rfl) rfl rfl ?_
  refine LR.nil ?_
  refine hK3 _ _ ?_
  refine CW.seq (fun K4 hK4 hE4 => ?_)
  refine CW.seq (fun K5 hK5 hE5 => ?_)
  refine CW.region ?_
  refine LR.v (Y.move rfl rfl) (Wd.u rfl) rfl rfl ?_
  refine LR.v ((Y.eql rfl rfl rfl).isF (fun h => by simp at h)) (Wd.u rfl) rfl rfl ?_
  refine LR.nil ?_
  refine hK5 _ _ ?_
  refine CW.cond_f rfl ?_
  refine CW.skip ?_
  refine hK4 _ _ ?_
  refine CW.seq (fun K6 hK6 hE6 => ?_)
  refine CW.region ?_
  refine LR.v (Y.move rfl rfl) (Wd.u rfl) rfl rfl ?_
  refine LR.v (Y.len ow.rd rfl Try.runUnderlying40 rfl) (Wd.u rfl) rfl rfl ?_
  refine LR.v (Y.assign rfl rfl) (Wd.u rfl) rfl rfl ?_
  refine LR.nil ?_
  refine hK6 _ _ ?_
  refine CW.seq (fun K7 hK7 hE7 => ?_)
  refine CW.seq (fun K8 hK8 hE8 => ?_)
  refine CW.region ?_
  refine LR.v (Y.move rfl rfl) (Wd.u rfl) rfl rfl ?_
  refine LR.v (Y.move rfl rfl) (Wd.u rfl) rfl rfl ?_
  refine LR.v (Y.eql rfl rfl rfl) (Wd.u rfl) rfl rfl ?_
  refine LR.nil ?_
  refine hK8 _ _ ?_
  refine CW.condp rfl (fun c22 => ?_) (fun c22 => ?_)
  ·
    refine CW.seq (fun K9 hK9 hE9 => ?_)
    refine CW.region ?_
    refine LR.v (Y.move rfl rfl) (Wd.u rfl) rfl rfl ?_
    refine LR.v (Y.move rfl rfl) (Wd.u rfl) rfl rfl ?_
    refine LR.z (Z.apnd ow ox.rd rfl inf40 rfl rfl (by simp only [List.length_cons, List.length_nil]; omega) (by simp only [List.length_cons, List.length_nil]; omega)) (Wd.u rfl) rfl rfl (fun v25 H25 r25 => ?_)
    obtain ⟨k25, ow, hk25, hs25⟩ := r25
    replace hk25 : Nx k H0.size k25 := hk25
    replace hs25 := hs25.md
    have dj1 : Dj kx k25 := Dj.app (dj.symm) ox.le hk25
    have nx2 : Nx k H0.size k25 := Nx.tr (nx_hm0_ow) hk25 hm0.size
    replace ox := ox.upL hs25 (DL.cons dj.symm DL.nil)
    replace hm0 := hm0.trL hs25 (MIL.cons (MI.app (MI.root (by simp)) (nx_hm0_ow) (Nat.le_refl _)) MIL.nil)
    have hz1 := hs25.size
    have hle_ow := ow.le
    refine LR.v (Y.assign rfl rfl) (Wd.u rfl) rfl rfl ?_
    refine LR.nil ?_
    refine hK9 _ _ ?_
    refine CW.ret (hE7 .ret nofun _ _ (hret .ret (.inr rfl) _ _ _ (res1 rfl rfl) ?_))
    exact ⟨v25, k25, rfl, by rw [← ins_end (by omega)]; exact ow, nx2, hm0⟩
  ·
    have hin : i < l.length := by omega
    have hne : l ≠ [] := by intro e; rw [e] at hin; simp at hin
    obtain ⟨g, cap, cs, hve, hkg, hvg, hcap, hcm, hcl, _⟩ := Ow.view ow hne
    unfold maxLen at hcm
    obtain ⟨gx, capx, csx, hvx, hkx, _, hcapx, hcmx, _, _⟩ := Ow.view ox (by simp)
    obtain ⟨csz, hzc⟩ := hzx
    rw [show kx - 1 = gx by omega] at hzc
    have hgg : gx ≠ g := fun e => dj g hkg.symm (by omega)
    refine CW.skip ?_
    refine hK7 _ _ ?_
    refine CW.seq (fun K10 hK10 hE10 => ?_)
    refine CW.seq (fun K11 hK11 hE11 => ?_)
    refine CW.region ?_
    refine LR.v (Y.move rfl rfl) (Wd.u rfl) rfl rfl ?_
    refine LR.v (Y.move rfl rfl) (Wd.u rfl) rfl rfl ?_
    refine LR.v (Y.addi rfl rfl rfl (by omega)) (Wd.u rfl) rfl rfl ?_
    refine LR.v (Y.move rfl rfl) (Wd.u rfl) rfl rfl ?_
    refine LR.v (Y.capV rfl Try.runUnderlying40 (congrArg some hve)) (Wd.u rfl) rfl rfl ?_
    refine LR.v (Y.gtr rfl rfl rfl) (Wd.u rfl) rfl rfl ?_
    refine LR.nil ?_
    refine hK11 _ _ ?_
    refine CW.condp rfl (fun c31 => ?_) (fun c31 => ?_)
    ·
      obtain ⟨ht40, i0, z0, hi0, hz0, hs0, hb0, _⟩ := inf40
      have hz9 : z0.cells.toList = fM Mz := by
        have h9 : (zeroValue 47).run Try.prog w0 = .ok (.agg (fM Mz).toArray) w0 := by kernel_rfl
        simp [zeroValue, typeInfo, hi0, hz0] at h9
        rw [h9]; rfl
      have hti : (l.take i).length = i := by rw [List.length_take]; omega
      refine CW.seq (fun K12 hK12 hE12 => ?_)
      refine CW.region ?_
      refine LR.v (Y.move rfl rfl) (Wd.u rfl) rfl rfl ?_
      refine LR.v (Y.move rfl rfl) (Wd.u rfl) rfl rfl ?_
      refine LR.v (Y.sl0 i rfl Try.runUnderlying40 Try.sizeOf47 (congrArg some hve) (.inr ⟨_, _, _, rfl, rfl, rfl⟩) (by omega)) (Wd.u rfl) rfl rfl ?_
      refine LR.v (Y.move rfl rfl) (Wd.u rfl) rfl rfl ?_
      refine LR.v (Y.move rfl rfl) (Wd.u rfl) rfl rfl ?_
      refine LR.v (Y.addi rfl rfl rfl (by omega)) (Wd.u rfl) rfl rfl ?_
      refine LR.v (Y.move rfl rfl) (Wd.u rfl) rfl rfl ?_
      refine LR.v (Y.cast (v2 := .int .i64 ((l.length + 1 - i : Nat) : Int)) (Y.subi rfl rfl rfl (by omega)) (by congr 1; omega)) (Wd.u rfl) rfl rfl ?_
      refine LR.z (Z.apndz (F := fun b => b + 1 = k) (ad := ⟨g, 0, none⟩) (c := cap) (xs := l.take i) (m := l.length + 1 - i) Mz fM_len fM_one (by have h9 := ow.rd; rw [hve] at h9; exact rd_take h9) rfl ht40 Try.underlying3 hi0 hz0 hs0 hb0 hz9 (by decide) (by omega) (by rw [hti]; rfl) rfl (by rw [hti]; omega) (by rw [hti]; omega) (by rw [hti]; omega)) (Wd.u rfl) rfl rfl (fun v40 H40 r40 => ?_)
      obtain ⟨on, hs40, ob40, hH40⟩ := r40
      have hzs40 : H40.size = H0.size + 1 := by rw [hH40]; simp
      have dj3 : Dj k (H0.size + 1) := Dj.new ow.le
      have dj4 : Dj kx (H0.size + 1) := Dj.new ox.le
      have nx5 : Nx 0 H0.size (H0.size + 1) := Nx.new hm0.size
      replace ow := ow.nw hs40
      replace ox := ox.nw hs40
      replace hm0 := hm0.trN hs40
      have hz2 := hs40.size
      have hlo : (l.take i ++ List.replicate (l.length + 1 - i) Mz).length = l.length + 1 := by rw [List.length_append, hti, List.length_replicate]; omega
      obtain ⟨g2, cap2, _, hv2, _, _, hcap2, _, _, _⟩ := Ow.view on (by intro e; rw [e] at hlo; simp at hlo)
      rw [hlo] at hv2 hcap2
      refine LR.v (Y.assign rfl rfl) (Wd.u rfl) rfl rfl ?_
      refine LR.nil ?_
      refine hK12 _ _ ?_
      refine CW.seq (fun K13 hK13 hE13 => ?_)
      refine CW.region ?_
      refine LR.v (Y.move rfl rfl) (Wd.u rfl) rfl rfl ?_
      refine LR.v (Y.move rfl rfl) (Wd.u rfl) rfl rfl ?_
      refine LR.v (Y.sl1 i rfl Try.runUnderlying40 Try.sizeOf47 (congrArg some hv2) rfl rfl (by omega) (by omega) (by omega)) (Wd.u rfl) rfl rfl ?_
      refine LR.v (Y.move rfl rfl) (Wd.u rfl) rfl rfl ?_
      refine LR.z (Z.copyO (i := i) on (by rw [hlo]; exact hv2) (show Rd (fun b => b + 1 = kx) _ fM 33 (.slice (some ⟨gx, 0, none⟩) [x].length capx) [x] from by have h9 := ox.rd; rw [hvx] at h9; exact h9) (by intro e; rw [e] at hlo; simp at hlo) rfl Try.underlying40 Try.sizeOf47 rfl (congrArg some hvx) (by simp; omega) (by rw [hlo]; simp; omega) (by simp)) (Wd.u rfl) rfl rfl (fun v45 H45 r45 => ?_)
      obtain ⟨rfl, on, hs45⟩ := r45
      replace hs45 := hs45.md
      replace ow := ow.upL hs45 (DL.cons dj3 DL.nil)
      replace ox := ox.upL hs45 (DL.cons dj4 DL.nil)
      replace hm0 := hm0.trL hs45 (MIL.cons (MI.app MI.z (nx5) (Nat.le_refl _)) MIL.nil)
      have hz3 := hs45.size
      have hlo2 : ((l.take i ++ List.replicate (l.length + 1 - i) Mz).take i ++ [x] ++ (l.take i ++ List.replicate (l.length + 1 - i) Mz).drop (i + [x].length)).length = l.length + 1 := by simp; omega
      refine LR.nil ?_
      refine hK13 _ _ ?_
      refine CW.seq (fun K14 hK14 hE14 => ?_)
      refine CW.region_tail 8 rfl (by kernel_rfl) (fun T11 hT11 => ?_)
      refine LR.v (Y.move rfl rfl) (Wd.u rfl) rfl rfl ?_
      refine LR.v (Y.move rfl rfl) (Wd.u rfl) rfl rfl ?_
      refine LR.v (Y.move rfl rfl) (Wd.u rfl) rfl rfl ?_
      refine LR.v (Y.addi rfl rfl rfl (by omega)) (Wd.u rfl) rfl rfl ?_
      refine LR.v (Y.sl1 (i + 1) rfl Try.runUnderlying40 Try.sizeOf47 (congrArg some hv2) rfl (by simp) (by omega) (by omega) (by omega)) (Wd.u rfl) rfl rfl ?_
      refine LR.v (Y.move rfl rfl) (Wd.u rfl) rfl rfl ?_
      refine LR.v (Y.move rfl rfl) (Wd.u rfl) rfl rfl ?_
      refine LR.v (Y.sl1 i rfl Try.runUnderlying40 Try.sizeOf47 (congrArg some hve) rfl rfl (by omega) (by omega) (by omega)) (Wd.u rfl) rfl rfl ?_
      refine LR.nil (hT11 _ ?_)
      refine LR.z (Z.copyO (i := i + 1) (ys := l.drop i) on (by rw [hlo2]; exact hv2) (show Rd (fun b => b + 1 = k) _ fM 33 (.slice (some ⟨g, i * 33, none⟩) (l.drop i).length (cap - i)) (l.drop i) from by have h9 := ow.rd; rw [hve] at h9; exact rd_drop h9) (by intro e; rw [e] at hlo2; simp at hlo2) rfl Try.underlying40 Try.sizeOf47 rfl (by rw [List.length_drop]; rfl) (by rw [List.length_drop]; omega) (by rw [hlo2, List.length_drop]; omega) (by intro e; have h9 := congrArg List.length e; rw [List.length_drop] at h9; simp at h9; omega)) (Wd.u rfl) rfl rfl (fun v54 H54 r54 => ?_)
      obtain ⟨rfl, on, hs54⟩ := r54
      replace hs54 := hs54.md
      replace ow := ow.upL hs54 (DL.cons dj3 DL.nil)
      replace ox := ox.upL hs54 (DL.cons dj4 DL.nil)
      replace hm0 := hm0.trL hs54 (MIL.cons (MI.app MI.z (nx5) (Nat.le_refl _)) MIL.nil)
      have hz4 := hs54.size
      refine LR.nil ?_
      refine hK14 _ _ ?_
      refine CW.seq (fun K15 hK15 hE15 => ?_)
      refine CW.region ?_
      refine LR.v (Y.move rfl rfl) (Wd.u rfl) rfl rfl ?_
      refine LR.v (Y.assign rfl rfl) (Wd.u rfl) rfl rfl ?_
      refine LR.nil ?_
      refine hK15 _ _ ?_
      refine CW.ret (hE10 .ret nofun _ _ (hret .ret (.inr rfl) _ _ _ (res1 rfl rfl) ?_))
      exact ⟨v40, (H0.size + 1), rfl, by have h9 := on; rw [show i + [x].length = i + 1 from rfl, ins_grow hin rfl] at h9; exact h9, (by unfold Nx; omega), hm0⟩
    ·
      refine CW.skip ?_
      refine hK10 _ _ ?_
      refine CW.seq (fun K16 hK16 hE16 => ?_)
      refine CW.region ?_
      refine LR.v (Y.move rfl rfl) (Wd.u rfl) rfl rfl ?_
      refine LR.v (Y.move rfl rfl) (Wd.u rfl) rfl rfl ?_
      refine LR.v (Y.move rfl rfl) (Wd.u rfl) rfl rfl ?_
      refine LR.v (Y.addi rfl rfl rfl (by omega)) (Wd.u rfl) rfl rfl ?_
      refine LR.v (Y.sl0 (l.length + 1) rfl Try.runUnderlying40 Try.sizeOf47 (congrArg some hve) (.inr ⟨_, _, _, rfl, rfl, by simp⟩) (by omega)) (Wd.u rfl) rfl rfl ?_
      refine LR.v (Y.assign rfl rfl) (Wd.u rfl) rfl rfl ?_
      refine LR.nil ?_
      refine hK16 _ _ ?_
      refine CW.seq (fun K17 hK17 hE17 => ?_)
      refine CW.seq (fun K18 hK18 hE18 => ?_)
      refine CW.region ?_
      refine LR.v (Y.move rfl rfl) (Wd.u rfl) rfl rfl ?_
      refine LR.v (Y.move rfl rfl) (Wd.u rfl) rfl rfl ?_
      refine LR.v (Y.move rfl rfl) (Wd.u rfl) rfl rfl ?_
      refine LR.v (Y.move rfl rfl) (Wd.u rfl) rfl rfl ?_
      refine LR.v (Y.addi rfl rfl rfl (by omega)) (Wd.u rfl) rfl rfl ?_
      refine LR.v (Y.sl1 (i + 1) rfl Try.runUnderlying40 Try.sizeOf47 rfl rfl (by simp) (by omega) (by omega) (by omega)) (Wd.u rfl) rfl rfl ?_
      refine LR.v (Y.overlaps (tS := 40) (tR := 4) hzc hvg hgg (by omega) rfl rfl (by kernel_rfl) (by kernel_rfl) (by kernel_rfl) (by kernel_rfl) Try.underlying40 Try.sizeOf47 (congrArg (fun z => some [z, _]) hvx)) (Wd.u rfl) rfl rfl ?_
      refine LR.v (Y.not rfl rfl) (Wd.u rfl) rfl rfl ?_
      refine LR.nil ?_
      refine hK18 _ _ ?_
      refine CW.cond_t rfl ?_
      refine CW.seq (fun K19 hK19 hE19 => ?_)
      refine CW.region_tail 8 rfl (by kernel_rfl) (fun T15 hT15 => ?_)
      refine LR.v (Y.move rfl rfl) (Wd.u rfl) rfl rfl ?_
      refine LR.v (Y.move rfl rfl) (Wd.u rfl) rfl rfl ?_
      refine LR.v (Y.move rfl rfl) (Wd.u rfl) rfl rfl ?_
      refine LR.v (Y.addi rfl rfl rfl (by omega)) (Wd.u rfl) rfl rfl ?_
      refine LR.v (Y.sl1 (i + 1) rfl Try.runUnderlying40 Try.sizeOf47 rfl rfl (by simp) (by omega) (by omega) (by omega)) (Wd.u rfl) rfl rfl ?_
      refine LR.v (Y.move rfl rfl) (Wd.u rfl) rfl rfl ?_
      refine LR.v (Y.move rfl rfl) (Wd.u rfl) rfl rfl ?_
      refine LR.v (Y.sl1 i rfl Try.runUnderlying40 Try.sizeOf47 rfl rfl rfl (by omega) (by omega) (by omega)) (Wd.u rfl) rfl rfl ?_
      refine LR.nil (hT15 _ ?_)
      refine LR.z (Z.copyUp (i := i) ow hve hin (by omega) rfl Try.underlying40 Try.sizeOf47 rfl rfl (by omega)) (Wd.u rfl) rfl rfl (fun v77 H77 r77 => ?_)
      obtain ⟨rfl, ow, hs77⟩ := r77
      replace hs77 := hs77.md
      replace ox := ox.upL hs77 (DL.cons dj.symm DL.nil)
      replace hm0 := hm0.trL hs77 (MIL.cons (MI.app (MI.root (by simp)) (nx_hm0_ow) (Nat.le_refl _)) MIL.nil)
      have hz5 := hs77.size
      have hlu : (l.take (i + 1) ++ l.drop i).length = l.length + 1 := by simp; omega
      refine LR.nil ?_
      refine hK19 _ _ ?_
      refine CW.seq (fun K20 hK20 hE20 => ?_)
      refine CW.region ?_
      refine LR.v (Y.move rfl rfl) (Wd.u rfl) rfl rfl ?_
      refine LR.v (Y.move rfl rfl) (Wd.u rfl) rfl rfl ?_
      refine LR.v (Y.sl1 i rfl Try.runUnderlying40 Try.sizeOf47 rfl rfl rfl (by omega) (by omega) (by omega)) (Wd.u rfl) rfl rfl ?_
      refine LR.v (Y.move rfl rfl) (Wd.u rfl) rfl rfl ?_
      refine LR.z (Z.copyO (i := i) ow (by rw [hlu]) (show Rd (fun b => b + 1 = kx) _ fM 33 (.slice (some ⟨gx, 0, none⟩) [x].length capx) [x] from by have h9 := ox.rd; rw [hvx] at h9; exact h9) (by intro e; rw [e] at hlu; simp at hlu) rfl Try.underlying40 Try.sizeOf47 rfl (congrArg some hvx) (by simp; omega) (by rw [hlu]; simp; omega) (by simp)) (Wd.u rfl) rfl rfl (fun v82 H82 r82 => ?_)
      obtain ⟨rfl, ow, hs82⟩ := r82
      replace hs82 := hs82.md
      replace ox := ox.upL hs82 (DL.cons dj.symm DL.nil)
      replace hm0 := hm0.trL hs82 (MIL.cons (MI.app (MI.root (by simp)) (nx_hm0_ow) (Nat.le_refl _)) MIL.nil)
      have hz6 := hs82.size
      refine LR.nil ?_
      refine hK20 _ _ ?_
      refine CW.seq (fun K21 hK21 hE21 => ?_)
      refine CW.region ?_
      refine LR.v (Y.move rfl rfl) (Wd.u rfl) rfl rfl ?_
      refine LR.v (Y.assign rfl rfl) (Wd.u rfl) rfl rfl ?_
      refine LR.nil ?_
      refine hK21 _ _ ?_
      refine CW.ret (hE17 .ret nofun _ _ (hret .ret (.inr rfl) _ _ _ (res1 rfl rfl) ?_))
      exact ⟨.slice (some ⟨g, 0, none⟩) (l.length + 1) cap, k, rfl, by have h9 := ow; rw [show i + [x].length = i + 1 from rfl, ins_up hin] at h9; exact h9, nx_hm0_ow, hm0⟩

end Go.Proofs.Ytegfnfhdgbcjbaa.RerI
