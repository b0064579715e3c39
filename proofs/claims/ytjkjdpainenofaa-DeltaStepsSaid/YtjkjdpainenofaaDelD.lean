/-
  A delta read, piece by piece.
-/
import Derived.Test.YtjkjdpainenofaaDelC
namespace Go.Proofs.Ytjkjdpainenofaa.DelD
open Go.Proofs.Ytjkjdpainenofaa.E Go.RowKit Go.Proofs.Ytjkjdpainenofaa.Num Go.Proofs.Ytjkjdpainenofaa.DelA Go.Proofs.Ytjkjdpainenofaa.DelB Go.Proofs.Ytjkjdpainenofaa.DelC
set_option linter.unusedVariables false
set_option linter.unusedSimpArgs false
set_option linter.unusedSectionVars false
theorem take_ct (cb : Nat) (F : Nat → Prop) (sv : Value) (rr : List UInt8) (c : Bool) (n : Nat) (w0 : World) (H0 : Heap)
    (hc : Var 39 H0 cb [sv, .bool c]) (hd : Rd F H0 fB 1 sv rr) (bf_hd : BF F H0.size) (hdf : DF F (cb + 1)) (hn : n ≤ 9223372036854775807) :
    Ct Try.prog w0 14 #[.pointer (some ⟨cb, 0, none⟩), .int .i64 n] H0 (fun r H2 => ∃ v : Value, ∃ s2 : Value, ∃ tk : List UInt8, ∃ rest : List UInt8, ∃ c2 : Bool, r = v ∧ (Var 39 H2 cb [s2, .bool c2]) ∧ (Rd F H2 fB 1 s2 rest) ∧ (Rd F H2 fB 1 v tk) ∧ (c2 = false → c = false ∧ n ≤ rr.length ∧ tk = rr.take n ∧ rest = rr.drop n) ∧ (c2 = true → (c = true ∨ rr.length < n) ∧ tk = [] ∧ rest = rr) ∧ Mo (Ms [(cb + 1)]) H0 H2) := by
  refine Ct.enter (args := [.pointer (some ⟨cb, 0, none⟩), .int .i64 n]) Try.func14 rfl rfl rfl ?_
  intro Q0 hret
  have hm0 : Mo (Ms [(cb + 1)]) H0 H0 := Mo.refl _ _
  have nx_hm0_hc := Nx.refl (cb + 1) H0.size
  have hlt_hc := hc.lt
  have hrl := hd.len
  have hone := hd.oneCell
  refine CW.seq (fun K1 hK1 hE1 => ?_)
  refine CW.region ?_
  refine LR.v (Y.assign rfl rfl) (Wd.u rfl) rfl rfl ?_
  refine LR.nil ?_
  refine hK1 _ _ ?_
  refine CW.seq (fun K2 hK2 hE2 => ?_)
  refine CW.seq (fun K3 hK3 hE3 => ?_)
  refine CW.region ?_
  refine LR.v (Y.move rfl rfl) (Wd.u rfl) rfl rfl ?_
  refine LR.v (Y.nilCheck rfl rfl) (Wd.u rfl) rfl rfl ?_
  refine LR.v (Y.fieldAddr hc.pt rfl Try.runUnderlying39 rfl rfl Try.sizeOf4 (by decide) rfl) (Wd.u rfl) rfl rfl ?_
  refine LR.v (Y.load1 (hc.pt.drop 1) rfl Try.isAgg4 rfl) (Wd.u rfl) rfl rfl ?_
  refine LR.v (Y.move rfl rfl) (Wd.u rfl) rfl rfl ?_
  refine LR.split (d := 10) rfl (fun g10 => ?_) (fun g10 => ?_)
  ·
    refine LR.gs rfl rfl rfl rfl rfl rfl ?_
    refine LR.gs rfl rfl rfl rfl rfl rfl ?_
    refine LR.gs rfl rfl rfl rfl rfl rfl ?_
    refine LR.gs rfl rfl rfl rfl rfl rfl ?_
    refine LR.gs rfl rfl rfl rfl rfl rfl ?_
    refine LR.gs rfl rfl rfl rfl rfl rfl ?_
    refine LR.gs rfl rfl rfl rfl rfl rfl ?_
    refine LR.v (Y.pick_t rfl rfl rfl) (Wd.u rfl) rfl rfl ?_
    refine LR.nil ?_
    refine hK3 _ _ ?_
    refine CW.cond_t rfl ?_
    refine CW.seq (fun K4 hK4 hE4 => ?_)
    refine CW.region ?_
    refine LR.v (Y.move rfl rfl) (Wd.u rfl) rfl rfl ?_
    refine LR.v (Y.nilCheck rfl rfl) (Wd.u rfl) rfl rfl ?_
    refine LR.v (Y.fieldAddr hc.pt rfl Try.runUnderlying39 rfl rfl Try.sizeOf4 (by decide) rfl) (Wd.u rfl) rfl rfl ?_
    refine LR.s (S.var1 hc 1 (_) rfl rfl rfl (rfl) Try.sizeOf4 (by simp) (rfl)) (Wd.u rfl) rfl (fun H2_3 r2_3 => ?_)
    obtain ⟨hc, hs2_3⟩ := r2_3
    replace hs2_3 := hs2_3.md1
    replace hd := hd.upL hs2_3 (DFL.cons hdf DFL.nil)
    replace hm0 := hm0.trL hs2_3 (MIL.cons (MI.app (MI.root (by simp)) (nx_hm0_hc) (Nat.le_refl _)) MIL.nil)
    have hz1 := hs2_3.size
    refine LR.nil ?_
    refine hK4 _ _ ?_
    refine CW.seq (fun K5 hK5 hE5 => ?_)
    refine CW.region ?_
    refine LR.v (Y.assign rfl rfl) (Wd.u rfl) rfl rfl ?_
    refine LR.nil ?_
    refine hK5 _ _ ?_
    refine CW.ret (hE2 .ret nofun _ _ (hret .ret (.inr rfl) _ _ _ (res1 rfl rfl) ?_))
    exact ⟨_, _, [], rr, true, rfl, hc, hd, Rd.nil _ _ _ _, fun h => (by cases h), fun _ => ⟨(by first | (left; assumption) | (right; omega)), rfl, rfl⟩, hm0⟩
  ·
    refine LR.v (Y.move rfl rfl) (Wd.g rfl rfl rfl) rfl rfl ?_
    refine LR.v (Y.move rfl rfl) (Wd.g rfl rfl rfl) rfl rfl ?_
    refine LR.v (Y.nilCheck rfl rfl) (Wd.g rfl rfl rfl) rfl rfl ?_
    refine LR.v (Y.fieldAddr hc.pt rfl Try.runUnderlying39 rfl rfl Try.sizeOf22 (by decide) rfl) (Wd.g rfl rfl rfl) rfl rfl ?_
    refine LR.v (Y.load1 hc.pt rfl Try.isAgg22 rfl) (Wd.g rfl rfl rfl) rfl rfl ?_
    refine LR.v (Y.len hd rfl Try.runUnderlying22 rfl) (Wd.g rfl rfl rfl) rfl rfl ?_
    refine LR.v (Y.gtr rfl rfl rfl) (Wd.g rfl rfl rfl) rfl rfl ?_
    refine LR.v (Y.pick_f rfl rfl rfl) (Wd.u rfl) rfl rfl ?_
    refine LR.nil ?_
    refine hK3 _ _ ?_
    refine CW.condp rfl (fun c18 => ?_) (fun c18 => ?_)
    ·
      refine CW.seq (fun K6 hK6 hE6 => ?_)
      refine CW.region ?_
      refine LR.v (Y.move rfl rfl) (Wd.u rfl) rfl rfl ?_
      refine LR.v (Y.nilCheck rfl rfl) (Wd.u rfl) rfl rfl ?_
      refine LR.v (Y.fieldAddr hc.pt rfl Try.runUnderlying39 rfl rfl Try.sizeOf4 (by decide) rfl) (Wd.u rfl) rfl rfl ?_
      refine LR.s (S.var1 hc 1 (_) rfl rfl rfl (rfl) Try.sizeOf4 (by simp) (rfl)) (Wd.u rfl) rfl (fun H2_3 r2_3 => ?_)
      obtain ⟨hc, hs2_3⟩ := r2_3
      replace hs2_3 := hs2_3.md1
      replace hd := hd.upL hs2_3 (DFL.cons hdf DFL.nil)
      replace hm0 := hm0.trL hs2_3 (MIL.cons (MI.app (MI.root (by simp)) (nx_hm0_hc) (Nat.le_refl _)) MIL.nil)
      have hz2 := hs2_3.size
      refine LR.nil ?_
      refine hK6 _ _ ?_
      refine CW.seq (fun K7 hK7 hE7 => ?_)
      refine CW.region ?_
      refine LR.v (Y.assign rfl rfl) (Wd.u rfl) rfl rfl ?_
      refine LR.nil ?_
      refine hK7 _ _ ?_
      refine CW.ret (hE2 .ret nofun _ _ (hret .ret (.inr rfl) _ _ _ (res1 rfl rfl) ?_))
      exact ⟨_, _, [], rr, true, rfl, hc, hd, Rd.nil _ _ _ _, fun h => (by cases h), fun _ => ⟨(by first | (left; assumption) | (right; omega)), rfl, rfl⟩, hm0⟩
    ·
      refine CW.skip ?_
      refine hK2 _ _ ?_
      refine CW.seq (fun K8 hK8 hE8 => ?_)
      refine CW.region ?_
      refine LR.v (Y.move rfl rfl) (Wd.u rfl) rfl rfl ?_
      refine LR.v (Y.nilCheck rfl rfl) (Wd.u rfl) rfl rfl ?_
      refine LR.v (Y.fieldAddr hc.pt rfl Try.runUnderlying39 rfl rfl Try.sizeOf22 (by decide) rfl) (Wd.u rfl) rfl rfl ?_
      refine LR.v (Y.load1 hc.pt rfl Try.isAgg22 rfl) (Wd.u rfl) rfl rfl ?_
      refine LR.v (Y.move rfl rfl) (Wd.u rfl) rfl rfl ?_
      refine LR.v (Y.move rfl rfl) (Wd.u rfl) rfl rfl ?_
      refine LR.e (g := fun v => v) (Y.slice3 hd (0) (n) (n) rfl Try.runUnderlying22 Try.sizeOf5 rfl (.inl ⟨rfl, rfl⟩) ⟨_, _, _, rfl, rfl, by first | rfl | omega⟩ ⟨_, _, _, rfl, rfl, by first | rfl | omega⟩ (by omega) (by omega) (by omega)) (Wd.u rfl) rfl rfl (fun v28 rd28 => ?_)
      have bf_rd28 := bf_hd
      refine LR.v (Y.assign rfl rfl) (Wd.u rfl) rfl rfl ?_
      refine LR.nil ?_
      refine hK8 _ _ ?_
      refine CW.seq (fun K9 hK9 hE9 => ?_)
      refine CW.region ?_
      refine LR.v (Y.move rfl rfl) (Wd.u rfl) rfl rfl ?_
      refine LR.v (Y.move rfl rfl) (Wd.u rfl) rfl rfl ?_
      refine LR.v (Y.nilCheck rfl rfl) (Wd.u rfl) rfl rfl ?_
      refine LR.v (Y.fieldAddr hc.pt rfl Try.runUnderlying39 rfl rfl Try.sizeOf22 (by decide) rfl) (Wd.u rfl) rfl rfl ?_
      refine LR.v (Y.load1 hc.pt rfl Try.isAgg22 rfl) (Wd.u rfl) rfl rfl ?_
      refine LR.v (Y.move rfl rfl) (Wd.u rfl) rfl rfl ?_
      refine LR.e (g := fun v => v) (Y.slice hd (n) (_) rfl Try.runUnderlying22 Try.sizeOf5 rfl (.inr ⟨_, _, _, rfl, rfl, by first | rfl | omega⟩) (.inl ⟨rfl, rfl⟩) (by omega) (by omega)) (Wd.u rfl) rfl rfl (fun v35 rd35 => ?_)
      have bf_rd35 := bf_hd
      have hone2 := rd35.oneCell
      refine LR.v (Y.nilCheck rfl rfl) (Wd.u rfl) rfl rfl ?_
      refine LR.v (Y.fieldAddr hc.pt rfl Try.runUnderlying39 rfl rfl Try.sizeOf22 (by decide) rfl) (Wd.u rfl) rfl rfl ?_
      refine LR.s (S.var1 hc 0 (_) rfl rfl rfl (hone2) Try.sizeOf22 (by simp) (rfl)) (Wd.u rfl) rfl (fun H5_9 r5_9 => ?_)
      obtain ⟨hc, hs5_9⟩ := r5_9
      replace hs5_9 := hs5_9.md1
      replace hd := hd.upL hs5_9 (DFL.cons hdf DFL.nil)
      replace rd28 := rd28.upL hs5_9 (DFL.cons hdf DFL.nil)
      replace rd35 := rd35.upL hs5_9 (DFL.cons hdf DFL.nil)
      replace hm0 := hm0.trL hs5_9 (MIL.cons (MI.app (MI.root (by simp)) (nx_hm0_hc) (Nat.le_refl _)) MIL.nil)
      have hz3 := hs5_9.size
      refine LR.nil ?_
      refine hK9 _ _ ?_
      refine CW.seq (fun K10 hK10 hE10 => ?_)
      refine CW.region ?_
      refine LR.v (Y.move rfl rfl) (Wd.u rfl) rfl rfl ?_
      refine LR.v (Y.assign rfl rfl) (Wd.u rfl) rfl rfl ?_
      refine LR.nil ?_
      refine hK10 _ _ ?_
      refine CW.ret (hret .ret (.inr rfl) _ _ _ (res1 rfl rfl) ?_)
      exact ⟨_, _, rr.take n, rr.drop n, c, rfl, hc, by simpa using rd35, by simpa using rd28, fun h => ⟨h, by omega, rfl, rfl⟩, fun h => (by simp_all), hm0⟩

theorem cnum_ct (cb : Nat) (F : Nat → Prop) (sv : Value) (rr : List UInt8) (c : Bool) (w0 : World) (H0 : Heap)
    (hc : Var 39 H0 cb [sv, .bool c]) (hd : Rd F H0 fB 1 sv rr) (bf_hd : BF F H0.size) (hdf : DF F (cb + 1)) :
    Ct Try.prog w0 13 #[.pointer (some ⟨cb, 0, none⟩)] H0 (fun r H2 => ∃ s2 : Value, ∃ m : Nat, ∃ rest : List UInt8, ∃ c2 : Bool, r = .int .i64 m ∧ (Var 39 H2 cb [s2, .bool c2]) ∧ (Rd F H2 fB 1 s2 rest) ∧ (m < 4294967296) ∧ (c2 = false → c = false ∧ 4 ≤ rr.length ∧ m = bev 0 (rr.take 4) ∧ rest = rr.drop 4) ∧ (c2 = true → (c = true ∨ rr.length < 4) ∧ m = 0 ∧ rest = rr) ∧ Mo (Ms [(cb + 1)]) H0 H2) := by
  refine Ct.enter (args := [.pointer (some ⟨cb, 0, none⟩)]) Try.func13 rfl rfl rfl ?_
  intro Q0 hret
  have hm0 : Mo (Ms [(cb + 1)]) H0 H0 := Mo.refl _ _
  have nx_hm0_hc := Nx.refl (cb + 1) H0.size
  have hlt_hc := hc.lt
  refine CW.seq (fun K1 hK1 hE1 => ?_)
  refine CW.region ?_
  refine LR.v (Y.assign rfl rfl) (Wd.u rfl) rfl rfl ?_
  refine LR.nil ?_
  refine hK1 _ _ ?_
  refine CW.seq (fun K2 hK2 hE2 => ?_)
  refine CW.region ?_
  refine LR.v (Y.assign rfl rfl) (Wd.u rfl) rfl rfl ?_
  refine LR.nil ?_
  refine hK2 _ _ ?_
  refine CW.seq (fun K3 hK3 hE3 => ?_)
  refine CW.seq (fun K4 hK4 hE4 => ?_)
  refine CW.region ?_
  refine LR.v (Y.move rfl rfl) (Wd.u rfl) rfl rfl ?_
  -- call (*selvage/delta.cursor).take
  refine LR.call rfl Try.call14 rfl (Wd.u rfl) rfl rfl (take_ct cb F sv rr c 4 w0 _ hc hd bf_hd hdf (by omega)) (fun v7 H7 r7 => ?_)
  obtain ⟨v7, s2, tk, rest, c2, rfl, hc, hd, ht, hk1, hk2, hs7⟩ := r7
  replace hm0 := hm0.trL hs7 (MIL.cons (MI.app (MI.root (by simp)) (nx_hm0_hc) (Nat.le_refl _)) MIL.nil)
  have hz1 := hs7.size
  have bf_hd := bf_hd
  have bf_ht := bf_hd
  have htl : tk.length ≤ 4 := by
    cases c2 with
    | false => obtain ⟨_, _, h, _⟩ := hk1 rfl; rw [h]; simp; omega
    | true => obtain ⟨_, h, _⟩ := hk2 rfl; rw [h]; simp
  refine LR.v (Y.len ht rfl Try.runUnderlying22 rfl) (Wd.u rfl) rfl rfl ?_
  refine LR.v (Y.move rfl rfl) (Wd.u rfl) rfl rfl ?_
  refine LR.nil ?_
  refine hK4 _ _ ?_
  refine CW.block (fun K5 hK5 hX5 hE5 => ?_)
  refine CW.loop (fun (i : (Nat)) => [(3, .int .i64 (bev 0 (tk.take i) : Nat)), (7, v7), (8, .int .i64 tk.length), (9, .int .i64 i)])
    (fun (i : (Nat)) (H : Heap) => (i ≤ tk.length) ∧ Nw H7 H)
    (fun (i : (Nat)) => tk.length - i) 0 ⟨rfl, rfl, rfl, rfl, trivial⟩ ?_ ?_
  ·
    exact ⟨(by omega), Mo.refl _ _⟩
  intro i HL1 hI1 K6 hN6 hE6
  obtain ⟨hi, hlm1⟩ := hI1
  replace hc := hc.nw hlm1
  replace hd := hd.nw hlm1
  replace ht := ht.nw hlm1
  replace hm0 := hm0.trN hlm1
  have hz2 := hlm1.size
  have hb4 := bev4 (tk.take i) (by simp; omega)
  have hb5 := bev_lt (tk.take i) 0
  have hb6 : 256 ^ (tk.take i).length ≤ 256 ^ 3 ∨ tk.length ≤ i := by
    by_cases h : i < tk.length
    · exact .inl (Nat.pow_le_pow_right (by decide) (by simp; omega))
    · exact .inr (by omega)
  refine CW.seq (fun K7 hK7 hE7 => ?_)
  refine CW.region ?_
  refine LR.v (Y.lss rfl rfl rfl) (Wd.u rfl) rfl rfl ?_
  refine LR.nil ?_
  refine hK7 _ _ ?_
  refine CW.seq (fun K8 hK8 hE8 => ?_)
  refine CW.condp rfl (fun c10 => ?_) (fun c10 => ?_)
  ·
    refine CW.skip ?_
    refine hK8 _ _ ?_
    refine CW.seq (fun K9 hK9 hE9 => ?_)
    refine CW.block (fun K10 hK10 hX10 hE10 => ?_)
    refine CW.seq (fun K11 hK11 hE11 => ?_)
    refine CW.region ?_
    refine LR.e (g := fun ad => .pointer (some ad)) (Y.indexAddr ht (i) rfl Try.runUnderlying22 Try.sizeOf5 rfl rfl (by first | rfl | omega) (by first | omega | (simp; omega) | (simp; done))) (Wd.u rfl) rfl rfl (fun ad11 pt11 => ?_)
    refine LR.v (Y.load1 pt11 rfl Try.isAgg5 rfl) (Wd.u rfl) rfl rfl ?_
    refine LR.v (Y.assign rfl rfl) (Wd.u rfl) rfl rfl ?_
    refine LR.nil ?_
    refine hK11 _ _ ?_
    refine CW.region ?_
    refine LR.v (Y.move rfl rfl) (Wd.u rfl) rfl rfl ?_
    refine LR.v (Y.shln (8) rfl rfl rfl (by first | rfl | omega) (by omega) (by omega)) (Wd.u rfl) rfl rfl ?_
    refine LR.v (Y.move rfl rfl) (Wd.u rfl) rfl rfl ?_
    refine LR.v (Y.conv8i rfl Try.runUnderlying5 Try.runUnderlying3 rfl) (Wd.u rfl) rfl rfl ?_
    refine LR.v (Y.orn rfl rfl rfl (by omega) (by have := (tk[i]).toNat_lt; omega)) (Wd.u rfl) rfl rfl ?_
    refine LR.v (Y.assign rfl rfl) (Wd.u rfl) rfl rfl ?_
    refine LR.nil ?_
    refine hK10 _ _ ?_
    refine hK9 _ _ ?_
    refine CW.region ?_
    refine LR.v (Y.addi rfl rfl rfl (by omega)) (Wd.u rfl) rfl rfl ?_
    refine LR.v (Y.move rfl rfl) (Wd.u rfl) rfl rfl ?_
    refine LR.nil ?_
    refine QN.sub (hN6 (i + 1) _ ?_ ?_) ⟨(by rw [List.take_succ_eq_append_getElem (by omega), bev_snoc, ← or256]; rfl), rfl, (iv (by omega)), (iv (by omega)), trivial⟩
    · exact ⟨(by omega), hlm1⟩
    · first | omega | (simp only; omega) | (simp; omega)
  ·
    obtain rfl : i = tk.length := by omega
    rw [List.take_length]
    refine CW.exit (hE8 (.exit 0) nofun _ _ (hE6 (.exit 0) nofun _ _ (hX5 _ _ ?_)))
    refine hK3 _ _ ?_
    refine CW.seq (fun K12 hK12 hE12 => ?_)
    refine CW.region ?_
    refine LR.v (Y.move rfl rfl) (Wd.u rfl) rfl rfl ?_
    refine LR.v (Y.assign rfl rfl) (Wd.u rfl) rfl rfl ?_
    refine LR.nil ?_
    refine hK12 _ _ ?_
    refine CW.ret (hret .ret (.inr rfl) _ _ _ (res1 rfl rfl) ?_)
    exact ⟨_, bev 0 tk, rest, c2, rfl, hc, hd, bev4 tk htl, fun h => (by obtain ⟨h1, h2, h3, h4⟩ := hk1 h; exact ⟨h1, h2, by rw [h3], h4⟩), fun h => (by obtain ⟨h1, h2, h3⟩ := hk2 h; exact ⟨h1, by rw [h2]; rfl, h3⟩), hm0⟩

theorem clip_ct (k : Nat) (v : Value) (l : List UInt8) (w0 : World) (H0 : Heap)
    (hq : Qr k H0 fB 1 v l) :
    Ct Try.prog w0 15 #[v] H0 (fun r H2 => ∃ v2 : Value, r = v2 ∧ (Qr k H2 fB 1 v2 l) ∧ Nw H0 H2) := by
  refine Ct.enter (args := [v]) Try.func15 rfl rfl rfl ?_
  intro Q0 hret
  have hm0 : Nw H0 H0 := Mo.refl _ _
  have nx_hm0_hq := Nx.refl k H0.size
  have hle_hq := hq.le
  have hql := hq.rd.len
  refine CW.seq (fun K1 hK1 hE1 => ?_)
  refine CW.region ?_
  refine LR.v (Y.assign rfl rfl) (Wd.u rfl) rfl rfl ?_
  refine LR.nil ?_
  refine hK1 _ _ ?_
  refine CW.seq (fun K2 hK2 hE2 => ?_)
  refine CW.region ?_
  refine LR.v (Y.move rfl rfl) (Wd.u rfl) rfl rfl ?_
  refine LR.v (Y.move rfl rfl) (Wd.u rfl) rfl rfl ?_
  refine LR.v (Y.len hq.rd rfl Try.runUnderlying22 rfl) (Wd.u rfl) rfl rfl ?_
  refine LR.v (Y.move rfl rfl) (Wd.u rfl) rfl rfl ?_
  refine LR.v (Y.len hq.rd rfl Try.runUnderlying22 rfl) (Wd.u rfl) rfl rfl ?_
  refine LR.e (g := fun v => v) (Y.slice3 hq.rd (0) (l.length) (l.length) rfl Try.runUnderlying22 Try.sizeOf5 rfl (.inl ⟨rfl, rfl⟩) ⟨_, _, _, rfl, rfl, by first | rfl | omega⟩ ⟨_, _, _, rfl, rfl, by first | rfl | omega⟩ (by omega) (by omega) (by omega)) (Wd.u rfl) rfl rfl (fun v8 rd8 => ?_)
  have bf_rd8 := BF.of hq.le
  refine LR.v (Y.assign rfl rfl) (Wd.u rfl) rfl rfl ?_
  refine LR.nil ?_
  refine hK2 _ _ ?_
  refine CW.ret (hret .ret (.inr rfl) _ _ _ (res1 rfl rfl) ?_)
  exact ⟨_, rfl, ⟨by simpa using rd8, hq.le⟩, hm0⟩

end Go.Proofs.Ytjkjdpainenofaa.DelD
