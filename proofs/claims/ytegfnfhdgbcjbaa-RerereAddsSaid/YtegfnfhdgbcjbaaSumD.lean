/-
  The contracts of a sum under way.
-/
import Derived.Test.YtegfnfhdgbcjbaaSumC
import Derived.Test.YtegfnfhdgbcjbaaRead
namespace Go.Proofs.Ytegfnfhdgbcjbaa.SumD
open Go.Proofs.Ytegfnfhdgbcjbaa.E Go.RowKit Go.Proofs.Ytegfnfhdgbcjbaa.SumA Go.Proofs.Ytegfnfhdgbcjbaa.SumB Go.Proofs.Ytegfnfhdgbcjbaa.SumC
set_option maxRecDepth 20000
set_option linter.unusedVariables false
set_option linter.unusedSimpArgs false
set_option linter.unusedSectionVars false

def IV : S8 := ⟨0x6a09e667, 0xbb67ae85, 0x3c6ef372, 0xa54ff53a, 0x510e527f, 0x9b05688c, 0x1f83d9ab, 0x5be0cd19⟩
/-- whole blocks are taken in, the rest waits -/
def run (s : S8) (b : List UInt8) : S8 × List UInt8 := if h : b.length < 64 then (s, b) else run (compress s (b.take 64)) (b.drop 64)
termination_by b.length
decreasing_by simp; omega
theorem run_lt (s : S8) (b : List UInt8) (h : b.length < 64) : run s b = (s, b) := by rw [run, dif_pos h]
theorem run_ge (s : S8) (b : List UInt8) (h : 64 ≤ b.length) : run s b = run (compress s (b.take 64)) (b.drop 64) := by rw [run, dif_neg (by omega)]
theorem run_len : ∀ (n : Nat) (s : S8) (b : List UInt8), b.length ≤ n → (run s b).2.length < 64 := by
  intro n
  induction n with
  | zero => intro s b h; rw [run_lt s b (by omega)]; simp; omega
  | succ n ih =>
    intro s b h
    by_cases hb : b.length < 64
    · rw [run_lt s b hb]; exact hb
    · rw [run_ge s b (by omega)]; exact ih _ _ (by simp; omega)
theorem run_app : ∀ (n : Nat) (s : S8) (a b : List UInt8), a.length ≤ n → run s (a ++ b) = run (run s a).1 ((run s a).2 ++ b) := by
  intro n
  induction n with
  | zero => intro s a b h; rw [run_lt s a (by omega)]
  | succ n ih =>
    intro s a b h
    by_cases ha : a.length < 64
    · rw [run_lt s a ha]
    · rw [run_ge s a (by omega), run_ge s (a ++ b) (by simp; omega), List.take_append_of_le_length (by omega), List.drop_append_of_le_length (by omega)]
      exact ih _ _ _ (by simp; omega)
theorem run_more (s : S8) (a b : List UInt8) : run s (a ++ b) = run (run s a).1 ((run s a).2 ++ b) := run_app _ s a b (Nat.le_refl _)
theorem run_rest (s : S8) (b : List UInt8) : (run s b).2.length < 64 := run_len _ s b (Nat.le_refl _)
theorem hc_splice {s : List UInt32} {wt xs : List UInt8} {n m : Nat} {al : UInt64} (hs : s.length = 8) (hw : wt.length = 64) (h : m + xs.length ≤ 64) : splice (hc s wt n al) (8 + m) (xs.flatMap fB) = hc s (wt.take m ++ xs ++ wt.drop (m + xs.length)) n al := by
  have h8 : (s.map V32).length = 8 := by simpa using hs
  have hx : (xs.flatMap fB).length = xs.length := by rw [length_flatMap fB_len, Nat.mul_one]
  have e : ∀ (wt : List UInt8), hc s wt n al = s.map V32 ++ (wt.map V8 ++ [.int .i64 n, .int .u64 al.toNat]) := fun wt => by rw [hc, List.append_assoc]
  rw [splice, hx, e, e, List.take_append, List.take_of_length_le (by omega), h8, show 8 + m - 8 = m by omega, List.drop_append, List.drop_of_length_le (by omega), h8, List.nil_append, show 8 + m + xs.length - 8 = m + xs.length by omega]
  rw [List.take_append_of_le_length (by simp; omega), List.drop_append_of_le_length (by simp; omega), flatMap_fB]
  simp [List.map_append, List.map_take, List.map_drop]
/-- a sum under way: m has come so far -/
structure HS (H : Heap) (hb : Nat) (m : List UInt8) (al : UInt64) : Prop where
  ex : ∃ wt : List UInt8, wt.length = 64 ∧ Var 99 H hb (hc (run IV m).1.list wt (run IV m).2.length al) ∧ wt.take (run IV m).2.length = (run IV m).2
theorem HS.nw {H H' : Heap} {hb : Nat} {m : List UInt8} {al : UInt64} (h : HS H hb m al) (s : Nw H H') : HS H' hb m al := let ⟨wt, h1, h2, h3⟩ := h.ex; ⟨wt, h1, h2.nw s, h3⟩
theorem HS.up {H H' : Heap} {hb : Nat} {m : List UInt8} {al : UInt64} {S : Nat → Prop} (h : HS H hb m al) (s : Mo S H H') (hS : ¬ S hb) : HS H' hb m al := let ⟨wt, h1, h2, h3⟩ := h.ex; ⟨wt, h1, h2.up s hS, h3⟩
theorem HS.lt {H : Heap} {hb : Nat} {m : List UInt8} {al : UInt64} (h : HS H hb m al) : hb < H.size := let ⟨_, _, h2, _⟩ := h.ex; h2.lt
def cat (l : List (SV × List UInt8)) : List UInt8 := l.flatMap (·.2)
theorem cat_take (l : List (SV × List UInt8)) (k : Nat) (h : k < l.length) : cat (l.take (k + 1)) = cat (l.take k) ++ (l[k]).2 := by
  unfold cat; rw [List.take_succ_eq_append_getElem h, List.flatMap_append]; simp

theorem new_ct  (w0 : World) (H0 : Heap)
     :
    Ct Try.prog w0 43 #[] H0 (fun r H2 => r = .pointer (some ⟨H0.size, 0, none⟩) ∧ HS H2 H0.size [] 0 ∧ Nw H0 H2 ∧ H2.size = H0.size + 1) := by
  refine Ct.enter (args := []) Try.func43 rfl rfl rfl ?_
  intro Q0 hret
  refine CW.seq (fun K1 hK1 hE1 => ?_)
  refine CW.region ?_
  refine LR.v (Y.assign rfl rfl) (Wd.u rfl) rfl rfl ?_
  refine LR.nil ?_
  refine hK1 _ _ ?_
  refine CW.seq (fun K2 hK2 hE2 => ?_)
  refine CW.region ?_
  refine LR.v (Y.build (v := .agg (IV.list.map V32).toArray) rfl rfl (by intro w; kernel_rfl)) (Wd.u rfl) rfl rfl ?_
  refine LR.v (Y.build (v := .agg (hc IV.list (List.replicate 64 0) 0 0).toArray) rfl rfl (by intro w; kernel_rfl)) (Wd.u rfl) rfl rfl ?_
  refine LR.z (Z.boxv rfl rfl) (Wd.u rfl) rfl rfl (fun v3 H3 r3 => ?_)
  obtain ⟨rfl, va3, hs3, ob3, hH3⟩ := r3
  replace va3 : Var 99 H3 H0.size (hc IV.list (List.replicate 64 0) 0 0) := va3
  refine LR.v (Y.assign rfl rfl) (Wd.u rfl) rfl rfl ?_
  refine LR.nil ?_
  refine hK2 _ _ ?_
  refine CW.ret (hret .ret (.inr rfl) _ _ _ (res1 rfl rfl) ?_)
  exact ⟨rfl, ⟨List.replicate 64 0, by simp, by rw [run_lt IV [] (by simp)]; exact va3, by rw [run_lt IV [] (by simp)]; rfl⟩, hs3, by rw [hH3]; simp⟩


theorem run_part {c x wt : List UInt8} {n : Nat} (hn : (run IV c).2.length = n) (hb : wt.take n = (run IV c).2) (hw : wt.length = 64) (h : n + x.length < 64) : run IV (c ++ x) = ((run IV c).1, wt.take n ++ x) := by
  rw [run_more, run_lt _ _ (by simp; omega), hb]
theorem run_full {c x wt : List UInt8} {n : Nat} (hn : (run IV c).2.length = n) (hb : wt.take n = (run IV c).2) (hw : wt.length = 64) (h : n + x.length = 64) : run IV (c ++ x) = (compress (run IV c).1 (wt.take n ++ x ++ wt.drop (n + x.length)), []) := by
  have hl : (wt.take n ++ x).length = 64 := by simp; omega
  rw [run_more, ← hb, run_ge _ _ (by omega), List.take_of_length_le (by omega), List.drop_of_length_le (by omega), run_lt _ _ (by simp), List.drop_of_length_le (show wt.length ≤ n + x.length by omega), List.append_nil]
theorem join_take {wt x : List UInt8} {n : Nat} (hw : wt.length = 64) (h : n + x.length ≤ 64) : (wt.take n ++ x ++ wt.drop (n + x.length)).length = 64 ∧ (wt.take n ++ x ++ wt.drop (n + x.length)).take (n + x.length) = wt.take n ++ x := by
  have hl : (wt.take n ++ x).length = n + x.length := by simp; omega
  exact ⟨by simp; omega, List.take_left' hl⟩

set_option maxHeartbeats 4000000 in
theorem write_ct (hb : Nat) (vl : Value) (m : List UInt8) (al : UInt64) (l : List (SV × List UInt8)) (w0 : World) (H0 : Heap)
    (hS : HS H0 hb m al) (hl : Rd (fun b => b ≠ hb) H0 fP 1 vl l) (hx : ∀ x ∈ l, Rd (fun b => b ≠ hb) H0 fB 1 x.1.v x.2) :
    Ct Try.prog w0 44 #[.pointer (some ⟨hb, 0, none⟩), vl] H0 (fun r H2 => r = .tuple #[] ∧ HS H2 hb (m ++ cat l) (al + UInt64.ofNat (cat l).length) ∧ Mo (fun c => c = hb) H0 H2) := by
  refine Ct.enter (args := [.pointer (some ⟨hb, 0, none⟩), vl]) Try.func44 rfl rfl rfl ?_
  intro Q0 hret
  have hll := hl.len
  refine CW.seq (fun K1 hK1 hE1 => ?_)
  refine CW.region ?_
  refine LR.v (Y.move rfl rfl) (Wd.u rfl) rfl rfl ?_
  refine LR.v (Y.len hl rfl Try.runUnderlying76 rfl) (Wd.u rfl) rfl rfl ?_
  refine LR.v (Y.move rfl rfl) (Wd.u rfl) rfl rfl ?_
  refine LR.nil ?_
  refine hK1 _ _ ?_
  refine CW.block (fun K2 hK2 hX2 hE2 => ?_)
  refine CW.loop (fun (k : (Nat)) => [(0, .pointer (some ⟨hb, 0, none⟩)), (7, vl), (8, .int .i64 l.length), (9, .int .i64 k)])
    (fun (k : (Nat)) (H : Heap) => k ≤ l.length ∧ HS H hb (m ++ cat (l.take k)) (al + UInt64.ofNat (cat (l.take k)).length) ∧ Mo (fun c => c = hb) H0 H)
    (fun (k : (Nat)) => l.length - k) 0 ⟨rfl, rfl, rfl, rfl, trivial⟩ ?_ ?_
  ·
    exact ⟨by omega, by simpa [cat] using hS, Mo.refl _ _⟩
  intro k HL1 hI1 K3 hN3 hE3
  obtain ⟨hk, hS, hm⟩ := hI1
  obtain ⟨wt, hwt, hv, hbuf⟩ := hS.ex
  have hl2 := hl.up hm (fun _ _ h1 h2 => h1 h2)
  refine CW.seq (fun K4 hK4 hE4 => ?_)
  refine CW.region ?_
  refine LR.v (Y.lss rfl rfl rfl) (Wd.u rfl) rfl rfl ?_
  refine LR.nil ?_
  refine hK4 _ _ ?_
  refine CW.seq (fun K5 hK5 hE5 => ?_)
  refine CW.condp rfl (fun c10 => ?_) (fun c10 => ?_)
  ·
    refine CW.skip ?_
    refine hK5 _ _ ?_
    refine CW.seq (fun K6 hK6 hE6 => ?_)
    refine CW.block (fun K7 hK7 hX7 hE7 => ?_)
    refine CW.seq (fun K8 hK8 hE8 => ?_)
    refine CW.region ?_
    refine LR.e (g := fun ad => .pointer (some ad)) (Y.indexAddr hl2 (k) rfl Try.runUnderlying76 Try.sizeOf22 rfl rfl (by first | rfl | omega) (by first | omega | (simp; omega) | (simp; done))) (Wd.u rfl) rfl rfl (fun ad11 pt11 => ?_)
    refine LR.v (Y.load1 pt11 rfl Try.isAgg22 rfl) (Wd.u rfl) rfl rfl ?_
    have hr0 := (hx l[k] (List.getElem_mem _)).up hm (fun _ _ h1 h2 => h1 h2)
    have hrl := hr0.len
    refine LR.v (Y.assign rfl rfl) (Wd.u rfl) rfl rfl ?_
    refine LR.nil ?_
    refine hK8 _ _ ?_
    refine CW.seq (fun K9 hK9 hE9 => ?_)
    refine CW.region ?_
    refine LR.v (Y.move rfl rfl) (Wd.u rfl) rfl rfl ?_
    refine LR.v (Y.nilCheck rfl rfl) (Wd.u rfl) rfl rfl ?_
    refine LR.v (Y.fieldAddr hv.pt rfl Try.runUnderlying99 rfl rfl Try.sizeOf84 (by decide) rfl) (Wd.u rfl) rfl rfl ?_
    refine LR.v (Y.load1 (hv.pt.at 73 (hc_all rfl hwt)) rfl Try.isAgg84 rfl) (Wd.u rfl) rfl rfl ?_
    refine LR.v (Y.move rfl rfl) (Wd.u rfl) rfl rfl ?_
    refine LR.v (Y.len hr0 rfl Try.runUnderlying22 rfl) (Wd.u rfl) rfl rfl ?_
    refine LR.v (Y.conv_u64 rfl Try.runUnderlying3 Try.runUnderlying84 rfl) (Wd.u rfl) rfl rfl ?_
    refine LR.v (Y.add_u64 rfl rfl rfl) (Wd.u rfl) rfl rfl ?_
    refine LR.v (Y.nilCheck rfl rfl) (Wd.u rfl) rfl rfl ?_
    refine LR.v (Y.fieldAddr hv.pt rfl Try.runUnderlying99 rfl rfl Try.sizeOf84 (by decide) rfl) (Wd.u rfl) rfl rfl ?_
    refine LR.s (S.var1 hv 73 (_) rfl rfl rfl (rfl) Try.sizeOf84 (by rw [hc_len rfl hwt]; omega) (hc_set_all rfl hwt)) (Wd.u rfl) rfl (fun H3_10 r3_10 => ?_)
    obtain ⟨hv, hst3⟩ := r3_10
    replace hm := hm.trans hst3 (fun _ _ e => e) (fun _ _ e => e)
    replace hr0 := hr0.up hst3 (fun _ _ h1 h2 => h1 h2)
    refine LR.nil ?_
    refine hK9 _ _ ?_
    refine CW.block (fun K10 hK10 hX10 hE10 => ?_)
    refine CW.loop (fun (s_ : (Value) × (List UInt8) × (List UInt8) × (List UInt8)) => match s_ with | (v, r, c, wt) => [(0, .pointer (some ⟨hb, 0, none⟩)), (5, v), (7, vl), (8, .int .i64 l.length), (9, .int .i64 k)])
      (fun (s_ : (Value) × (List UInt8) × (List UInt8) × (List UInt8)) (H : Heap) => match s_ with | (v, r, c, wt) => wt.length = 64 ∧ Var 99 H hb (hc (run IV c).1.list wt (run IV c).2.length (al + UInt64.ofNat (cat (l.take k)).length + UInt64.ofNat (l[k]).2.length)) ∧ wt.take (run IV c).2.length = (run IV c).2 ∧ Rd (fun b => b ≠ hb) H fB 1 v r ∧ c ++ r = m ++ cat (l.take k) ++ (l[k]).2 ∧ Mo (fun c => c = hb) H0 H)
      (fun (s_ : (Value) × (List UInt8) × (List UInt8) × (List UInt8)) => match s_ with | (v, r, c, wt) => r.length) ((l[k]).1.v, (l[k]).2, m ++ cat (l.take k), wt) ⟨rfl, rfl, rfl, rfl, rfl, trivial⟩ ?_ ?_
    ·
      exact ⟨hwt, hv, hbuf, hr0, rfl, hm⟩
    rintro ⟨v, r, c, wt⟩ HL2 hI2 K11 hN11 hE11
    obtain ⟨hwt, hv, hbuf, hr, hc0, hm⟩ := hI2
    have hrl := hr.len
    refine CW.seq (fun K12 hK12 hE12 => ?_)
    refine CW.seq (fun K13 hK13 hE13 => ?_)
    refine CW.region ?_
    refine LR.v (Y.move rfl rfl) (Wd.u rfl) rfl rfl ?_
    refine LR.v (Y.len hr rfl Try.runUnderlying22 rfl) (Wd.u rfl) rfl rfl ?_
    refine LR.v (Y.gtr rfl rfl rfl) (Wd.u rfl) rfl rfl ?_
    refine LR.nil ?_
    refine hK13 _ _ ?_
    refine CW.condp rfl (fun c25 => ?_) (fun c25 => ?_)
    ·
      refine CW.skip ?_
      refine hK12 _ _ ?_
      refine CW.block (fun K14 hK14 hX14 hE14 => ?_)
      refine CW.seq (fun K15 hK15 hE15 => ?_)
      have hn64 := run_rest IV c
      obtain ⟨n, hn⟩ : ∃ n, (run IV c).2.length = n := ⟨_, rfl⟩
      rw [hn] at hv hbuf hn64
      obtain ⟨kk, hkk⟩ : ∃ kk, min r.length (64 - n) = kk := ⟨_, rfl⟩
      have hkl : (r.take kk).length = kk := by simp; omega
      obtain ⟨hj1, hj2⟩ := join_take (x := r.take kk) (n := n) hwt (by omega)
      refine CW.region_tail 9 rfl (by kernel_rfl) (fun T5 hT5 => ?_)
      refine LR.v (Y.move rfl rfl) (Wd.u rfl) rfl rfl ?_
      refine LR.v (Y.nilCheck rfl rfl) (Wd.u rfl) rfl rfl ?_
      refine LR.v (Y.fieldAddr hv.pt rfl Try.runUnderlying99 rfl rfl Try.sizeOf97 (by decide) rfl) (Wd.u rfl) rfl rfl ?_
      refine LR.v (Y.move rfl rfl) (Wd.u rfl) rfl rfl ?_
      refine LR.v (Y.nilCheck rfl rfl) (Wd.u rfl) rfl rfl ?_
      refine LR.v (Y.fieldAddr hv.pt rfl Try.runUnderlying99 rfl rfl Try.sizeOf3 (by decide) rfl) (Wd.u rfl) rfl rfl ?_
      refine LR.v (Y.load1 (hv.pt.at 72 (hc_n rfl hwt)) rfl Try.isAgg3 rfl) (Wd.u rfl) rfl rfl ?_
      refine LR.v ((Y.sliceArr (F := fun c => c = hb) (f := fB) (xs := wt) (hv.pt.drop 8) rfl hv.lt (hwt) (fun i x h => hc_wait rfl i x h) (n) (64) rfl (fun w => .inl (Try.runUnderlying97 w)) Try.sizeOf5 rfl (.inr ⟨_, _, _, rfl, rfl, by first | rfl | omega⟩) (.inl ⟨rfl, rfl⟩) (by omega) (by omega) (by decide)).1 _) (Wd.u rfl) rfl rfl ?_
      rw [if_neg (by omega)]
      refine LR.v (Y.move rfl rfl) (Wd.u rfl) rfl rfl ?_
      refine LR.nil (hT5 _ ?_)
      refine LR.z (Z.copy (off := 8 + n) hv hr fB_len fB_one rfl Try.underlying22 Try.sizeOf5 rfl rfl (by rw [hc_len rfl hwt]; omega) (kk) (by omega)) (Wd.u rfl) rfl rfl (fun v35 H35 r35 => ?_)
      obtain ⟨rfl, hv, hs35⟩ := r35
      rw [hc_splice rfl hwt (by omega)] at hv
      replace hr := hr.up hs35 (fun _ _ h1 h2 => h1 h2)
      replace hm := hm.trans hs35 (fun _ _ e => e) (fun _ _ e => e)
      refine LR.v (Y.assign rfl rfl) (Wd.u rfl) rfl rfl ?_
      refine LR.nil ?_
      refine hK15 _ _ ?_
      refine CW.seq (fun K16 hK16 hE16 => ?_)
      refine CW.region ?_
      refine LR.v (Y.move rfl rfl) (Wd.u rfl) rfl rfl ?_
      refine LR.v (Y.nilCheck rfl rfl) (Wd.u rfl) rfl rfl ?_
      refine LR.v (Y.fieldAddr hv.pt rfl Try.runUnderlying99 rfl rfl Try.sizeOf3 (by decide) rfl) (Wd.u rfl) rfl rfl ?_
      refine LR.v (Y.load1 (hv.pt.at 72 (hc_n rfl hj1)) rfl Try.isAgg3 rfl) (Wd.u rfl) rfl rfl ?_
      refine LR.v (Y.move rfl rfl) (Wd.u rfl) rfl rfl ?_
      refine LR.v (Y.addi rfl rfl rfl (by omega)) (Wd.u rfl) rfl rfl ?_
      refine LR.v (Y.nilCheck rfl rfl) (Wd.u rfl) rfl rfl ?_
      refine LR.v (Y.fieldAddr hv.pt rfl Try.runUnderlying99 rfl rfl Try.sizeOf3 (by decide) rfl) (Wd.u rfl) rfl rfl ?_
      refine LR.s (S.var1 hv 72 (hc (run IV c).1.list (wt.take n ++ r.take kk ++ wt.drop (n + (r.take kk).length)) (n + kk) (al + UInt64.ofNat (cat (l.take k)).length + UInt64.ofNat (l[k]).2.length)) rfl rfl rfl (rfl) Try.sizeOf3 (by rw [hc_len rfl hj1]; omega) (by rw [← hc_set_n (m := n + kk) (n := n) rfl hj1, Int.natCast_add])) (Wd.u rfl) rfl (fun H6_8 r6_8 => ?_)
      obtain ⟨hv, hs6⟩ := r6_8
      replace hr := hr.up hs6 (fun _ _ h1 h2 => h1 h2)
      replace hm := hm.trans hs6 (fun _ _ e => e) (fun _ _ e => e)
      refine LR.nil ?_
      refine hK16 _ _ ?_
      refine CW.seq (fun K17 hK17 hE17 => ?_)
      refine CW.region ?_
      refine LR.v (Y.move rfl rfl) (Wd.u rfl) rfl rfl ?_
      refine LR.v (Y.move rfl rfl) (Wd.u rfl) rfl rfl ?_
      refine LR.e (g := fun v => v) (Y.slice hr (kk) (_) rfl Try.runUnderlying22 Try.sizeOf5 rfl (.inr ⟨_, _, _, rfl, rfl, by first | rfl | omega⟩) (.inl ⟨rfl, rfl⟩) (by omega) (by omega)) (Wd.u rfl) rfl rfl (fun v46 rd46 => ?_)
      rw [List.take_length] at rd46
      refine LR.v (Y.assign rfl rfl) (Wd.u rfl) rfl rfl ?_
      refine LR.nil ?_
      refine hK17 _ _ ?_
      refine CW.seq (fun K18 hK18 hE18 => ?_)
      refine CW.region ?_
      refine LR.v (Y.move rfl rfl) (Wd.u rfl) rfl rfl ?_
      refine LR.v (Y.nilCheck rfl rfl) (Wd.u rfl) rfl rfl ?_
      refine LR.v (Y.fieldAddr hv.pt rfl Try.runUnderlying99 rfl rfl Try.sizeOf3 (by decide) rfl) (Wd.u rfl) rfl rfl ?_
      refine LR.v (Y.load1 (hv.pt.at 72 (hc_n rfl hj1)) rfl Try.isAgg3 rfl) (Wd.u rfl) rfl rfl ?_
      refine LR.v (Y.eql rfl rfl rfl) (Wd.u rfl) rfl rfl ?_
      refine LR.nil ?_
      refine hK18 _ _ ?_
      refine CW.condp rfl (fun c51 => ?_) (fun c51 => ?_)
      ·
        refine CW.region ?_
        refine LR.v (Y.move rfl rfl) (Wd.u rfl) rfl rfl ?_
        -- call (*selvage/sum.Hash).block
        refine LR.call rfl Try.call60 rfl (Wd.u rfl) rfl rfl (block_ct hb _ _ _ _ w0 _ hv hj1) (fun v53 H53 r53 => ?_)
        obtain ⟨rfl, hv, hs53⟩ := r53
        replace rd46 := rd46.up hs53 (fun _ _ h1 h2 => h1 h2)
        replace hm := hm.trans hs53 (fun _ _ e => e) (fun _ _ e => e)
        refine LR.nil ?_
        refine hK14 _ _ ?_
        have hrn := run_full (x := r.take kk) (c := c) (wt := wt) hn hbuf hwt (by omega)
        refine QN.sub (hN11 (v46, r.drop kk, c ++ r.take kk, wt.take n ++ r.take kk ++ wt.drop (n + (r.take kk).length)) _ ?_ ?_) ⟨rfl, rfl, rfl, (iv (by omega)), (iv (by omega)), trivial⟩
        · exact ⟨hj1, by rw [hrn]; exact hv, by rw [hrn]; rfl, rd46, by rw [List.append_assoc, List.take_append_drop]; exact hc0, hm⟩
        · show (r.drop kk).length < r.length; rw [List.length_drop]; omega
      ·
        refine CW.skip ?_
        refine hK14 _ _ ?_
        have hrn := run_part (x := r.take kk) (c := c) (wt := wt) hn hbuf hwt (by omega)
        have hl2 : (wt.take n ++ r.take kk).length = n + kk := by rw [List.length_append, List.length_take]; omega
        refine QN.sub (hN11 (v46, r.drop kk, c ++ r.take kk, wt.take n ++ r.take kk ++ wt.drop (n + (r.take kk).length)) _ ?_ ?_) ⟨rfl, rfl, rfl, (iv (by omega)), (iv (by omega)), trivial⟩
        · exact ⟨hj1, by rw [hrn]; simp only; rw [hl2]; exact hv, by rw [hrn]; simp only; rw [hl2]; simpa only [hkl] using hj2, rd46, by rw [List.append_assoc, List.take_append_drop]; exact hc0, hm⟩
        · show (r.drop kk).length < r.length; rw [List.length_drop]; omega
    ·
      have hr0 : r = [] := List.eq_nil_of_length_eq_zero (by omega)
      subst hr0
      rw [List.append_nil] at hc0
      subst hc0
      refine CW.exit (hE12 (.exit 2) nofun _ _ (hE11 (.exit 2) nofun _ _ (hX10 _ _ ?_)))
      refine hK7 _ _ ?_
      refine hK6 _ _ ?_
      refine CW.region ?_
      refine LR.v (Y.addi rfl rfl rfl (by omega)) (Wd.u rfl) rfl rfl ?_
      refine LR.v (Y.move rfl rfl) (Wd.u rfl) rfl rfl ?_
      refine LR.nil ?_
      refine QN.sub (hN3 (k + 1) _ ?_ ?_) ⟨rfl, rfl, (iv (by omega)), (iv (by omega)), trivial⟩
      · exact ⟨by omega, ⟨wt, hwt, by rw [cat_take l k (by omega), ← List.append_assoc, List.length_append, UInt64.ofNat_add, ← UInt64.add_assoc]; exact hv, by rw [cat_take l k (by omega), ← List.append_assoc]; exact hbuf⟩, hm⟩
      · omega
  ·
    refine CW.exit (hE5 (.exit 0) nofun _ _ (hE3 (.exit 0) nofun _ _ (hX2 _ _ ?_)))
    refine hret .normal (.inl rfl) _ _ _ (res0 rfl) ?_
    have hkl : k = l.length := by omega
    subst hkl
    rw [List.take_length] at hS
    exact ⟨rfl, hS, hm⟩

end Go.Proofs.Ytegfnfhdgbcjbaa.SumD
