/-
  Numbers read and written, rows compared from the front.
-/
import Derived.Test.YtjkjdpainenofaaNum
namespace Go.Proofs.Ytjkjdpainenofaa.DelA
open Go.Proofs.Ytjkjdpainenofaa.E Go.RowKit Go.Proofs.Ytjkjdpainenofaa.Num
set_option linter.unusedVariables false
set_option linter.unusedSimpArgs false
set_option linter.unusedSectionVars false
theorem inf22 : Inf Try.prog 22 5 1 1 := ⟨Try.underlying22, _, _, rfl, rfl, rfl, rfl, rfl⟩

def be32 (n : Nat) : List UInt8 := [UInt8.ofNat (n / 2 ^ 24), UInt8.ofNat (n / 2 ^ 16), UInt8.ofNat (n / 2 ^ 8), UInt8.ofNat n]
def bev (v : Nat) (l : List UInt8) : Nat := l.foldl (fun v x => v * 256 + x.toNat) v
theorem be32_len (n : Nat) : (be32 n).length = 4 := rfl
theorem num_be32 (n : Nat) (h : n < 18446744073709551616) : numL 4 (UInt64.ofNat n) = be32 n := by
  have e : ∀ j, (shrw_u64 (UInt64.ofNat n) j).toNat = n / 2 ^ j := fun j => by rw [shrw_u64_toNat, UInt64.toNat_ofNat', Nat.mod_eq_of_lt h]
  simp only [numL, e, be32]; simp
theorem bev_snoc (v : Nat) (l : List UInt8) (x : UInt8) : bev v (l ++ [x]) = bev v l * 256 + x.toNat := by simp [bev]
theorem bev_lt : ∀ (l : List UInt8) (v : Nat), bev v l < (v + 1) * 256 ^ l.length
  | [], v => by simp [bev]
  | x :: l, v => by
    have hx := x.toNat_lt
    have := bev_lt l (v * 256 + x.toNat)
    have e : bev v (x :: l) = bev (v * 256 + x.toNat) l := rfl
    rw [e, List.length_cons, Nat.pow_succ]
    refine Nat.lt_of_lt_of_le this ?_
    have : v * 256 + x.toNat + 1 ≤ (v + 1) * 256 := by omega
    calc (v * 256 + x.toNat + 1) * 256 ^ l.length ≤ ((v + 1) * 256) * 256 ^ l.length := Nat.mul_le_mul_right _ this
      _ = (v + 1) * (256 ^ l.length * 256) := by rw [Nat.mul_assoc, Nat.mul_comm 256]
theorem bev4 (l : List UInt8) (h : l.length ≤ 4) : bev 0 l < 4294967296 := by
  have := bev_lt l 0
  have h2 : 256 ^ l.length ≤ 256 ^ 4 := Nat.pow_le_pow_right (by decide) h
  omega
theorem or256 (a : Nat) (x : UInt8) : a * 2 ^ 8 ||| x.toNat = a * 256 + x.toNat := by
  rw [Nat.mul_comm, ← Nat.two_pow_add_eq_or_of_lt x.toNat_lt]
theorem td_succ (b : List UInt8) (a i : Nat) (h : a + i < b.length) : (b.drop a).take (i + 1) = (b.drop a).take i ++ [b[a + i]] := by
  rw [List.take_succ_eq_append_getElem (by simp; omega), List.getElem_drop]
theorem flat4_len : ∀ l : List Nat, (l.flatMap be32).length = l.length * 4
  | [] => rfl
  | x :: l => by rw [List.flatMap_cons, List.length_append, flat4_len l, List.length_cons, be32_len]; omega
theorem bev_be32 (n : Nat) (h : n < 4294967296) : bev 0 (be32 n) = n := by
  simp only [bev, be32, List.foldl_cons, List.foldl_nil, UInt8.toNat_ofNat']; omega

theorem get_ct (v : Value) (b : List UInt8) (a n : Nat) (w0 : World) (H0 : Heap)
    (hr : RdT H0 fB 1 v b) (hn : n ≤ 4) (ha : a + n ≤ b.length) :
    Ct Try.prog w0 16 #[v, .int .i64 a, .int .i64 n] H0 (fun r H2 => r = .int .i64 (bev 0 ((b.drop a).take n) : Nat) ∧ Nw H0 H2) := by
  refine Ct.enter (args := [v, .int .i64 a, .int .i64 n]) Try.func16 rfl rfl rfl ?_
  intro Q0 hret
  have hm0 : Nw H0 H0 := Mo.refl _ _
  replace hr := hr.bnd
  have bf_hr := Rd.bf hr
  have hbl := hr.len
  refine CW.seq (fun K1 hK1 hE1 => ?_)
  refine CW.region ?_
  refine LR.v (Y.assign rfl rfl) (Wd.u rfl) rfl rfl ?_
  refine LR.nil ?_
  refine hK1 _ _ ?_
  refine CW.seq (fun K2 hK2 hE2 => ?_)
  refine CW.region ?_
  refine LR.v (Y.assign rfl rfl) (Wd.u rfl) rfl rfl ?_
  refine LR.nil ?_
  refine hK2 _ _ ?_
  refine CW.seq (fun K3 hK3 hE3 => ?_)
  refine CW.seq (fun K4 hK4 hE4 => ?_)
  refine CW.region ?_
  refine LR.v (Y.assign rfl rfl) (Wd.u rfl) rfl rfl ?_
  refine LR.nil ?_
  refine hK4 _ _ ?_
  refine CW.block (fun K5 hK5 hX5 hE5 => ?_)
  refine CW.loop (fun (i : (Nat)) => [(0, v), (1, .int .i64 a), (2, .int .i64 n), (7, .int .i64 (bev 0 ((b.drop a).take i) : Nat)), (8, .int .i64 i)])
    (fun (i : (Nat)) (H : Heap) => (i ≤ n) ∧ Nw H0 H)
    (fun (i : (Nat)) => n - i) 0 ⟨rfl, rfl, rfl, rfl, rfl, trivial⟩ ?_ ?_
  ·
    exact ⟨(by omega), Mo.refl _ _⟩
  intro i HL1 hI1 K6 hN6 hE6
  obtain ⟨hi, hlm1⟩ := hI1
  replace hr := hr.nw hlm1
  replace hm0 := hm0.tr hlm1
  have hz1 := hlm1.size
  have hb4 := bev4 ((b.drop a).take i) (by simp; omega)
  refine CW.seq (fun K7 hK7 hE7 => ?_)
  refine CW.seq (fun K8 hK8 hE8 => ?_)
  refine CW.region ?_
  refine LR.v (Y.move rfl rfl) (Wd.u rfl) rfl rfl ?_
  refine LR.v (Y.move rfl rfl) (Wd.u rfl) rfl rfl ?_
  refine LR.v (Y.lss rfl rfl rfl) (Wd.u rfl) rfl rfl ?_
  refine LR.nil ?_
  refine hK8 _ _ ?_
  refine CW.condp rfl (fun c11 => ?_) (fun c11 => ?_)
  ·
    refine CW.skip ?_
    refine hK7 _ _ ?_
    refine CW.seq (fun K9 hK9 hE9 => ?_)
    refine CW.block (fun K10 hK10 hX10 hE10 => ?_)
    refine CW.region ?_
    refine LR.v (Y.move rfl rfl) (Wd.u rfl) rfl rfl ?_
    refine LR.v (Y.shln (8) rfl rfl rfl (by first | rfl | omega) (by omega) (by have := bev_lt ((b.drop a).take i) 0; have h2 : 256 ^ ((b.drop a).take i).length ≤ 256 ^ 4 := Nat.pow_le_pow_right (by decide) (by simp; omega); omega)) (Wd.u rfl) rfl rfl ?_
    refine LR.v (Y.move rfl rfl) (Wd.u rfl) rfl rfl ?_
    refine LR.v (Y.move rfl rfl) (Wd.u rfl) rfl rfl ?_
    refine LR.v (Y.move rfl rfl) (Wd.u rfl) rfl rfl ?_
    refine LR.v (Y.addi rfl rfl rfl (by omega)) (Wd.u rfl) rfl rfl ?_
    refine LR.e (g := fun ad => .pointer (some ad)) (Y.indexAddr hr (a + i) rfl Try.runUnderlying22 Try.sizeOf5 rfl rfl (by first | rfl | omega) (by first | omega | (simp; omega) | (simp; done))) (Wd.u rfl) rfl rfl (fun ad20 pt20 => ?_)
    refine LR.v (Y.load1 pt20 rfl Try.isAgg5 rfl) (Wd.u rfl) rfl rfl ?_
    refine LR.v (Y.conv8i rfl Try.runUnderlying5 Try.runUnderlying3 rfl) (Wd.u rfl) rfl rfl ?_
    refine LR.v (Y.orn rfl rfl rfl (by omega) (by have := (b[a + i]).toNat_lt; omega)) (Wd.u rfl) rfl rfl ?_
    refine LR.v (Y.assign rfl rfl) (Wd.u rfl) rfl rfl ?_
    refine LR.nil ?_
    refine hK10 _ _ ?_
    refine hK9 _ _ ?_
    refine CW.region ?_
    refine LR.v (Y.move rfl rfl) (Wd.u rfl) rfl rfl ?_
    refine LR.v (Y.addi rfl rfl rfl (by omega)) (Wd.u rfl) rfl rfl ?_
    refine LR.v (Y.assign rfl rfl) (Wd.u rfl) rfl rfl ?_
    refine LR.nil ?_
    refine QN.sub (hN6 (i + 1) _ ?_ ?_) ⟨rfl, (iv (by omega)), (iv (by omega)), (by rw [td_succ b a i (by omega), bev_snoc, ← or256]; rfl), (iv (by omega)), trivial⟩
    · exact ⟨(by omega), hlm1⟩
    · first | omega | (simp only; omega) | (simp; omega)
  ·
    obtain rfl : i = n := by omega
    refine CW.exit (hE7 (.exit 0) nofun _ _ (hE6 (.exit 0) nofun _ _ (hX5 _ _ ?_)))
    refine hK3 _ _ ?_
    refine CW.seq (fun K11 hK11 hE11 => ?_)
    refine CW.region ?_
    refine LR.v (Y.move rfl rfl) (Wd.u rfl) rfl rfl ?_
    refine LR.v (Y.assign rfl rfl) (Wd.u rfl) rfl rfl ?_
    refine LR.nil ?_
    refine hK11 _ _ ?_
    refine CW.ret (hret .ret (.inr rfl) _ _ _ (res1 rfl rfl) ?_)
    exact ⟨rfl, hm0⟩

theorem number_ct (k : Nat) (v vl : Value) (xs : List UInt8) (ns : List Nat) (w0 : World) (H0 : Heap)
    (how : Ow k 5 H0 fB 1 v xs) (hlk : Rd (fun b => b + 1 ≠ k) H0 fI 1 vl (ns.map (fun n : Nat => (n : Int)))) (hnl : ns.length ≤ 4) (hx : xs.length ≤ 1099511627776) :
    Ct Try.prog w0 20 #[v, vl] H0 (fun r H2 => ∃ v2 : Value, ∃ k2 : Nat, r = v2 ∧ (Ow k2 5 H2 fB 1 v2 (xs ++ ns.flatMap be32)) ∧ (Nx k H0.size k2) ∧ Mo (Ms [k]) H0 H2) := by
  refine Ct.enter (args := [v, vl]) Try.func20 rfl rfl rfl ?_
  intro Q0 hret
  have hm0 : Mo (Ms [k]) H0 H0 := Mo.refl _ _
  have nx_hm0_how := Nx.refl k H0.size
  have hle_how := how.le
  replace hlk := hlk.bnd
  have bf_hlk := Rd.bf hlk
  have df_hlk_how : DF _ k := Rd.dfb hlk (by intro b h; (try simp only at h); omega)
  have hll := hlk.len
  rw [List.length_map] at hll
  refine CW.seq (fun K1 hK1 hE1 => ?_)
  refine CW.region ?_
  refine LR.v (Y.assign rfl rfl) (Wd.u rfl) rfl rfl ?_
  refine LR.nil ?_
  refine hK1 _ _ ?_
  refine CW.seq (fun K2 hK2 hE2 => ?_)
  refine CW.seq (fun K3 hK3 hE3 => ?_)
  refine CW.region ?_
  refine LR.v (Y.move rfl rfl) (Wd.u rfl) rfl rfl ?_
  refine LR.v (Y.cast (v2 := .int .i64 (ns.length : Nat)) (Y.len hlk rfl Try.runUnderlying31 rfl) (by rw [List.length_map])) (Wd.u rfl) rfl rfl ?_
  refine LR.v (Y.move rfl rfl) (Wd.u rfl) rfl rfl ?_
  refine LR.nil ?_
  refine hK3 _ _ ?_
  refine CW.block (fun K4 hK4 hX4 hE4 => ?_)
  refine CW.loop (fun (s_ : (Nat) × (Value) × (Nat)) => match s_ with | (i, v', k') => [(0, v'), (7, vl), (8, .int .i64 ns.length), (9, .int .i64 i)])
    (fun (s_ : (Nat) × (Value) × (Nat)) (H : Heap) => match s_ with | (i, v', k') => (i ≤ ns.length) ∧ (Ow k' 5 H fB 1 v' (xs ++ (ns.take i).flatMap be32)) ∧ (Nx k H0.size (k')) ∧ Mo (Ms [k]) H0 H)
    (fun (s_ : (Nat) × (Value) × (Nat)) => match s_ with | (i, v', k') => ns.length - i) (0, v, k) ⟨rfl, rfl, rfl, rfl, trivial⟩ ?_ ?_
  ·
    exact ⟨(by omega), by simpa using how, Nx.refl _ _, Mo.refl _ _⟩
  rintro ⟨i, v', k'⟩ HL1 hI1 K5 hN5 hE5
  obtain ⟨hi, how, nxl_how, hlm1⟩ := hI1
  have df1 := DF.app (df_hlk_how) (bf_hlk.mono hm0.size) nxl_how
  have nx2 : Nx k H0.size (k') := Nx.tr (nx_hm0_how) nxl_how hm0.size
  replace hlk := hlk.upL hlm1 (DFL.cons df_hlk_how DFL.nil)
  replace hm0 := hm0.trL hlm1 (MIL.cons (MI.app (MI.root (by simp)) (nx_hm0_how) (Nat.le_refl _)) MIL.nil)
  have hz1 := hlm1.size
  have hle_how := how.le
  have nx3 := nxl_how
  have hfl : (xs ++ (ns.take i).flatMap be32).length = xs.length + i * 4 := by rw [List.length_append, flat4_len, List.length_take]; omega
  refine CW.seq (fun K6 hK6 hE6 => ?_)
  refine CW.region ?_
  refine LR.v (Y.lss rfl rfl rfl) (Wd.u rfl) rfl rfl ?_
  refine LR.nil ?_
  refine hK6 _ _ ?_
  refine CW.seq (fun K7 hK7 hE7 => ?_)
  refine CW.condp rfl (fun c10 => ?_) (fun c10 => ?_)
  ·
    refine CW.skip ?_
    refine hK7 _ _ ?_
    refine CW.seq (fun K8 hK8 hE8 => ?_)
    refine CW.block (fun K9 hK9 hX9 hE9 => ?_)
    refine CW.seq (fun K10 hK10 hE10 => ?_)
    refine CW.region ?_
    refine LR.e (g := fun ad => .pointer (some ad)) (Y.indexAddr hlk (i) rfl Try.runUnderlying31 Try.sizeOf3 rfl rfl (by first | rfl | omega) (by rw [List.length_map]; omega)) (Wd.u rfl) rfl rfl (fun ad11 pt11 => ?_)
    refine LR.v (Y.cast (v2 := .int .i64 (ns[i] : Nat)) (Y.load1 pt11 rfl Try.isAgg3 rfl) (by rw [List.getElem_map])) (Wd.u rfl) rfl rfl ?_
    refine LR.v (Y.assign rfl rfl) (Wd.u rfl) rfl rfl ?_
    refine LR.nil ?_
    refine hK10 _ _ ?_
    refine CW.region ?_
    refine LR.v (Y.move rfl rfl) (Wd.u rfl) rfl rfl ?_
    refine LR.v (Y.move rfl rfl) (Wd.u rfl) rfl rfl ?_
    refine LR.v (Y.shrn (24) rfl rfl rfl (by first | rfl | omega) (by omega)) (Wd.u rfl) rfl rfl ?_
    refine LR.v (Y.conv_u8 rfl Try.runUnderlying3 Try.runUnderlying5 rfl) (Wd.u rfl) rfl rfl ?_
    refine LR.v (Y.move rfl rfl) (Wd.u rfl) rfl rfl ?_
    refine LR.v (Y.shrn (16) rfl rfl rfl (by first | rfl | omega) (by omega)) (Wd.u rfl) rfl rfl ?_
    refine LR.v (Y.conv_u8 rfl Try.runUnderlying3 Try.runUnderlying5 rfl) (Wd.u rfl) rfl rfl ?_
    refine LR.v (Y.move rfl rfl) (Wd.u rfl) rfl rfl ?_
    refine LR.v (Y.shrn (8) rfl rfl rfl (by first | rfl | omega) (by omega)) (Wd.u rfl) rfl rfl ?_
    refine LR.v (Y.conv_u8 rfl Try.runUnderlying3 Try.runUnderlying5 rfl) (Wd.u rfl) rfl rfl ?_
    refine LR.v (Y.move rfl rfl) (Wd.u rfl) rfl rfl ?_
    refine LR.v (Y.conv_u8 rfl Try.runUnderlying3 Try.runUnderlying5 rfl) (Wd.u rfl) rfl rfl ?_
    refine LR.z (Z.litw _ (be32 ns[i]) rfl inf22 rfl rfl rfl (by decide) (by decide) fB_len fB_one (rfl)) (Wd.u rfl) rfl rfl (fun v25 H25 r25 => ?_)
    obtain ⟨ow25, hs25, ob25, hH25⟩ := r25
    have hzs25 : H25.size = HL1.size + 1 := by rw [hH25]; simp
    have dj4 : Dj (k') (HL1.size + 1) := Dj.new how.le
    have df5 := (DF.new (bf_hlk.mono hm0.size) : DF _ (HL1.size + 1))
    have nx6 : Nx 0 H0.size (HL1.size + 1) := Nx.new hm0.size
    have nx7 : Nx 0 H0.size (HL1.size + 1) := Nx.new hlm1.size
    replace how := how.nw hs25
    replace hlk := hlk.nw hs25
    replace hm0 := hm0.trN hs25
    replace hlm1 := hlm1.trN hs25
    have hz2 := hs25.size
    refine LR.z (Z.apnd how ow25.rd rfl inf22 rfl rfl (by rw [hfl, be32_len]; omega) (by rw [hfl, be32_len]; omega)) (Wd.u rfl) rfl rfl (fun v26 H26 r26 => ?_)
    obtain ⟨k26, ow26, hk26, hs26⟩ := r26
    replace hk26 : Nx (k') H25.size k26 := hk26
    replace hs26 := hs26.md
    have df8 := DF.app (df1) (bf_hlk.mono hm0.size) hk26
    have dj9 : Dj (HL1.size + 1) k26 := Dj.app (dj4.symm) ow25.le hk26
    have nx10 : Nx k H0.size k26 := Nx.tr (nx2) hk26 hm0.size
    have nx11 : Nx k H0.size k26 := Nx.tr (nx3) hk26 hlm1.size
    replace hlk := hlk.upL hs26 (DFL.cons df1 DFL.nil)
    replace ow25 := ow25.upL hs26 (DL.cons dj4.symm DL.nil)
    replace hm0 := hm0.trL hs26 (MIL.cons (MI.app (MI.root (by simp)) (nx2) (Nat.le_refl _)) MIL.nil)
    replace hlm1 := hlm1.trL hs26 (MIL.cons (MI.app (MI.root (by simp)) (nx3) (Nat.le_refl _)) MIL.nil)
    have hz3 := hs26.size
    have hle_ow26 := ow26.le
    refine LR.v (Y.assign rfl rfl) (Wd.u rfl) rfl rfl ?_
    refine LR.nil ?_
    refine hK9 _ _ ?_
    refine hK8 _ _ ?_
    refine CW.region ?_
    refine LR.v (Y.addi rfl rfl rfl (by omega)) (Wd.u rfl) rfl rfl ?_
    refine LR.v (Y.move rfl rfl) (Wd.u rfl) rfl rfl ?_
    refine LR.nil ?_
    refine QN.sub (hN5 (i + 1, v26, k26) _ ?_ ?_) ⟨rfl, rfl, rfl, (iv (by omega)), trivial⟩
    · exact ⟨(by omega), by rw [List.take_succ_eq_append_getElem (by omega), List.flatMap_append, ← List.append_assoc]; simpa using ow26, nx11, hlm1⟩
    · first | omega | (simp only; omega) | (simp; omega)
  ·
    obtain rfl : i = ns.length := by omega
    rw [List.take_length] at how
    refine CW.exit (hE7 (.exit 0) nofun _ _ (hE5 (.exit 0) nofun _ _ (hX4 _ _ ?_)))
    refine hK2 _ _ ?_
    refine CW.seq (fun K11 hK11 hE11 => ?_)
    refine CW.region ?_
    refine LR.v (Y.move rfl rfl) (Wd.u rfl) rfl rfl ?_
    refine LR.v (Y.assign rfl rfl) (Wd.u rfl) rfl rfl ?_
    refine LR.nil ?_
    refine hK11 _ _ ?_
    refine CW.ret (hret .ret (.inr rfl) _ _ _ (res1 rfl rfl) ?_)
    exact ⟨v', k', rfl, how, nx2, hm0⟩


/-- the first place at which p fails, n at most -/
def IsP (n : Nat) (p : Nat → Bool) (q : Nat) : Prop := q ≤ n ∧ (∀ i, i < q → p i = true) ∧ (q < n → p q = false)
theorem IsP.one {n q r : Nat} {p : Nat → Bool} (h : IsP n p q) (k : IsP n p r) : q = r := by
  obtain ⟨h1, h2, h3⟩ := h
  obtain ⟨k1, k2, k3⟩ := k
  rcases Nat.lt_trichotomy q r with hl | hl | hl
  · have := h3 (by omega); rw [k2 q hl] at this; cases this
  · exact hl
  · have := k3 (by omega); rw [h2 r hl] at this; cases this

theorem same_ct (n : Nat) (fv : Value) (p : Nat → Bool) (w0 : World) (H0 : Heap)
    (hn : n ≤ 9223372036854775807) (hc : ∀ i, i < n → ∀ H', Nw H0 H' → Clo Try.prog w0 fv [.int .i64 i] H' (fun r H2 => r = .bool (p i) ∧ Nw H' H2)) :
    Ct Try.prog w0 17 #[.int .i64 n, fv] H0 (fun r H2 => ∃ q : Nat, r = .int .i64 q ∧ (IsP n p q) ∧ Nw H0 H2) := by
  refine Ct.enter (args := [.int .i64 n, fv]) Try.func17 rfl rfl rfl ?_
  intro Q0 hret
  have hm0 : Nw H0 H0 := Mo.refl _ _
  refine CW.seq (fun K1 hK1 hE1 => ?_)
  refine CW.region ?_
  refine LR.v (Y.assign rfl rfl) (Wd.u rfl) rfl rfl ?_
  refine LR.nil ?_
  refine hK1 _ _ ?_
  refine CW.seq (fun K2 hK2 hE2 => ?_)
  refine CW.seq (fun K3 hK3 hE3 => ?_)
  refine CW.region ?_
  refine LR.v (Y.move rfl rfl) (Wd.u rfl) rfl rfl ?_
  refine LR.v (Y.move rfl rfl) (Wd.u rfl) rfl rfl ?_
  refine LR.nil ?_
  refine hK3 _ _ ?_
  refine CW.block (fun K4 hK4 hX4 hE4 => ?_)
  refine CW.loop (fun (i : (Nat)) => [(0, .int .i64 n), (1, fv), (6, .int .i64 n), (7, .int .i64 i)])
    (fun (i : (Nat)) (H : Heap) => (i ≤ n) ∧ (∀ j, j < i → p j = true) ∧ Nw H0 H)
    (fun (i : (Nat)) => n - i) 0 ⟨rfl, rfl, rfl, rfl, trivial⟩ ?_ ?_
  ·
    exact ⟨(by omega), fun j h => absurd h (by omega), Mo.refl _ _⟩
  intro i HL1 hI1 K5 hN5 hE5
  obtain ⟨hi, hp, hlm1⟩ := hI1
  replace hm0 := hm0.tr hlm1
  have hz1 := hlm1.size
  refine CW.seq (fun K6 hK6 hE6 => ?_)
  refine CW.region ?_
  refine LR.v (Y.lss rfl rfl rfl) (Wd.u rfl) rfl rfl ?_
  refine LR.nil ?_
  refine hK6 _ _ ?_
  refine CW.seq (fun K7 hK7 hE7 => ?_)
  refine CW.condp rfl (fun c8 => ?_) (fun c8 => ?_)
  ·
    refine CW.skip ?_
    refine hK7 _ _ ?_
    refine CW.seq (fun K8 hK8 hE8 => ?_)
    refine CW.block (fun K9 hK9 hX9 hE9 => ?_)
    refine CW.seq (fun K10 hK10 hE10 => ?_)
    refine CW.region ?_
    refine LR.v (Y.move rfl rfl) (Wd.u rfl) rfl rfl ?_
    refine LR.v (Y.assign rfl rfl) (Wd.u rfl) rfl rfl ?_
    refine LR.nil ?_
    refine hK10 _ _ ?_
    refine CW.seq (fun K11 hK11 hE11 => ?_)
    refine CW.region ?_
    refine LR.v (Y.move rfl rfl) (Wd.u rfl) rfl rfl ?_
    refine LR.v (Y.move rfl rfl) (Wd.u rfl) rfl rfl ?_
    refine LR.calld rfl rfl rfl (Wd.u rfl) rfl rfl (hc i (by omega) _ hm0) (fun v12 H12 r12 => ?_)
    obtain ⟨rfl, hs12⟩ := r12
    replace hm0 := hm0.tr hs12
    replace hlm1 := hlm1.tr hs12
    have hz2 := hs12.size
    refine LR.v (Y.not rfl rfl) (Wd.u rfl) rfl rfl ?_
    refine LR.nil ?_
    refine hK11 _ _ ?_
    refine CW.cond rfl (fun c13 => ?_) (fun c13 => ?_)
    ·
      refine CW.seq (fun K12 hK12 hE12 => ?_)
      refine CW.region ?_
      refine LR.v (Y.move rfl rfl) (Wd.u rfl) rfl rfl ?_
      refine LR.v (Y.assign rfl rfl) (Wd.u rfl) rfl rfl ?_
      refine LR.nil ?_
      refine hK12 _ _ ?_
      refine CW.ret (hE9 .ret nofun (by simp) _ _ (hE8 .ret nofun _ _ (hE5 .ret nofun _ _ (hE4 .ret nofun (by simp) _ _ (hE2 .ret nofun _ _ (hret .ret (.inr rfl) _ _ _ (res1 rfl rfl) ?_))))))
      exact ⟨i, rfl, ⟨by omega, hp, fun _ => by simpa using c13⟩, hm0⟩
    ·
      refine CW.skip ?_
      refine hK9 _ _ ?_
      refine hK8 _ _ ?_
      refine CW.region ?_
      refine LR.v (Y.addi rfl rfl rfl (by omega)) (Wd.u rfl) rfl rfl ?_
      refine LR.v (Y.move rfl rfl) (Wd.u rfl) rfl rfl ?_
      refine LR.nil ?_
      refine QN.sub (hN5 (i + 1) _ ?_ ?_) ⟨(iv (by omega)), rfl, (iv (by omega)), (iv (by omega)), trivial⟩
      · exact ⟨(by omega), fun j h => by
          by_cases h2 : j < i
          · exact hp j h2
          · obtain rfl : j = i := by omega
            simpa using c13, hlm1⟩
      · first | omega | (simp only; omega) | (simp; omega)
  ·
    refine CW.exit (hE7 (.exit 0) nofun _ _ (hE5 (.exit 0) nofun _ _ (hX4 _ _ ?_)))
    refine hK2 _ _ ?_
    refine CW.seq (fun K13 hK13 hE13 => ?_)
    refine CW.region ?_
    refine LR.v (Y.move rfl rfl) (Wd.u rfl) rfl rfl ?_
    refine LR.v (Y.assign rfl rfl) (Wd.u rfl) rfl rfl ?_
    refine LR.nil ?_
    refine hK13 _ _ ?_
    refine CW.ret (hret .ret (.inr rfl) _ _ _ (res1 rfl rfl) ?_)
    obtain rfl : i = n := by omega
    exact ⟨i, rfl, ⟨by omega, hp, fun h => absurd h (by omega)⟩, hm0⟩

end Go.Proofs.Ytjkjdpainenofaa.DelA
