/-
  Contracts of functions of the program
-/
import Derived.Test.YtadgeooceeilpaaLinA
namespace Go.Proofs.Ytadgeooceeilpaa.LinB
open Go.Proofs.Ytadgeooceeilpaa.E Go.RowKit Go.Proofs.Ytadgeooceeilpaa.LinM Go.Proofs.Ytadgeooceeilpaa.LinA
set_option linter.unusedVariables false
set_option linter.unusedSimpArgs false
set_option linter.unusedSectionVars false
theorem inf44 : Inf Try.prog 44 3 1 8 := ⟨Try.underlying44, _, _, rfl, rfl, rfl, rfl, rfl⟩
theorem inf92 : Inf Try.prog 92 95 1 24 := ⟨Try.underlying92, _, _, rfl, rfl, rfl, rfl, rfl⟩
theorem inf95 : Inf Try.prog 95 94 1 2 := ⟨Try.underlying95, _, _, rfl, rfl, rfl, rfl, rfl⟩

/-- every line of l has its number in m: the number in xs -/
def Num (m : List (List UInt8 × Int)) (l : List (List UInt8)) (xs : List Int) (k : Nat) : Prop := ∀ i s, i < k → l[i]? = some s → mget m s = xs[i]?
theorem mput_new {m : List (List UInt8 × Int)} {s : List UInt8} (h : (mget m s).isSome = false) (b : Int) : mput m s b = m ++ [(s, b)] := by unfold mput; rw [if_neg (by rw [h]; decide)]
theorem num_old {m : List (List UInt8 × Int)} {l : List (List UInt8)} {xs : List Int} {k : Nat} (h : Num m l xs k) (hk : k < l.length) (hx : xs.length = l.length) (b : Bool) (hb : (mget m l[k]).isSome = true) : Num m l (xs.set k ((mget m l[k]).getD 0)) (k + 1) := by
  intro i s hi hs
  rw [List.getElem?_set]
  split
  · rename_i e
    subst e
    rw [if_pos (by omega)]
    have : s = l[k] := by rw [List.getElem?_eq_getElem hk] at hs; exact (Option.some.inj hs).symm
    subst this
    cases hm : mget m l[k] with
    | none => rw [hm] at hb; cases hb
    | some n => rfl
  · exact h i s (by omega) hs
theorem num_new {m : List (List UInt8 × Int)} {l : List (List UInt8)} {xs : List Int} {k : Nat} (h : Num m l xs k) (hk : k < l.length) (hx : xs.length = l.length) (hb : (mget m l[k]).isSome = false) : Num (m ++ [(l[k], (m.length : Int))]) l (xs.set k m.length) (k + 1) := by
  intro i s hi hs
  by_cases e : k = i
  · subst e
    have : s = l[k] := by rw [List.getElem?_eq_getElem hk] at hs; exact (Option.some.inj hs).symm
    subst this
    rw [mget_snoc, List.getElem?_set, if_pos rfl, if_pos (by omega)]
    cases hm : mget m l[k] with
    | none => simp; omega
    | some n => rw [hm] at hb; cases hb
  · have := h i s (by omega) hs
    rw [mget_snoc, List.getElem?_set, if_neg e, this]
    have hi' : i < xs.length := by
      have := (List.getElem?_eq_some_iff.1 hs).1
      omega
    rw [List.getElem?_eq_getElem hi']; rfl

theorem numbers_ct (vm vl : Value) (m0 : List (List UInt8 × Int)) (l : List (List UInt8)) (G : Nat → Prop) (w0 : World) (H0 : Heap)
    (hm : MapOf G H0 Str (Value.int .i64) vm m0) (hl : RdT H0 fS 1 vl l) (hg : GoodM m0) (hlen : l.length ≤ 4000) (hml : m0.length ≤ 1000000) :
    Ct Try.prog w0 59 #[vm, vl] H0 (fun r H2 => ∃ m xs, MapOf G H2 Str (Value.int .i64) vm m ∧ GoodM m ∧ m.length ≤ m0.length + l.length ∧ (∀ s n, mget m0 s = some n → mget m s = some n) ∧ Own (fun b => b = H0.size) 3 H2 fI 1 r xs ∧ xs.length = l.length ∧ Num m l xs l.length ∧ Mo (fun c => c = blk vm) H0 H2) := by
  refine Ct.enter (args := [vm, vl]) Try.func59 rfl rfl rfl ?_
  intro Q0 hret
  replace hl := hl.lt.ne_map hm (fun x => Nat.one_pos)
  have hmb := hm.blk_lt
  have hm0 := hm
  replace hm := hm.lt
  refine CW.seq (fun K1 hK1 hE1 => ?_)
  refine CW.region ?_
  refine LR.v (Y.assign rfl rfl) (Wd.u rfl) rfl rfl ?_
  refine LR.nil ?_
  refine hK1 _ _ ?_
  refine CW.seq (fun K2 hK2 hE2 => ?_)
  refine CW.region ?_
  refine LR.v (Y.move rfl rfl) (Wd.u rfl) rfl rfl ?_
  refine LR.v (Y.len hl rfl Try.runUnderlying22 rfl) (Wd.u rfl) rfl rfl ?_
  refine LR.z (Z.makeSlice (l.length) ((0 : Int)) rfl inf44 Try.zeroValue3 rfl fI_len fI_one rfl rfl (by first | rfl | omega) (by omega) (by omega)) (Wd.u rfl) rfl rfl (fun v12 H12 r12 => ?_)
  obtain ⟨ho, hs, -⟩ := r12
  replace hl := hl.nw hs
  replace hm := hm.nw hs
  refine LR.v (Y.assign rfl rfl) (Wd.u rfl) rfl rfl ?_
  refine LR.nil ?_
  refine hK2 _ _ ?_
  refine CW.seq (fun K3 hK3 hE3 => ?_)
  refine CW.seq (fun K4 hK4 hE4 => ?_)
  refine CW.region ?_
  refine LR.v (Y.move rfl rfl) (Wd.u rfl) rfl rfl ?_
  refine LR.v (Y.len hl rfl Try.runUnderlying22 rfl) (Wd.u rfl) rfl rfl ?_
  refine LR.v (Y.move rfl rfl) (Wd.u rfl) rfl rfl ?_
  refine LR.nil ?_
  refine hK4 _ _ ?_
  refine CW.block (fun K5 hK5 hX5 hE5 => ?_)
  refine CW.loop (fun (s_ : (Nat) × (List (List UInt8 × Int)) × (List Int)) => match s_ with | (k, m, xs) => [(0, vm), (5, v12), (13, vl), (14, .int .i64 l.length), (15, .int .i64 k)])
    (fun (s_ : (Nat) × (List (List UInt8 × Int)) × (List Int)) (H : Heap) => match s_ with | (k, m, xs) => k ≤ l.length ∧ Mo (fun c => c = blk vm) H0 H ∧ Rd (fun b => b < H0.size ∧ b ≠ blk vm) H fS 1 vl l ∧ MapOf (fun b => b = blk vm ∧ b < H0.size) H Str (Value.int .i64) vm m ∧ GoodM m ∧ m.length ≤ m0.length + k ∧ (∀ s n, mget m0 s = some n → mget m s = some n) ∧ Own (fun b => b = H0.size) 3 H fI 1 v12 xs ∧ xs.length = l.length ∧ Num m l xs k)
    (fun (s_ : (Nat) × (List (List UInt8 × Int)) × (List Int)) => match s_ with | (k, m, xs) => l.length - k) (0, m0, List.replicate l.length 0) ⟨rfl, rfl, rfl, rfl, rfl, trivial⟩ ?_ ?_
  ·
    exact ⟨by omega, hs.weaken (fun _ _ e => e.elim), hl, hm, hg, by omega, fun _ _ h => h, ho, by simp, fun i s hi => by omega⟩
  rintro ⟨k, m, xs⟩ H1 hI1 K6 hN6 hE6
  obtain ⟨hk, hs, hl, hm, hg, hml2, hmon, ho, hxl, hnum⟩ := hI1
  refine CW.seq (fun K7 hK7 hE7 => ?_)
  refine CW.region ?_
  refine LR.v (Y.lss rfl rfl rfl) (Wd.u rfl) rfl rfl ?_
  refine LR.nil ?_
  refine hK7 _ _ ?_
  refine CW.seq (fun K8 hK8 hE8 => ?_)
  refine CW.condp rfl (fun c16 => ?_) (fun c16 => ?_)
  ·
    refine CW.skip ?_
    refine hK8 _ _ ?_
    refine CW.seq (fun K9 hK9 hE9 => ?_)
    refine CW.block (fun K10 hK10 hX10 hE10 => ?_)
    refine CW.seq (fun K11 hK11 hE11 => ?_)
    refine CW.region ?_
    refine LR.v (Y.move rfl rfl) (Wd.u rfl) rfl rfl ?_
    refine LR.e (g := fun ad => .pointer (some ad)) (Y.indexAddr hl (_) rfl Try.runUnderlying22 Try.sizeOf9 rfl rfl rfl (by first | omega | (simp; omega) | (simp; done))) (Wd.u rfl) rfl rfl (fun ad18 pt18 => ?_)
    refine LR.v (Y.load1 pt18 rfl Try.isAgg9 rfl) (Wd.u rfl) rfl rfl ?_
    refine LR.v (Y.assign rfl rfl) (Wd.u rfl) rfl rfl ?_
    refine LR.v (Y.assign rfl rfl) (Wd.u rfl) rfl rfl ?_
    refine LR.nil ?_
    refine hK11 _ _ ?_
    refine CW.seq (fun K12 hK12 hE12 => ?_)
    refine CW.region ?_
    refine LR.v (Y.move rfl rfl) (Wd.u rfl) rfl rfl ?_
    refine LR.v (Y.move rfl rfl) (Wd.u rfl) rfl rfl ?_
    refine LR.v (Y.lookupOk hm keyStr rfl Try.runUnderlying89 Try.underlying9 Try.zeroValue3 rfl rfl) (Wd.u rfl) rfl rfl ?_
    refine LR.v (Y.move rfl rfl) (Wd.u rfl) rfl rfl ?_
    refine LR.v (Y.extract rfl rfl rfl) (Wd.u rfl) rfl rfl ?_
    refine LR.v (Y.extract rfl rfl rfl) (Wd.u rfl) rfl rfl ?_
    refine LR.v (Y.assign rfl rfl) (Wd.u rfl) rfl rfl ?_
    refine LR.v (Y.assign rfl rfl) (Wd.u rfl) rfl rfl ?_
    refine LR.nil ?_
    refine hK12 _ _ ?_
    refine CW.seq (fun K13 hK13 hE13 => ?_)
    refine CW.seq (fun K14 hK14 hE14 => ?_)
    refine CW.region ?_
    refine LR.v (Y.move rfl rfl) (Wd.u rfl) rfl rfl ?_
    refine LR.v (Y.not rfl rfl) (Wd.u rfl) rfl rfl ?_
    refine LR.nil ?_
    refine hK14 _ _ ?_
    refine CW.cond rfl (fun c27 => ?_) (fun c27 => ?_)
    ·
      refine CW.seq (fun K15 hK15 hE15 => ?_)
      refine CW.region ?_
      refine LR.v (Y.move rfl rfl) (Wd.u rfl) rfl rfl ?_
      refine LR.v (Y.mlen hm rfl Try.runUnderlying89 rfl) (Wd.u rfl) rfl rfl ?_
      refine LR.v (Y.assign rfl rfl) (Wd.u rfl) rfl rfl ?_
      refine LR.nil ?_
      refine hK15 _ _ ?_
      refine CW.region ?_
      refine LR.v (Y.move rfl rfl) (Wd.u rfl) rfl rfl ?_
      refine LR.v (Y.move rfl rfl) (Wd.u rfl) rfl rfl ?_
      refine LR.v (Y.move rfl rfl) (Wd.u rfl) rfl rfl ?_
      refine LR.s (S.mapUpdate hm keyStr rfl Try.runUnderlying89 Try.underlying9 rfl rfl rfl) (Wd.u rfl) rfl (fun H8_3 r8_3 => ?_)
      obtain ⟨hm, hs8⟩ := r8_3
      rw [mput_new (by simpa using c27)] at hm
      replace hl := hl.up hs8 (fun b _ h1 h2 => h1.2 h2)
      replace ho := ho.up hs8 (fun b _ h1 h2 => by omega)
      replace hs := hs.trans hs8 (fun b _ e => e) (fun b _ e => e)
      refine LR.nil ?_
      refine hK13 _ _ ?_
      refine CW.region ?_
      refine LR.v (Y.move rfl rfl) (Wd.u rfl) rfl rfl ?_
      refine LR.v (Y.move rfl rfl) (Wd.u rfl) rfl rfl ?_
      refine LR.v (Y.move rfl rfl) (Wd.u rfl) rfl rfl ?_
      refine LR.v (Y.ownAddr ho (k) rfl Try.runUnderlying44 Try.sizeOf3 rfl rfl (by first | rfl | omega) (by first | omega | (simp; omega) | (simp; done))) (Wd.u rfl) rfl rfl ?_
      refine LR.s (S.own ho (k) 0 (_) rfl rfl rfl rfl Try.sizeOf3 (by first | omega | (simp; omega) | (simp; done)) (by decide) (rfl)) (Wd.u rfl) rfl (fun H9_4 r9_4 => ?_)
      obtain ⟨ho, hs9⟩ := r9_4
      have hb9 : blk v12 = H0.size := (ho.at (j := k) (by simp; omega)).1
      replace hl := hl.up hs9 (fun b _ h1 h2 => by omega)
      replace hm := hm.up hs9 (fun b _ h1 h2 => by omega)
      replace hs := hs.trans hs9 (fun b _ e => e) (fun b hb e => by omega)
      refine LR.nil ?_
      refine hK10 _ _ ?_
      refine hK9 _ _ ?_
      refine CW.region ?_
      refine LR.v (Y.addi rfl rfl rfl (by omega)) (Wd.u rfl) rfl rfl ?_
      refine LR.v (Y.move rfl rfl) (Wd.u rfl) rfl rfl ?_
      refine LR.nil ?_
      have hnb : (mget m l[k]).isSome = false := by simpa using c27
      refine QN.sub (hN6 (k+1, m ++ [(l[k], (m.length : Int))], xs.set k m.length) _ ?_ ?_) ⟨rfl, rfl, rfl, (iv (by omega)), (iv (by omega)), trivial⟩
      · exact ⟨by omega, hs, hl, hm, hg.snoc _, by simp; omega, fun s n h => by rw [mget_snoc, hmon s n h]; rfl, ho, by simp [hxl], num_new hnum (by omega) hxl hnb⟩
      · show l.length - (k + 1) < l.length - k; omega
    ·
      refine CW.skip ?_
      refine hK13 _ _ ?_
      refine CW.region ?_
      refine LR.v (Y.move rfl rfl) (Wd.u rfl) rfl rfl ?_
      refine LR.v (Y.move rfl rfl) (Wd.u rfl) rfl rfl ?_
      refine LR.v (Y.move rfl rfl) (Wd.u rfl) rfl rfl ?_
      refine LR.v (Y.ownAddr ho (k) rfl Try.runUnderlying44 Try.sizeOf3 rfl rfl (by first | rfl | omega) (by first | omega | (simp; omega) | (simp; done))) (Wd.u rfl) rfl rfl ?_
      refine LR.s (S.own ho (k) 0 (_) rfl rfl rfl rfl Try.sizeOf3 (by first | omega | (simp; omega) | (simp; done)) (by decide) (rfl)) (Wd.u rfl) rfl (fun H9_4 r9_4 => ?_)
      obtain ⟨ho, hs9⟩ := r9_4
      have hb9 : blk v12 = H0.size := (ho.at (j := k) (by simp; omega)).1
      replace hl := hl.up hs9 (fun b _ h1 h2 => by omega)
      replace hm := hm.up hs9 (fun b _ h1 h2 => by omega)
      replace hs := hs.trans hs9 (fun b _ e => e) (fun b hb e => by omega)
      refine LR.nil ?_
      refine hK10 _ _ ?_
      refine hK9 _ _ ?_
      refine CW.region ?_
      refine LR.v (Y.addi rfl rfl rfl (by omega)) (Wd.u rfl) rfl rfl ?_
      refine LR.v (Y.move rfl rfl) (Wd.u rfl) rfl rfl ?_
      refine LR.nil ?_
      have hnb : (mget m l[k]).isSome = true := by simpa using c27
      refine QN.sub (hN6 (k+1, m, xs.set k ((mget m l[k]).getD 0)) _ ?_ ?_) ⟨rfl, rfl, rfl, (iv (by omega)), (iv (by omega)), trivial⟩
      · exact ⟨by omega, hs, hl, hm, hg, by omega, hmon, ho, by simp [hxl], num_old hnum (by omega) hxl true hnb⟩
      · show l.length - (k + 1) < l.length - k; omega
  ·
    refine CW.exit (hE8 (.exit 0) nofun _ _ (hE6 (.exit 0) nofun _ _ (hX5 _ _ ?_)))
    refine hK3 _ _ ?_
    refine CW.seq (fun K16 hK16 hE16 => ?_)
    refine CW.region ?_
    refine LR.v (Y.move rfl rfl) (Wd.u rfl) rfl rfl ?_
    refine LR.v (Y.assign rfl rfl) (Wd.u rfl) rfl rfl ?_
    refine LR.nil ?_
    refine hK16 _ _ ?_
    refine CW.ret (hret .ret (.inr rfl) _ _ _ (res1 rfl rfl) ?_)
    obtain rfl : k = l.length := by omega
    exact ⟨m, xs, (hm.imp (fun b hb h => by obtain ⟨r, _, _, hv, hG, _⟩ := hm0.ex; rw [h.1, hv]; exact hG)), hg, hml2, hmon, ho, hxl, hnum, hs⟩


def row (a b : List Int) (i : Nat) : List Nat := (List.range (b.length + 1)).map (fun j => lcs (a.drop i) (b.drop j))
theorem row_length (a b : List Int) (i : Nat) : (row a b i).length = b.length + 1 := by simp [row]
theorem row_get (a b : List Int) (i j : Nat) (h : j < (row a b i).length) : (row a b i)[j] = lcs (a.drop i) (b.drop j) := by simp [row]
theorem row_last (a b : List Int) : row a b a.length = List.replicate (b.length + 1) 0 := by
  apply List.ext_getElem
  · simp [row]
  · intro i h1 h2; simp [row, lcs_nil]
theorem drop_eq (a : List Int) (i : Nat) (h : i < a.length) : a.drop i = a[i] :: a.drop (i + 1) := (List.drop_eq_getElem_cons h)
theorem lcs_ij_eq (a b : List Int) (i j : Nat) (hi : i < a.length) (hj : j < b.length) (h : a[i] = b[j]) : lcs (a.drop i) (b.drop j) = lcs (a.drop (i + 1)) (b.drop (j + 1)) + 1 := by
  rw [drop_eq a i hi, drop_eq b j hj, h, lcs_same]
theorem lcs_ij_ne (a b : List Int) (i j : Nat) (hi : i < a.length) (hj : j < b.length) (h : a[i] ≠ b[j]) : lcs (a.drop i) (b.drop j) = max (lcs (a.drop (i + 1)) (b.drop j)) (lcs (a.drop i) (b.drop (j + 1))) := by
  rw [drop_eq a i hi, drop_eq b j hj, lcs_cons, if_neg h, ← drop_eq a i hi, ← drop_eq b j hj]
/-- row i, from place j on -/
def Part (a b : List Int) (i : Nat) (r : List Nat) (j : Int) : Prop := r.length = b.length + 1 ∧ r[b.length]? = some 0 ∧ ∀ q : Nat, j < q → q < b.length → r[q]? = some (lcs (a.drop i) (b.drop q))
theorem Part.set {a b : List Int} {i : Nat} {r : List Nat} {j : Int} {q x : Nat} (h : Part a b i r j) (hq : j = q) (hj : q < b.length) (hx : x = lcs (a.drop i) (b.drop q)) : Part a b i (r.set q x) (j - 1) := by
  refine ⟨by simp [h.1], ?_, ?_⟩
  · rw [List.getElem?_set, if_neg (by omega)]; exact h.2.1
  · intro p hp hpb
    rw [List.getElem?_set]
    by_cases e : q = p
    · subst e; rw [if_pos rfl, if_pos (by rw [h.1]; omega), hx]
    · rw [if_neg e]; exact h.2.2 p (by omega) hpb
theorem Part.done {a b : List Int} {i : Nat} {r : List Nat} {j : Int} (h : Part a b i r j) (hj : j < 0) : r = row a b i := by
  apply List.ext_getElem
  · rw [h.1, row_length]
  · intro q h1 h2
    rw [row_get]
    rw [row_length] at h2
    by_cases hq : q = b.length
    · subst hq
      have := h.2.1
      rw [List.getElem?_eq_getElem h1] at this
      rw [Option.some.inj this, List.drop_length, lcs_nil_right]
    · have := h.2.2 q (by omega) (by omega)
      rw [List.getElem?_eq_getElem h1] at this
      exact Option.some.inj this
theorem Part.get {a b : List Int} {i : Nat} {r : List Nat} {j : Int} (h : Part a b i r j) (q : Nat) (h1 : j < q) (h2 : q < r.length) : r[q] = lcs (a.drop i) (b.drop q) := by
  have hl := h.1
  by_cases hq : q = b.length
  · subst hq
    have := h.2.1
    rw [List.getElem?_eq_getElem h2] at this
    rw [Option.some.inj this, List.drop_length, lcs_nil_right]
  · have := h.2.2 q (by omega) (by omega)
    rw [List.getElem?_eq_getElem h2] at this
    exact Option.some.inj this
/-- the rows behind i are laid -/
def Rows (F : Nat → Prop) (H : Heap) (a b : List Int) (rows : List SV) (i : Int) : Prop := rows.length = a.length + 1 ∧ ∀ q : Nat, i < q → ∀ x, rows[q]? = some x → Rd F H (fN .u16) 1 x.v (row a b q)
theorem Rows.up {F : Nat → Prop} {H H' : Heap} {a b : List Int} {rows : List SV} {i : Int} {S : Nat → Prop} (h : Rows F H a b rows i) (s : Mo S H H') (hS : ∀ b, b < H.size → F b → ¬ S b) : Rows F H' a b rows i :=
  ⟨h.1, fun q hq x hx => (h.2 q hq x hx).up s hS⟩
theorem Rows.imp {F F' : Nat → Prop} {H : Heap} {a b : List Int} {rows : List SV} {i : Int} (h : Rows F H a b rows i) (hF : ∀ b, b < H.size → F b → F' b) : Rows F' H a b rows i :=
  ⟨h.1, fun q hq x hx => (h.2 q hq x hx).imp hF⟩
theorem Rows.put {F : Nat → Prop} {H : Heap} {a b : List Int} {rows : List SV} {i : Int} {v : Value} (h : Rows F H a b rows i) (q0 : Nat) (hi : i = q0) (hv : Rd F H (fN .u16) 1 v (row a b q0)) : Rows F H a b (rows.set q0 (toSV v)) (i - 1) := by
  refine ⟨by simp [h.1], fun q hq x hx => ?_⟩
  rw [List.getElem?_set] at hx
  by_cases e : q0 = q
  · subst e
    rw [if_pos rfl] at hx
    split at hx
    · simp only [Option.some.injEq] at hx
      subst hx
      rw [hv.sv]; exact hv
    · cases hx
  · rw [if_neg e] at hx
    exact h.2 q (by omega) x hx
theorem u16_in {x : Nat} (h : x < 65535) : IntKind.u16.wrap ((x : Int) + 1) = ((x + 1 : Nat) : Int) := by rw [IntWalk.u16_in _ (by omega)]; rfl

set_option maxHeartbeats 1000000 in
theorem table_ct (va vb : Value) (a b : List Int) (w0 : World) (H0 : Heap)
    (ha : RdT H0 fI 1 va a) (hb : RdT H0 fI 1 vb b) (hla : a.length ≤ 4000) (hlb : b.length ≤ 4000) :
    Ct Try.prog w0 61 #[va, vb] H0 (fun r H2 => ∃ rows, Own (fun c => c = H0.size) 95 H2 fV 1 r rows ∧ Rows (fun c => H0.size < c) H2 a b rows (-1) ∧ Nw H0 H2) := by
  refine Ct.enter (args := [va, vb]) Try.func61 rfl rfl rfl ?_
  intro Q0 hret
  replace ha := ha.lt
  replace hb := hb.lt
  refine CW.seq (fun K1 hK1 hE1 => ?_)
  refine CW.region ?_
  refine LR.v (Y.assign rfl rfl) (Wd.u rfl) rfl rfl ?_
  refine LR.nil ?_
  refine hK1 _ _ ?_
  refine CW.seq (fun K2 hK2 hE2 => ?_)
  refine CW.region ?_
  refine LR.v (Y.move rfl rfl) (Wd.u rfl) rfl rfl ?_
  refine LR.v (Y.len ha rfl Try.runUnderlying44 rfl) (Wd.u rfl) rfl rfl ?_
  refine LR.v (Y.addi rfl rfl rfl (by omega)) (Wd.u rfl) rfl rfl ?_
  refine LR.z (Z.makeSlice (a.length + 1) ((⟨none, 0, 0⟩ : SV)) rfl inf92 Try.zeroValue95 rfl fV_len fV_one rfl rfl (by first | rfl | omega) (by omega) (by omega)) (Wd.u rfl) rfl rfl (fun v13 H13 r13 => ?_)
  obtain ⟨ho, hs, ob13, hH13⟩ := r13
  replace ha := ha.nw hs
  replace hb := hb.nw hs
  have hz13 : H13.size = H0.size + 1 := by rw [hH13]; simp
  refine LR.v (Y.assign rfl rfl) (Wd.u rfl) rfl rfl ?_
  refine LR.nil ?_
  refine hK2 _ _ ?_
  refine CW.seq (fun K3 hK3 hE3 => ?_)
  refine CW.seq (fun K4 hK4 hE4 => ?_)
  refine CW.region ?_
  refine LR.v (Y.move rfl rfl) (Wd.u rfl) rfl rfl ?_
  refine LR.v (Y.len ha rfl Try.runUnderlying44 rfl) (Wd.u rfl) rfl rfl ?_
  refine LR.v (Y.assign rfl rfl) (Wd.u rfl) rfl rfl ?_
  refine LR.nil ?_
  refine hK4 _ _ ?_
  refine CW.block (fun K5 hK5 hX5 hE5 => ?_)
  refine CW.loop (fun (s_ : (Int) × (List SV)) => match s_ with | (i, rows) => [(0, va), (1, vb), (5, v13), (6, .int .i64 i)])
    (fun (s_ : (Int) × (List SV)) (H : Heap) => match s_ with | (i, rows) => -1 ≤ i ∧ i ≤ a.length ∧ Nw H0 H ∧ H0.size < H.size ∧ Rd (fun b => b < H0.size) H fI 1 va a ∧ Rd (fun b => b < H0.size) H fI 1 vb b ∧ Own (fun c => c = H0.size) 95 H fV 1 v13 rows ∧ Rows (fun c => H0.size < c) H a b rows i)
    (fun (s_ : (Int) × (List SV)) => match s_ with | (i, rows) => (i + 1).toNat) ((a.length : Int), List.replicate (a.length + 1) ⟨none, 0, 0⟩) ⟨rfl, rfl, rfl, rfl, trivial⟩ ?_ ?_
  ·
    exact ⟨by omega, by omega, hs, by omega, ha, hb, ho, by simp, fun q hq x hx => by have := (List.getElem?_eq_some_iff.1 hx).1; simp at this; omega⟩
  rintro ⟨i, rows⟩ H1 hI1 K6 hN6 hE6
  obtain ⟨hi0, hi1, hs, hsz, ha, hb, ho, hr⟩ := hI1
  refine CW.seq (fun K7 hK7 hE7 => ?_)
  refine CW.seq (fun K8 hK8 hE8 => ?_)
  refine CW.region ?_
  refine LR.v (Y.move rfl rfl) (Wd.u rfl) rfl rfl ?_
  refine LR.v (Y.geq rfl rfl rfl) (Wd.u rfl) rfl rfl ?_
  refine LR.nil ?_
  refine hK8 _ _ ?_
  refine CW.condp rfl (fun c17 => ?_) (fun c17 => ?_)
  ·
    replace hr := hr.imp (F' := fun c => H0.size < c ∧ c < H1.size) (fun c h1 h2 => ⟨h2, h1⟩)
    have hrl := hr.1
    refine CW.skip ?_
    refine hK7 _ _ ?_
    refine CW.seq (fun K9 hK9 hE9 => ?_)
    refine CW.block (fun K10 hK10 hX10 hE10 => ?_)
    refine CW.seq (fun K11 hK11 hE11 => ?_)
    refine CW.region ?_
    refine LR.v (Y.move rfl rfl) (Wd.u rfl) rfl rfl ?_
    refine LR.v (Y.move rfl rfl) (Wd.u rfl) rfl rfl ?_
    refine LR.v (Y.move rfl rfl) (Wd.u rfl) rfl rfl ?_
    refine LR.v (Y.len hb rfl Try.runUnderlying44 rfl) (Wd.u rfl) rfl rfl ?_
    refine LR.v (Y.addi rfl rfl rfl (by omega)) (Wd.u rfl) rfl rfl ?_
    refine LR.z (Z.makeSlice (b.length + 1) ((0 : Nat)) rfl inf95 Try.zeroValue94 rfl (fN_len .u16) (fN_one .u16) rfl rfl (by first | rfl | omega) (by omega) (by omega)) (Wd.u rfl) rfl rfl (fun v25 H25 r25 => ?_)
    obtain ⟨hw, hs25, ob25, hH25⟩ := r25
    have hz25 : H25.size = H1.size + 1 := by rw [hH25]; simp
    replace ha := ha.nw hs25
    replace hb := hb.nw hs25
    replace ho := ho.nw hs25
    replace hr := hr.up hs25 (fun _ _ _ e => e)
    replace hs := hs.tr hs25
    refine LR.v (Y.ownAddr ho (i.toNat) rfl Try.runUnderlying92 Try.sizeOf95 rfl rfl (by first | rfl | omega) (by first | omega | (simp; omega) | (simp; done))) (Wd.u rfl) rfl rfl ?_
    refine LR.s (S.own ho (i.toNat) 0 (toSV v25) rfl rfl rfl hw.rd.oneCell Try.sizeOf95 (by first | omega | (simp; omega) | (simp; done)) (by decide) ((by simp [hw.sv]))) (Wd.u rfl) rfl (fun H5_7 r5_7 => ?_)
    obtain ⟨ho, hs5⟩ := r5_7
    have hb5 : blk v13 = H0.size := (ho.at (j := i.toNat) (by simp; omega)).1
    replace ha := ha.up hs5 (fun b _ h1 h2 => by omega)
    replace hb := hb.up hs5 (fun b _ h1 h2 => by omega)
    replace hr := hr.up hs5 (fun b _ h1 h2 => by omega)
    replace hw := hw.up hs5 (fun b _ h1 h2 => by omega)
    replace hs := hs.trans hs5 (fun _ _ e => e) (fun b hb e => by omega)
    have hz5 := hs5.size
    refine LR.nil ?_
    refine hK11 _ _ ?_
    refine CW.seq (fun K12 hK12 hE12 => ?_)
    refine CW.seq (fun K13 hK13 hE13 => ?_)
    refine CW.region ?_
    refine LR.v (Y.move rfl rfl) (Wd.u rfl) rfl rfl ?_
    refine LR.v (Y.move rfl rfl) (Wd.u rfl) rfl rfl ?_
    refine LR.v (Y.len ha rfl Try.runUnderlying44 rfl) (Wd.u rfl) rfl rfl ?_
    refine LR.v (Y.eql rfl rfl rfl) (Wd.u rfl) rfl rfl ?_
    refine LR.nil ?_
    refine hK13 _ _ ?_
    refine CW.condp rfl (fun c30 => ?_) (fun c30 => ?_)
    ·
      refine CW.exit (hE12 (.exit 1) nofun _ _ (hX10 _ _ ?_))
      refine hK9 _ _ ?_
      refine CW.region ?_
      refine LR.v (Y.move rfl rfl) (Wd.u rfl) rfl rfl ?_
      refine LR.v (Y.subi rfl rfl rfl (by omega)) (Wd.u rfl) rfl rfl ?_
      refine LR.v (Y.assign rfl rfl) (Wd.u rfl) rfl rfl ?_
      refine LR.nil ?_
      refine QN.sub (hN6 (i - 1, rows.set i.toNat (toSV v25)) _ ?_ ?_) ⟨rfl, rfl, rfl, (iv (by omega)), trivial⟩
      · refine ⟨by omega, by omega, hs, by omega, ha, hb, ho, (hr.imp (fun c h1 h2 => h2.1)).put i.toNat (by omega) ?_⟩
        rw [show i.toNat = a.length by omega, row_last]
        exact hw.rd.imp (fun c _ e => by omega)
      · show (i - 1 + 1).toNat < (i + 1).toNat; omega
    ·
      have hlt : i.toNat + 1 < rows.length := by omega
      obtain ⟨nx, hnx⟩ : ∃ nx, rows[i.toNat + 1] = nx := ⟨_, rfl⟩
      have hrx := hr.2 (i.toNat + 1) (by omega) nx (by rw [List.getElem?_eq_getElem hlt, hnx])
      refine CW.skip ?_
      refine hK12 _ _ ?_
      refine CW.seq (fun K14 hK14 hE14 => ?_)
      refine CW.region_draw rfl (by kernel_rfl) ?_
      refine LR.v (Y.move rfl rfl) (Wd.u rfl) rfl rfl ?_
      refine LR.v (Y.move rfl rfl) (Wd.u rfl) rfl rfl ?_
      refine LR.v (Y.ownAddr ho (i.toNat) rfl Try.runUnderlying92 Try.sizeOf95 rfl rfl (by first | rfl | omega) (by simp; omega)) (Wd.u rfl) rfl rfl ?_
      refine LR.v (Y.load1 (c := v25) (cs := []) (by have := ho.pt (j := i.toNat) (by simp; omega); simpa [fV, hw.sv] using this) rfl Try.isAgg58 rfl) (Wd.u rfl) rfl rfl ?_
      refine LR.v (Y.move rfl rfl) (Wd.u rfl) rfl rfl ?_
      refine LR.v (Y.move rfl rfl) (Wd.u rfl) rfl rfl ?_
      refine LR.v (Y.addi rfl rfl rfl (by omega)) (Wd.u rfl) rfl rfl ?_
      refine LR.v (Y.ownAddr ho (i.toNat + 1) rfl Try.runUnderlying92 Try.sizeOf95 rfl rfl (by first | rfl | omega) (by simp; omega)) (Wd.u rfl) rfl rfl ?_
      refine LR.v (Y.load1 (c := nx.v) (cs := []) (by have := ho.pt (j := i.toNat + 1) (by simp; omega); simpa [List.getElem_set, hnx] using this) rfl Try.isAgg58 rfl) (Wd.u rfl) rfl rfl ?_
      refine LR.v (Y.assign rfl rfl) (Wd.u rfl) rfl rfl ?_
      refine LR.v (Y.assign rfl rfl) (Wd.u rfl) rfl rfl ?_
      refine LR.nil ?_
      refine hK14 _ _ ?_
      refine CW.seq (fun K15 hK15 hE15 => ?_)
      refine CW.region ?_
      refine LR.v (Y.move rfl rfl) (Wd.u rfl) rfl rfl ?_
      refine LR.v (Y.len hb rfl Try.runUnderlying44 rfl) (Wd.u rfl) rfl rfl ?_
      refine LR.v (Y.subi rfl rfl rfl (by omega)) (Wd.u rfl) rfl rfl ?_
      refine LR.v (Y.assign rfl rfl) (Wd.u rfl) rfl rfl ?_
      refine LR.nil ?_
      refine hK15 _ _ ?_
      refine CW.block (fun K16 hK16 hX16 hE16 => ?_)
      refine CW.loop (fun (s_ : (Int) × (List Nat)) => match s_ with | (j, r) => [(0, va), (1, vb), (5, v13), (6, .int .i64 i), (7, v25), (8, nx.v), (9, .int .i64 j)])
        (fun (s_ : (Int) × (List Nat)) (H : Heap) => match s_ with | (j, r) => -1 ≤ j ∧ j < b.length ∧ Mo (fun c => c = H1.size) H5_7 H ∧ Own (fun c => c = H1.size) 94 H (fN .u16) 1 v25 r ∧ Part a b i.toNat r j)
        (fun (s_ : (Int) × (List Nat)) => match s_ with | (j, r) => (j + 1).toNat) ((b.length : Int) - 1, List.replicate (b.length + 1) 0) ⟨rfl, rfl, rfl, rfl, rfl, rfl, rfl, trivial⟩ ?_ ?_
      ·
        refine ⟨by omega, by omega, Mo.refl _ _, hw, by simp, by simp, fun q h1 h2 => by omega⟩
      rintro ⟨j, r⟩ H2 hI2 K17 hN17 hE17
      obtain ⟨hj0, hj1, hm2, hw2, hp⟩ := hI2
      have ha2 := ha.up hm2 (fun b _ h1 h2 => by omega)
      have hb2 := hb.up hm2 (fun b _ h1 h2 => by omega)
      have hrx2 := hrx.up hm2 (fun b _ h1 h2 => by omega)
      have hpl := hp.1
      have hrwl := row_length a b (i.toNat + 1)
      refine CW.seq (fun K18 hK18 hE18 => ?_)
      refine CW.seq (fun K19 hK19 hE19 => ?_)
      refine CW.region ?_
      refine LR.v (Y.move rfl rfl) (Wd.u rfl) rfl rfl ?_
      refine LR.v (Y.geq rfl rfl rfl) (Wd.u rfl) rfl rfl ?_
      refine LR.nil ?_
      refine hK19 _ _ ?_
      refine CW.condp rfl (fun c44 => ?_) (fun c44 => ?_)
      ·
        refine CW.skip ?_
        refine hK18 _ _ ?_
        refine CW.seq (fun K20 hK20 hE20 => ?_)
        refine CW.block (fun K21 hK21 hX21 hE21 => ?_)
        refine CW.seq (fun K22 hK22 hE22 => ?_)
        refine CW.region_draw rfl (by kernel_rfl) ?_
        refine LR.v (Y.move rfl rfl) (Wd.u rfl) rfl rfl ?_
        refine LR.v (Y.move rfl rfl) (Wd.u rfl) rfl rfl ?_
        refine LR.e (g := fun ad => .pointer (some ad)) (Y.indexAddr ha2 (i.toNat) rfl Try.runUnderlying44 Try.sizeOf3 rfl rfl (by first | rfl | omega) (by first | omega | (simp; omega) | (simp; done))) (Wd.u rfl) rfl rfl (fun ad49 pt49 => ?_)
        refine LR.v (Y.load1 pt49 rfl Try.isAgg3 rfl) (Wd.u rfl) rfl rfl ?_
        refine LR.v (Y.move rfl rfl) (Wd.u rfl) rfl rfl ?_
        refine LR.v (Y.move rfl rfl) (Wd.u rfl) rfl rfl ?_
        refine LR.e (g := fun ad => .pointer (some ad)) (Y.indexAddr hb2 (j.toNat) rfl Try.runUnderlying44 Try.sizeOf3 rfl rfl (by first | rfl | omega) (by first | omega | (simp; omega) | (simp; done))) (Wd.u rfl) rfl rfl (fun ad53 pt53 => ?_)
        refine LR.v (Y.load1 pt53 rfl Try.isAgg3 rfl) (Wd.u rfl) rfl rfl ?_
        refine LR.v (Y.eql rfl rfl rfl) (Wd.u rfl) rfl rfl ?_
        refine LR.nil ?_
        refine hK22 _ _ ?_
        refine CW.condp rfl (fun c55 => ?_) (fun c55 => ?_)
        ·
          refine CW.region ?_
          refine LR.v (Y.move rfl rfl) (Wd.u rfl) rfl rfl ?_
          refine LR.v (Y.move rfl rfl) (Wd.u rfl) rfl rfl ?_
          refine LR.v (Y.move rfl rfl) (Wd.u rfl) rfl rfl ?_
          refine LR.v (Y.move rfl rfl) (Wd.u rfl) rfl rfl ?_
          refine LR.v (Y.addi rfl rfl rfl (by omega)) (Wd.u rfl) rfl rfl ?_
          refine LR.e (g := fun ad => .pointer (some ad)) (Y.indexAddr hrx2 (j.toNat + 1) rfl Try.runUnderlying95 Try.sizeOf94 rfl rfl (by first | rfl | omega) (by first | omega | (simp; omega) | (simp; done))) (Wd.u rfl) rfl rfl (fun ad61 pt61 => ?_)
          refine LR.v (Y.load1 pt61 rfl Try.isAgg94 rfl) (Wd.u rfl) rfl rfl ?_
          refine LR.v (Y.addk (c := ((lcs (a.drop i.toNat) (b.drop j.toNat) : Nat) : Int)) rfl rfl rfl (by have h1 := lcs_le (a.drop (i.toNat + 1)) (b.drop (j.toNat + 1)); rw [List.length_drop] at h1; rw [row_get, u16_in (by omega), lcs_ij_eq a b _ _ (by omega) (by omega) c55])) (Wd.u rfl) rfl rfl ?_
          refine LR.v (Y.ownAddr hw2 (j.toNat) rfl Try.runUnderlying95 Try.sizeOf94 rfl rfl (by first | rfl | omega) (by first | omega | (simp; omega) | (simp; done))) (Wd.u rfl) rfl rfl ?_
          refine LR.s (S.own hw2 (j.toNat) 0 (lcs (a.drop i.toNat) (b.drop j.toNat)) rfl rfl rfl rfl Try.sizeOf94 (by first | omega | (simp; omega) | (simp; done)) (by decide) (rfl)) (Wd.u rfl) rfl (fun H12_9 r12_9 => ?_)
          obtain ⟨hw2, hs12⟩ := r12_9
          refine LR.nil ?_
          refine hK21 _ _ ?_
          refine hK20 _ _ ?_
          refine CW.region ?_
          refine LR.v (Y.move rfl rfl) (Wd.u rfl) rfl rfl ?_
          refine LR.v (Y.subi rfl rfl rfl (by omega)) (Wd.u rfl) rfl rfl ?_
          refine LR.v (Y.assign rfl rfl) (Wd.u rfl) rfl rfl ?_
          refine LR.nil ?_
          refine QN.sub (hN17 (j - 1, r.set j.toNat (lcs (a.drop i.toNat) (b.drop j.toNat))) _ ?_ ?_) ⟨rfl, rfl, rfl, (iv (by omega)), rfl, rfl, (iv (by omega)), trivial⟩
          · exact ⟨by omega, by omega, hm2.trans hs12 (fun _ _ e => e) (fun c _ e => by rw [e]; exact (hw2.at (j := j.toNat) (by simp; omega)).1), hw2, hp.set (by omega) (by omega) rfl⟩
          · show (j - 1 + 1).toNat < (j + 1).toNat; omega
        ·
          refine CW.region_tail 13 rfl (by kernel_rfl) (fun T13 hT13 => ?_)
          refine LR.v (Y.move rfl rfl) (Wd.u rfl) rfl rfl ?_
          refine LR.v (Y.move rfl rfl) (Wd.u rfl) rfl rfl ?_
          refine LR.v (Y.move rfl rfl) (Wd.u rfl) rfl rfl ?_
          refine LR.v (Y.move rfl rfl) (Wd.u rfl) rfl rfl ?_
          refine LR.e (g := fun ad => .pointer (some ad)) (Y.indexAddr hrx2 (j.toNat) rfl Try.runUnderlying95 Try.sizeOf94 rfl rfl (by first | rfl | omega) (by first | omega | (simp; omega) | (simp; done))) (Wd.u rfl) rfl rfl (fun ad69 pt69 => ?_)
          refine LR.v (Y.load1 pt69 rfl Try.isAgg94 rfl) (Wd.u rfl) rfl rfl ?_
          refine LR.v (Y.move rfl rfl) (Wd.u rfl) rfl rfl ?_
          refine LR.v (Y.move rfl rfl) (Wd.u rfl) rfl rfl ?_
          refine LR.v (Y.addi rfl rfl rfl (by omega)) (Wd.u rfl) rfl rfl ?_
          refine LR.v (Y.ownAddr hw2 (j.toNat + 1) rfl Try.runUnderlying95 Try.sizeOf94 rfl rfl (by first | rfl | omega) (by first | omega | (simp; omega) | (simp; done))) (Wd.u rfl) rfl rfl ?_
          refine LR.v (Y.load1 (hw2.pt (j := j.toNat + 1) (by first | omega | (simp; omega) | (simp; done))) rfl Try.isAgg94 rfl) (Wd.u rfl) rfl rfl ?_
          refine LR.v (Y.maxi rfl rfl rfl) (Wd.u rfl) rfl rfl ?_
          refine LR.v (Y.ownAddr hw2 (j.toNat) rfl Try.runUnderlying95 Try.sizeOf94 rfl rfl (by first | rfl | omega) (by first | omega | (simp; omega) | (simp; done))) (Wd.u rfl) rfl rfl ?_
          refine LR.nil (hT13 _ ?_)
          refine LR.s (S.own hw2 (j.toNat) 0 (lcs (a.drop i.toNat) (b.drop j.toNat)) rfl rfl rfl rfl Try.sizeOf94 (by first | omega | (simp; omega) | (simp; done)) (by decide) ((congrArg (fun q => [Value.int .u16 q]) (by rw [row_get, hp.get (j.toNat + 1) (by omega) (by omega), lcs_ij_ne a b _ _ (by omega) (by omega) c55]; omega)))) (Wd.u rfl) rfl (fun H13_13 r13_13 => ?_)
          obtain ⟨hw2, hs12⟩ := r13_13
          refine LR.nil ?_
          refine hK21 _ _ ?_
          refine hK20 _ _ ?_
          refine CW.region ?_
          refine LR.v (Y.move rfl rfl) (Wd.u rfl) rfl rfl ?_
          refine LR.v (Y.subi rfl rfl rfl (by omega)) (Wd.u rfl) rfl rfl ?_
          refine LR.v (Y.assign rfl rfl) (Wd.u rfl) rfl rfl ?_
          refine LR.nil ?_
          refine QN.sub (hN17 (j - 1, r.set j.toNat (lcs (a.drop i.toNat) (b.drop j.toNat))) _ ?_ ?_) ⟨rfl, rfl, rfl, (iv (by omega)), rfl, rfl, (iv (by omega)), trivial⟩
          · exact ⟨by omega, by omega, hm2.trans hs12 (fun _ _ e => e) (fun c _ e => by rw [e]; exact (hw2.at (j := j.toNat) (by simp; omega)).1), hw2, hp.set (by omega) (by omega) rfl⟩
          · show (j - 1 + 1).toNat < (j + 1).toNat; omega
      ·
        refine CW.exit (hE18 (.exit 2) nofun _ _ (hE17 (.exit 2) nofun _ _ (hX16 _ _ ?_)))
        refine hK10 _ _ ?_
        refine hK9 _ _ ?_
        refine CW.region ?_
        refine LR.v (Y.move rfl rfl) (Wd.u rfl) rfl rfl ?_
        refine LR.v (Y.subi rfl rfl rfl (by omega)) (Wd.u rfl) rfl rfl ?_
        refine LR.v (Y.assign rfl rfl) (Wd.u rfl) rfl rfl ?_
        refine LR.nil ?_
        refine QN.sub (hN6 (i - 1, rows.set i.toNat (toSV v25)) _ ?_ ?_) ⟨rfl, rfl, rfl, (iv (by omega)), trivial⟩
        · refine ⟨by omega, by omega, hs.trans hm2 (fun _ _ e => e) (fun b hb e => by omega), Nat.lt_of_lt_of_le (by omega) hm2.size, ha2, hb2, ho.up hm2 (fun b _ h1 h2 => by omega), ((hr.up hm2 (fun b _ h1 h2 => by omega)).imp (fun c h1 h2 => h2.1)).put i.toNat (by omega) ?_⟩
          rw [← hp.done (by omega)]
          exact hw2.rd.imp (fun c _ e => by omega)
        · show (i - 1 + 1).toNat < (i + 1).toNat; omega
  ·
    refine CW.exit (hE7 (.exit 0) nofun _ _ (hE6 (.exit 0) nofun _ _ (hX5 _ _ ?_)))
    refine hK3 _ _ ?_
    refine CW.seq (fun K23 hK23 hE23 => ?_)
    refine CW.region ?_
    refine LR.v (Y.move rfl rfl) (Wd.u rfl) rfl rfl ?_
    refine LR.v (Y.assign rfl rfl) (Wd.u rfl) rfl rfl ?_
    refine LR.nil ?_
    refine hK23 _ _ ?_
    refine CW.ret (hret .ret (.inr rfl) _ _ _ (res1 rfl rfl) ?_)
    obtain rfl : i = -1 := by omega
    exact ⟨rows, ho, hr, hs⟩

end Go.Proofs.Ytadgeooceeilpaa.LinB
