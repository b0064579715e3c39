/-
  Rows of chunks: how they lie, and one more chunk.
-/
import Derived.Test.YtegfnfhdgbcjbaaMerB
namespace Go.Proofs.Ytegfnfhdgbcjbaa.MerC
open Go.Proofs.Ytegfnfhdgbcjbaa.E Go.RowKit Go.Proofs.Ytegfnfhdgbcjbaa.MerA Go.Proofs.Ytegfnfhdgbcjbaa.MerB
set_option linter.unusedVariables false
set_option linter.unusedSimpArgs false
set_option linter.unusedSectionVars false
set_option maxRecDepth 100000 in
theorem inf32 : Inf Try.prog 32 9 1 16 := ⟨Try.underlying32, _, _, rfl, rfl, rfl, rfl, rfl⟩
set_option maxRecDepth 100000 in
theorem inf50 : Inf Try.prog 50 54 4 80 := ⟨Try.underlying50, _, _, rfl, rfl, rfl, rfl, rfl⟩

/-- a chunk, with where its rows lie -/
structure Ck where
  k : Int
  b : List (List UInt8)
  o : List (List UInt8)
  t : List (List UInt8)
  vb : SV
  vo : SV
  vt : SV
/-- a chunk's kind and lines -/
abbrev Cn := Int × List (List UInt8) × List (List UInt8) × List (List UInt8)
abbrev Ck.c (x : Ck) : Cn := (x.k, x.b, x.o, x.t)
def Ck.nil : Ck := ⟨0, [], [], [], ⟨none, 0, 0⟩, ⟨none, 0, 0⟩, ⟨none, 0, 0⟩⟩
abbrev fK (x : Ck) : List Value := [.int .i64 x.k, x.vb.v, x.vo.v, x.vt.v]
theorem fK_len (x : Ck) : (fK x).length = 4 := rfl
theorem fK_one (x : Ck) : ∀ u ∈ fK x, u.oneCell' = true := by
  intro u hu; simp only [List.mem_cons, List.not_mem_nil, or_false] at hu; rcases hu with rfl | rfl | rfl | rfl <;> rfl
def la (l : List Ck) : Ck := l.getLastD Ck.nil
theorem la_snoc (l : List Ck) (x : Ck) : la (l ++ [x]) = x := by simp [la]
theorem set_snoc (l : List Ck) (x z : Ck) : (l ++ [x]).set l.length z = l ++ [z] := by simp
theorem la_at (l : List Ck) (h : l.length - 1 < l.length) : l[l.length - 1] = la l := by
  cases l with
  | nil => simp at h
  | cons x t => simp [la, List.getLast?_eq_getElem?]
structure CkR (F : Nat → Prop) (H : Heap) (x : Ck) : Prop where
  b : Rd F H fS 1 x.vb.v x.b
  o : Rd F H fS 1 x.vo.v x.o
  t : Rd F H fS 1 x.vt.v x.t
section
variable {F F' : Nat → Prop} {H H' : Heap} {x : Ck} {ks : List Nat} {m : Nat}
theorem CkR.nw (h : CkR F H x) (s : Nw H H') : CkR F H' x := ⟨h.b.nw s, h.o.nw s, h.t.nw s⟩
theorem CkR.imp (h : CkR F H x) (d : ∀ b, b < H.size → F b → F' b) : CkR F' H x := ⟨h.b.imp d, h.o.imp d, h.t.imp d⟩
theorem CkR.bnd (h : CkR F H x) : CkR (fun b => F b ∧ b < H.size) H x := h.imp (fun b hb h => ⟨h, hb⟩)
theorem CkR.any (h : CkR F H x) : CkR (fun _ => True) H x := h.imp (fun _ _ _ => trivial)
theorem CkR.upL (h : CkR F H x) (s : Mo (Ms ks) H H') (d : DFL F ks) : CkR F H' x := ⟨h.b.upL s d, h.o.upL s d, h.t.upL s d⟩
theorem CkR.upA (h : CkR F H x) (s : Mo (fun c => m ≤ c) H H') (d : BF F m) : CkR F H' x := ⟨h.b.upA s d, h.o.upA s d, h.t.upA s d⟩
theorem CkR.nil : CkR F H Ck.nil := ⟨Rd.nil _ _ _ _, Rd.nil _ _ _ _, Rd.nil _ _ _ _⟩
end
/-- no number, or one from m on, up to n -/
def Bt (m n k : Nat) : Prop := k = 0 ∨ (m < k ∧ k ≤ n)
theorem Bt.nx {m n n2 k k2 : Nat} (h : Bt m n k) (x : Nx k n k2) (hk : k2 ≤ n2) (hm : m ≤ n) (hn : n ≤ n2) : Bt m n2 k2 := by unfold Bt Nx at *; omega
theorem Bt.mono {m n n2 k : Nat} (h : Bt m n k) (hn : n ≤ n2) : Bt m n2 k := by unfold Bt at *; omega
theorem Bt.z {m n : Nat} : Bt m n 0 := .inl rfl
theorem Bt.nx0 {m n n2 k2 : Nat} (x : Nx 0 n k2) (hk : k2 ≤ n2) (hm : m ≤ n) (hn : n ≤ n2) : Bt m n2 k2 := Bt.z.nx x hk hm hn
/-- a row of chunks that is ours, from block m on, below n; the last chunk's rows may be appended to -/
structure Cc (m n : Nat) (H : Heap) (v : Value) (cs : List Cn) : Prop where
  ex : ∃ (l : List Ck) (k kB kO kT : Nat) (G : Nat → Prop), l.map Ck.c = cs ∧ Ow k 54 H fK 4 v l ∧ Ow kB 9 H fS 1 (la l).vb.v (la l).b ∧ Ow kO 9 H fS 1 (la l).vo.v (la l).o ∧ Ow kT 9 H fS 1 (la l).vt.v (la l).t ∧
    (∀ x ∈ l.dropLast, CkR G H x) ∧ (Dj k kB ∧ Dj k kO ∧ Dj k kT ∧ Dj kB kO ∧ Dj kB kT ∧ Dj kO kT) ∧ (DF G k ∧ DF G kB ∧ DF G kO ∧ DF G kT) ∧ (∀ b, G b → m ≤ b ∧ b < n) ∧ (Bt m n k ∧ Bt m n kB ∧ Bt m n kO ∧ Bt m n kT)
section
variable {m n n2 : Nat} {H H' : Heap} {v : Value} {cs : List Cn}
theorem Cc.nw (h : Cc m n H v cs) (s : Nw H H') : Cc m n H' v cs := by
  obtain ⟨l, k, kB, kO, kT, G, h1, h2, h3, h4, h5, h6, h7, h8, h9, h10⟩ := h.ex
  exact ⟨l, k, kB, kO, kT, G, h1, h2.nw s, h3.nw s, h4.nw s, h5.nw s, fun x hx => (h6 x hx).nw s, h7, h8, h9, h10⟩
theorem Cc.mono (h : Cc m n H v cs) (hn : n ≤ n2) : Cc m n2 H v cs := by
  obtain ⟨l, k, kB, kO, kT, G, h1, h2, h3, h4, h5, h6, h7, h8, h9, h10, h11, h12, h13⟩ := h.ex
  exact ⟨l, k, kB, kO, kT, G, h1, h2, h3, h4, h5, h6, h7, h8, fun b e => ⟨(h9 b e).1, Nat.lt_of_lt_of_le (h9 b e).2 hn⟩, h10.mono hn, h11.mono hn, h12.mono hn, h13.mono hn⟩
theorem Cc.nil : Cc m n H (.slice none 0 0) [] :=
  ⟨[], 0, 0, 0, 0, fun _ => False, rfl, Ow.nil fK_len fK_one, Ow.nil fS_len fS_one, Ow.nil fS_len fS_one, Ow.nil fS_len fS_one, (fun x hx => by cases hx), ⟨Dj.z, Dj.z, Dj.z, Dj.z, Dj.z, Dj.z⟩, ⟨DF.z, DF.z, DF.z, DF.z⟩, fun b e => e.elim, Bt.z, Bt.z, Bt.z, Bt.z⟩
theorem Bt.ge {k b : Nat} (h : Bt m n k) (e : b + 1 = k) : m ≤ b := by unfold Bt at h; omega
theorem dl_cases {l : List Ck} {x : Ck} (h : x ∈ l) : x ∈ l.dropLast ∨ x = la l := by
  rcases List.eq_nil_or_concat l with rfl | ⟨l0, y, rfl⟩
  · cases h
  · rw [List.concat_eq_append] at *
    rw [List.dropLast_concat, la_snoc]
    simpa using h
/-- read -/
theorem Cc.deep (h : Cc m n H v cs) : ∃ l : List Ck, l.map Ck.c = cs ∧ Rd (fun b => m ≤ b) H fK 4 v l ∧ ∀ x ∈ l, CkR (fun b => m ≤ b) H x := by
  obtain ⟨l, k, kB, kO, kT, G, h1, h2, h3, h4, h5, h6, h7, h8, h9, h10, h11, h12, h13⟩ := h.ex
  refine ⟨l, h1, h2.rd.imp (fun b _ e => h10.ge e), fun x hx => ?_⟩
  rcases dl_cases hx with hx | rfl
  · exact (h6 x hx).imp (fun b _ e => (h9 b e).1)
  · exact ⟨h3.rd.imp (fun b _ e => h11.ge e), h4.rd.imp (fun b _ e => h12.ge e), h5.rd.imp (fun b _ e => h13.ge e)⟩
end
/-- one chunk more -/
def lastC (cs : List Cn) : Cn := cs.getLastD (0, [], [], [])
def addC (cs : List Cn) (kd : Int) (b o t : List (List UInt8)) : List Cn :=
  if b.length + o.length + t.length = 0 then cs else if cs.length = 0 ∨ kd ≠ 0 ∨ (lastC cs).1 ≠ 0 then cs ++ [(kd, b, o, t)]
  else cs.dropLast ++ [((lastC cs).1, (lastC cs).2.1 ++ b, (lastC cs).2.2.1 ++ o, (lastC cs).2.2.2 ++ t)]
theorem lastC_map (l : List Ck) : lastC (l.map Ck.c) = (la l).c := by
  rcases List.eq_nil_or_concat l with rfl | ⟨l0, y, rfl⟩
  · rfl
  · rw [List.concat_eq_append, la_snoc]; simp [lastC]
theorem map_dropLast (l : List Ck) : (l.map Ck.c).dropLast = l.dropLast.map Ck.c := by rw [List.map_dropLast]
theorem snoc_of {l : List Ck} (h : l.length ≠ 0) : ∃ l0 x, l = l0 ++ [x] := by
  rcases List.eq_nil_or_concat l with rfl | ⟨l0, y, rfl⟩
  · exact absurd rfl h
  · exact ⟨l0, y, by rw [List.concat_eq_append]⟩
/-- the frozen rows, with those of what was last -/
theorem froze {G : Nat → Prop} {H : Heap} {l : List Ck} {kB kO kT : Nat} (h : ∀ x ∈ l.dropLast, CkR G H x) (hB : Ow kB 9 H fS 1 (la l).vb.v (la l).b) (hO : Ow kO 9 H fS 1 (la l).vo.v (la l).o) (hT : Ow kT 9 H fS 1 (la l).vt.v (la l).t) :
    ∀ x ∈ l, CkR (fun b => G b ∨ b + 1 = kB ∨ b + 1 = kO ∨ b + 1 = kT) H x := by
  intro x hx
  rcases dl_cases hx with hx | rfl
  · exact (h x hx).imp (fun b _ e => .inl e)
  · exact ⟨hB.rd.imp (fun b _ e => .inr (.inl e)), hO.rd.imp (fun b _ e => .inr (.inr (.inl e))), hT.rd.imp (fun b _ e => .inr (.inr (.inr e)))⟩
theorem DF.four {G : Nat → Prop} {kB kO kT k : Nat} (h : DF G k) (hB : Dj k kB) (hO : Dj k kO) (hT : Dj k kT) : DF (fun b => G b ∨ b + 1 = kB ∨ b + 1 = kO ∨ b + 1 = kT) k := by
  rintro b (e | e | e | e) h2
  · exact h b e h2
  · exact hB b h2 e
  · exact hO b h2 e
  · exact hT b h2 e
/-- put behind -/
theorem Cc.push {m n : Nat} {H : Heap} {v : Value} {l : List Ck} {x : Ck} {G : Nat → Prop} {k kB kO kT kb ko kt : Nat} (hk : Ow k 54 H fK 4 v (l ++ [x])) (h : ∀ x ∈ l.dropLast, CkR G H x) (hB : Ow kB 9 H fS 1 (la l).vb.v (la l).b) (hO : Ow kO 9 H fS 1 (la l).vo.v (la l).o) (hT : Ow kT 9 H fS 1 (la l).vt.v (la l).t)
    (hb : Ow kb 9 H fS 1 x.vb.v x.b) (ho : Ow ko 9 H fS 1 x.vo.v x.o) (ht : Ow kt 9 H fS 1 x.vt.v x.t)
    (dk : DF G k ∧ Dj k kB ∧ Dj k kO ∧ Dj k kT) (db : DF G kb ∧ Dj kb kB ∧ Dj kb kO ∧ Dj kb kT) (do_ : DF G ko ∧ Dj ko kB ∧ Dj ko kO ∧ Dj ko kT) (dt : DF G kt ∧ Dj kt kB ∧ Dj kt kO ∧ Dj kt kT) (d : Dj k kb ∧ Dj k ko ∧ Dj k kt ∧ Dj kb ko ∧ Dj kb kt ∧ Dj ko kt)
    (hG : ∀ b, G b → m ≤ b ∧ b < n) (bB : Bt m n kB) (bO : Bt m n kO) (bT : Bt m n kT) (b0 : Bt m n k) (b1 : Bt m n kb) (b2 : Bt m n ko) (b3 : Bt m n kt) : Cc m n H v (l.map Ck.c ++ [x.c]) := by
  refine ⟨l ++ [x], k, kb, ko, kt, _, by simp, hk, by rw [la_snoc]; exact hb, by rw [la_snoc]; exact ho, by rw [la_snoc]; exact ht, by rw [List.dropLast_concat]; exact froze h hB hO hT, d, ⟨DF.four dk.1 dk.2.1 dk.2.2.1 dk.2.2.2, DF.four db.1 db.2.1 db.2.2.1 db.2.2.2, DF.four do_.1 do_.2.1 do_.2.2.1 do_.2.2.2, DF.four dt.1 dt.2.1 dt.2.2.1 dt.2.2.2⟩, ?_, b0, b1, b2, b3⟩
  rintro b (e | e | e | e)
  · exact hG b e
  · unfold Bt at bB; omega
  · unfold Bt at bO; omega
  · unfold Bt at bT; omega
theorem addC_push {l : List Ck} {kd : Int} {b o t : List (List UInt8)} (h0 : ¬ b.length + o.length + t.length = 0) (h : l.length = 0 ∨ kd ≠ 0 ∨ (la l).k ≠ 0) : addC (l.map Ck.c) kd b o t = l.map Ck.c ++ [(kd, b, o, t)] := by
  unfold addC
  rw [if_neg h0, if_pos (by rw [lastC_map, List.length_map]; exact h)]
theorem addC_join {l : List Ck} {x : Ck} {kd : Int} {b o t : List (List UInt8)} (h0 : ¬ b.length + o.length + t.length = 0) (h : ¬ (kd ≠ 0 ∨ x.k ≠ 0)) : addC ((l ++ [x]).map Ck.c) kd b o t = l.map Ck.c ++ [(x.k, x.b ++ b, x.o ++ o, x.t ++ t)] := by
  unfold addC
  rw [if_neg h0, lastC_map, la_snoc, if_neg (by simp; omega)]
  simp
theorem addC_none {cs : List Cn} {kd : Int} {b o t : List (List UInt8)} (h0 : b.length + o.length + t.length = 0) : addC cs kd b o t = cs := by unfold addC; rw [if_pos h0]

set_option maxHeartbeats 4000000 in
theorem radd_ct0 (v : Value) (l : List Ck) (kd : Int) (sb so st : SV) (k kB kO kT kb ko kt m : Nat) (G : Nat → Prop) (b o t : List (List UInt8)) (w0 : World) (H0 : Heap)
    (ow : Ow k 54 H0 fK 4 v l) (oB : Ow kB 9 H0 fS 1 (la l).vb.v (la l).b) (oO : Ow kO 9 H0 fS 1 (la l).vo.v (la l).o) (oT : Ow kT 9 H0 fS 1 (la l).vt.v (la l).t) (hx : ∀ x ∈ l.dropLast, CkR G H0 x) (bf_hx : BF G H0.size) (d1 : Dj k kB) (d2 : Dj k kO) (d3 : Dj k kT) (d4 : Dj kB kO) (d5 : Dj kB kT) (d6 : Dj kO kT) (f1 : DF G k) (f2 : DF G kB) (f3 : DF G kO) (f4 : DF G kT) (hG : ∀ b, G b → m ≤ b ∧ b < H0.size) (b0 : Bt m H0.size k) (bB : Bt m H0.size kB) (bO : Bt m H0.size kO) (bT : Bt m H0.size kT) (hm : m ≤ H0.size) (ob : Ow kb 9 H0 fS 1 sb.v b) (oo : Ow ko 9 H0 fS 1 so.v o) (ot : Ow kt 9 H0 fS 1 st.v t) (e00 : Dj k kb) (e01 : Dj k ko) (e02 : Dj k kt) (e10 : Dj kB kb) (e11 : Dj kB ko) (e12 : Dj kB kt) (e20 : Dj kO kb) (e21 : Dj kO ko) (e22 : Dj kO kt) (e30 : Dj kT kb) (e31 : Dj kT ko) (e32 : Dj kT kt) (g1 : Dj kb ko) (g2 : Dj kb kt) (g3 : Dj ko kt) (i1 : DF G kb) (i2 : DF G ko) (i3 : DF G kt) (bb : Bt m H0.size kb) (bo : Bt m H0.size ko) (bt : Bt m H0.size kt) (hll : l.length ≤ 1048576) (hbl : b.length ≤ 1048576 ∧ (la l).b.length ≤ 1048576) (hol : o.length ≤ 1048576 ∧ (la l).o.length ≤ 1048576) (htl : t.length ≤ 1048576 ∧ (la l).t.length ≤ 1048576) :
    Ct Try.prog w0 46 #[v, .agg #[.int .i64 kd, sb.v, so.v, st.v]] H0 (fun r H2 => ∃ v2 : Value, r = v2 ∧ (Cc m H2.size H2 v2 (addC (l.map Ck.c) kd b o t)) ∧ Mo (Ms [k, kB, kO, kT]) H0 H2) := by
  refine Ct.enter (args := [v, .agg #[.int .i64 kd, sb.v, so.v, st.v]]) Try.func46 rfl rfl rfl ?_
  intro Q0 hret
  have hm0 : Mo (Ms [k, kB, kO, kT]) H0 H0 := Mo.refl _ _
  have nx_hm0_ow := Nx.refl k H0.size
  have hle_ow := ow.le
  have nx_hm0_oB := Nx.refl kB H0.size
  have hle_oB := oB.le
  have nx_hm0_oO := Nx.refl kO H0.size
  have hle_oO := oO.le
  have nx_hm0_oT := Nx.refl kT H0.size
  have hle_oT := oT.le
  have nx_hm0_ob := Nx.refl kb H0.size
  have hle_ob := ob.le
  have nx_hm0_oo := Nx.refl ko H0.size
  have hle_oo := oo.le
  have nx_hm0_ot := Nx.refl kt H0.size
  have hle_ot := ot.le
  refine CW.seq (fun K1 hK1 hE1 => ?_)
  refine CW.region ?_
  refine LR.z (Z.boxv rfl rfl) (Wd.u rfl) rfl rfl (fun v3 H3 r3 => ?_)
  obtain ⟨rfl, hc, hs3, ob3, hH3⟩ := r3
  have hzs3 : H3.size = H0.size + 1 := by rw [hH3]; simp
  have dj1 : Dj k (H0.size + 1) := Dj.new ow.le
  have dj2 : Dj kB (H0.size + 1) := Dj.new oB.le
  have dj3 : Dj kO (H0.size + 1) := Dj.new oO.le
  have dj4 : Dj kT (H0.size + 1) := Dj.new oT.le
  have df5 := (DF.new (bf_hx.mono hm0.size) : DF _ (H0.size + 1))
  have dj6 : Dj kb (H0.size + 1) := Dj.new ob.le
  have dj7 : Dj ko (H0.size + 1) := Dj.new oo.le
  have dj8 : Dj kt (H0.size + 1) := Dj.new ot.le
  have nx9 : Nx 0 H0.size (H0.size + 1) := Nx.new hm0.size
  replace ow := ow.nw hs3
  replace oB := oB.nw hs3
  replace oO := oO.nw hs3
  replace oT := oT.nw hs3
  replace hx := fun x hx_ => (hx x hx_).nw hs3
  replace ob := ob.nw hs3
  replace oo := oo.nw hs3
  replace ot := ot.nw hs3
  replace hm0 := hm0.trN hs3
  have hz1 := hs3.size
  replace hc : Var 54 H3 H0.size ([.int .i64 kd, sb.v, so.v, st.v]) := hc
  refine LR.v (Y.assign rfl rfl) (Wd.u rfl) rfl rfl ?_
  refine LR.nil ?_
  refine hK1 _ _ ?_
  refine CW.seq (fun K2 hK2 hE2 => ?_)
  refine CW.region ?_
  refine LR.v (Y.move rfl rfl) (Wd.u rfl) rfl rfl ?_
  refine LR.v (Y.len ow.rd rfl Try.runUnderlying50 rfl) (Wd.u rfl) rfl rfl ?_
  refine LR.v (Y.assign rfl rfl) (Wd.u rfl) rfl rfl ?_
  refine LR.nil ?_
  refine hK2 _ _ ?_
  refine CW.seq (fun K3 hK3 hE3 => ?_)
  refine CW.seq (fun K4 hK4 hE4 => ?_)
  refine CW.region ?_
  refine LR.v (Y.fieldAddr hc.pt rfl Try.runUnderlying54 rfl rfl Try.sizeOf32 (by decide) rfl) (Wd.u rfl) rfl rfl ?_
  refine LR.v (Y.load1 (hc.pt.drop 1) rfl Try.isAgg32 rfl) (Wd.u rfl) rfl rfl ?_
  refine LR.v (Y.len ob.rd rfl Try.runUnderlying32 rfl) (Wd.u rfl) rfl rfl ?_
  refine LR.v (Y.fieldAddr hc.pt rfl Try.runUnderlying54 rfl rfl Try.sizeOf32 (by decide) rfl) (Wd.u rfl) rfl rfl ?_
  refine LR.v (Y.load1 (hc.pt.drop 2) rfl Try.isAgg32 rfl) (Wd.u rfl) rfl rfl ?_
  refine LR.v (Y.len oo.rd rfl Try.runUnderlying32 rfl) (Wd.u rfl) rfl rfl ?_
  refine LR.v (Y.addi rfl rfl rfl (by omega)) (Wd.u rfl) rfl rfl ?_
  refine LR.v (Y.fieldAddr hc.pt rfl Try.runUnderlying54 rfl rfl Try.sizeOf32 (by decide) rfl) (Wd.u rfl) rfl rfl ?_
  refine LR.v (Y.load1 (hc.pt.drop 3) rfl Try.isAgg32 rfl) (Wd.u rfl) rfl rfl ?_
  refine LR.v (Y.len ot.rd rfl Try.runUnderlying32 rfl) (Wd.u rfl) rfl rfl ?_
  refine LR.v (Y.addi rfl rfl rfl (by omega)) (Wd.u rfl) rfl rfl ?_
  refine LR.v (Y.eql rfl rfl rfl) (Wd.u rfl) rfl rfl ?_
  refine LR.nil ?_
  refine hK4 _ _ ?_
  refine CW.condp rfl (fun c19 => ?_) (fun c19 => ?_)
  ·
    refine CW.seq (fun K5 hK5 hE5 => ?_)
    refine CW.region ?_
    refine LR.v (Y.move rfl rfl) (Wd.u rfl) rfl rfl ?_
    refine LR.v (Y.assign rfl rfl) (Wd.u rfl) rfl rfl ?_
    refine LR.nil ?_
    refine hK5 _ _ ?_
    refine CW.ret (hE3 .ret nofun _ _ (hret .ret (.inr rfl) _ _ _ (res1 rfl rfl) ?_))
    exact ⟨v, rfl, by rw [addC_none (by omega)]; exact ⟨l, k, kB, kO, kT, G, rfl, ow, oB, oO, oT, hx, ⟨d1, d2, d3, d4, d5, d6⟩, ⟨f1, f2, f3, f4⟩, (fun b e => ⟨(hG b e).1, Nat.lt_of_lt_of_le (hG b e).2 hm0.size⟩), b0.mono hm0.size, bB.mono hm0.size, bO.mono hm0.size, bT.mono hm0.size⟩, hm0⟩
  ·
    refine CW.skip ?_
    refine hK3 _ _ ?_
    refine CW.seq (fun K6 hK6 hE6 => ?_)
    refine CW.seq (fun K7 hK7 hE7 => ?_)
    refine CW.region ?_
    refine LR.v (Y.fieldAddr hc.pt rfl Try.runUnderlying54 rfl rfl Try.sizeOf3 (by decide) rfl) (Wd.u rfl) rfl rfl ?_
    refine LR.v (Y.load1 hc.pt rfl Try.isAgg3 rfl) (Wd.u rfl) rfl rfl ?_
    refine LR.v (Y.eql rfl rfl rfl) (Wd.u rfl) rfl rfl ?_
    refine LR.v (Y.move rfl rfl) (Wd.u rfl) rfl rfl ?_
    refine LR.splitp (d := 24) rfl (fun g24 => ?_) (fun g24 => ?_)
    ·
      refine LR.v (Y.move rfl rfl) (Wd.g rfl rfl rfl) rfl rfl ?_
      refine LR.v (Y.gtr rfl rfl rfl) (Wd.g rfl rfl rfl) rfl rfl ?_
      refine LR.v (Y.pick_t rfl rfl rfl) (Wd.u rfl) rfl rfl ?_
      refine LR.v (Y.move rfl rfl) (Wd.u rfl) rfl rfl ?_
      refine LR.splitp (d := 28) rfl (fun g28 => ?_) (fun g28 => ?_)
      ·
        refine LR.v (Y.move rfl rfl) (Wd.g rfl rfl rfl) rfl rfl ?_
        refine LR.v (Y.move rfl rfl) (Wd.g rfl rfl rfl) rfl rfl ?_
        refine LR.v (Y.subi rfl rfl rfl (by omega)) (Wd.g rfl rfl rfl) rfl rfl ?_
        refine LR.v (Y.owAddr ow (l.length - 1) rfl Try.runUnderlying50 Try.sizeOf54 rfl rfl (by first | rfl | omega) (by first | omega | (simp; omega) | (simp; done))) (Wd.g rfl rfl rfl) rfl rfl ?_
        refine LR.v (Y.fieldAddr (ow.pt (j := l.length - 1) (by first | omega | (simp; omega) | (simp; done))) rfl Try.runUnderlying54 rfl rfl Try.sizeOf3 (by decide) rfl) (Wd.g rfl rfl rfl) rfl rfl ?_
        refine LR.v (Y.cast (v2 := .int .i64 (la l).k) (Y.load1 ((ow.pt (j := l.length - 1) (by first | omega | (simp; omega) | (simp; done))).drop 0) rfl Try.isAgg3 rfl) (by rw [← la_at l (by omega)])) (Wd.g rfl rfl rfl) rfl rfl ?_
        refine LR.v (Y.eql rfl rfl rfl) (Wd.g rfl rfl rfl) rfl rfl ?_
        refine LR.v (Y.pick_t rfl rfl rfl) (Wd.u rfl) rfl rfl ?_
        refine LR.nil ?_
        refine hK7 _ _ ?_
        refine CW.condp rfl (fun c36 => ?_) (fun c36 => ?_)
        ·
          obtain ⟨l0, x, rfl⟩ := snoc_of (l := l) (by omega)
          simp only [la_snoc, List.dropLast_concat] at *
          have hat : (l0 ++ [x])[l0.length]'(by simp) = x := by simp
          refine CW.seq (fun K8 hK8 hE8 => ?_)
          refine CW.region_any (fun Hq => Mo (Ms [kB]) H3 Hq) [12, 13, 14] rfl ?_
          have hq5 : Mo (Ms [kB]) H3 H3 := Mo.refl _ _
          have nx10 := Nx.refl kB H3.size
          refine LH.take 0 (by kernel_rfl) rfl (by kernel_rfl) (by kernel_rfl) (by kernel_rfl) (fun Hq hq => Y.move rfl rfl) (Wd.u rfl) rfl rfl hq5 ?_
          refine LH.take 1 (by kernel_rfl) rfl (by kernel_rfl) (by kernel_rfl) (by kernel_rfl) (fun Hq hq => Y.move rfl rfl) (Wd.u rfl) rfl rfl hq5 ?_
          refine LH.take 2 (by kernel_rfl) rfl (by kernel_rfl) (by kernel_rfl) (by kernel_rfl) (fun Hq hq => Y.cast (v2 := .int .i64 l0.length) (Y.subi rfl rfl rfl (by omega)) (ivv (by first | omega | (simp; done) | (simp; omega)))) (Wd.u rfl) rfl rfl hq5 ?_
          refine LH.take 3 (by kernel_rfl) rfl (by kernel_rfl) (by kernel_rfl) (by kernel_rfl) (fun Hq hq => Y.move rfl rfl) (Wd.u rfl) rfl rfl hq5 ?_
          refine LH.take 4 (by kernel_rfl) rfl (by kernel_rfl) (by kernel_rfl) (by kernel_rfl) (fun Hq hq => Y.move rfl rfl) (Wd.u rfl) rfl rfl hq5 ?_
          refine LH.take 5 (by kernel_rfl) rfl (by kernel_rfl) (by kernel_rfl) (by kernel_rfl) (fun Hq hq => Y.cast (v2 := .int .i64 l0.length) (Y.subi rfl rfl rfl (by omega)) (ivv (by first | omega | (simp; done) | (simp; omega)))) (Wd.u rfl) rfl rfl hq5 ?_
          refine LH.take 6 (by kernel_rfl) rfl (by kernel_rfl) (by kernel_rfl) (by kernel_rfl) (fun Hq hq => Y.owAddr (ow.upL hq (DL.cons d1 DL.nil)) (l0.length) rfl Try.runUnderlying50 Try.sizeOf54 rfl rfl (by first | rfl | omega) (by simp)) (Wd.u rfl) rfl rfl hq5 ?_
          refine LH.take 7 (by kernel_rfl) rfl (by kernel_rfl) (by kernel_rfl) (by kernel_rfl) (fun Hq hq => Y.fieldAddr ((ow.upL hq (DL.cons d1 DL.nil)).pt (j := l0.length) (by simp)) rfl Try.runUnderlying54 rfl rfl Try.sizeOf32 (by decide) rfl) (Wd.u rfl) rfl rfl hq5 ?_
          refine LH.take 8 (by kernel_rfl) rfl (by kernel_rfl) (by kernel_rfl) (by kernel_rfl) (fun Hq hq => Y.cast (v2 := x.vb.v) (Y.load1 (((ow.upL hq (DL.cons d1 DL.nil)).pt (j := l0.length) (by simp)).drop 1) rfl Try.isAgg32 rfl) (by rw [List.getElem_concat_length rfl])) (Wd.u rfl) rfl rfl hq5 ?_
          refine LH.take 9 (by kernel_rfl) rfl (by kernel_rfl) (by kernel_rfl) (by kernel_rfl) (fun Hq hq => Y.fieldAddr (hc.upL hq (DL.cons dj2.symm DL.nil)).pt rfl Try.runUnderlying54 rfl rfl Try.sizeOf32 (by decide) rfl) (Wd.u rfl) rfl rfl hq5 ?_
          refine LH.take 10 (by kernel_rfl) rfl (by kernel_rfl) (by kernel_rfl) (by kernel_rfl) (fun Hq hq => Y.load1 ((hc.upL hq (DL.cons dj2.symm DL.nil)).pt.drop 1) rfl Try.isAgg32 rfl) (Wd.u rfl) rfl rfl hq5 ?_
          refine LH.one (i := 11) (by kernel_rfl) ?_
          refine LO.z rfl (Z.apnd oB ob.rd.any rfl inf32 rfl rfl (by omega) (by omega)) (Wd.u rfl) rfl rfl (fun v48 H48 r48 => ?_)
          obtain ⟨kB2, oB, hk48, hs48⟩ := r48
          replace hk48 : Nx kB H3.size kB2 := hk48
          replace hs48 := hs48.md
          have dj11 : Dj k kB2 := Dj.app (d1) ow.le hk48
          have dj12 : Dj kO kB2 := Dj.app (d4.symm) oO.le hk48
          have dj13 : Dj kT kB2 := Dj.app (d5.symm) oT.le hk48
          have df14 := DF.app (f2) (bf_hx.mono hm0.size) hk48
          have dj15 : Dj kb kB2 := Dj.app (e10.symm) ob.le hk48
          have dj16 : Dj ko kB2 := Dj.app (e11.symm) oo.le hk48
          have dj17 : Dj kt kB2 := Dj.app (e12.symm) ot.le hk48
          have dj18 : Dj (H0.size + 1) kB2 := Dj.app (dj2.symm) hc.lt hk48
          have nx19 : Nx kB H0.size kB2 := Nx.tr (nx_hm0_oB) hk48 hm0.size
          have nx20 : Nx kB H3.size kB2 := Nx.tr (nx10) hk48 hq5.size
          replace ow := ow.upL hs48 (DL.cons d1 DL.nil)
          replace oO := oO.upL hs48 (DL.cons d4.symm DL.nil)
          replace oT := oT.upL hs48 (DL.cons d5.symm DL.nil)
          replace hx := fun x hx_ => (hx x hx_).upL hs48 (DFL.cons f2 DFL.nil)
          replace ob := ob.upL hs48 (DL.cons e10.symm DL.nil)
          replace oo := oo.upL hs48 (DL.cons e11.symm DL.nil)
          replace ot := ot.upL hs48 (DL.cons e12.symm DL.nil)
          replace hc := hc.upL hs48 (DL.cons dj2.symm DL.nil)
          replace hm0 := hm0.trL hs48 (MIL.cons (MI.app (MI.root (by simp)) (nx_hm0_oB) (Nat.le_refl _)) MIL.nil)
          replace hq5 := hq5.trL hs48 (MIL.cons (MI.app (MI.root (by simp)) (nx10) (Nat.le_refl _)) MIL.nil)
          have hz2 := hs48.size
          have hle_oB := oB.le
          obtain ⟨sB, rfl⟩ : ∃ s : SV, v48 = s.v := ⟨toSV v48, oB.sv.symm⟩
          refine ⟨.inr hq5, LH.narrow (SH2 := fun Hq => Mo (Ms [kB2]) H48 Hq) (fun Hq hq => hq5.trL hq (MIL.cons (MI.app (MI.root (by simp)) (nx20) (Nat.le_refl _)) MIL.nil)) ?_⟩
          have hq5 : Mo (Ms [kB2]) H48 H48 := Mo.refl _ _
          have nx21 := Nx.refl kB2 H48.size
          refine LH.one (i := 12) (by kernel_rfl) ?_
          refine LO.v rfl (Y.owAddr ow (l0.length) rfl Try.runUnderlying50 Try.sizeOf54 rfl rfl (by first | rfl | omega) (by simp)) (Wd.u rfl) rfl rfl (.inl rfl) ?_
          refine LH.one (i := 13) (by kernel_rfl) ?_
          refine LO.v rfl (Y.fieldAddr (ow.pt (j := l0.length) (by simp)) rfl Try.runUnderlying54 rfl rfl Try.sizeOf32 (by decide) rfl) (Wd.u rfl) rfl rfl (.inl rfl) ?_
          refine LH.one (i := 14) (by kernel_rfl) ?_
          refine LO.s rfl (S.oww ow (l0.length) 1 (Ck.mk x.k (x.b ++ b) x.o x.t sB x.vo x.vt) rfl rfl rfl rfl Try.sizeOf32 (by simp) (by decide) (by rw [List.getElem_concat_length rfl]; rfl)) (Wd.u rfl) rfl (fun H5_14 r5_14 => ?_)
          obtain ⟨ow, hs5_14⟩ := r5_14
          replace hs5_14 := hs5_14.md
          replace oB := oB.upL hs5_14 (DL.cons dj11.symm DL.nil)
          replace oO := oO.upL hs5_14 (DL.cons d2.symm DL.nil)
          replace oT := oT.upL hs5_14 (DL.cons d3.symm DL.nil)
          replace hx := fun x hx_ => (hx x hx_).upL hs5_14 (DFL.cons f1 DFL.nil)
          replace ob := ob.upL hs5_14 (DL.cons e00.symm DL.nil)
          replace oo := oo.upL hs5_14 (DL.cons e01.symm DL.nil)
          replace ot := ot.upL hs5_14 (DL.cons e02.symm DL.nil)
          replace hc := hc.upL hs5_14 (DL.cons dj1.symm DL.nil)
          replace hm0 := hm0.trL hs5_14 (MIL.cons (MI.app (MI.root (by simp)) (nx_hm0_ow) (Nat.le_refl _)) MIL.nil)
          -- LOST hq5
          have hz3 := hs5_14.size
          rw [set_snoc] at ow
          refine ⟨.inl rfl, ?_⟩
          refine LH.done (by kernel_rfl) ?_
          refine hK8 _ _ ?_
          refine CW.seq (fun K9 hK9 hE9 => ?_)
          refine CW.region_any (fun Hq => Mo (Ms [kO]) H5_14 Hq) [12, 13, 14] rfl ?_
          have hq6 : Mo (Ms [kO]) H5_14 H5_14 := Mo.refl _ _
          have nx22 := Nx.refl kO H5_14.size
          refine LH.take 0 (by kernel_rfl) rfl (by kernel_rfl) (by kernel_rfl) (by kernel_rfl) (fun Hq hq => Y.move rfl rfl) (Wd.u rfl) rfl rfl hq6 ?_
          refine LH.take 1 (by kernel_rfl) rfl (by kernel_rfl) (by kernel_rfl) (by kernel_rfl) (fun Hq hq => Y.move rfl rfl) (Wd.u rfl) rfl rfl hq6 ?_
          refine LH.take 2 (by kernel_rfl) rfl (by kernel_rfl) (by kernel_rfl) (by kernel_rfl) (fun Hq hq => Y.cast (v2 := .int .i64 l0.length) (Y.subi rfl rfl rfl (by omega)) (ivv (by first | omega | (simp; done) | (simp; omega)))) (Wd.u rfl) rfl rfl hq6 ?_
          refine LH.take 3 (by kernel_rfl) rfl (by kernel_rfl) (by kernel_rfl) (by kernel_rfl) (fun Hq hq => Y.move rfl rfl) (Wd.u rfl) rfl rfl hq6 ?_
          refine LH.take 4 (by kernel_rfl) rfl (by kernel_rfl) (by kernel_rfl) (by kernel_rfl) (fun Hq hq => Y.move rfl rfl) (Wd.u rfl) rfl rfl hq6 ?_
          refine LH.take 5 (by kernel_rfl) rfl (by kernel_rfl) (by kernel_rfl) (by kernel_rfl) (fun Hq hq => Y.cast (v2 := .int .i64 l0.length) (Y.subi rfl rfl rfl (by omega)) (ivv (by first | omega | (simp; done) | (simp; omega)))) (Wd.u rfl) rfl rfl hq6 ?_
          refine LH.take 6 (by kernel_rfl) rfl (by kernel_rfl) (by kernel_rfl) (by kernel_rfl) (fun Hq hq => Y.owAddr (ow.upL hq (DL.cons d2 DL.nil)) (l0.length) rfl Try.runUnderlying50 Try.sizeOf54 rfl rfl (by first | rfl | omega) (by simp)) (Wd.u rfl) rfl rfl hq6 ?_
          refine LH.take 7 (by kernel_rfl) rfl (by kernel_rfl) (by kernel_rfl) (by kernel_rfl) (fun Hq hq => Y.fieldAddr ((ow.upL hq (DL.cons d2 DL.nil)).pt (j := l0.length) (by simp)) rfl Try.runUnderlying54 rfl rfl Try.sizeOf32 (by decide) rfl) (Wd.u rfl) rfl rfl hq6 ?_
          refine LH.take 8 (by kernel_rfl) rfl (by kernel_rfl) (by kernel_rfl) (by kernel_rfl) (fun Hq hq => Y.cast (v2 := x.vo.v) (Y.load1 (((ow.upL hq (DL.cons d2 DL.nil)).pt (j := l0.length) (by simp)).drop 2) rfl Try.isAgg32 rfl) (by rw [List.getElem_concat_length rfl])) (Wd.u rfl) rfl rfl hq6 ?_
          refine LH.take 9 (by kernel_rfl) rfl (by kernel_rfl) (by kernel_rfl) (by kernel_rfl) (fun Hq hq => Y.fieldAddr (hc.upL hq (DL.cons dj3.symm DL.nil)).pt rfl Try.runUnderlying54 rfl rfl Try.sizeOf32 (by decide) rfl) (Wd.u rfl) rfl rfl hq6 ?_
          refine LH.take 10 (by kernel_rfl) rfl (by kernel_rfl) (by kernel_rfl) (by kernel_rfl) (fun Hq hq => Y.load1 ((hc.upL hq (DL.cons dj3.symm DL.nil)).pt.drop 2) rfl Try.isAgg32 rfl) (Wd.u rfl) rfl rfl hq6 ?_
          refine LH.one (i := 11) (by kernel_rfl) ?_
          refine LO.z rfl (Z.apnd oO oo.rd.any rfl inf32 rfl rfl (by omega) (by omega)) (Wd.u rfl) rfl rfl (fun v62 H62 r62 => ?_)
          obtain ⟨kO2, oO, hk62, hs62⟩ := r62
          replace hk62 : Nx kO H5_14.size kO2 := hk62
          replace hs62 := hs62.md
          have dj23 : Dj k kO2 := Dj.app (d2) ow.le hk62
          have dj24 : Dj kB2 kO2 := Dj.app (dj12.symm) oB.le hk62
          have dj25 : Dj kT kO2 := Dj.app (d6.symm) oT.le hk62
          have df26 := DF.app (f3) (bf_hx.mono hm0.size) hk62
          have dj27 : Dj kb kO2 := Dj.app (e20.symm) ob.le hk62
          have dj28 : Dj ko kO2 := Dj.app (e21.symm) oo.le hk62
          have dj29 : Dj kt kO2 := Dj.app (e22.symm) ot.le hk62
          have dj30 : Dj (H0.size + 1) kO2 := Dj.app (dj3.symm) hc.lt hk62
          have nx31 : Nx kO H0.size kO2 := Nx.tr (nx_hm0_oO) hk62 hm0.size
          have nx32 : Nx kO H5_14.size kO2 := Nx.tr (nx22) hk62 hq6.size
          replace ow := ow.upL hs62 (DL.cons d2 DL.nil)
          replace oB := oB.upL hs62 (DL.cons dj12.symm DL.nil)
          replace oT := oT.upL hs62 (DL.cons d6.symm DL.nil)
          replace hx := fun x hx_ => (hx x hx_).upL hs62 (DFL.cons f3 DFL.nil)
          replace ob := ob.upL hs62 (DL.cons e20.symm DL.nil)
          replace oo := oo.upL hs62 (DL.cons e21.symm DL.nil)
          replace ot := ot.upL hs62 (DL.cons e22.symm DL.nil)
          replace hc := hc.upL hs62 (DL.cons dj3.symm DL.nil)
          replace hm0 := hm0.trL hs62 (MIL.cons (MI.app (MI.root (by simp)) (nx_hm0_oO) (Nat.le_refl _)) MIL.nil)
          replace hq6 := hq6.trL hs62 (MIL.cons (MI.app (MI.root (by simp)) (nx22) (Nat.le_refl _)) MIL.nil)
          have hz4 := hs62.size
          have hle_oO := oO.le
          obtain ⟨sO, rfl⟩ : ∃ s : SV, v62 = s.v := ⟨toSV v62, oO.sv.symm⟩
          refine ⟨.inr hq6, LH.narrow (SH2 := fun Hq => Mo (Ms [kO2]) H62 Hq) (fun Hq hq => hq6.trL hq (MIL.cons (MI.app (MI.root (by simp)) (nx32) (Nat.le_refl _)) MIL.nil)) ?_⟩
          have hq6 : Mo (Ms [kO2]) H62 H62 := Mo.refl _ _
          have nx33 := Nx.refl kO2 H62.size
          refine LH.one (i := 12) (by kernel_rfl) ?_
          refine LO.v rfl (Y.owAddr ow (l0.length) rfl Try.runUnderlying50 Try.sizeOf54 rfl rfl (by first | rfl | omega) (by simp)) (Wd.u rfl) rfl rfl (.inl rfl) ?_
          refine LH.one (i := 13) (by kernel_rfl) ?_
          refine LO.v rfl (Y.fieldAddr (ow.pt (j := l0.length) (by simp)) rfl Try.runUnderlying54 rfl rfl Try.sizeOf32 (by decide) rfl) (Wd.u rfl) rfl rfl (.inl rfl) ?_
          refine LH.one (i := 14) (by kernel_rfl) ?_
          refine LO.s rfl (S.oww ow (l0.length) 2 (Ck.mk x.k (x.b ++ b) (x.o ++ o) x.t sB sO x.vt) rfl rfl rfl rfl Try.sizeOf32 (by simp) (by decide) (by rw [List.getElem_concat_length rfl]; rfl)) (Wd.u rfl) rfl (fun H6_14 r6_14 => ?_)
          obtain ⟨ow, hs6_14⟩ := r6_14
          replace hs6_14 := hs6_14.md
          replace oB := oB.upL hs6_14 (DL.cons dj11.symm DL.nil)
          replace oO := oO.upL hs6_14 (DL.cons dj23.symm DL.nil)
          replace oT := oT.upL hs6_14 (DL.cons d3.symm DL.nil)
          replace hx := fun x hx_ => (hx x hx_).upL hs6_14 (DFL.cons f1 DFL.nil)
          replace ob := ob.upL hs6_14 (DL.cons e00.symm DL.nil)
          replace oo := oo.upL hs6_14 (DL.cons e01.symm DL.nil)
          replace ot := ot.upL hs6_14 (DL.cons e02.symm DL.nil)
          replace hc := hc.upL hs6_14 (DL.cons dj1.symm DL.nil)
          replace hm0 := hm0.trL hs6_14 (MIL.cons (MI.app (MI.root (by simp)) (nx_hm0_ow) (Nat.le_refl _)) MIL.nil)
          -- LOST hq6
          have hz5 := hs6_14.size
          rw [set_snoc] at ow
          refine ⟨.inl rfl, ?_⟩
          refine LH.done (by kernel_rfl) ?_
          refine hK9 _ _ ?_
          refine CW.seq (fun K10 hK10 hE10 => ?_)
          refine CW.region_any (fun Hq => Mo (Ms [kT]) H6_14 Hq) [12, 13, 14] rfl ?_
          have hq7 : Mo (Ms [kT]) H6_14 H6_14 := Mo.refl _ _
          have nx34 := Nx.refl kT H6_14.size
          refine LH.take 0 (by kernel_rfl) rfl (by kernel_rfl) (by kernel_rfl) (by kernel_rfl) (fun Hq hq => Y.move rfl rfl) (Wd.u rfl) rfl rfl hq7 ?_
          refine LH.take 1 (by kernel_rfl) rfl (by kernel_rfl) (by kernel_rfl) (by kernel_rfl) (fun Hq hq => Y.move rfl rfl) (Wd.u rfl) rfl rfl hq7 ?_
          refine LH.take 2 (by kernel_rfl) rfl (by kernel_rfl) (by kernel_rfl) (by kernel_rfl) (fun Hq hq => Y.cast (v2 := .int .i64 l0.length) (Y.subi rfl rfl rfl (by omega)) (ivv (by first | omega | (simp; done) | (simp; omega)))) (Wd.u rfl) rfl rfl hq7 ?_
          refine LH.take 3 (by kernel_rfl) rfl (by kernel_rfl) (by kernel_rfl) (by kernel_rfl) (fun Hq hq => Y.move rfl rfl) (Wd.u rfl) rfl rfl hq7 ?_
          refine LH.take 4 (by kernel_rfl) rfl (by kernel_rfl) (by kernel_rfl) (by kernel_rfl) (fun Hq hq => Y.move rfl rfl) (Wd.u rfl) rfl rfl hq7 ?_
          refine LH.take 5 (by kernel_rfl) rfl (by kernel_rfl) (by kernel_rfl) (by kernel_rfl) (fun Hq hq => Y.cast (v2 := .int .i64 l0.length) (Y.subi rfl rfl rfl (by omega)) (ivv (by first | omega | (simp; done) | (simp; omega)))) (Wd.u rfl) rfl rfl hq7 ?_
          refine LH.take 6 (by kernel_rfl) rfl (by kernel_rfl) (by kernel_rfl) (by kernel_rfl) (fun Hq hq => Y.owAddr (ow.upL hq (DL.cons d3 DL.nil)) (l0.length) rfl Try.runUnderlying50 Try.sizeOf54 rfl rfl (by first | rfl | omega) (by simp)) (Wd.u rfl) rfl rfl hq7 ?_
          refine LH.take 7 (by kernel_rfl) rfl (by kernel_rfl) (by kernel_rfl) (by kernel_rfl) (fun Hq hq => Y.fieldAddr ((ow.upL hq (DL.cons d3 DL.nil)).pt (j := l0.length) (by simp)) rfl Try.runUnderlying54 rfl rfl Try.sizeOf32 (by decide) rfl) (Wd.u rfl) rfl rfl hq7 ?_
          refine LH.take 8 (by kernel_rfl) rfl (by kernel_rfl) (by kernel_rfl) (by kernel_rfl) (fun Hq hq => Y.cast (v2 := x.vt.v) (Y.load1 (((ow.upL hq (DL.cons d3 DL.nil)).pt (j := l0.length) (by simp)).drop 3) rfl Try.isAgg32 rfl) (by rw [List.getElem_concat_length rfl])) (Wd.u rfl) rfl rfl hq7 ?_
          refine LH.take 9 (by kernel_rfl) rfl (by kernel_rfl) (by kernel_rfl) (by kernel_rfl) (fun Hq hq => Y.fieldAddr (hc.upL hq (DL.cons dj4.symm DL.nil)).pt rfl Try.runUnderlying54 rfl rfl Try.sizeOf32 (by decide) rfl) (Wd.u rfl) rfl rfl hq7 ?_
          refine LH.take 10 (by kernel_rfl) rfl (by kernel_rfl) (by kernel_rfl) (by kernel_rfl) (fun Hq hq => Y.load1 ((hc.upL hq (DL.cons dj4.symm DL.nil)).pt.drop 3) rfl Try.isAgg32 rfl) (Wd.u rfl) rfl rfl hq7 ?_
          refine LH.one (i := 11) (by kernel_rfl) ?_
          refine LO.z rfl (Z.apnd oT ot.rd.any rfl inf32 rfl rfl (by omega) (by omega)) (Wd.u rfl) rfl rfl (fun v76 H76 r76 => ?_)
          obtain ⟨kT2, oT, hk76, hs76⟩ := r76
          replace hk76 : Nx kT H6_14.size kT2 := hk76
          replace hs76 := hs76.md
          have dj35 : Dj k kT2 := Dj.app (d3) ow.le hk76
          have dj36 : Dj kB2 kT2 := Dj.app (dj13.symm) oB.le hk76
          have dj37 : Dj kO2 kT2 := Dj.app (dj25.symm) oO.le hk76
          have df38 := DF.app (f4) (bf_hx.mono hm0.size) hk76
          have dj39 : Dj kb kT2 := Dj.app (e30.symm) ob.le hk76
          have dj40 : Dj ko kT2 := Dj.app (e31.symm) oo.le hk76
          have dj41 : Dj kt kT2 := Dj.app (e32.symm) ot.le hk76
          have dj42 : Dj (H0.size + 1) kT2 := Dj.app (dj4.symm) hc.lt hk76
          have nx43 : Nx kT H0.size kT2 := Nx.tr (nx_hm0_oT) hk76 hm0.size
          have nx44 : Nx kT H6_14.size kT2 := Nx.tr (nx34) hk76 hq7.size
          replace ow := ow.upL hs76 (DL.cons d3 DL.nil)
          replace oB := oB.upL hs76 (DL.cons dj13.symm DL.nil)
          replace oO := oO.upL hs76 (DL.cons dj25.symm DL.nil)
          replace hx := fun x hx_ => (hx x hx_).upL hs76 (DFL.cons f4 DFL.nil)
          replace ob := ob.upL hs76 (DL.cons e30.symm DL.nil)
          replace oo := oo.upL hs76 (DL.cons e31.symm DL.nil)
          replace ot := ot.upL hs76 (DL.cons e32.symm DL.nil)
          replace hc := hc.upL hs76 (DL.cons dj4.symm DL.nil)
          replace hm0 := hm0.trL hs76 (MIL.cons (MI.app (MI.root (by simp)) (nx_hm0_oT) (Nat.le_refl _)) MIL.nil)
          replace hq7 := hq7.trL hs76 (MIL.cons (MI.app (MI.root (by simp)) (nx34) (Nat.le_refl _)) MIL.nil)
          have hz6 := hs76.size
          have hle_oT := oT.le
          obtain ⟨sT, rfl⟩ : ∃ s : SV, v76 = s.v := ⟨toSV v76, oT.sv.symm⟩
          refine ⟨.inr hq7, LH.narrow (SH2 := fun Hq => Mo (Ms [kT2]) H76 Hq) (fun Hq hq => hq7.trL hq (MIL.cons (MI.app (MI.root (by simp)) (nx44) (Nat.le_refl _)) MIL.nil)) ?_⟩
          have hq7 : Mo (Ms [kT2]) H76 H76 := Mo.refl _ _
          have nx45 := Nx.refl kT2 H76.size
          refine LH.one (i := 12) (by kernel_rfl) ?_
          refine LO.v rfl (Y.owAddr ow (l0.length) rfl Try.runUnderlying50 Try.sizeOf54 rfl rfl (by first | rfl | omega) (by simp)) (Wd.u rfl) rfl rfl (.inl rfl) ?_
          refine LH.one (i := 13) (by kernel_rfl) ?_
          refine LO.v rfl (Y.fieldAddr (ow.pt (j := l0.length) (by simp)) rfl Try.runUnderlying54 rfl rfl Try.sizeOf32 (by decide) rfl) (Wd.u rfl) rfl rfl (.inl rfl) ?_
          refine LH.one (i := 14) (by kernel_rfl) ?_
          refine LO.s rfl (S.oww ow (l0.length) 3 (Ck.mk x.k (x.b ++ b) (x.o ++ o) (x.t ++ t) sB sO sT) rfl rfl rfl rfl Try.sizeOf32 (by simp) (by decide) (by rw [List.getElem_concat_length rfl]; rfl)) (Wd.u rfl) rfl (fun H7_14 r7_14 => ?_)
          obtain ⟨ow, hs7_14⟩ := r7_14
          replace hs7_14 := hs7_14.md
          replace oB := oB.upL hs7_14 (DL.cons dj11.symm DL.nil)
          replace oO := oO.upL hs7_14 (DL.cons dj23.symm DL.nil)
          replace oT := oT.upL hs7_14 (DL.cons dj35.symm DL.nil)
          replace hx := fun x hx_ => (hx x hx_).upL hs7_14 (DFL.cons f1 DFL.nil)
          replace ob := ob.upL hs7_14 (DL.cons e00.symm DL.nil)
          replace oo := oo.upL hs7_14 (DL.cons e01.symm DL.nil)
          replace ot := ot.upL hs7_14 (DL.cons e02.symm DL.nil)
          replace hc := hc.upL hs7_14 (DL.cons dj1.symm DL.nil)
          replace hm0 := hm0.trL hs7_14 (MIL.cons (MI.app (MI.root (by simp)) (nx_hm0_ow) (Nat.le_refl _)) MIL.nil)
          -- LOST hq7
          have hz7 := hs7_14.size
          rw [set_snoc] at ow
          refine ⟨.inl rfl, ?_⟩
          refine LH.done (by kernel_rfl) ?_
          refine hK10 _ _ ?_
          refine CW.seq (fun K11 hK11 hE11 => ?_)
          refine CW.region ?_
          refine LR.v (Y.move rfl rfl) (Wd.u rfl) rfl rfl ?_
          refine LR.v (Y.assign rfl rfl) (Wd.u rfl) rfl rfl ?_
          refine LR.nil ?_
          refine hK11 _ _ ?_
          refine CW.ret (hE6 .ret nofun _ _ (hret .ret (.inr rfl) _ _ _ (res1 rfl rfl) ?_))
          exact ⟨v, rfl, by rw [addC_join (by omega) (by omega)]; exact ⟨l0 ++ [Ck.mk x.k (x.b ++ b) (x.o ++ o) (x.t ++ t) sB sO sT], _, _, _, _, G, by simp, ow, by rw [la_snoc]; exact oB, by rw [la_snoc]; exact oO, by rw [la_snoc]; exact oT, by rw [List.dropLast_concat]; exact hx, ⟨(dj11), (dj23), (dj35), (dj24), (dj36), (dj37)⟩, ⟨(f1), (df14), (df26), (df38)⟩, (fun b e => ⟨(hG b e).1, Nat.lt_of_lt_of_le (hG b e).2 hm0.size⟩), b0.mono hm0.size, (bB.nx (nx19) oB.le hm hm0.size), (bO.nx (nx31) oO.le hm hm0.size), (bT.nx (nx43) oT.le hm hm0.size)⟩, hm0⟩
        ·
          refine CW.skip ?_
          refine hK6 _ _ ?_
          refine CW.seq (fun K12 hK12 hE12 => ?_)
          refine CW.region ?_
          refine LR.v (Y.move rfl rfl) (Wd.u rfl) rfl rfl ?_
          refine LR.v (Y.loadN hc.pt rfl Try.isAgg54 Try.sizeOf54 (rfl) rfl) (Wd.u rfl) rfl rfl ?_
          refine LR.z (Z.litw _ ([(⟨kd, b, o, t, sb, so, st⟩ : Ck)]) rfl inf50 rfl rfl rfl (by decide) (by decide) fK_len fK_one (rfl)) (Wd.u rfl) rfl rfl (fun v82 H82 r82 => ?_)
          obtain ⟨nw82, hs82, ob82, hH82⟩ := r82
          have hzs82 : H82.size = H3.size + 1 := by rw [hH82]; simp
          have dj46 : Dj k (H3.size + 1) := Dj.new ow.le
          have dj47 : Dj kB (H3.size + 1) := Dj.new oB.le
          have dj48 : Dj kO (H3.size + 1) := Dj.new oO.le
          have dj49 : Dj kT (H3.size + 1) := Dj.new oT.le
          have df50 := (DF.new (bf_hx.mono hm0.size) : DF _ (H3.size + 1))
          have dj51 : Dj kb (H3.size + 1) := Dj.new ob.le
          have dj52 : Dj ko (H3.size + 1) := Dj.new oo.le
          have dj53 : Dj kt (H3.size + 1) := Dj.new ot.le
          have dj54 : Dj (H0.size + 1) (H3.size + 1) := Dj.new hc.lt
          have nx55 : Nx 0 H0.size (H3.size + 1) := Nx.new hm0.size
          replace ow := ow.nw hs82
          replace oB := oB.nw hs82
          replace oO := oO.nw hs82
          replace oT := oT.nw hs82
          replace hx := fun x hx_ => (hx x hx_).nw hs82
          replace ob := ob.nw hs82
          replace oo := oo.nw hs82
          replace ot := ot.nw hs82
          replace hc := hc.nw hs82
          replace hm0 := hm0.trN hs82
          have hz8 := hs82.size
          refine LR.z (Z.apnd ow nw82.rd rfl inf50 rfl rfl (by simp; omega) (by simp; omega)) (Wd.u rfl) rfl rfl (fun v83 H83 r83 => ?_)
          obtain ⟨k83, ow83, hk83, hs83⟩ := r83
          replace hk83 : Nx k H82.size k83 := hk83
          replace hs83 := hs83.md
          have dj56 : Dj kB k83 := Dj.app (d1.symm) oB.le hk83
          have dj57 : Dj kO k83 := Dj.app (d2.symm) oO.le hk83
          have dj58 : Dj kT k83 := Dj.app (d3.symm) oT.le hk83
          have df59 := DF.app (f1) (bf_hx.mono hm0.size) hk83
          have dj60 : Dj kb k83 := Dj.app (e00.symm) ob.le hk83
          have dj61 : Dj ko k83 := Dj.app (e01.symm) oo.le hk83
          have dj62 : Dj kt k83 := Dj.app (e02.symm) ot.le hk83
          have dj63 : Dj (H0.size + 1) k83 := Dj.app (dj1.symm) hc.lt hk83
          have dj64 : Dj (H3.size + 1) k83 := Dj.app (dj46.symm) nw82.le hk83
          have nx65 : Nx k H0.size k83 := Nx.tr (nx_hm0_ow) hk83 hm0.size
          replace oB := oB.upL hs83 (DL.cons d1.symm DL.nil)
          replace oO := oO.upL hs83 (DL.cons d2.symm DL.nil)
          replace oT := oT.upL hs83 (DL.cons d3.symm DL.nil)
          replace hx := fun x hx_ => (hx x hx_).upL hs83 (DFL.cons f1 DFL.nil)
          replace ob := ob.upL hs83 (DL.cons e00.symm DL.nil)
          replace oo := oo.upL hs83 (DL.cons e01.symm DL.nil)
          replace ot := ot.upL hs83 (DL.cons e02.symm DL.nil)
          replace hc := hc.upL hs83 (DL.cons dj1.symm DL.nil)
          replace nw82 := nw82.upL hs83 (DL.cons dj46.symm DL.nil)
          replace hm0 := hm0.trL hs83 (MIL.cons (MI.app (MI.root (by simp)) (nx_hm0_ow) (Nat.le_refl _)) MIL.nil)
          have hz9 := hs83.size
          have hle_ow83 := ow83.le
          refine LR.v (Y.assign rfl rfl) (Wd.u rfl) rfl rfl ?_
          refine LR.nil ?_
          refine hK12 _ _ ?_
          refine CW.ret (hret .ret (.inr rfl) _ _ _ (res1 rfl rfl) ?_)
          exact ⟨v83, rfl, by rw [addC_push (by omega) (by omega)]; exact Cc.push (x := ⟨kd, b, o, t, sb, so, st⟩) ow83 hx oB oO oT ob oo ot ⟨(df59), (dj56.symm), (dj57.symm), (dj58.symm)⟩ ⟨(i1), (e10.symm), (e20.symm), (e30.symm)⟩ ⟨(i2), (e11.symm), (e21.symm), (e31.symm)⟩ ⟨(i3), (e12.symm), (e22.symm), (e32.symm)⟩ ⟨(dj60.symm), (dj61.symm), (dj62.symm), (g1), (g2), (g3)⟩ (fun b e => ⟨(hG b e).1, Nat.lt_of_lt_of_le (hG b e).2 hm0.size⟩) (bB.mono hm0.size) (bO.mono hm0.size) (bT.mono hm0.size) (b0.nx (nx65) ow83.le hm hm0.size) (bb.mono hm0.size) (bo.mono hm0.size) (bt.mono hm0.size), hm0⟩
      ·
        refine LR.gs rfl rfl rfl rfl rfl rfl ?_
        refine LR.gs rfl rfl rfl rfl rfl rfl ?_
        refine LR.gs rfl rfl rfl rfl rfl rfl ?_
        refine LR.gs rfl rfl rfl rfl rfl rfl ?_
        refine LR.gs rfl rfl rfl rfl rfl rfl ?_
        refine LR.gs rfl rfl rfl rfl rfl rfl ?_
        refine LR.gs rfl rfl rfl rfl rfl rfl ?_
        refine LR.v (Y.pick_f rfl rfl rfl) (Wd.u rfl) rfl rfl ?_
        refine LR.nil ?_
        refine hK7 _ _ ?_
        refine CW.cond_f rfl ?_
        refine CW.skip ?_
        refine hK6 _ _ ?_
        refine CW.seq (fun K13 hK13 hE13 => ?_)
        refine CW.region ?_
        refine LR.v (Y.move rfl rfl) (Wd.u rfl) rfl rfl ?_
        refine LR.v (Y.loadN hc.pt rfl Try.isAgg54 Try.sizeOf54 (rfl) rfl) (Wd.u rfl) rfl rfl ?_
        refine LR.z (Z.litw _ ([(⟨kd, b, o, t, sb, so, st⟩ : Ck)]) rfl inf50 rfl rfl rfl (by decide) (by decide) fK_len fK_one (rfl)) (Wd.u rfl) rfl rfl (fun v82 H82 r82 => ?_)
        obtain ⟨nw82, hs82, ob82, hH82⟩ := r82
        have hzs82 : H82.size = H3.size + 1 := by rw [hH82]; simp
        have dj66 : Dj k (H3.size + 1) := Dj.new ow.le
        have dj67 : Dj kB (H3.size + 1) := Dj.new oB.le
        have dj68 : Dj kO (H3.size + 1) := Dj.new oO.le
        have dj69 : Dj kT (H3.size + 1) := Dj.new oT.le
        have df70 := (DF.new (bf_hx.mono hm0.size) : DF _ (H3.size + 1))
        have dj71 : Dj kb (H3.size + 1) := Dj.new ob.le
        have dj72 : Dj ko (H3.size + 1) := Dj.new oo.le
        have dj73 : Dj kt (H3.size + 1) := Dj.new ot.le
        have dj74 : Dj (H0.size + 1) (H3.size + 1) := Dj.new hc.lt
        have nx75 : Nx 0 H0.size (H3.size + 1) := Nx.new hm0.size
        replace ow := ow.nw hs82
        replace oB := oB.nw hs82
        replace oO := oO.nw hs82
        replace oT := oT.nw hs82
        replace hx := fun x hx_ => (hx x hx_).nw hs82
        replace ob := ob.nw hs82
        replace oo := oo.nw hs82
        replace ot := ot.nw hs82
        replace hc := hc.nw hs82
        replace hm0 := hm0.trN hs82
        have hz10 := hs82.size
        refine LR.z (Z.apnd ow nw82.rd rfl inf50 rfl rfl (by simp; omega) (by simp; omega)) (Wd.u rfl) rfl rfl (fun v83 H83 r83 => ?_)
        obtain ⟨k83, ow83, hk83, hs83⟩ := r83
        replace hk83 : Nx k H82.size k83 := hk83
        replace hs83 := hs83.md
        have dj76 : Dj kB k83 := Dj.app (d1.symm) oB.le hk83
        have dj77 : Dj kO k83 := Dj.app (d2.symm) oO.le hk83
        have dj78 : Dj kT k83 := Dj.app (d3.symm) oT.le hk83
        have df79 := DF.app (f1) (bf_hx.mono hm0.size) hk83
        have dj80 : Dj kb k83 := Dj.app (e00.symm) ob.le hk83
        have dj81 : Dj ko k83 := Dj.app (e01.symm) oo.le hk83
        have dj82 : Dj kt k83 := Dj.app (e02.symm) ot.le hk83
        have dj83 : Dj (H0.size + 1) k83 := Dj.app (dj1.symm) hc.lt hk83
        have dj84 : Dj (H3.size + 1) k83 := Dj.app (dj66.symm) nw82.le hk83
        have nx85 : Nx k H0.size k83 := Nx.tr (nx_hm0_ow) hk83 hm0.size
        replace oB := oB.upL hs83 (DL.cons d1.symm DL.nil)
        replace oO := oO.upL hs83 (DL.cons d2.symm DL.nil)
        replace oT := oT.upL hs83 (DL.cons d3.symm DL.nil)
        replace hx := fun x hx_ => (hx x hx_).upL hs83 (DFL.cons f1 DFL.nil)
        replace ob := ob.upL hs83 (DL.cons e00.symm DL.nil)
        replace oo := oo.upL hs83 (DL.cons e01.symm DL.nil)
        replace ot := ot.upL hs83 (DL.cons e02.symm DL.nil)
        replace hc := hc.upL hs83 (DL.cons dj1.symm DL.nil)
        replace nw82 := nw82.upL hs83 (DL.cons dj66.symm DL.nil)
        replace hm0 := hm0.trL hs83 (MIL.cons (MI.app (MI.root (by simp)) (nx_hm0_ow) (Nat.le_refl _)) MIL.nil)
        have hz11 := hs83.size
        have hle_ow83 := ow83.le
        refine LR.v (Y.assign rfl rfl) (Wd.u rfl) rfl rfl ?_
        refine LR.nil ?_
        refine hK13 _ _ ?_
        refine CW.ret (hret .ret (.inr rfl) _ _ _ (res1 rfl rfl) ?_)
        exact ⟨v83, rfl, by rw [addC_push (by omega) (by omega)]; exact Cc.push (x := ⟨kd, b, o, t, sb, so, st⟩) ow83 hx oB oO oT ob oo ot ⟨(df79), (dj76.symm), (dj77.symm), (dj78.symm)⟩ ⟨(i1), (e10.symm), (e20.symm), (e30.symm)⟩ ⟨(i2), (e11.symm), (e21.symm), (e31.symm)⟩ ⟨(i3), (e12.symm), (e22.symm), (e32.symm)⟩ ⟨(dj80.symm), (dj81.symm), (dj82.symm), (g1), (g2), (g3)⟩ (fun b e => ⟨(hG b e).1, Nat.lt_of_lt_of_le (hG b e).2 hm0.size⟩) (bB.mono hm0.size) (bO.mono hm0.size) (bT.mono hm0.size) (b0.nx (nx85) ow83.le hm hm0.size) (bb.mono hm0.size) (bo.mono hm0.size) (bt.mono hm0.size), hm0⟩
    ·
      refine LR.gs rfl rfl rfl rfl rfl rfl ?_
      refine LR.gs rfl rfl rfl rfl rfl rfl ?_
      refine LR.v (Y.pick_f rfl rfl rfl) (Wd.u rfl) rfl rfl ?_
      refine LR.v (Y.move rfl rfl) (Wd.u rfl) rfl rfl ?_
      refine LR.gs rfl rfl rfl rfl rfl rfl ?_
      refine LR.gs rfl rfl rfl rfl rfl rfl ?_
      refine LR.gs rfl rfl rfl rfl rfl rfl ?_
      refine LR.gs rfl rfl rfl rfl rfl rfl ?_
      refine LR.gs rfl rfl rfl rfl rfl rfl ?_
      refine LR.gs rfl rfl rfl rfl rfl rfl ?_
      refine LR.gs rfl rfl rfl rfl rfl rfl ?_
      refine LR.v (Y.pick_f rfl rfl rfl) (Wd.u rfl) rfl rfl ?_
      refine LR.nil ?_
      refine hK7 _ _ ?_
      refine CW.cond_f rfl ?_
      refine CW.skip ?_
      refine hK6 _ _ ?_
      refine CW.seq (fun K14 hK14 hE14 => ?_)
      refine CW.region ?_
      refine LR.v (Y.move rfl rfl) (Wd.u rfl) rfl rfl ?_
      refine LR.v (Y.loadN hc.pt rfl Try.isAgg54 Try.sizeOf54 (rfl) rfl) (Wd.u rfl) rfl rfl ?_
      refine LR.z (Z.litw _ ([(⟨kd, b, o, t, sb, so, st⟩ : Ck)]) rfl inf50 rfl rfl rfl (by decide) (by decide) fK_len fK_one (rfl)) (Wd.u rfl) rfl rfl (fun v82 H82 r82 => ?_)
      obtain ⟨nw82, hs82, ob82, hH82⟩ := r82
      have hzs82 : H82.size = H3.size + 1 := by rw [hH82]; simp
      have dj86 : Dj k (H3.size + 1) := Dj.new ow.le
      have dj87 : Dj kB (H3.size + 1) := Dj.new oB.le
      have dj88 : Dj kO (H3.size + 1) := Dj.new oO.le
      have dj89 : Dj kT (H3.size + 1) := Dj.new oT.le
      have df90 := (DF.new (bf_hx.mono hm0.size) : DF _ (H3.size + 1))
      have dj91 : Dj kb (H3.size + 1) := Dj.new ob.le
      have dj92 : Dj ko (H3.size + 1) := Dj.new oo.le
      have dj93 : Dj kt (H3.size + 1) := Dj.new ot.le
      have dj94 : Dj (H0.size + 1) (H3.size + 1) := Dj.new hc.lt
      have nx95 : Nx 0 H0.size (H3.size + 1) := Nx.new hm0.size
      replace ow := ow.nw hs82
      replace oB := oB.nw hs82
      replace oO := oO.nw hs82
      replace oT := oT.nw hs82
      replace hx := fun x hx_ => (hx x hx_).nw hs82
      replace ob := ob.nw hs82
      replace oo := oo.nw hs82
      replace ot := ot.nw hs82
      replace hc := hc.nw hs82
      replace hm0 := hm0.trN hs82
      have hz12 := hs82.size
      refine LR.z (Z.apnd ow nw82.rd rfl inf50 rfl rfl (by simp; omega) (by simp; omega)) (Wd.u rfl) rfl rfl (fun v83 H83 r83 => ?_)
      obtain ⟨k83, ow83, hk83, hs83⟩ := r83
      replace hk83 : Nx k H82.size k83 := hk83
      replace hs83 := hs83.md
      have dj96 : Dj kB k83 := Dj.app (d1.symm) oB.le hk83
      have dj97 : Dj kO k83 := Dj.app (d2.symm) oO.le hk83
      have dj98 : Dj kT k83 := Dj.app (d3.symm) oT.le hk83
      have df99 := DF.app (f1) (bf_hx.mono hm0.size) hk83
      have dj100 : Dj kb k83 := Dj.app (e00.symm) ob.le hk83
      have dj101 : Dj ko k83 := Dj.app (e01.symm) oo.le hk83
      have dj102 : Dj kt k83 := Dj.app (e02.symm) ot.le hk83
      have dj103 : Dj (H0.size + 1) k83 := Dj.app (dj1.symm) hc.lt hk83
      have dj104 : Dj (H3.size + 1) k83 := Dj.app (dj86.symm) nw82.le hk83
      have nx105 : Nx k H0.size k83 := Nx.tr (nx_hm0_ow) hk83 hm0.size
      replace oB := oB.upL hs83 (DL.cons d1.symm DL.nil)
      replace oO := oO.upL hs83 (DL.cons d2.symm DL.nil)
      replace oT := oT.upL hs83 (DL.cons d3.symm DL.nil)
      replace hx := fun x hx_ => (hx x hx_).upL hs83 (DFL.cons f1 DFL.nil)
      replace ob := ob.upL hs83 (DL.cons e00.symm DL.nil)
      replace oo := oo.upL hs83 (DL.cons e01.symm DL.nil)
      replace ot := ot.upL hs83 (DL.cons e02.symm DL.nil)
      replace hc := hc.upL hs83 (DL.cons dj1.symm DL.nil)
      replace nw82 := nw82.upL hs83 (DL.cons dj86.symm DL.nil)
      replace hm0 := hm0.trL hs83 (MIL.cons (MI.app (MI.root (by simp)) (nx_hm0_ow) (Nat.le_refl _)) MIL.nil)
      have hz13 := hs83.size
      have hle_ow83 := ow83.le
      refine LR.v (Y.assign rfl rfl) (Wd.u rfl) rfl rfl ?_
      refine LR.nil ?_
      refine hK14 _ _ ?_
      refine CW.ret (hret .ret (.inr rfl) _ _ _ (res1 rfl rfl) ?_)
      exact ⟨v83, rfl, by rw [addC_push (by omega) (by omega)]; exact Cc.push (x := ⟨kd, b, o, t, sb, so, st⟩) ow83 hx oB oO oT ob oo ot ⟨(df99), (dj96.symm), (dj97.symm), (dj98.symm)⟩ ⟨(i1), (e10.symm), (e20.symm), (e30.symm)⟩ ⟨(i2), (e11.symm), (e21.symm), (e31.symm)⟩ ⟨(i3), (e12.symm), (e22.symm), (e32.symm)⟩ ⟨(dj100.symm), (dj101.symm), (dj102.symm), (g1), (g2), (g3)⟩ (fun b e => ⟨(hG b e).1, Nat.lt_of_lt_of_le (hG b e).2 hm0.size⟩) (bB.mono hm0.size) (bO.mono hm0.size) (bT.mono hm0.size) (b0.nx (nx105) ow83.le hm hm0.size) (bb.mono hm0.size) (bo.mono hm0.size) (bt.mono hm0.size), hm0⟩

end Go.Proofs.Ytegfnfhdgbcjbaa.MerC
