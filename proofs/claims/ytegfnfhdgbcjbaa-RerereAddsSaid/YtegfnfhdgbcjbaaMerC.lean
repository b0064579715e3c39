/-
  Rows of chunks: how they lie, and one more chunk.
-/
import Derived.Test.YtegfnfhdgbcjbaaMerB
namespace Go.Proofs.Ytegfnfhdgbcjbaa.MerC
open Go.Proofs.Ytegfnfhdgbcjbaa.E Go.RowKit Go.Proofs.Ytegfnfhdgbcjbaa.MerA Go.Proofs.Ytegfnfhdgbcjbaa.MerB
set_option maxRecDepth 20000
set_option linter.unusedVariables false
set_option linter.unusedSimpArgs false
set_option linter.unusedSectionVars false
set_option maxRecDepth 100000 in
theorem inf32 : Inf Try.prog 32 9 1 16 := ⟨Try.underlying32, _, _, rfl, rfl, rfl, rfl, rfl⟩
set_option maxRecDepth 100000 in
theorem inf50 : Inf Try.prog 50 54 4 80 := ⟨Try.underlying50, _, _, rfl, rfl, rfl, rfl, rfl⟩

/-- a chunk, with where its rows lie -/
structure Ck where
  k : Int
  b : List (List UInt8)
  o : List (List UInt8)
  t : List (List UInt8)
  vb : SV
  vo : SV
  vt : SV
/-- a chunk's kind and lines -/
abbrev Cn := Int × List (List UInt8) × List (List UInt8) × List (List UInt8)
abbrev Ck.c (x : Ck) : Cn := (x.k, x.b, x.o, x.t)
def Ck.nil : Ck := ⟨0, [], [], [], ⟨none, 0, 0⟩, ⟨none, 0, 0⟩, ⟨none, 0, 0⟩⟩
abbrev fK (x : Ck) : List Value := [.int .i64 x.k, x.vb.v, x.vo.v, x.vt.v]
theorem fK_len (x : Ck) : (fK x).length = 4 := rfl
theorem fK_one (x : Ck) : ∀ u ∈ fK x, u.oneCell' = true := by
  intro u hu; simp only [List.mem_cons, List.not_mem_nil, or_false] at hu; rcases hu with rfl | rfl | rfl | rfl <;> rfl
def la (l : List Ck) : Ck := l.getLastD Ck.nil
theorem la_snoc (l : List Ck) (x : Ck) : la (l ++ [x]) = x := by simp [la]
structure CkR (F : Nat → Prop) (H : Heap) (x : Ck) : Prop where
  b : Rd F H fS 1 x.vb.v x.b
  o : Rd F H fS 1 x.vo.v x.o
  t : Rd F H fS 1 x.vt.v x.t
section
variable {F F' : Nat → Prop} {H H' : Heap} {x : Ck} {ks : List Nat} {m : Nat}
theorem CkR.nw (h : CkR F H x) (s : Nw H H') : CkR F H' x := ⟨h.b.nw s, h.o.nw s, h.t.nw s⟩
theorem CkR.imp (h : CkR F H x) (d : ∀ b, b < H.size → F b → F' b) : CkR F' H x := ⟨h.b.imp d, h.o.imp d, h.t.imp d⟩
theorem CkR.bnd (h : CkR F H x) : CkR (fun b => F b ∧ b < H.size) H x := h.imp (fun b hb h => ⟨h, hb⟩)
theorem CkR.any (h : CkR F H x) : CkR (fun _ => True) H x := h.imp (fun _ _ _ => trivial)
theorem CkR.upL (h : CkR F H x) (s : Mo (Ms ks) H H') (d : DFL F ks) : CkR F H' x := ⟨h.b.upL s d, h.o.upL s d, h.t.upL s d⟩
theorem CkR.nil : CkR F H Ck.nil := ⟨Rd.nil _ _ _ _, Rd.nil _ _ _ _, Rd.nil _ _ _ _⟩
end
/-- no number, or one from m on, up to n -/
def Bt (m n k : Nat) : Prop := k = 0 ∨ (m < k ∧ k ≤ n)
theorem Bt.mono {m n n2 k : Nat} (h : Bt m n k) (hn : n ≤ n2) : Bt m n2 k := by unfold Bt at *; omega
theorem Bt.z {m n : Nat} : Bt m n 0 := .inl rfl
/-- a row of chunks that is ours, from block m on, below n; the last chunk's rows may be appended to -/
structure Cc (m n : Nat) (H : Heap) (v : Value) (cs : List Cn) : Prop where
  ex : ∃ (l : List Ck) (k kB kO kT : Nat) (G : Nat → Prop), l.map Ck.c = cs ∧ Ow k 54 H fK 4 v l ∧ Ow kB 9 H fS 1 (la l).vb.v (la l).b ∧ Ow kO 9 H fS 1 (la l).vo.v (la l).o ∧ Ow kT 9 H fS 1 (la l).vt.v (la l).t ∧
    (∀ x ∈ l.dropLast, CkR G H x) ∧ (Dj k kB ∧ Dj k kO ∧ Dj k kT ∧ Dj kB kO ∧ Dj kB kT ∧ Dj kO kT) ∧ (DF G k ∧ DF G kB ∧ DF G kO ∧ DF G kT) ∧ (∀ b, G b → m ≤ b ∧ b < n) ∧ (Bt m n k ∧ Bt m n kB ∧ Bt m n kO ∧ Bt m n kT)
section
variable {m n n2 : Nat} {H H' : Heap} {v : Value} {cs : List Cn}
theorem Cc.nw (h : Cc m n H v cs) (s : Nw H H') : Cc m n H' v cs := by
  obtain ⟨l, k, kB, kO, kT, G, h1, h2, h3, h4, h5, h6, h7, h8, h9, h10⟩ := h.ex
  exact ⟨l, k, kB, kO, kT, G, h1, h2.nw s, h3.nw s, h4.nw s, h5.nw s, fun x hx => (h6 x hx).nw s, h7, h8, h9, h10⟩
theorem Cc.mono (h : Cc m n H v cs) (hn : n ≤ n2) : Cc m n2 H v cs := by
  obtain ⟨l, k, kB, kO, kT, G, h1, h2, h3, h4, h5, h6, h7, h8, h9, h10, h11, h12, h13⟩ := h.ex
  exact ⟨l, k, kB, kO, kT, G, h1, h2, h3, h4, h5, h6, h7, h8, fun b e => ⟨(h9 b e).1, Nat.lt_of_lt_of_le (h9 b e).2 hn⟩, h10.mono hn, h11.mono hn, h12.mono hn, h13.mono hn⟩
theorem Cc.nil : Cc m n H (.slice none 0 0) [] :=
  ⟨[], 0, 0, 0, 0, fun _ => False, rfl, Ow.nil fK_len fK_one, Ow.nil fS_len fS_one, Ow.nil fS_len fS_one, Ow.nil fS_len fS_one, (fun x hx => by cases hx), ⟨Dj.z, Dj.z, Dj.z, Dj.z, Dj.z, Dj.z⟩, ⟨DF.z, DF.z, DF.z, DF.z⟩, fun b e => e.elim, Bt.z, Bt.z, Bt.z, Bt.z⟩
theorem dl_cases {l : List Ck} {x : Ck} (h : x ∈ l) : x ∈ l.dropLast ∨ x = la l := by
  rcases List.eq_nil_or_concat l with rfl | ⟨l0, y, rfl⟩
  · cases h
  · rw [List.concat_eq_append] at *
    rw [List.dropLast_concat, la_snoc]
    simpa using h
end
/-- the frozen rows, with those of what was last -/
theorem froze {G : Nat → Prop} {H : Heap} {l : List Ck} {kB kO kT : Nat} (h : ∀ x ∈ l.dropLast, CkR G H x) (hB : Ow kB 9 H fS 1 (la l).vb.v (la l).b) (hO : Ow kO 9 H fS 1 (la l).vo.v (la l).o) (hT : Ow kT 9 H fS 1 (la l).vt.v (la l).t) :
    ∀ x ∈ l, CkR (fun b => G b ∨ b + 1 = kB ∨ b + 1 = kO ∨ b + 1 = kT) H x := by
  intro x hx
  rcases dl_cases hx with hx | rfl
  · exact (h x hx).imp (fun b _ e => .inl e)
  · exact ⟨hB.rd.imp (fun b _ e => .inr (.inl e)), hO.rd.imp (fun b _ e => .inr (.inr (.inl e))), hT.rd.imp (fun b _ e => .inr (.inr (.inr e)))⟩
theorem DF.four {G : Nat → Prop} {kB kO kT k : Nat} (h : DF G k) (hB : Dj k kB) (hO : Dj k kO) (hT : Dj k kT) : DF (fun b => G b ∨ b + 1 = kB ∨ b + 1 = kO ∨ b + 1 = kT) k := by
  rintro b (e | e | e | e) h2
  · exact h b e h2
  · exact hB b h2 e
  · exact hO b h2 e
  · exact hT b h2 e
/-- put behind -/
theorem Cc.push {m n : Nat} {H : Heap} {v : Value} {l : List Ck} {x : Ck} {G : Nat → Prop} {k kB kO kT kb ko kt : Nat} (hk : Ow k 54 H fK 4 v (l ++ [x])) (h : ∀ x ∈ l.dropLast, CkR G H x) (hB : Ow kB 9 H fS 1 (la l).vb.v (la l).b) (hO : Ow kO 9 H fS 1 (la l).vo.v (la l).o) (hT : Ow kT 9 H fS 1 (la l).vt.v (la l).t)
    (hb : Ow kb 9 H fS 1 x.vb.v x.b) (ho : Ow ko 9 H fS 1 x.vo.v x.o) (ht : Ow kt 9 H fS 1 x.vt.v x.t)
    (dk : DF G k ∧ Dj k kB ∧ Dj k kO ∧ Dj k kT) (db : DF G kb ∧ Dj kb kB ∧ Dj kb kO ∧ Dj kb kT) (do_ : DF G ko ∧ Dj ko kB ∧ Dj ko kO ∧ Dj ko kT) (dt : DF G kt ∧ Dj kt kB ∧ Dj kt kO ∧ Dj kt kT) (d : Dj k kb ∧ Dj k ko ∧ Dj k kt ∧ Dj kb ko ∧ Dj kb kt ∧ Dj ko kt)
    (hG : ∀ b, G b → m ≤ b ∧ b < n) (bB : Bt m n kB) (bO : Bt m n kO) (bT : Bt m n kT) (b0 : Bt m n k) (b1 : Bt m n kb) (b2 : Bt m n ko) (b3 : Bt m n kt) : Cc m n H v (l.map Ck.c ++ [x.c]) := by
  refine ⟨l ++ [x], k, kb, ko, kt, _, by simp, hk, by rw [la_snoc]; exact hb, by rw [la_snoc]; exact ho, by rw [la_snoc]; exact ht, by rw [List.dropLast_concat]; exact froze h hB hO hT, d, ⟨DF.four dk.1 dk.2.1 dk.2.2.1 dk.2.2.2, DF.four db.1 db.2.1 db.2.2.1 db.2.2.2, DF.four do_.1 do_.2.1 do_.2.2.1 do_.2.2.2, DF.four dt.1 dt.2.1 dt.2.2.1 dt.2.2.2⟩, ?_, b0, b1, b2, b3⟩
  rintro b (e | e | e | e)
  · exact hG b e
  · unfold Bt at bB; omega
  · unfold Bt at bO; omega
  · unfold Bt at bT; omega
end Go.Proofs.Ytegfnfhdgbcjbaa.MerC
