/-
  All commits that stand above some.
-/
import Derived.Test.YtepdhokpfecdnaaGraB
namespace Go.Proofs.Ytepdhokpfecdnaa.GraC
open Go.Proofs.Ytepdhokpfecdnaa.E Go.RowKit Go.Proofs.Ytepdhokpfecdnaa.GraA Go.Proofs.Ytepdhokpfecdnaa.GraB
set_option maxRecDepth 20000
set_option linter.unusedVariables false
set_option linter.unusedSimpArgs false
set_option linter.unusedSectionVars false
set_option maxRecDepth 100000 in
theorem inf28 : Inf Try.prog 28 30 32 32 := ⟨Try.underlying28, _, _, rfl, rfl, rfl, rfl, rfl⟩

/-- what tells the parents -/
inductive Sou where
  | rows (v : SV) (l : List Rw)
  | row (N : Nat) (lad : Bool)
def Sou.e : Sou → TypeId | .rows _ _ => 27 | .row _ _ => 63
def Sou.t : Sou → TypeId | .rows _ _ => 25 | .row _ _ => 61
def Sou.f : Sou → FuncId | .rows _ _ => 87 | .row _ _ => 88
def Sou.cs : Sou → Nat → List Value | .rows v _, n => [v.v, .int .i64 (n : Int)] | .row N lad, _ => [.int .i64 (N : Int), .bool lad]
def Sou.pa : Sou → Ide → Option (List Ide) | .rows _ l, i => paL (l.map (·.l)) i | .row N lad, i => paN N lad i
def Sou.ok : Sou → Prop | .rows _ l => l.length ≤ 1000 ∧ ∀ x ∈ l, x.l.length ≤ 1000 ∧ ∀ k ∈ x.l, k ≤ 100000 | .row N _ => N ≤ 1000000
abbrev Sou.v (S : Sou) (sb : Nat) : Value := .iface S.t (.pointer (some ⟨sb, 0, none⟩))
/-- the rows of a source -/
structure SRd (F : Nat → Prop) (H : Heap) (S : Sou) : Prop where
  l : ∀ v l, S = .rows v l → Rd F H fRw 1 v.v l
  x : ∀ v l, S = .rows v l → ∀ x ∈ l, Rd F H fN 1 x.v.v x.l
section
variable {F : Nat → Prop} {H H' : Heap} {S : Sou} {ks : List Nat}
theorem SRd.nw (h : SRd F H S) (s : Nw H H') : SRd F H' S := ⟨fun v l e => (h.l v l e).nw s, fun v l e x hx => (h.x v l e x hx).nw s⟩
theorem SRd.upL (h : SRd F H S) (s : Mo (Ms ks) H H') (d : DFL F ks) : SRd F H' S := ⟨fun v l e => (h.l v l e).upL s d, fun v l e x hx => (h.x v l e x hx).upL s d⟩
theorem SRd.bnd (h : SRd F H S) : SRd (fun b => F b ∧ b < H.size) H S := ⟨fun v l e => (h.l v l e).bnd, fun v l e x hx => (h.x v l e x hx).bnd⟩
theorem SRd.bf {G : Nat → Prop} {h : Nat} {H : Heap} {S : Sou} (x : SRd (fun b => G b ∧ b < h) H S) : BF (fun b => G b ∧ b < h) h := fun b e => e.2
theorem SRd.any (h : SRd F H S) : SRd (fun _ => True) H S := ⟨fun v l e => (h.l v l e).any, fun v l e x hx => (h.x v l e x hx).any⟩
end
theorem mth (S : Sou) (sb : Nat) : Mth Try.prog S.t (.pointer (some ⟨sb, 0, none⟩)) "Parents" S.f := by
  cases S with
  | rows v l => exact ⟨fun w => by kernel_rfl, enters_of Try.func87 (by kernel_rfl) rfl⟩
  | row N lad => exact ⟨fun w => by kernel_rfl, enters_of Try.func88 (by kernel_rfl) rfl⟩
theorem par_ct (S : Sou) (sb n : Nat) (i : Ide) (F : Nat → Prop) (w0 : World) (H0 : Heap) (hv : Var S.e H0 sb (S.cs n)) (hr : SRd F H0 S) (bf : BF F H0.size) (df : DF F (sb + 1)) (hok : S.ok) (hn : n ≤ 1000000000) :
    Ct Try.prog w0 S.f #[.pointer (some ⟨sb, 0, none⟩), vA i] H0 (fun r H2 => ∃ s : SV, ∃ ps : List Ide, ∃ e : Nat, r = .tuple #[s.v, eV e] ∧ ((e = 0 ∧ S.pa i = some ps) ∨ (e = 2 ∧ S.pa i = none ∧ ps = [])) ∧ (Rd (fun b => H0.size ≤ b) H2 fA 32 s.v ps) ∧ (Var S.e H2 sb (S.cs (n + 1))) ∧ Mo (Ms [sb + 1]) H0 H2) := by
  cases S with
  | rows v l => exact srcp_ct sb v l n i F w0 H0 hv (hr.l v l rfl) (hr.x v l rfl) bf bf df df hok.1 hok.2 hn
  | row N lad =>
    refine (rowp_ct sb N lad i w0 H0 hv hok).mono ?_
    rintro r H2 ⟨s, ps, e, h1, h2, h3, h4⟩
    exact ⟨s, ps, e, h1, h2, h3, hv.nw h4, h4.mdn _⟩
theorem paN_le {N : Nat} {lad : Bool} {i : Ide} {ps : List Ide} (h : paN N lad i = some ps) : ps.length ≤ 2 := by
  unfold paN at h
  (repeat' split at h) <;> first | (cases h; done) | (simp only [Option.some.injEq] at h; subst h; simp)
theorem paL_le {g : List (List Nat)} {i : Ide} {ps : List Ide} {d : Nat} (hd : ∀ x ∈ g, x.length ≤ d) (h : paL g i = some ps) : ps.length ≤ d := by
  unfold paL at h
  rw [Option.map_eq_some_iff] at h
  obtain ⟨n, _, rfl⟩ := h
  rw [List.length_map]
  by_cases hn : n < g.length
  · rw [List.getD_eq_getElem?_getD, List.getElem?_eq_getElem hn]; exact hd _ (List.getElem_mem hn)
  · rw [List.getD_eq_getElem?_getD, List.getElem?_eq_none (by omega)]; simp
theorem Sou.pa_le {S : Sou} {i : Ide} {ps : List Ide} (hok : S.ok) (h : S.pa i = some ps) : ps.length ≤ 1000 := by
  cases S with
  | rows v l =>
    refine paL_le (fun x hx => ?_) h
    obtain ⟨y, hy, rfl⟩ := List.mem_map.1 hx
    exact (hok.2 y hy).1
  | row N lad => have := paN_le h; omega
abbrev nilS : Value := .slice none 0 0
/-- commits: the parents of each -/
structure Cm (F : Nat → Prop) (H : Heap) (v : Value) (m : List (Ide × Value)) (pa : Ide → List Ide) : Prop where
  mo : MapOf F H vA id v m
  row : ∀ k, Rd F H fA 32 ((mget m k).getD nilS) (pa k)
section
variable {F : Nat → Prop} {H H' : Heap} {v : Value} {m : List (Ide × Value)} {pa : Ide → List Ide} {ks : List Nat}
theorem Cm.nw (h : Cm F H v m pa) (s : Nw H H') : Cm F H' v m pa := ⟨h.mo.nw s, fun k => (h.row k).nw s⟩
theorem Cm.upL (h : Cm F H v m pa) (s : Mo (Ms ks) H H') (d : DFL F ks) : Cm F H' v m pa := ⟨h.mo.up s (fun b _ h1 h2 => d (b + 1) h2 b h1 rfl), fun k => (h.row k).upL s d⟩
theorem Cm.upA {k : Nat} (h : Cm F H v m pa) (s : Mo (fun c => k ≤ c) H H') (d : BF F k) : Cm F H' v m pa := ⟨h.mo.up s (fun b _ h1 h2 => by have := d b h1; omega), fun q => (h.row q).upA s d⟩
theorem Cm.bnd (h : Cm F H v m pa) : Cm (fun b => F b ∧ b < H.size) H v m pa := ⟨h.mo.imp (fun b h1 h2 => ⟨h2, h1⟩), fun k => (h.row k).bnd⟩
theorem Cm.imp {G : Nat → Prop} (h : Cm F H v m pa) (hG : ∀ b, F b → G b) : Cm G H v m pa := ⟨h.mo.imp (fun b _ h2 => hG b h2), fun k => (h.row k).imp (fun b _ h2 => hG b h2)⟩
structure CmE (F : Nat → Prop) (H : Heap) (e : Nat) (v : Value) (m : List (Ide × Value)) (pa : Ide → List Ide) : Prop where
  get : e = 0 → Cm F H v m pa
theorem CmE.nw {e : Nat} (h : CmE F H e v m pa) (s : Nw H H') : CmE F H' e v m pa := ⟨fun q => (h.get q).nw s⟩
theorem CmE.upL {e : Nat} (h : CmE F H e v m pa) (s : Mo (Ms ks) H H') (d : DFL F ks) : CmE F H' e v m pa := ⟨fun q => (h.get q).upL s d⟩
theorem CmE.bnd {e : Nat} (h : CmE F H e v m pa) : CmE (fun b => F b ∧ b < H.size) H e v m pa := ⟨fun q => (h.get q).bnd⟩
theorem CmE.bf {G : Nat → Prop} {h : Nat} {e : Nat} (x : CmE (fun b => G b ∧ b < h) H e v m pa) : BF (fun b => G b ∧ b < h) h := fun b e => e.2
end
/-- what stands above -/
inductive UpO (pa : Ide → Option (List Ide)) (i : Ide) : Ide → Prop
  | refl : UpO pa i i
  | step {j p : Ide} {ps : List Ide} : UpO pa i j → pa j = some ps → p ∈ ps → UpO pa i p
def cpa (pa : Ide → Option (List Ide)) (K : List Ide) (k : Ide) : List Ide := if k ∈ K then (pa k).getD [] else []
structure AInv (pa : Ide → Option (List Ide)) (st K row : List Ide) : Prop where
  nd : K.Nodup
  told : ∀ k ∈ K, ∃ ps, pa k = some ps ∧ ∀ p ∈ ps, p ∈ K ∨ p ∈ row
  sta : ∀ k ∈ st, k ∈ K ∨ k ∈ row
  up : ∀ k, k ∈ K ∨ k ∈ row → ∃ i ∈ st, UpO pa i k
  le : K.length ≤ 5000
/-- what comes of it -/
def AllR (pa : Ide → Option (List Ide)) (st K : List Ide) (e : Nat) : Prop :=
  (e = 0 ∧ K.Nodup ∧ (∀ k ∈ K, ∃ ps, pa k = some ps ∧ ∀ p ∈ ps, p ∈ K) ∧ (∀ k ∈ st, k ∈ K) ∧ (∀ k ∈ K, ∃ i ∈ st, UpO pa i k) ∧ K.length ≤ 5000) ∨
  (e = 2 ∧ ∃ k, (∃ i ∈ st, UpO pa i k) ∧ pa k = none) ∨
  (e = 4 ∧ ∃ K2 : List Ide, K2.Nodup ∧ K2.length = 5000 ∧ (∀ k ∈ K2, (∃ i ∈ st, UpO pa i k) ∧ (pa k).isSome = true) ∧ ∃ k, k ∉ K2 ∧ ∃ i ∈ st, UpO pa i k)
section
variable {pa : Ide → Option (List Ide)} {st K r0 : List Ide} {x : Ide}
theorem AInv.start (st : List Ide) : AInv pa st [] st := ⟨List.nodup_nil, by simp, fun k h => .inr h, fun k h => by rcases h with h | h; cases h; exact ⟨k, h, .refl⟩, by simp⟩
theorem AInv.skip (h : AInv pa st K (r0 ++ [x])) (hx : x ∈ K) : AInv pa st K r0 := by
  refine ⟨h.nd, fun k hk => ?_, fun k hk => ?_, fun k hk => h.up k (hk.imp id (fun q => List.mem_append_left _ q)), h.le⟩
  · obtain ⟨ps, h1, h2⟩ := h.told k hk
    refine ⟨ps, h1, fun p hp => ?_⟩
    rcases h2 p hp with h3 | h3
    · exact .inl h3
    · rcases List.mem_append.1 h3 with h3 | h3
      · exact .inr h3
      · simp only [List.mem_singleton] at h3; subst h3; exact .inl hx
  · rcases h.sta k hk with h3 | h3
    · exact .inl h3
    · rcases List.mem_append.1 h3 with h3 | h3
      · exact .inr h3
      · simp only [List.mem_singleton] at h3; subst h3; exact .inl hx
theorem AInv.upx (h : AInv pa st K (r0 ++ [x])) : ∃ i ∈ st, UpO pa i x := h.up x (.inr (by simp))
theorem AInv.next {ps : List Ide} (h : AInv pa st K (r0 ++ [x])) (hx : x ∉ K) (hp : pa x = some ps) (hl : K.length ≠ 5000) : AInv pa st (K ++ [x]) (r0 ++ ps) := by
  have mv : ∀ k, k ∈ K ∨ k ∈ r0 ++ [x] → k ∈ K ++ [x] ∨ k ∈ r0 ++ ps := by
    intro k hk
    rcases hk with hk | hk
    · exact .inl (List.mem_append_left _ hk)
    · rcases List.mem_append.1 hk with hk | hk
      · exact .inr (List.mem_append_left _ hk)
      · exact .inl (List.mem_append_right _ hk)
  refine ⟨?_, fun k hk => ?_, fun k hk => mv k (h.sta k hk), fun k hk => ?_, ?_⟩
  · rw [List.nodup_append]
    exact ⟨h.nd, by simp, fun a ha b hb e => by simp only [List.mem_singleton] at hb; subst hb; subst e; exact hx ha⟩
  · rcases List.mem_append.1 hk with hk | hk
    · obtain ⟨qs, h1, h2⟩ := h.told k hk
      exact ⟨qs, h1, fun p hp => mv p (h2 p hp)⟩
    · simp only [List.mem_singleton] at hk; subst hk
      exact ⟨ps, hp, fun p hp => .inr (List.mem_append_right _ hp)⟩
  · rcases hk with hk | hk
    · rcases List.mem_append.1 hk with hk | hk
      · exact h.up k (.inl hk)
      · simp only [List.mem_singleton] at hk; subst hk; exact h.upx
    · rcases List.mem_append.1 hk with hk | hk
      · exact h.up k (.inr (List.mem_append_left _ hk))
      · obtain ⟨i, hi, hu⟩ := h.upx
        exact ⟨i, hi, hu.step hp hk⟩
  · have := h.le
    rw [List.length_append, List.length_singleton]; omega
theorem AInv.done (h : AInv pa st K []) : AllR pa st K 0 :=
  .inl ⟨rfl, h.nd, fun k hk => by obtain ⟨ps, h1, h2⟩ := h.told k hk; exact ⟨ps, h1, fun p hp => (h2 p hp).resolve_right (by simp)⟩, fun k hk => (h.sta k hk).resolve_right (by simp), fun k hk => h.up k (.inl hk), h.le⟩
theorem AInv.none (h : AInv pa st K (r0 ++ [x])) (hp : pa x = none) : AllR pa st K 2 := .inr (.inl ⟨rfl, x, h.upx, hp⟩)
theorem AInv.many (h : AInv pa st K (r0 ++ [x])) (hx : x ∉ K) (hl : K.length = 5000) : AllR pa st K 4 :=
  .inr (.inr ⟨rfl, K, h.nd, hl, fun k hk => ⟨h.up k (.inl hk), by obtain ⟨ps, h1, _⟩ := h.told k hk; rw [h1]; rfl⟩, x, hx, h.upx⟩)
end
theorem snoc_of {α : Type} {l : List α} (h : 0 < l.length) : ∃ r x, l = r ++ [x] := ⟨l.dropLast, l.getLast (by intro e; subst e; simp at h), (List.dropLast_concat_getLast _).symm⟩
theorem mput_new {κ β : Type} [DecidableEq κ] {m : List (κ × β)} {k : κ} {z : β} (h : (mget m k).isSome = false) : mput m k z = m ++ [(k, z)] := by unfold mput; rw [h]; rfl
theorem DF.or1 {G : Nat → Prop} {kB k : Nat} (h : DF G k) (hB : Dj k kB) : DF (fun b => G b ∨ b + 1 = kB) k := by
  intro b e
  rcases e with e | e
  · exact h b e
  · intro e2; exact hB b e2 e
theorem BF.or1 {G : Nat → Prop} {kB h : Nat} (x : BF G h) (hB : kB ≤ h) : BF (fun b => G b ∨ b + 1 = kB) h := by
  intro b e
  rcases e with e | e
  · exact x b e
  · omega
theorem cm_next {G : Nat → Prop} {H : Heap} {m : List (Ide × Value)} {pa : Ide → Option (List Ide)} {x : Ide} {ps : List Ide} {u : Value} {k63 : Nat} (hgs : (mget m x).isSome = false) (hx : x ∉ m.map (·.1)) (hp : pa x = some ps) (h : ∀ k, Rd G H fA 32 ((mget m k).getD nilS) (cpa pa (m.map (·.1)) k)) (hu : Rd (fun b => b + 1 = k63) H fA 32 u ps) :
    ∀ k, Rd (fun b => G b ∨ b + 1 = k63) H fA 32 ((mget (m ++ [(x, u)]) k).getD nilS) (cpa pa ((m ++ [(x, u)]).map (·.1)) k) := by
  intro k
  rw [← mput_new hgs, mget_put, mput_new hgs]
  by_cases hk : k = x
  · subst hk
    have e : cpa pa ((m ++ [(k, u)]).map (·.1)) k = ps := by unfold cpa; rw [if_pos (by simp), hp]; rfl
    rw [if_pos rfl, e]
    exact hu.imp (fun b _ e => .inr e)
  · have e : cpa pa ((m ++ [(x, u)]).map (·.1)) k = cpa pa (m.map (·.1)) k := by
      unfold cpa
      have : k ∈ (m ++ [(x, u)]).map (·.1) ↔ k ∈ m.map (·.1) := by simp [hk]
      by_cases hk2 : k ∈ m.map (·.1)
      · rw [if_pos hk2, if_pos (this.2 hk2)]
      · rw [if_neg hk2, if_neg (fun h => hk2 (this.1 h))]
    rw [if_neg hk, e]
    exact (h k).imp (fun b _ e => .inl e)
abbrev fLs (x : SV × List Ide) : List Value := [x.1.v]
theorem fLs_len (x : SV × List Ide) : (fLs x).length = 1 := rfl
theorem fLs_one (x : SV × List Ide) : ∀ u ∈ fLs x, u.oneCell' = true := by intro u hu; simp only [List.mem_singleton] at hu; subst hu; rfl
theorem flat_take {α β : Type} (f : α → List β) (l : List α) (j : Nat) : ((l.take j).flatMap f).length ≤ (l.flatMap f).length := by
  conv => rhs; rw [← List.take_append_drop j l, List.flatMap_append, List.length_append]
  omega
theorem flat_snoc {α β : Type} (f : α → List β) (l : List α) (j : Nat) (h : j < l.length) : (l.take (j + 1)).flatMap f = (l.take j).flatMap f ++ f l[j] := by
  rw [List.take_succ_eq_append_getElem h, List.flatMap_append]; simp

set_option maxHeartbeats 4000000 in
theorem all_ct (So : Sou) (sb n : Nat) (F : Nat → Prop) (vl : Value) (ls : List (SV × List Ide)) (w0 : World) (H0 : Heap)
    (hv : Var So.e H0 sb (So.cs n)) (hsr : SRd F H0 So) (bf_hsr : BF F H0.size) (dfs : DF F (sb + 1)) (hok : So.ok) (hn : n ≤ 900000000) (hl : Rd (fun b => b ≠ sb) H0 fLs 1 vl ls) (hlsl : ls.length ≤ 1000) (hlx : ∀ x ∈ ls, Rd (fun b => b ≠ sb) H0 fA 32 x.1.v x.2) (hst : (ls.flatMap (·.2)).length ≤ 1000000) :
    Ct Try.prog w0 27 #[So.v sb, vl] H0 (fun r H2 => ∃ vc : Value, ∃ m : List (Ide × Value), ∃ e : Nat, ∃ q : Nat, r = .tuple #[vc, eV e] ∧ (CmE (fun b => H0.size ≤ b) H2 e vc m (cpa So.pa (m.map (·.1)))) ∧ (Var So.e H2 sb (So.cs q)) ∧ (AllR So.pa (ls.flatMap (·.2)) (m.map (·.1)) e) ∧ ((e = 0 → q = n + m.length) ∧ q ≤ n + 5001) ∧ Mo (Ms [(sb + 1)]) H0 H2) := by
  refine Ct.enter (args := [So.v sb, vl]) Try.func27 rfl rfl rfl ?_
  intro Q0 hret
  have hm0 : Mo (Ms [(sb + 1)]) H0 H0 := Mo.refl _ _
  have nx_hm0_hv := Nx.refl (sb + 1) H0.size
  have hlt_hv := hv.lt
  replace hl := hl.bnd
  have bf_hl := hl.bf
  replace hlx := fun x h_ => (hlx x h_).bnd
  have bf_hlx : BF (fun b => b ≠ sb ∧ b < H0.size) H0.size := fun b h => h.2
  have df_hl_hv : DF (fun b => b ≠ sb ∧ b < H0.size) (sb + 1) := fun b h => by have h1 := h.1; omega
  have df_hlx_hv : DF (fun b => b ≠ sb ∧ b < H0.size) (sb + 1) := fun b h => by have h1 := h.1; omega
  refine CW.seq (fun K1 hK1 hE1 => ?_)
  refine CW.region ?_
  refine LR.v (Y.assign rfl rfl) (Wd.u rfl) rfl rfl ?_
  refine LR.v (Y.assign rfl rfl) (Wd.u rfl) rfl rfl ?_
  refine LR.nil ?_
  refine hK1 _ _ ?_
  refine CW.scope (fun K2 hK2 hE2 => ?_)
  refine CW.seq (fun K3 hK3 hE3 => ?_)
  refine CW.region ?_
  refine LR.z (Z.makeMp vA (id : Value → Value) rfl) (Wd.u rfl) rfl rfl (fun v15 H15 r15 => ?_)
  obtain ⟨rfl, mo, hs15, ob15, hH15⟩ := r15
  have hzs15 : H15.size = H0.size + 1 := by rw [hH15]; simp
  have dj1 : Dj (sb + 1) (H0.size + 1) := Dj.new hv.lt
  have df2 := (DF.new (bf_hsr.mono hm0.size) : DF _ (H0.size + 1))
  have df3 := (DF.new (bf_hl.mono hm0.size) : DF _ (H0.size + 1))
  have df4 := (DF.new (bf_hlx.mono hm0.size) : DF _ (H0.size + 1))
  have nx5 : Nx 0 H0.size (H0.size + 1) := Nx.new hm0.size
  replace hv := hv.nw hs15
  replace hsr := hsr.nw hs15
  replace hl := hl.nw hs15
  replace hlx := fun x h_ => (hlx x h_).nw hs15
  replace hm0 := hm0.trN hs15
  have hz1 := hs15.size
  have hlt_mo := mo.lt
  refine LR.v (Y.assign rfl rfl) (Wd.u rfl) rfl rfl ?_
  refine LR.nil ?_
  refine hK3 _ _ ?_
  refine CW.seq (fun K4 hK4 hE4 => ?_)
  refine CW.region ?_
  refine LR.v (Y.assign rfl rfl) (Wd.u rfl) rfl rfl ?_
  refine LR.nil ?_
  refine hK4 _ _ ?_
  refine CW.seq (fun K5 hK5 hE5 => ?_)
  refine CW.seq (fun K6 hK6 hE6 => ?_)
  refine CW.region ?_
  refine LR.v (Y.move rfl rfl) (Wd.u rfl) rfl rfl ?_
  refine LR.v (Y.len hl rfl Try.runUnderlying92 rfl) (Wd.u rfl) rfl rfl ?_
  refine LR.v (Y.move rfl rfl) (Wd.u rfl) rfl rfl ?_
  refine LR.nil ?_
  refine hK6 _ _ ?_
  refine CW.block (fun K7 hK7 hX7 hE7 => ?_)
  refine CW.loop (fun (s_ : (Nat) × (SV) × (Nat)) => match s_ with | (j, o, kr) => [(0, So.v sb), (6, .map (some H0.size)), (7, o.v), (16, vl), (17, .int .i64 (ls.length : Int)), (18, .int .i64 (j : Int))])
    (fun (s_ : (Nat) × (SV) × (Nat)) (H : Heap) => match s_ with | (j, o, kr) => (j ≤ ls.length) ∧ (Ow kr 30 H fA 32 o.v ((ls.take j).flatMap (·.2))) ∧ (Nx 0 H15.size kr) ∧ Nw H15 H)
    (fun (s_ : (Nat) × (SV) × (Nat)) => match s_ with | (j, o, kr) => ls.length - j) (0, ⟨none, 0, 0⟩, 0) ⟨rfl, rfl, rfl, rfl, rfl, rfl, trivial⟩ ?_ ?_
  ·
    exact ⟨(by omega), Ow.nil fA_len fA_one, Nx.refl _ _, Mo.refl _ _⟩
  rintro ⟨j, o, kr⟩ HL1 hI1 K8 hN8 hE8
  obtain ⟨hj, ow, nxl_ow, hlm1⟩ := hI1
  have dj6 : Dj (sb + 1) kr := Dj.app (Dj.z) hv.lt nxl_ow
  have df7 := DF.app (DF.z) (bf_hsr.mono hm0.size) nxl_ow
  have df8 := DF.app (DF.z) (bf_hl.mono hm0.size) nxl_ow
  have df9 := DF.app (DF.z) (bf_hlx.mono hm0.size) nxl_ow
  have dj10 : Dj (H0.size + 1) kr := Dj.app (Dj.z) mo.lt nxl_ow
  have nx11 : Nx 0 H0.size kr := Nx.tr (Nx.refl 0 _) nxl_ow hm0.size
  replace hv := hv.nw hlm1
  replace hsr := hsr.nw hlm1
  replace hl := hl.nw hlm1
  replace hlx := fun x h_ => (hlx x h_).nw hlm1
  replace mo := mo.nw hlm1
  replace hm0 := hm0.trN hlm1
  have hz2 := hlm1.size
  have hle_ow := ow.le
  have nx12 := nxl_ow
  refine CW.seq (fun K9 hK9 hE9 => ?_)
  refine CW.region ?_
  refine LR.v (Y.lss rfl rfl rfl) (Wd.u rfl) rfl rfl ?_
  refine LR.nil ?_
  refine hK9 _ _ ?_
  refine CW.seq (fun K10 hK10 hE10 => ?_)
  refine CW.condp rfl (fun c19 => ?_) (fun c19 => ?_)
  ·
    refine CW.skip ?_
    refine hK10 _ _ ?_
    refine CW.seq (fun K11 hK11 hE11 => ?_)
    refine CW.block (fun K12 hK12 hX12 hE12 => ?_)
    refine CW.seq (fun K13 hK13 hE13 => ?_)
    refine CW.region ?_
    refine LR.e (g := fun ad => .pointer (some ad)) (Y.indexAddrF hl (j) rfl Try.runUnderlying92 Try.sizeOf28 rfl rfl (by first | rfl | omega) (by omega)) (Wd.u rfl) rfl rfl (fun ad20 pt20 => ?_)
    have bf_pt20 := bf_hl
    refine LR.v (Y.load1 pt20.pt rfl Try.isAgg28 rfl) (Wd.u rfl) rfl rfl ?_
    refine LR.v (Y.assign rfl rfl) (Wd.u rfl) rfl rfl ?_
    refine LR.nil ?_
    refine hK13 _ _ ?_
    refine CW.region ?_
    refine LR.v (Y.move rfl rfl) (Wd.u rfl) rfl rfl ?_
    refine LR.v (Y.move rfl rfl) (Wd.u rfl) rfl rfl ?_
    have hfs := flat_snoc (fun x : SV × List Ide => x.2) ls j (by omega)
    have hft := flat_take (fun x : SV × List Ide => x.2) ls (j + 1)
    rw [hfs, List.length_append] at hft
    refine LR.z (Z.apnd ow (hlx _ (List.getElem_mem (by omega : j < ls.length))) rfl inf28 rfl rfl (by first | omega | (simp; omega)) (by first | omega | (simp; omega))) (Wd.u rfl) rfl rfl (fun v24 H24 r24 => ?_)
    obtain ⟨k24, ow24, hk24, hs24⟩ := r24
    replace hk24 : Nx kr HL1.size k24 := hk24
    replace hs24 := hs24.md
    have dj13 : Dj (sb + 1) k24 := Dj.app (dj6) hv.lt hk24
    have df14 := DF.app (df7) (bf_hsr.mono hm0.size) hk24
    have df15 := DF.app (df8) (bf_hl.mono hm0.size) hk24
    have df16 := DF.app (df9) (bf_hlx.mono hm0.size) hk24
    have dj17 : Dj (H0.size + 1) k24 := Dj.app (dj10) mo.lt hk24
    have nx18 : Nx 0 H0.size k24 := Nx.tr (nx11) hk24 hm0.size
    have nx19 : Nx 0 H15.size k24 := Nx.tr (nx12) hk24 hlm1.size
    replace hv := hv.upL hs24 (DL.cons dj6 DL.nil)
    replace hsr := hsr.upL hs24 (DFL.cons df7 DFL.nil)
    replace hl := hl.upL hs24 (DFL.cons df8 DFL.nil)
    replace hlx := fun x h_ => (hlx x h_).upL hs24 (DFL.cons df9 DFL.nil)
    replace mo := mo.upL hs24 (DL.cons dj10 DL.nil)
    replace hm0 := hm0.trL hs24 (MIL.cons (MI.app MI.z (nx11) (Nat.le_refl _)) MIL.nil)
    replace hlm1 := (Mo.trL (ks := []) (hlm1.mdn []) hs24 (MIL.cons (MI.app MI.z (nx12) (Nat.le_refl _)) MIL.nil)).nil
    have hz3 := hs24.size
    have hle_ow24 := ow24.le
    obtain ⟨s24, rfl⟩ : ∃ s : SV, v24 = s.v := ⟨toSV v24, ow24.sv.symm⟩
    refine LR.v (Y.assign rfl rfl) (Wd.u rfl) rfl rfl ?_
    refine LR.nil ?_
    refine hK12 _ _ ?_
    refine hK11 _ _ ?_
    refine CW.region ?_
    refine LR.v (Y.addi rfl rfl rfl (by omega)) (Wd.u rfl) rfl rfl ?_
    refine LR.v (Y.move rfl rfl) (Wd.u rfl) rfl rfl ?_
    refine LR.nil ?_
    refine QN.sub (hN8 (j + 1, s24, k24) _ ?_ ?_) ⟨rfl, rfl, rfl, rfl, (iv (by omega)), (iv (by omega)), trivial⟩
    · exact ⟨(by omega), by rw [flat_snoc _ _ _ (show j < ls.length by omega)]; exact ow24, (by assumption), hlm1⟩
    · first | omega | (simp only; omega) | (simp; omega)
  ·
    have hjl : j = ls.length := by omega
    rw [hjl, List.take_length] at ow
    refine CW.exit (hE10 (.exit 0) nofun _ _ (hE8 (.exit 0) nofun _ _ (hX7 _ _ ?_)))
    refine hK5 _ _ ?_
    refine CW.seq (fun K14 hK14 hE14 => ?_)
    refine CW.label ?_
    refine hK14 _ _ ?_
    refine CW.seq (fun K15 hK15 hE15 => ?_)
    refine CW.block (fun K16 hK16 hX16 hE16 => ?_)
    refine CW.loop (fun (s_ : (List (Ide × Value)) × (SV) × (Nat) × (List Ide) × (Nat) × (Nat → Prop)) => match s_ with | (m, o2, kr2, row, q, G) => [(0, So.v sb), (6, .map (some H0.size)), (7, o2.v)])
      (fun (s_ : (List (Ide × Value)) × (SV) × (Nat) × (List Ide) × (Nat) × (Nat → Prop)) (H : Heap) => match s_ with | (m, o2, kr2, row, q, G) => (Var So.e H sb (So.cs q)) ∧ (Mp H vA (id : Value → Value) H0.size m) ∧ (Ow kr2 30 H fA 32 o2.v row) ∧ (∀ k, Rd G H fA 32 ((mget m k).getD nilS) (cpa So.pa (m.map (·.1)) k)) ∧ (BF G H.size) ∧ (DF G (sb + 1)) ∧ (DF G (H0.size + 1)) ∧ (DF G kr2) ∧ (∀ b, G b → H0.size ≤ b) ∧ (AInv So.pa (ls.flatMap (·.2)) (m.map (·.1)) row) ∧ (q = n + m.length) ∧ (row.length ≤ 1000000 + m.length * 1000) ∧ (Nx kr HL1.size kr2) ∧ (Dj (sb + 1) kr2) ∧ (Dj (H0.size + 1) kr2) ∧ Mo (Ms [(sb + 1), (H0.size + 1), kr]) HL1 H)
      (fun (s_ : (List (Ide × Value)) × (SV) × (Nat) × (List Ide) × (Nat) × (Nat → Prop)) => match s_ with | (m, o2, kr2, row, q, G) => (5000 - m.length) * 1001 + row.length) ([], o, kr, ls.flatMap (·.2), n, fun _ => False) ⟨rfl, rfl, rfl, trivial⟩ ?_ ?_
    ·
      exact ⟨hv, mo, ow, (fun k => Rd.nil _ _ _ _), (fun b e => e.elim), (fun b e => e.elim), (fun b e => e.elim), (fun b e => e.elim), (fun b e => e.elim), AInv.start _, rfl, by omega, Nx.refl _ _, dj6, dj10, Mo.refl _ _⟩
    rintro ⟨m, o2, kr2, row, q, G⟩ HL2 hI2 K17 hN17 hE17
    obtain ⟨hv, mo, ow, hcr, bf_hcr, fg1, fg2, fg3, hG, hI, hq, hrl, nxl_ow, dj_hv_ow, dj_mo_ow, hlm2⟩ := hI2
    have df20 := DF.app (df7) (bf_hsr.mono hm0.size) nxl_ow
    have df21 := DF.app (df8) (bf_hl.mono hm0.size) nxl_ow
    have df22 := DF.app (df9) (bf_hlx.mono hm0.size) nxl_ow
    have nx23 : Nx 0 H0.size kr2 := Nx.tr (nx11) nxl_ow hm0.size
    replace hsr := hsr.upL hlm2 (DFL.cons dfs (DFL.cons df2 (DFL.cons df7 DFL.nil)))
    replace hl := hl.upL hlm2 (DFL.cons df_hl_hv (DFL.cons df3 (DFL.cons df8 DFL.nil)))
    replace hlx := fun x h_ => (hlx x h_).upL hlm2 (DFL.cons df_hlx_hv (DFL.cons df4 (DFL.cons df9 DFL.nil)))
    replace hm0 := hm0.trL hlm2 (MIL.cons (MI.app (MI.root (by simp)) (nx_hm0_hv) (Nat.le_refl _)) (MIL.cons (MI.app MI.z (nx5) (Nat.le_refl _)) (MIL.cons (MI.app MI.z (nx11) (Nat.le_refl _)) MIL.nil)))
    have hz4 := hlm2.size
    have hle_ow := ow.le
    have dj24 := dj_hv_ow
    have dj25 := dj_mo_ow
    have nx_hlm2_hv := Nx.refl (sb + 1) HL1.size
    have nx_hlm2_mo := Nx.refl (H0.size + 1) HL1.size
    have nx26 := nxl_ow
    have hml := hI.le
    rw [List.length_map] at hml
    refine CW.seq (fun K18 hK18 hE18 => ?_)
    refine CW.seq (fun K19 hK19 hE19 => ?_)
    refine CW.region ?_
    refine LR.v (Y.move rfl rfl) (Wd.u rfl) rfl rfl ?_
    refine LR.v (Y.len ow.rd rfl Try.runUnderlying28 rfl) (Wd.u rfl) rfl rfl ?_
    refine LR.v (Y.gtr rfl rfl rfl) (Wd.u rfl) rfl rfl ?_
    refine LR.nil ?_
    refine hK19 _ _ ?_
    refine CW.condp rfl (fun c28 => ?_) (fun c28 => ?_)
    ·
      obtain ⟨r0, x, rfl⟩ := snoc_of (l := row) (by omega)
      have hrx : (r0 ++ [x]).length = r0.length + 1 := by simp
      refine CW.skip ?_
      refine hK18 _ _ ?_
      refine CW.block (fun K20 hK20 hX20 hE20 => ?_)
      refine CW.seq (fun K21 hK21 hE21 => ?_)
      refine CW.region ?_
      refine LR.v (Y.move rfl rfl) (Wd.u rfl) rfl rfl ?_
      refine LR.v (Y.move rfl rfl) (Wd.u rfl) rfl rfl ?_
      refine LR.v (Y.len ow.rd rfl Try.runUnderlying28 rfl) (Wd.u rfl) rfl rfl ?_
      refine LR.v (Y.cast (v2 := .int .i64 (r0.length : Int)) (Y.subi rfl rfl rfl (by omega)) (ivv (by rw [hrx]; omega))) (Wd.u rfl) rfl rfl ?_
      refine LR.v (Y.owAddr ow (r0.length) rfl Try.runUnderlying28 Try.sizeOf30 rfl rfl (by first | rfl | omega) (by simp)) (Wd.u rfl) rfl rfl ?_
      refine LR.v (Y.cast (v2 := vA x) (Y.loadN (ow.pt (j := r0.length) (by simp)) rfl Try.isAgg30 Try.sizeOf30 (fA_len _) rfl) (by rw [List.getElem_concat_length rfl]; rfl)) (Wd.u rfl) rfl rfl ?_
      refine LR.z (Z.allocv rfl Try.zeroValue30) (Wd.u rfl) rfl rfl (fun v10 H10 r10 => ?_)
      obtain ⟨rfl, vi, hs10, ob10, hH10⟩ := r10
      have hzs10 : H10.size = HL2.size + 1 := by rw [hH10]; simp
      have df27 := (DF.new (bf_hsr.mono hm0.size) : DF _ (HL2.size + 1))
      have df28 := (DF.new (bf_hl.mono hm0.size) : DF _ (HL2.size + 1))
      have df29 := (DF.new (bf_hlx.mono hm0.size) : DF _ (HL2.size + 1))
      have dj30 : Dj kr2 (HL2.size + 1) := Dj.new ow.le
      have dj31 : Dj (sb + 1) (HL2.size + 1) := Dj.new hv.lt
      have dj32 : Dj (H0.size + 1) (HL2.size + 1) := Dj.new mo.lt
      have df33 := (DF.new (bf_hcr.mono (by omega)) : DF _ (HL2.size + 1))
      have nx34 : Nx 0 H0.size (HL2.size + 1) := Nx.new hm0.size
      have nx35 : Nx 0 HL1.size (HL2.size + 1) := Nx.new hlm2.size
      replace hsr := hsr.nw hs10
      replace hl := hl.nw hs10
      replace hlx := fun x h_ => (hlx x h_).nw hs10
      replace ow := ow.nw hs10
      replace hv := hv.nw hs10
      replace mo := mo.nw hs10
      replace hcr := fun k => (hcr k).nw hs10
      replace hm0 := hm0.trN hs10
      replace hlm2 := hlm2.trN hs10
      have hz5 := hs10.size
      replace vi : Var 30 H10 HL2.size (fA Zid) := vi
      refine LR.s (S.var vi (_) (fA (x)) rfl rfl rfl rfl (fA_one _) Try.sizeOf30 (fA_len _) (by first | decide | simp [fA_len]) ((splice_all2 (by first | exact (fA_len _).symm | rfl | exact (fA_len _).trans (fA_len _).symm)))) (Wd.u rfl) rfl (fun H9_7 r9_7 => ?_)
      obtain ⟨vi, hs9_7⟩ := r9_7
      replace hs9_7 := hs9_7.md1
      replace hsr := hsr.upL hs9_7 (DFL.cons df27 DFL.nil)
      replace hl := hl.upL hs9_7 (DFL.cons df28 DFL.nil)
      replace hlx := fun x h_ => (hlx x h_).upL hs9_7 (DFL.cons df29 DFL.nil)
      replace ow := ow.upL hs9_7 (DL.cons dj30 DL.nil)
      replace hv := hv.upL hs9_7 (DL.cons dj31 DL.nil)
      replace mo := mo.upL hs9_7 (DL.cons dj32 DL.nil)
      replace hcr := fun k => (hcr k).upL hs9_7 (DFL.cons df33 DFL.nil)
      replace hm0 := hm0.trL hs9_7 (MIL.cons (MI.app MI.z (nx34) (Nat.le_refl _)) MIL.nil)
      replace hlm2 := hlm2.trL hs9_7 (MIL.cons (MI.app MI.z (nx35) (Nat.le_refl _)) MIL.nil)
      have hz6 := hs9_7.size
      refine LR.nil ?_
      refine hK21 _ _ ?_
      refine CW.seq (fun K22 hK22 hE22 => ?_)
      refine CW.region ?_
      refine LR.v (Y.move rfl rfl) (Wd.u rfl) rfl rfl ?_
      refine LR.v (Y.move rfl rfl) (Wd.u rfl) rfl rfl ?_
      refine LR.v (Y.len ow.rd rfl Try.runUnderlying28 rfl) (Wd.u rfl) rfl rfl ?_
      refine LR.v (Y.cast (v2 := .int .i64 (r0.length : Int)) (Y.subi rfl rfl rfl (by omega)) (ivv (by rw [hrx]; omega))) (Wd.u rfl) rfl rfl ?_
      refine LR.e (g := fun v => v) (Y.owFront ow (r0.length) rfl Try.runUnderlying28 Try.sizeOf30 rfl rfl (by first | rfl | omega) (by simp)) (Wd.u rfl) rfl rfl (fun v39 ow => ?_)
      rw [List.take_left] at ow
      obtain ⟨s39, rfl⟩ : ∃ s : SV, v39 = s.v := ⟨toSV v39, ow.sv.symm⟩
      refine LR.v (Y.assign rfl rfl) (Wd.u rfl) rfl rfl ?_
      refine LR.nil ?_
      refine hK22 _ _ ?_
      refine CW.seq (fun K23 hK23 hE23 => ?_)
      refine CW.seq (fun K24 hK24 hE24 => ?_)
      refine CW.region ?_
      refine LR.v (Y.move rfl rfl) (Wd.u rfl) rfl rfl ?_
      refine LR.v (Y.loadN vi.pt rfl Try.isAgg30 Try.sizeOf30 (fA_len _) rfl) (Wd.u rfl) rfl rfl ?_
      refine LR.v (Y.lookupOkA mo.mo keyId rfl Try.runUnderlying69 Try.zeroValue28 rfl rfl) (Wd.u rfl) rfl rfl ?_
      refine LR.v (Y.move rfl rfl) (Wd.u rfl) rfl rfl ?_
      refine LR.v (Y.extract rfl rfl rfl) (Wd.u rfl) rfl rfl ?_
      refine LR.v (Y.extract rfl rfl rfl) (Wd.u rfl) rfl rfl ?_
      refine LR.v (Y.assign rfl rfl) (Wd.u rfl) rfl rfl ?_
      refine LR.v (Y.assign rfl rfl) (Wd.u rfl) rfl rfl ?_
      refine LR.nil ?_
      refine hK24 _ _ ?_
      refine CW.seq (fun K25 hK25 hE25 => ?_)
      refine CW.region ?_
      refine LR.v (Y.move rfl rfl) (Wd.u rfl) rfl rfl ?_
      refine LR.nil ?_
      refine hK25 _ _ ?_
      refine CW.cond rfl (fun c46 => ?_) (fun c46 => ?_)
      ·
        refine CW.exit (hE23 (.exit 3) nofun _ _ (hX20 _ _ ?_))
        refine QN.sub (hN17 (m, s39, kr2, r0, q, G) _ ?_ ?_) ⟨rfl, rfl, rfl, trivial⟩
        · exact ⟨hv, mo, ow, hcr, (bf_hcr.mono (by omega)), fg1, fg2, fg3, (by omega), hI.skip (isSome_iff_key.1 c46), (by omega), by omega, nx26, dj24, dj25, hlm2⟩
        · simp <;> omega
      ·
        refine CW.skip ?_
        refine hK23 _ _ ?_
        refine CW.seq (fun K26 hK26 hE26 => ?_)
        refine CW.seq (fun K27 hK27 hE27 => ?_)
        refine CW.region ?_
        refine LR.v (Y.move rfl rfl) (Wd.u rfl) rfl rfl ?_
        refine LR.v (Y.mlen mo.mo rfl Try.runUnderlying69 rfl) (Wd.u rfl) rfl rfl ?_
        refine LR.v (Y.eql rfl rfl rfl) (Wd.u rfl) rfl rfl ?_
        refine LR.nil ?_
        refine hK27 _ _ ?_
        refine CW.condp rfl (fun c49 => ?_) (fun c49 => ?_)
        ·
          refine CW.seq (fun K28 hK28 hE28 => ?_)
          refine CW.region ?_
          refine LR.v (Y.mki rfl Try.runUnderlying76 (by intro ms h; cases h) rfl) (Wd.u rfl) rfl rfl ?_
          refine LR.v (Y.assign rfl rfl) (Wd.u rfl) rfl rfl ?_
          refine LR.v (Y.assign rfl rfl) (Wd.u rfl) rfl rfl ?_
          refine LR.nil ?_
          refine hK28 _ _ ?_
          refine CW.ret (hE26 .ret nofun _ _ (hE20 .ret nofun (by simp) _ _ (hE17 .ret nofun _ _ (hE16 .ret nofun (by simp) _ _ (hE15 .ret nofun _ _ (hE2 .ret nofun nofun _ _ (hret .ret (.inr rfl) _ _ _ (res2 rfl rfl rfl) ?_)))))))
          exact ⟨.map none, m, 4, q, rfl, ⟨fun h => absurd h (by omega)⟩, hv, hI.many (fun h => by rw [isSome_iff_key.2 h] at c46; cases c46) (by rw [List.length_map]; omega), ⟨fun h => absurd h (by omega), by omega⟩, hm0⟩
        ·
          refine CW.skip ?_
          refine hK26 _ _ ?_
          refine CW.seq (fun K29 hK29 hE29 => ?_)
          refine CW.region ?_
          refine LR.v (Y.move rfl rfl) (Wd.u rfl) rfl rfl ?_
          refine LR.v (Y.loadN vi.pt rfl Try.isAgg30 Try.sizeOf30 (fA_len _) rfl) (Wd.u rfl) rfl rfl ?_
          -- invoke Parents
          refine LR.calli (mth So sb) rfl rfl rfl (Wd.u rfl) rfl rfl (par_ct So sb _ x _ w0 _ hv hsr (bf_hsr.mono hm0.size) dfs hok (by omega)) (fun v54 H54 r54 => ?_)
          obtain ⟨s54, ps, e54, rfl, hp, hr, hv, hs54⟩ := r54
          replace hsr := hsr.upL hs54 (DFL.cons dfs DFL.nil)
          replace hl := hl.upL hs54 (DFL.cons df_hl_hv DFL.nil)
          replace hlx := fun x h_ => (hlx x h_).upL hs54 (DFL.cons df_hlx_hv DFL.nil)
          replace ow := ow.upL hs54 (DL.cons dj24.symm DL.nil)
          replace mo := mo.upL hs54 (DL.cons dj1.symm DL.nil)
          replace hcr := fun k => (hcr k).upL hs54 (DFL.cons fg1 DFL.nil)
          replace vi := vi.upL hs54 (DL.cons dj31.symm DL.nil)
          replace hm0 := hm0.trL hs54 (MIL.cons (MI.app (MI.root (by simp)) (nx_hm0_hv) (Nat.le_refl _)) MIL.nil)
          replace hlm2 := hlm2.trL hs54 (MIL.cons (MI.app (MI.root (by simp)) (nx_hlm2_hv) (Nat.le_refl _)) MIL.nil)
          have hz7 := hs54.size
          replace hr := hr.bnd
          have bf_hr := hr.bf
          have df36 : DF (fun b => H9_7.size ≤ b ∧ b < H54.size) kr2 := DF.above (fun b h => h.1) (by first | exact hle_ow | exact hlt_ow | omega)
          have df37 : DF (fun b => H9_7.size ≤ b ∧ b < H54.size) (sb + 1) := DF.above (fun b h => h.1) (by first | exact hle_hv | exact hlt_hv | omega)
          have df38 : DF (fun b => H9_7.size ≤ b ∧ b < H54.size) (H0.size + 1) := DF.above (fun b h => h.1) (by first | exact hle_mo | exact hlt_mo | omega)
          have df39 : DF (fun b => H9_7.size ≤ b ∧ b < H54.size) (HL2.size + 1) := DF.above (fun b h => h.1) (by first | exact hle_vi | exact hlt_vi | omega)
          refine LR.v (Y.move rfl rfl) (Wd.u rfl) rfl rfl ?_
          refine LR.v (Y.extract rfl rfl rfl) (Wd.u rfl) rfl rfl ?_
          refine LR.v (Y.extract rfl rfl rfl) (Wd.u rfl) rfl rfl ?_
          refine LR.v (Y.assign rfl rfl) (Wd.u rfl) rfl rfl ?_
          refine LR.v (Y.assign rfl rfl) (Wd.u rfl) rfl rfl ?_
          refine LR.nil ?_
          refine hK29 _ _ ?_
          refine CW.seq (fun K30 hK30 hE30 => ?_)
          refine CW.seq (fun K31 hK31 hE31 => ?_)
          refine CW.region ?_
          refine LR.v (Y.move rfl rfl) (Wd.u rfl) rfl rfl ?_
          refine LR.v (Y.ene rfl Try.underlying33 rfl) (Wd.u rfl) rfl rfl ?_
          refine LR.nil ?_
          refine hK31 _ _ ?_
          refine CW.condp rfl (fun c58 => ?_) (fun c58 => ?_)
          ·
            have he54 : e54 = 2 := by rcases hp with h | h <;> omega
            have hpn : So.pa x = none := by
              rcases hp with h | h
              · exact absurd h.1 (by omega)
              · exact h.2.1
            refine CW.seq (fun K32 hK32 hE32 => ?_)
            refine CW.region ?_
            refine LR.v (Y.move rfl rfl) (Wd.u rfl) rfl rfl ?_
            refine LR.v (Y.assign rfl rfl) (Wd.u rfl) rfl rfl ?_
            refine LR.v (Y.assign rfl rfl) (Wd.u rfl) rfl rfl ?_
            refine LR.nil ?_
            refine hK32 _ _ ?_
            refine CW.ret (hE30 .ret nofun _ _ (hE20 .ret nofun (by simp) _ _ (hE17 .ret nofun _ _ (hE16 .ret nofun (by simp) _ _ (hE15 .ret nofun _ _ (hE2 .ret nofun nofun _ _ (hret .ret (.inr rfl) _ _ _ (res2 rfl rfl rfl) ?_)))))))
            exact ⟨.map none, m, e54, q + 1, rfl, ⟨fun h => absurd h (by omega)⟩, hv, by rw [he54]; exact hI.none hpn, ⟨fun h => absurd h (by omega), by omega⟩, hm0⟩
          ·
            have he54 : e54 = 0 := by omega
            have hps : So.pa x = some ps := by
              rcases hp with h | h
              · exact h.2
              · exact absurd h.1 (by omega)
            have hpl := Sou.pa_le hok hps
            have hxk : x ∉ m.map (·.1) := fun h => by rw [isSome_iff_key.2 h] at c46; cases c46
            have hml5 : (m.map (·.1)).length ≠ 5000 := by rw [List.length_map]; omega
            refine CW.skip ?_
            refine hK30 _ _ ?_
            refine CW.seq (fun K33 hK33 hE33 => ?_)
            refine CW.region_any (fun Hq => Nw H54 Hq) [4] rfl ?_
            have hqs := Nw.refl H54
            refine LH.take 0 (by kernel_rfl) rfl (by kernel_rfl) (by kernel_rfl) (by kernel_rfl) (fun Hq hq => Y.move rfl rfl) (Wd.u rfl) rfl rfl hqs ?_
            refine LH.take 1 (by kernel_rfl) rfl (by kernel_rfl) (by kernel_rfl) (by kernel_rfl) (fun Hq hq => Y.loadN (vi.pt.nw hq) rfl Try.isAgg30 Try.sizeOf30 (fA_len _) rfl) (Wd.u rfl) rfl rfl hqs ?_
            refine LH.take 2 (by kernel_rfl) rfl (by kernel_rfl) (by kernel_rfl) (by kernel_rfl) (fun Hq hq => Y.move rfl rfl) (Wd.u rfl) rfl rfl hqs ?_
            refine LH.one (i := 3) (by kernel_rfl) ?_
            -- call slices.Clone[[]selvage/api.Id,selvage/api.Id]
            refine LO.call rfl rfl Try.call37 rfl (Wd.u rfl) rfl rfl (iclone_ct _ ps w0 _ hr.any (by omega)) (fun v63 H63 r63 => ?_)
            obtain ⟨s63, k63, rfl, ow63, hk63, hs63⟩ := r63
            have df40 := DF.app (DF.z) (bf_hsr.mono hm0.size) hk63
            have df41 := DF.app (DF.z) (bf_hl.mono hm0.size) hk63
            have df42 := DF.app (DF.z) (bf_hlx.mono hm0.size) hk63
            have dj43 : Dj kr2 k63 := Dj.app (Dj.z) ow.le hk63
            have dj44 : Dj (sb + 1) k63 := Dj.app (Dj.z) hv.lt hk63
            have dj45 : Dj (H0.size + 1) k63 := Dj.app (Dj.z) mo.lt hk63
            have df46 := DF.app (DF.z) (bf_hcr.mono (by omega)) hk63
            have dj47 : Dj (HL2.size + 1) k63 := Dj.app (Dj.z) vi.lt hk63
            have df48 := DF.app (DF.z) (bf_hr.mono (by omega)) hk63
            have nx49 : Nx 0 H0.size k63 := Nx.tr (Nx.refl 0 _) hk63 hm0.size
            have nx50 : Nx 0 HL1.size k63 := Nx.tr (Nx.refl 0 _) hk63 hlm2.size
            replace hsr := hsr.nw hs63
            replace hl := hl.nw hs63
            replace hlx := fun x h_ => (hlx x h_).nw hs63
            replace ow := ow.nw hs63
            replace hv := hv.nw hs63
            replace mo := mo.nw hs63
            replace hcr := fun k => (hcr k).nw hs63
            replace vi := vi.nw hs63
            replace hr := hr.nw hs63
            replace hm0 := hm0.trN hs63
            replace hlm2 := hlm2.trN hs63
            have hz8 := hs63.size
            have hle_ow63 := ow63.le
            have hq63 := hqs.tr hs63
            refine ⟨.inr hq63, LH.narrow (SH2 := fun Hq => Nw H63 Hq) (fun Hq hq => hq63.tr hq) ?_⟩
            have hqn63 := Nw.refl H63
            refine LH.one (i := 4) (by kernel_rfl) ?_
            refine LO.s rfl (S.putA (s63.v) mo keyId rfl Try.runUnderlying69 rfl rfl rfl) (Wd.u rfl) rfl (fun H18_4 r18_4 => ?_)
            obtain ⟨mo, hs18_4⟩ := r18_4
            replace hs18_4 := hs18_4.md1
            replace hsr := hsr.upL hs18_4 (DFL.cons df2 DFL.nil)
            replace hl := hl.upL hs18_4 (DFL.cons df3 DFL.nil)
            replace hlx := fun x h_ => (hlx x h_).upL hs18_4 (DFL.cons df4 DFL.nil)
            replace ow := ow.upL hs18_4 (DL.cons dj25.symm DL.nil)
            replace hv := hv.upL hs18_4 (DL.cons dj1 DL.nil)
            replace hcr := fun k => (hcr k).upL hs18_4 (DFL.cons fg2 DFL.nil)
            replace vi := vi.upL hs18_4 (DL.cons dj32.symm DL.nil)
            replace hr := hr.upL hs18_4 (DFL.cons df38 DFL.nil)
            replace ow63 := ow63.upL hs18_4 (DL.cons dj45.symm DL.nil)
            replace hm0 := hm0.trL hs18_4 (MIL.cons (MI.app MI.z (nx5) (Nat.le_refl _)) MIL.nil)
            replace hlm2 := hlm2.trL hs18_4 (MIL.cons (MI.app (MI.root (by simp)) (nx_hlm2_mo) (Nat.le_refl _)) MIL.nil)
            have hz9 := hs18_4.size
            refine ⟨.inl rfl, ?_⟩
            refine LH.done (by kernel_rfl) ?_
            have hqe := hqn63
            refine hK33 _ _ ?_
            refine CW.region ?_
            refine LR.v (Y.move rfl rfl) (Wd.u rfl) rfl rfl ?_
            refine LR.v (Y.move rfl rfl) (Wd.u rfl) rfl rfl ?_
            refine LR.z (Z.apnd ow hr rfl inf28 rfl rfl (by first | omega | (simp; omega)) (by first | omega | (simp; omega))) (Wd.u rfl) rfl rfl (fun v66 H66 r66 => ?_)
            obtain ⟨k66, ow66, hk66, hs66⟩ := r66
            replace hk66 : Nx kr2 H18_4.size k66 := hk66
            replace hs66 := hs66.md
            have df51 := DF.app (df20) (bf_hsr.mono hm0.size) hk66
            have df52 := DF.app (df21) (bf_hl.mono hm0.size) hk66
            have df53 := DF.app (df22) (bf_hlx.mono hm0.size) hk66
            have dj54 : Dj (sb + 1) k66 := Dj.app (dj24) hv.lt hk66
            have dj55 : Dj (H0.size + 1) k66 := Dj.app (dj25) mo.lt hk66
            have df56 := DF.app (fg3) (bf_hcr.mono (by omega)) hk66
            have df57 := DF.app (df36) (bf_hr.mono (by omega)) hk66
            have dj58 : Dj k63 k66 := Dj.app (dj43.symm) ow63.le hk66
            have nx59 : Nx 0 H0.size k66 := Nx.tr (nx23) hk66 hm0.size
            have nx60 : Nx kr HL1.size k66 := Nx.tr (nx26) hk66 hlm2.size
            replace hsr := hsr.upL hs66 (DFL.cons df20 DFL.nil)
            replace hl := hl.upL hs66 (DFL.cons df21 DFL.nil)
            replace hlx := fun x h_ => (hlx x h_).upL hs66 (DFL.cons df22 DFL.nil)
            replace hv := hv.upL hs66 (DL.cons dj24 DL.nil)
            replace mo := mo.upL hs66 (DL.cons dj25 DL.nil)
            replace hcr := fun k => (hcr k).upL hs66 (DFL.cons fg3 DFL.nil)
            replace hr := hr.upL hs66 (DFL.cons df36 DFL.nil)
            replace ow63 := ow63.upL hs66 (DL.cons dj43.symm DL.nil)
            replace hm0 := hm0.trL hs66 (MIL.cons (MI.app MI.z (nx23) (Nat.le_refl _)) MIL.nil)
            replace hlm2 := hlm2.trL hs66 (MIL.cons (MI.app (MI.root (by simp)) (nx26) (Nat.le_refl _)) MIL.nil)
            have hz10 := hs66.size
            have hle_ow66 := ow66.le
            obtain ⟨s66, rfl⟩ : ∃ s : SV, v66 = s.v := ⟨toSV v66, ow66.sv.symm⟩
            refine LR.v (Y.assign rfl rfl) (Wd.u rfl) rfl rfl ?_
            refine LR.nil ?_
            refine hK20 _ _ ?_
            have hgs : (mget m x).isSome = false := c46
            rw [mput_new hgs] at mo
            refine QN.sub (hN17 (m ++ [(x, s63.v)], s66, k66, r0 ++ ps, q + 1, fun b => G b ∨ b + 1 = k63) _ ?_ ?_) ⟨rfl, rfl, rfl, trivial⟩
            · exact ⟨hv, mo, ow66, cm_next hgs hxk hps hcr (ow63.rd), BF.or1 (bf_hcr.mono (by omega)) ow63.le, DF.or1 (fg1) (dj44), DF.or1 (fg2) (dj45), DF.or1 (df56) (dj58.symm), fun b e => e.elim (hG b) (fun e => by have := (nx49); unfold Nx at this; omega), by rw [List.map_append]; exact hI.next hxk hps hml5, by simp; omega, by simp; omega, nx60, dj54, dj55, hlm2⟩
            · simp <;> omega
    ·
      obtain rfl : row = [] := List.eq_nil_of_length_eq_zero (by omega)
      refine CW.exit (hE18 (.exit 2) nofun _ _ (hE17 (.exit 2) nofun _ _ (hX16 _ _ ?_)))
      refine hK15 _ _ ?_
      refine CW.seq (fun K34 hK34 hE34 => ?_)
      refine CW.region ?_
      refine LR.v (Y.move rfl rfl) (Wd.u rfl) rfl rfl ?_
      refine LR.v (Y.assign rfl rfl) (Wd.u rfl) rfl rfl ?_
      refine LR.v (Y.assign rfl rfl) (Wd.u rfl) rfl rfl ?_
      refine LR.nil ?_
      refine hK34 _ _ ?_
      refine CW.ret (hE2 .ret nofun nofun _ _ (hret .ret (.inr rfl) _ _ _ (res2 rfl rfl rfl) ?_))
      exact ⟨.map (some H0.size), m, 0, q, rfl, ⟨fun _ => ⟨mo.mo.imp (fun b _ e => by omega), fun k => (hcr k).imp (fun b _ e => hG b e)⟩⟩, hv, hI.done, ⟨fun _ => hq, by omega⟩, hm0⟩

end Go.Proofs.Ytepdhokpfecdnaa.GraC
