/-
  Things of many blocks (sets of numbers): what is apart from them: no condition.
-/
import Derived.Test.YtfbfjhppppoilaaDoorFa
import Derived.Test.YtfbfjhppppoilaaDoorMr
namespace Go.Proofs.YtfbfjhppppoilaaDoor.E
set_option linter.unusedVariables false
section
variable {F : Nat → Prop} {a k k2 h h2 m : Nat} {K K0 K2 K3 ks : List Nat}
def DKL (K ks : List Nat) : Prop := ∀ k ∈ K, DL k ks
/-- each number is an elder one, or lies behind h -/
def NxK (K : List Nat) (h : Nat) (K2 : List Nat) : Prop := ∀ k ∈ K2, k = 0 ∨ k ∈ K ∨ h < k
def BK (K : List Nat) (h : Nat) : Prop := ∀ k ∈ K, k ≤ h
theorem DL.z (h : False) : DL a K := h.elim
theorem DL.zK : DL 0 K := fun k _ => Dj.z2
theorem DL.app (d : DL a K) (e : DL a ks) : DL a (K ++ ks) := fun k hk => (List.mem_append.1 hk).elim (d k) (e k)
theorem DFL.app (d : DFL F K) (e : DFL F ks) : DFL F (K ++ ks) := fun k hk => (List.mem_append.1 hk).elim (d k) (e k)
theorem DKL.nil : DKL K [] := fun k _ => DL.nil
theorem DKL.cons (d : DL m K) (e : DKL K ks) : DKL K (m :: ks) := fun k hk => DL.cons (d k hk).symm (e k hk)
theorem DKL.app (d : DKL K K2) (e : DKL K ks) : DKL K (K2 ++ ks) := fun k hk => DL.app (d k hk) (e k hk)
theorem DKL.symm (d : DKL K K2) : DKL K2 K := fun k hk j hj => (d j hj k hk).symm
theorem MIL.app {js : List Nat} (d : MIL ks h K) (e : MIL ks h js) : MIL ks h (K ++ js) := fun k hk => (List.mem_append.1 hk).elim (d k) (e k)
theorem DL.newK (b : BK K h) : DL (h + 1) K := fun k hk => (Dj.new (b k hk)).symm
theorem DL.appK (d : DL a K) (ha : a ≤ h) (x : NxK K h K2) : DL a K2 := fun k hk => by
  rcases x k hk with e | e | e
  · subst e; exact Dj.z
  · exact d k e
  · intro c h1 h2; omega
theorem DFL.appK (d : DFL F K) (hb : BF F h) (x : NxK K h K2) : DFL F K2 := fun k hk b hF he => by
  have := hb b hF
  rcases x k hk with e | e | e
  · omega
  · exact d k e b hF he
  · omega
theorem DKL.appK (d : DKL K0 K) (b : BK K0 h) (x : NxK K h K2) : DKL K0 K2 := fun k hk => DL.appK (d k hk) (b k hk) x
theorem DL.app2 (d : DL k K) (b : BK K h) (x : Nx k h k2) : DL k2 K := fun j hj => by
  rcases x with e | e | e
  · subst e; exact Dj.z2
  · subst e; exact d j hj
  · have := b j hj; intro c h1 h2; omega
theorem NxK.refl (K : List Nat) (h : Nat) : NxK K h K := fun k hk => .inr (.inl hk)
theorem NxK.tr (x : NxK K h K2) (y : NxK K2 h2 K3) (hh : h ≤ h2) : NxK K h K3 := fun k hk => by
  rcases y k hk with e | e | e
  · exact .inl e
  · exact x k e
  · exact .inr (.inr (by omega))
theorem NxK.cons (d : Nx 0 h a) (x : NxK K h K2) : NxK K h (a :: K2) := fun k hk => by
  rcases List.mem_cons.1 hk with e | e
  · subst e; unfold Nx at d; omega
  · exact x k e
/-- a number of a set's, or none -/
def KM (K : List Nat) (k : Nat) : Prop := ∀ c, c + 1 = k → c + 1 ∈ K
theorem KM.of (h : k ∈ K) : KM K k := fun c e => by rw [e]; exact h
theorem KM.cons (h : KM K k) : KM (a :: K) k := fun c e => List.mem_cons_of_mem _ (h c e)
theorem KM.or (h : KM K k) : k = 0 ∨ k ∈ K := by
  cases k with
  | zero => exact .inl rfl
  | succ c => exact .inr (h c rfl)
theorem DL.at (d : DL a K) (m : KM K k) : Dj a k := by
  rcases m.or with e | e
  · subst e; exact Dj.z
  · exact d k e
theorem DFL.at (d : DFL F K) (m : KM K k) : DF F k := by
  rcases m.or with e | e
  · subst e; exact DF.z
  · exact d k e
theorem MIL.at (d : MIL ks h K) (m : KM K k) : MI ks h k := by
  rcases m.or with e | e
  · subst e; exact MI.z
  · exact d k e
theorem NxK.app {k0 : Nat} (x : NxK K h K2) (hm : KM K2 k0) (y : Nx k0 h2 a) (hh : h ≤ h2) : NxK K h (a :: K2) := fun k hk => by
  rcases List.mem_cons.1 hk with e | e
  · subst e
    rcases y with y | y | y
    · exact .inl y
    · rcases hm.or with e2 | e2
      · exact .inl (y.trans e2)
      · rw [y]; exact x k0 e2
    · exact .inr (.inr (by omega))
  · exact x k e
theorem NxK.consE (x : NxK K h K2) (e : a = 0 ∨ a ∈ K2 ∨ h < a) : NxK K h (a :: K2) := fun k hk => by
  rcases List.mem_cons.1 hk with q | q
  · subst q
    rcases e with e | e | e
    · exact .inl e
    · exact x k e
    · exact .inr (.inr e)
  · exact x k q
theorem DL.nxK (b : BK K h) (x : Nx 0 h a) : DL a K := fun k hk => by
  have := b k hk
  intro c h1 h2
  unfold Nx at x; omega
theorem NxK.new (hh : h < a) (x : NxK K h K2) : NxK K h (a :: K2) := NxK.cons (.inr (.inr hh)) x
theorem MIL.ofK (x : NxK K h K2) (hk : ∀ k ∈ K, k ∈ ks) : MIL ks h K2 := fun k hk2 b hb e => by
  rcases x k hk2 with e2 | e2 | e2
  · omega
  · unfold Ms; rw [e]; exact hk k e2
  · omega
theorem MIL.ofK0 (x : NxK [] h K2) : MIL ks h K2 := fun k hk2 b hb e => by
  rcases x k hk2 with e2 | e2 | e2
  · omega
  · cases e2
  · omega
theorem BL.ofK (x : NxK [] h K) : BL h K := fun k hk => by
  rcases x k hk with e | e | e
  · exact .inl e
  · cases e
  · exact .inr (.inr e)
theorem BL.app (d : BL h K) (e : BL h ks) : BL h (K ++ ks) := fun k hk => (List.mem_append.1 hk).elim (d k) (e k)
theorem DFL.above {n : Nat} (hF : ∀ b, F b → n ≤ b) (hk : BK K n) : DFL F K := fun k hk2 b h1 e => by have := hF b h1; have := hk k hk2; omega
theorem DFL.below {n : Nat} (hF : BF F n) (hk : NxK [] n K) : DFL F K := fun k hk2 b h1 e => by
  have := hF b h1
  rcases hk k hk2 with e2 | e2 | e2
  · omega
  · cases e2
  · omega
theorem DFL.sub {G : Nat → Prop} (d : DFL F K) (h : ∀ b, G b → F b) : DFL G K := fun k hk b hb => d k hk b (h b hb)
end
/-! ### keys that are texts -/
section
open Go.MapKept
variable {P : Program} {w0 : World} {n : Nat} {l : FL} {H : Heap} {o : Oper} {κ β : Type} [DecidableEq κ] {fk : κ → Value} {fv : β → Value} {b : Nat} {m : List (κ × β)} {d : TypeDesc}
theorem Z.delS {t u kt et : TypeId} {x i : Operand} {k : κ} (h : Mp H fk fv b m) (hfk : KeyFn d fk) (ho : o.op = .call { callee := .builtin .delete, args := #[x, i], argTypes := #[t, u] }) (hm : ∀ w, (underlying t).run P w = .ok (.map kt et) w) (hk : P.underlying kt = some d)
    (hx : opv l x = some (.map (some b))) (hi : opv l i = some (fk k)) : Z P w0 n l H o (fun r H' => r = .tuple #[] ∧ Mp H' fk fv b (mdel m k) ∧ Mo (fun c => c = b) H H') := by
  intro ac w hf ha
  obtain ⟨r, es, clock, hv, h2, h3, h4, h5⟩ := h.mo.ex
  obtain rfl := h2
  have h3' : w.heap[r]? = some (.map es clock) := by rw [ha.heap]; exact h3
  have hlt := (Array.getElem?_eq_some_iff.1 h3).1
  have hget : ∀ ob, (H.setIfInBounds r ob)[r]? = some ob := fun ob => by simp [hlt]
  rcases find_entries (k := k) hfk es.toList m 0 h5 with ⟨q1, q2, q3⟩ | ⟨j, e', b', q1, q2, q3, q4, q5⟩
  · refine ⟨_, H.setIfInBounds r (.map es clock), { w with heap := H.setIfInBounds r (.map es clock) }, ?_, ha.set, rfl, ⟨⟨r, _, _, rfl, rfl, hget _, h4, ?_⟩⟩, mo_set _⟩
    · simp [execOp, ho, hf.eval hx, hf.eval hi, resolve, invoke, builtin, Builtin.delete_, hm, MapKept.run_getObj_map h3', MapKept.run_checkKey hk (hfk.key k), MapKept.run_findKey hk q2, MapKept.run_setObj_map _ h3', ha.heap]
    · rw [h5]
      congr 1
      unfold mdel
      exact (List.filter_eq_self.2 (fun p hp => by simpa using mget_none q1 p hp)).symm
  · have hj : es[j]? = some e' := by simpa using q3
    refine ⟨_, H.setIfInBounds r (.map (es.eraseIdxIfInBounds j) clock), { w with heap := H.setIfInBounds r (.map (es.eraseIdxIfInBounds j) clock) }, ?_, ha.set, rfl, ⟨⟨r, _, _, rfl, rfl, hget _, stamped_erase h4 _, ?_⟩⟩, mo_set _⟩
    · simp [execOp, ho, hf.eval hx, hf.eval hi, resolve, invoke, builtin, Builtin.delete_, hm, MapKept.run_getObj_map h3', MapKept.run_checkKey hk (hfk.key k), MapKept.run_findKey hk q2, MapKept.run_setObj_map _ h3', ha.heap]
    · have hjl : j < es.size := (Array.getElem?_eq_some_iff.1 hj).1
      rw [Array.eraseIdxIfInBounds, dif_pos hjl, Array.toList_eraseIdx]
      exact erase_entries hfk.inj es.toList m j e' h5 h4.2.2 q3 q4
end
/-- a thing of many blocks is apart from one -/
def Kj (K : List Nat) (k : Nat) : Prop := DL k K
theorem kj {K : List Nat} {k : Nat} (d : DL k K) : Kj K k := d
end Go.Proofs.YtfbfjhppppoilaaDoor.E
