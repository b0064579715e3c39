/-
  Memories added, held and found: the statement's function.
-/
import Derived.Test.YtegfnfhdgbcjbaaRerK
namespace Go.Proofs.Ytegfnfhdgbcjbaa.RerL
open Go.Proofs.Ytegfnfhdgbcjbaa.E Go.RowKit Go.Proofs.Ytegfnfhdgbcjbaa.LinM Go.Proofs.Ytegfnfhdgbcjbaa.LinC Go.Proofs.Ytegfnfhdgbcjbaa.LinL Go.Proofs.Ytegfnfhdgbcjbaa.LinN Go.Proofs.Ytegfnfhdgbcjbaa.MerA Go.Proofs.Ytegfnfhdgbcjbaa.MerB Go.Proofs.Ytegfnfhdgbcjbaa.MerC Go.Proofs.Ytegfnfhdgbcjbaa.MerD Go.Proofs.Ytegfnfhdgbcjbaa.MerE Go.Proofs.Ytegfnfhdgbcjbaa.MerF Go.Proofs.Ytegfnfhdgbcjbaa.MerH Go.Proofs.Ytegfnfhdgbcjbaa.MerL Go.Proofs.Ytegfnfhdgbcjbaa.MerM Go.Proofs.Ytegfnfhdgbcjbaa.MerN Go.Proofs.Ytegfnfhdgbcjbaa.SumA Go.Proofs.Ytegfnfhdgbcjbaa.SumB Go.Proofs.Ytegfnfhdgbcjbaa.SumC Go.Proofs.Ytegfnfhdgbcjbaa.SumD Go.Proofs.Ytegfnfhdgbcjbaa.SumE Go.Proofs.Ytegfnfhdgbcjbaa.SumF Go.Proofs.Ytegfnfhdgbcjbaa.SumG Go.Proofs.Ytegfnfhdgbcjbaa.SumK Go.Proofs.Ytegfnfhdgbcjbaa.SumL Go.Proofs.Ytegfnfhdgbcjbaa.SumM Go.Proofs.Ytegfnfhdgbcjbaa.DelA Go.Proofs.Ytegfnfhdgbcjbaa.RerA Go.Proofs.Ytegfnfhdgbcjbaa.RerB Go.Proofs.Ytegfnfhdgbcjbaa.RerF Go.Proofs.Ytegfnfhdgbcjbaa.RerG Go.Proofs.Ytegfnfhdgbcjbaa.RerH Go.Proofs.Ytegfnfhdgbcjbaa.RerI Go.Proofs.Ytegfnfhdgbcjbaa.RerJ Go.Proofs.Ytegfnfhdgbcjbaa.RerK
set_option maxRecDepth 20000
set_option linter.unusedVariables false
set_option linter.unusedSimpArgs false
set_option linter.unusedSectionVars false

section
variable {P : Program} {w0 : World} {n : Nat} {l : FL} {H : Heap} {o : Oper}
theorem Y.bneq {x y : Operand} {t u : TypeId} {a b : Bool} (ho : o.op = .binOp .neq t x y u) (ht : P.underlying t = some .bool) (hx : opv l x = some (.bool a)) (hy : opv l y = some (.bool b)) : Y P w0 n l H o (.bool (decide (a ≠ b))) := by
  intro ac w hf ha
  have h := run_equalIn_bool' w 9999 t a b ht
  have h2 : (a == b) = decide (a = b) := by cases a <;> cases b <;> rfl
  rw [h2] at h
  simp [execOp, ho, hf.eval hx, hf.eval hy, binOp, eqGuard, Op.equal, Op.maxDepth, h]
end
theorem rless_T {a b : List UInt8} (w0 : World) (H0 : Heap) (ha : a.length = 32) (hb : b.length = 32) (h : Op.bytesLess a b = true) : Ct Try.prog w0 20 #[idV a, idV b] H0 (fun r H2 => r = .bool true ∧ Nw H0 H2) := by
  refine (rless_ct a b w0 H0 ha hb).mono ?_
  rintro r H2 ⟨rfl, hn⟩
  exact ⟨by rw [h], hn⟩
theorem adM1_mem {out : List Mn} {x z : Mn} (h : z ∈ adM1 out x) : z = x ∨ z ∈ out := by
  unfold adM1 at h
  split at h
  · exact .inr h
  · exact ins_mem h
theorem adM_mem : ∀ {m out : List Mn} {z : Mn}, z ∈ adM out m → z ∈ out ∨ z ∈ m
  | [], _, _, h => .inl h
  | x :: m, out, z, h => by
    have h : z ∈ adM (adM1 out x) m := h
    rcases adM_mem h with h | h
    · rcases adM1_mem h with h | h
      · exact .inr (by rw [h]; exact List.mem_cons_self)
      · exact .inl h
    · exact .inr (List.mem_cons_of_mem _ h)
theorem addM_bd {lo a b : List Mm} {n : Nat} (h : lo.map Mm.c = adM (a.map Mm.c) (b.map Mm.c)) (ha : ∀ x ∈ a, x.d.length ≤ n) (hb : ∀ x ∈ b, x.d.length ≤ n) : ∀ x ∈ lo, x.d.length ≤ n := by
  intro x hx
  have h1 : x.c ∈ adM (a.map Mm.c) (b.map Mm.c) := by rw [← h]; exact List.mem_map_of_mem hx
  rcases adM_mem h1 with h1 | h1
  · obtain ⟨y, hy, e⟩ := List.mem_map.1 h1
    have e2 : y.d = x.d := congrArg Prod.snd e
    rw [← e2]; exact ha y hy
  · obtain ⟨y, hy, e⟩ := List.mem_map.1 h1
    have e2 : y.d = x.d := congrArg Prod.snd e
    rw [← e2]; exact hb y hy
theorem addM_len {lo a b : List Mm} (h : lo.map Mm.c = adM (a.map Mm.c) (b.map Mm.c)) : lo.length ≤ a.length + b.length := by
  have h1 := adM_len (b.map Mm.c) (a.map Mm.c)
  rw [← h] at h1
  simpa using h1
theorem last_find {out : List Mn} {m : List Mm} {i : Nat} (hi : i < m.length) (h0 : m[i].k ≠ Z32) (h : ∀ q (hq : q < m.length), i < q → m[q].k ≠ m[i].k) : rfindL (adM out (m.map Mm.c)) m[i].k = some m[i].d := by
  have e : m.map Mm.c = (m.take i).map Mm.c ++ m[i].c :: (m.drop (i + 1)).map Mm.c := by
    have e0 : m = m.take i ++ m[i] :: m.drop (i + 1) := by rw [← List.drop_eq_getElem_cons hi, List.take_append_drop]
    have h9 := congrArg (List.map Mm.c) e0
    rw [List.map_append, List.map_cons] at h9
    exact h9
  rw [e]
  refine adM_last (x := m[i].c) h0 (fun z hz => ?_)
  obtain ⟨y, hy, rfl⟩ := List.mem_map.1 hz
  obtain ⟨q, hq, rfl⟩ := List.getElem_of_mem hy
  rw [List.getElem_drop]
  exact h _ _ (by omega)
theorem srt_at {l : List Mm} {i : Nat} (h : Srt (l.map Mm.c)) (h0 : 1 ≤ i) (hi : i < l.length) : Op.bytesLess l[i - 1].k l[i].k = true := by
  have := List.pairwise_iff_getElem.1 h (i - 1) i (by simp; omega) (by simpa using hi) (by omega)
  simpa using this

set_option maxHeartbeats 8000000 in
theorem rerereAdds_ct (v1 v2 : Value) (l m : List Mm) (k : List UInt8) (w0 : World) (H0 : Heap)
    (hl : RdT H0 fM 33 v1 l) (hr : RdT H0 fM 33 v2 m) (hk : k.length = 32) (hx : ∀ x ∈ l, MmR (fun _ => True) H0 x) (hy : ∀ x ∈ m, MmR (fun _ => True) H0 x) (hdl : ∀ x ∈ l, x.d.length ≤ 140737488355328) (hdm : ∀ x ∈ m, x.d.length ≤ 140737488355328) :
    Ct Try.prog w0 6 #[v1, v2, idV k] H0 (fun r H2 => r = .bool true ∧ Nw H0 H2) := by
  refine Ct.enter (args := [v1, v2, idV k]) Try.func6 rfl rfl rfl ?_
  intro Q0 hret
  have hm0 : Nw H0 H0 := Mo.refl _ _
  replace hl := hl.bnd
  have bf_hl := Rd.bf hl
  replace hr := hr.bnd
  have bf_hr := Rd.bf hr
  replace hx := fun x hx0 => (hx x hx0).bnd
  have bf_hx : BF (fun b => True ∧ b < H0.size) H0.size := fun b h => h.2
  replace hy := fun x hy0 => (hy x hy0).bnd
  have bf_hy : BF (fun b => True ∧ b < H0.size) H0.size := fun b h => h.2
  have hlm := hl.len
  have hrm := hr.len
  refine CW.seq (fun K1 hK1 hE1 => ?_)
  refine CW.region ?_
  refine LR.z (Z.boxv rfl rfl) (Wd.u rfl) rfl rfl (fun v5 H5 r5 => ?_)
  obtain ⟨rfl, hb, hs5, ob5, hH5⟩ := r5
  have hzs5 : H5.size = H0.size + 1 := by rw [hH5]; simp
  have df1 := (DF.new (bf_hl.mono hm0.size) : DF _ (H0.size + 1))
  have df2 := (DF.new (bf_hr.mono hm0.size) : DF _ (H0.size + 1))
  have df3 := (DF.new (bf_hx.mono hm0.size) : DF _ (H0.size + 1))
  have df4 := (DF.new (bf_hy.mono hm0.size) : DF _ (H0.size + 1))
  have nx5 : Nx 0 H0.size (H0.size + 1) := Nx.new hm0.size
  replace hl := hl.nw hs5
  replace hr := hr.nw hs5
  replace hx := fun x hx0 => (hx x hx0).nw hs5
  replace hy := fun x hy0 => (hy x hy0).nw hs5
  replace hm0 := hm0.tr hs5
  have hz1 := hs5.size
  replace hb : Var 25 H5 H0.size (k.map V8) := hb
  refine LR.v (Y.assign rfl rfl) (Wd.u rfl) rfl rfl ?_
  refine LR.nil ?_
  refine hK1 _ _ ?_
  refine CW.seq (fun K2 hK2 hE2 => ?_)
  refine CW.seq (fun K3 hK3 hE3 => ?_)
  refine CW.region ?_
  -- call selvage/selvagelaw19.known
  refine LR.call rfl Try.call7 rfl (Wd.u rfl) rfl rfl (known_ct w0 _) (fun v21 H21 r21 => ?_)
  obtain ⟨rfl, hs21⟩ := r21
  replace hl := hl.nw hs21
  replace hr := hr.nw hs21
  replace hx := fun x hx0 => (hx x hx0).nw hs21
  replace hy := fun x hy0 => (hy x hy0).nw hs21
  replace hb := hb.nw hs21
  replace hm0 := hm0.tr hs21
  have hz2 := hs21.size
  refine LR.v (Y.not rfl rfl) (Wd.u rfl) rfl rfl ?_
  refine LR.nil ?_
  refine hK3 _ _ ?_
  refine CW.cond_f rfl ?_
  refine CW.skip ?_
  refine hK2 _ _ ?_
  refine CW.seq (fun K4 hK4 hE4 => ?_)
  refine CW.seq (fun K5 hK5 hE5 => ?_)
  refine CW.region ?_
  refine LR.v (Y.move rfl rfl) (Wd.u rfl) rfl rfl ?_
  refine LR.v (Y.len hl rfl Try.runUnderlying40 rfl) (Wd.u rfl) rfl rfl ?_
  refine LR.v (Y.gtr rfl rfl rfl) (Wd.u rfl) rfl rfl ?_
  refine LR.v (Y.move rfl rfl) (Wd.u rfl) rfl rfl ?_
  refine LR.splitp (d := 26) rfl (fun g26 => ?_) (fun g26 => ?_)
  ·
    refine LR.gs rfl rfl rfl rfl rfl rfl ?_
    refine LR.gs rfl rfl rfl rfl rfl rfl ?_
    refine LR.gs rfl rfl rfl rfl rfl rfl ?_
    refine LR.v (Y.pick_t rfl rfl rfl) (Wd.u rfl) rfl rfl ?_
    refine LR.nil ?_
    refine hK5 _ _ ?_
    refine CW.cond_t rfl ?_
    refine CW.seq (fun K6 hK6 hE6 => ?_)
    refine CW.region ?_
    refine LR.v (Y.assign rfl rfl) (Wd.u rfl) rfl rfl ?_
    refine LR.nil ?_
    refine hK6 _ _ ?_
    refine CW.ret (hE4 .ret nofun _ _ (hret .ret (.inr rfl) _ _ _ (res1 rfl rfl) ?_))
    exact ⟨rfl, hm0⟩
  ·
    refine LR.v (Y.move rfl rfl) (Wd.g rfl rfl rfl) rfl rfl ?_
    refine LR.v (Y.len hr rfl Try.runUnderlying40 rfl) (Wd.g rfl rfl rfl) rfl rfl ?_
    refine LR.v (Y.gtr rfl rfl rfl) (Wd.g rfl rfl rfl) rfl rfl ?_
    refine LR.v (Y.pick_f rfl rfl rfl) (Wd.u rfl) rfl rfl ?_
    refine LR.nil ?_
    refine hK5 _ _ ?_
    refine CW.condp rfl (fun c30 => ?_) (fun c30 => ?_)
    ·
      refine CW.seq (fun K7 hK7 hE7 => ?_)
      refine CW.region ?_
      refine LR.v (Y.assign rfl rfl) (Wd.u rfl) rfl rfl ?_
      refine LR.nil ?_
      refine hK7 _ _ ?_
      refine CW.ret (hE4 .ret nofun _ _ (hret .ret (.inr rfl) _ _ _ (res1 rfl rfl) ?_))
      exact ⟨rfl, hm0⟩
    ·
      refine CW.skip ?_
      refine hK4 _ _ ?_
      refine CW.seq (fun K8 hK8 hE8 => ?_)
      refine CW.region ?_
      refine LR.v (Y.move rfl rfl) (Wd.u rfl) rfl rfl ?_
      -- call selvage/rerere.Add
      refine LR.call rfl Try.call15 rfl (Wd.u rfl) rfl rfl (madd_ct (.slice none 0 0) v1 [] l w0 _ (Rd.nil _ _ _ _) hl.any (fun x e => by cases e) (fun x e => (hx x e).any) (by simp) (by omega) (fun x e => by cases e) hdl) (fun v32 H32 r32 => ?_)
      obtain ⟨v32_, k32, a, Ga, rfl, owa, hka, hxa, bf_hxa, hda, hloa, hs32⟩ := r32
      have df6 := DF.app (DF.z) (bf_hl.mono hm0.size) hka
      have df7 := DF.app (DF.z) (bf_hr.mono hm0.size) hka
      have df8 := DF.app (DF.z) (bf_hx.mono hm0.size) hka
      have df9 := DF.app (DF.z) (bf_hy.mono hm0.size) hka
      have dj10 : Dj (H0.size + 1) k32 := Dj.app (Dj.z) hb.lt hka
      have nx11 : Nx 0 H0.size k32 := Nx.tr (Nx.refl 0 _) hka hm0.size
      replace hl := hl.nw hs32
      replace hr := hr.nw hs32
      replace hx := fun x hx0 => (hx x hx0).nw hs32
      replace hy := fun x hy0 => (hy x hy0).nw hs32
      replace hb := hb.nw hs32
      replace hm0 := hm0.tr hs32
      have hz3 := hs32.size
      have hle_owa := owa.le
      have hda := addM_bd hloa (fun x e => by cases e) hdl
      have hza := addM_len hloa
      simp only [List.length_nil] at hza
      refine LR.v (Y.assign rfl rfl) (Wd.u rfl) rfl rfl ?_
      refine LR.nil ?_
      refine hK8 _ _ ?_
      refine CW.seq (fun K9 hK9 hE9 => ?_)
      refine CW.region ?_
      refine LR.v (Y.move rfl rfl) (Wd.u rfl) rfl rfl ?_
      -- call selvage/selvageref10.Add
      refine LR.call rfl Try.call16 rfl (Wd.u rfl) rfl rfl (rmadd_ct (.slice none 0 0) v1 [] l w0 _ (Rd.nil _ _ _ _) hl.any (fun x e => by cases e) (fun x e => (hx x e).any) (by simp) (by omega) (fun x e => by cases e) hdl) (fun v34 H34 r34 => ?_)
      obtain ⟨v34_, k34, x, Gx, rfl, owx, hkx, hxx, bf_hxx, hdx, hlox, hs34⟩ := r34
      have df12 := DF.app (DF.z) (bf_hl.mono hm0.size) hkx
      have df13 := DF.app (DF.z) (bf_hr.mono hm0.size) hkx
      have df14 := DF.app (DF.z) (bf_hx.mono hm0.size) hkx
      have df15 := DF.app (DF.z) (bf_hy.mono hm0.size) hkx
      have dj16 : Dj (H0.size + 1) k34 := Dj.app (Dj.z) hb.lt hkx
      have dj17 : Dj k32 k34 := Dj.app (Dj.z) owa.le hkx
      have df18 := DF.app (DF.z) (bf_hxa.mono (by omega)) hkx
      have nx19 : Nx 0 H0.size k34 := Nx.tr (Nx.refl 0 _) hkx hm0.size
      replace hl := hl.nw hs34
      replace hr := hr.nw hs34
      replace hx := fun x hx0 => (hx x hx0).nw hs34
      replace hy := fun x hy0 => (hy x hy0).nw hs34
      replace hb := hb.nw hs34
      replace owa := owa.nw hs34
      replace hxa := fun x hx_ => (hxa x hx_).nw hs34
      replace hm0 := hm0.tr hs34
      have hz4 := hs34.size
      have hle_owx := owx.le
      have hdx := addM_bd hlox (fun x e => by cases e) hdl
      have hzx := addM_len hlox
      simp only [List.length_nil] at hzx
      refine LR.v (Y.assign rfl rfl) (Wd.u rfl) rfl rfl ?_
      refine LR.nil ?_
      refine hK9 _ _ ?_
      refine CW.seq (fun K10 hK10 hE10 => ?_)
      refine CW.region ?_
      refine LR.v (Y.move rfl rfl) (Wd.u rfl) rfl rfl ?_
      refine LR.v (Y.move rfl rfl) (Wd.u rfl) rfl rfl ?_
      -- call selvage/rerere.Add
      refine LR.call rfl Try.call15 rfl (Wd.u rfl) rfl rfl (madd_ct _ v2 a m w0 _ owa.rd.any hr.any (fun x e => (hxa x e).any) (fun x e => (hy x e).any) (by omega) (by omega) hda hdm) (fun v37 H37 r37 => ?_)
      obtain ⟨v37_, k37, b, Gb, rfl, owb, hkb, hxb, bf_hxb, hdb, hlob, hs37⟩ := r37
      have df20 := DF.app (DF.z) (bf_hl.mono hm0.size) hkb
      have df21 := DF.app (DF.z) (bf_hr.mono hm0.size) hkb
      have df22 := DF.app (DF.z) (bf_hx.mono hm0.size) hkb
      have df23 := DF.app (DF.z) (bf_hy.mono hm0.size) hkb
      have dj24 : Dj (H0.size + 1) k37 := Dj.app (Dj.z) hb.lt hkb
      have dj25 : Dj k32 k37 := Dj.app (Dj.z) owa.le hkb
      have df26 := DF.app (DF.z) (bf_hxa.mono (by omega)) hkb
      have dj27 : Dj k34 k37 := Dj.app (Dj.z) owx.le hkb
      have df28 := DF.app (DF.z) (bf_hxx.mono (by omega)) hkb
      have nx29 : Nx 0 H0.size k37 := Nx.tr (Nx.refl 0 _) hkb hm0.size
      replace hl := hl.nw hs37
      replace hr := hr.nw hs37
      replace hx := fun x hx0 => (hx x hx0).nw hs37
      replace hy := fun x hy0 => (hy x hy0).nw hs37
      replace hb := hb.nw hs37
      replace owa := owa.nw hs37
      replace hxa := fun x hx_ => (hxa x hx_).nw hs37
      replace owx := owx.nw hs37
      replace hxx := fun x hx_ => (hxx x hx_).nw hs37
      replace hm0 := hm0.tr hs37
      have hz5 := hs37.size
      have hle_owb := owb.le
      have hdb := addM_bd hlob hda hdm
      have hzb := addM_len hlob
      refine LR.v (Y.assign rfl rfl) (Wd.u rfl) rfl rfl ?_
      refine LR.nil ?_
      refine hK10 _ _ ?_
      refine CW.seq (fun K11 hK11 hE11 => ?_)
      refine CW.region ?_
      refine LR.v (Y.move rfl rfl) (Wd.u rfl) rfl rfl ?_
      refine LR.v (Y.move rfl rfl) (Wd.u rfl) rfl rfl ?_
      -- call selvage/selvageref10.Add
      refine LR.call rfl Try.call16 rfl (Wd.u rfl) rfl rfl (rmadd_ct _ v2 x m w0 _ owx.rd.any hr.any (fun x e => (hxx x e).any) (fun x e => (hy x e).any) (by omega) (by omega) hdx hdm) (fun v40 H40 r40 => ?_)
      obtain ⟨v40_, k40, y, Gy, rfl, owy, hky, hxy, bf_hxy, hdy, hloy, hs40⟩ := r40
      have df30 := DF.app (DF.z) (bf_hl.mono hm0.size) hky
      have df31 := DF.app (DF.z) (bf_hr.mono hm0.size) hky
      have df32 := DF.app (DF.z) (bf_hx.mono hm0.size) hky
      have df33 := DF.app (DF.z) (bf_hy.mono hm0.size) hky
      have dj34 : Dj (H0.size + 1) k40 := Dj.app (Dj.z) hb.lt hky
      have dj35 : Dj k32 k40 := Dj.app (Dj.z) owa.le hky
      have df36 := DF.app (DF.z) (bf_hxa.mono (by omega)) hky
      have dj37 : Dj k34 k40 := Dj.app (Dj.z) owx.le hky
      have df38 := DF.app (DF.z) (bf_hxx.mono (by omega)) hky
      have dj39 : Dj k37 k40 := Dj.app (Dj.z) owb.le hky
      have df40 := DF.app (DF.z) (bf_hxb.mono (by omega)) hky
      have nx41 : Nx 0 H0.size k40 := Nx.tr (Nx.refl 0 _) hky hm0.size
      replace hl := hl.nw hs40
      replace hr := hr.nw hs40
      replace hx := fun x hx0 => (hx x hx0).nw hs40
      replace hy := fun x hy0 => (hy x hy0).nw hs40
      replace hb := hb.nw hs40
      replace owa := owa.nw hs40
      replace hxa := fun x hx_ => (hxa x hx_).nw hs40
      replace owx := owx.nw hs40
      replace hxx := fun x hx_ => (hxx x hx_).nw hs40
      replace owb := owb.nw hs40
      replace hxb := fun x hx_ => (hxb x hx_).nw hs40
      replace hm0 := hm0.tr hs40
      have hz6 := hs40.size
      have hle_owy := owy.le
      have hdy := addM_bd hloy hdx hdm
      have hzy := addM_len hloy
      refine LR.v (Y.assign rfl rfl) (Wd.u rfl) rfl rfl ?_
      refine LR.nil ?_
      refine hK11 _ _ ?_
      refine CW.seq (fun K12 hK12 hE12 => ?_)
      refine CW.seq (fun K13 hK13 hE13 => ?_)
      refine CW.region ?_
      refine LR.v (Y.move rfl rfl) (Wd.u rfl) rfl rfl ?_
      refine LR.v (Y.move rfl rfl) (Wd.u rfl) rfl rfl ?_
      -- call selvage/selvagelaw19.same
      refine LR.call rfl Try.call17 rfl (Wd.u rfl) rfl rfl (same_ct _ _ a x w0 _ owa.rd.any owx.rd.any (fun x e => (hxa x e).any) (fun x e => (hxx x e).any) hda (by rw [hloa, hlox])) (fun v43 H43 r43 => ?_)
      obtain ⟨rfl, hs43⟩ := r43
      replace hl := hl.nw hs43
      replace hr := hr.nw hs43
      replace hx := fun x hx0 => (hx x hx0).nw hs43
      replace hy := fun x hy0 => (hy x hy0).nw hs43
      replace hb := hb.nw hs43
      replace owa := owa.nw hs43
      replace hxa := fun x hx_ => (hxa x hx_).nw hs43
      replace owx := owx.nw hs43
      replace hxx := fun x hx_ => (hxx x hx_).nw hs43
      replace owb := owb.nw hs43
      replace hxb := fun x hx_ => (hxb x hx_).nw hs43
      replace owy := owy.nw hs43
      replace hxy := fun x hx_ => (hxy x hx_).nw hs43
      replace hm0 := hm0.tr hs43
      have hz7 := hs43.size
      refine LR.v (Y.not rfl rfl) (Wd.u rfl) rfl rfl ?_
      refine LR.v (Y.move rfl rfl) (Wd.u rfl) rfl rfl ?_
      refine LR.v (Y.move rfl rfl) (Wd.g rfl rfl rfl) rfl rfl ?_
      refine LR.v (Y.move rfl rfl) (Wd.g rfl rfl rfl) rfl rfl ?_
      -- call selvage/selvagelaw19.same
      refine LR.call rfl Try.call17 rfl (Wd.g rfl rfl rfl) rfl rfl (same_ct _ _ b y w0 _ owb.rd.any owy.rd.any (fun x e => (hxb x e).any) (fun x e => (hxy x e).any) hdb (by rw [hlob, hloy, hloa, hlox])) (fun v48 H48 r48 => ?_)
      obtain ⟨rfl, hs48⟩ := r48
      replace hl := hl.nw hs48
      replace hr := hr.nw hs48
      replace hx := fun x hx0 => (hx x hx0).nw hs48
      replace hy := fun x hy0 => (hy x hy0).nw hs48
      replace hb := hb.nw hs48
      replace owa := owa.nw hs48
      replace hxa := fun x hx_ => (hxa x hx_).nw hs48
      replace owx := owx.nw hs48
      replace hxx := fun x hx_ => (hxx x hx_).nw hs48
      replace owb := owb.nw hs48
      replace hxb := fun x hx_ => (hxb x hx_).nw hs48
      replace owy := owy.nw hs48
      replace hxy := fun x hx_ => (hxy x hx_).nw hs48
      replace hm0 := hm0.tr hs48
      have hz8 := hs48.size
      refine LR.v (Y.not rfl rfl) (Wd.g rfl rfl rfl) rfl rfl ?_
      refine LR.v (Y.pick_f rfl rfl rfl) (Wd.u rfl) rfl rfl ?_
      refine LR.nil ?_
      refine hK13 _ _ ?_
      refine CW.cond_f rfl ?_
      refine CW.skip ?_
      refine hK12 _ _ ?_
      refine CW.seq (fun K14 hK14 hE14 => ?_)
      refine CW.region ?_
      refine LR.v (Y.move rfl rfl) (Wd.u rfl) rfl rfl ?_
      refine LR.v (Y.loadN hb.pt rfl Try.isAgg25 Try.sizeOf25 (by simp [hk]) rfl) (Wd.u rfl) rfl rfl ?_
      have hby : b.map Mm.c = y.map Mm.c := by rw [hlob, hloy, hloa, hlox]
      have hsb : Srt (b.map Mm.c) := by rw [hlob, hloa]; exact adM_srt (adM_srt List.Pairwise.nil)
      obtain ⟨hf1, hf2⟩ := find_place (k := k) hsb
      -- call selvage/rerere.Find
      refine LR.call rfl Try.call18 rfl (Wd.u rfl) rfl rfl (find_ct _ b k w0 _ owb.rd.any hk (fun x e => (hxb x e).any) hdb) (fun v54 H54 r54 => ?_)
      obtain ⟨s54, k54, rfl, ow54, hkx54, hs54⟩ := r54
      have df42 := DF.app (DF.z) (bf_hl.mono hm0.size) hkx54
      have df43 := DF.app (DF.z) (bf_hr.mono hm0.size) hkx54
      have df44 := DF.app (DF.z) (bf_hx.mono hm0.size) hkx54
      have df45 := DF.app (DF.z) (bf_hy.mono hm0.size) hkx54
      have dj46 : Dj (H0.size + 1) k54 := Dj.app (Dj.z) hb.lt hkx54
      have dj47 : Dj k32 k54 := Dj.app (Dj.z) owa.le hkx54
      have df48 := DF.app (DF.z) (bf_hxa.mono (by omega)) hkx54
      have dj49 : Dj k34 k54 := Dj.app (Dj.z) owx.le hkx54
      have df50 := DF.app (DF.z) (bf_hxx.mono (by omega)) hkx54
      have dj51 : Dj k37 k54 := Dj.app (Dj.z) owb.le hkx54
      have df52 := DF.app (DF.z) (bf_hxb.mono (by omega)) hkx54
      have dj53 : Dj k40 k54 := Dj.app (Dj.z) owy.le hkx54
      have df54 := DF.app (DF.z) (bf_hxy.mono (by omega)) hkx54
      have nx55 : Nx 0 H0.size k54 := Nx.tr (Nx.refl 0 _) hkx54 hm0.size
      replace hl := hl.nw hs54
      replace hr := hr.nw hs54
      replace hx := fun x hx0 => (hx x hx0).nw hs54
      replace hy := fun x hy0 => (hy x hy0).nw hs54
      replace hb := hb.nw hs54
      replace owa := owa.nw hs54
      replace hxa := fun x hx_ => (hxa x hx_).nw hs54
      replace owx := owx.nw hs54
      replace hxx := fun x hx_ => (hxx x hx_).nw hs54
      replace owb := owb.nw hs54
      replace hxb := fun x hx_ => (hxb x hx_).nw hs54
      replace owy := owy.nw hs54
      replace hxy := fun x hx_ => (hxy x hx_).nw hs54
      replace hm0 := hm0.tr hs54
      have hz9 := hs54.size
      have hle_ow54 := ow54.le
      refine LR.v (Y.move rfl rfl) (Wd.u rfl) rfl rfl ?_
      refine LR.v (Y.extract rfl rfl rfl) (Wd.u rfl) rfl rfl ?_
      refine LR.v (Y.extract rfl rfl rfl) (Wd.u rfl) rfl rfl ?_
      refine LR.v (Y.assign rfl rfl) (Wd.u rfl) rfl rfl ?_
      refine LR.v (Y.assign rfl rfl) (Wd.u rfl) rfl rfl ?_
      refine LR.nil ?_
      refine hK14 _ _ ?_
      refine CW.seq (fun K15 hK15 hE15 => ?_)
      refine CW.region ?_
      refine LR.v (Y.move rfl rfl) (Wd.u rfl) rfl rfl ?_
      refine LR.v (Y.loadN hb.pt rfl Try.isAgg25 Try.sizeOf25 (by simp [hk]) rfl) (Wd.u rfl) rfl rfl ?_
      -- call selvage/selvageref19.Find
      refine LR.call rfl Try.call19 rfl (Wd.u rfl) rfl rfl (rfind_ct _ y k w0 _ owy.rd.any hk (fun x e => (hxy x e).any) hdy) (fun v60 H60 r60 => ?_)
      obtain ⟨s60, k60, rfl, ow60, hkx60, hs60⟩ := r60
      have df56 := DF.app (DF.z) (bf_hl.mono hm0.size) hkx60
      have df57 := DF.app (DF.z) (bf_hr.mono hm0.size) hkx60
      have df58 := DF.app (DF.z) (bf_hx.mono hm0.size) hkx60
      have df59 := DF.app (DF.z) (bf_hy.mono hm0.size) hkx60
      have dj60 : Dj (H0.size + 1) k60 := Dj.app (Dj.z) hb.lt hkx60
      have dj61 : Dj k32 k60 := Dj.app (Dj.z) owa.le hkx60
      have df62 := DF.app (DF.z) (bf_hxa.mono (by omega)) hkx60
      have dj63 : Dj k34 k60 := Dj.app (Dj.z) owx.le hkx60
      have df64 := DF.app (DF.z) (bf_hxx.mono (by omega)) hkx60
      have dj65 : Dj k37 k60 := Dj.app (Dj.z) owb.le hkx60
      have df66 := DF.app (DF.z) (bf_hxb.mono (by omega)) hkx60
      have dj67 : Dj k40 k60 := Dj.app (Dj.z) owy.le hkx60
      have df68 := DF.app (DF.z) (bf_hxy.mono (by omega)) hkx60
      have dj69 : Dj k54 k60 := Dj.app (Dj.z) ow54.le hkx60
      have nx70 : Nx 0 H0.size k60 := Nx.tr (Nx.refl 0 _) hkx60 hm0.size
      replace hl := hl.nw hs60
      replace hr := hr.nw hs60
      replace hx := fun x hx0 => (hx x hx0).nw hs60
      replace hy := fun x hy0 => (hy x hy0).nw hs60
      replace hb := hb.nw hs60
      replace owa := owa.nw hs60
      replace hxa := fun x hx_ => (hxa x hx_).nw hs60
      replace owx := owx.nw hs60
      replace hxx := fun x hx_ => (hxx x hx_).nw hs60
      replace owb := owb.nw hs60
      replace hxb := fun x hx_ => (hxb x hx_).nw hs60
      replace owy := owy.nw hs60
      replace hxy := fun x hx_ => (hxy x hx_).nw hs60
      replace ow54 := ow54.nw hs60
      replace hm0 := hm0.tr hs60
      have hz10 := hs60.size
      have hle_ow60 := ow60.le
      refine LR.v (Y.move rfl rfl) (Wd.u rfl) rfl rfl ?_
      refine LR.v (Y.extract rfl rfl rfl) (Wd.u rfl) rfl rfl ?_
      refine LR.v (Y.extract rfl rfl rfl) (Wd.u rfl) rfl rfl ?_
      refine LR.v (Y.assign rfl rfl) (Wd.u rfl) rfl rfl ?_
      refine LR.v (Y.assign rfl rfl) (Wd.u rfl) rfl rfl ?_
      refine LR.nil ?_
      refine hK15 _ _ ?_
      refine CW.seq (fun K16 hK16 hE16 => ?_)
      refine CW.seq (fun K17 hK17 hE17 => ?_)
      refine CW.region ?_
      refine LR.v (Y.move rfl rfl) (Wd.u rfl) rfl rfl ?_
      refine LR.v (Y.bstr ow54.rd rfl Try.underlying22 Try.underlying9 Try.underlying5 rfl) (Wd.u rfl) rfl rfl ?_
      refine LR.v (Y.move rfl rfl) (Wd.u rfl) rfl rfl ?_
      refine LR.v (Y.bstr ow60.rd rfl Try.underlying22 Try.underlying9 Try.underlying5 rfl) (Wd.u rfl) rfl rfl ?_
      refine LR.v ((Y.sneq rfl rfl rfl).isF (fun h => h (by rw [hf2, hby]))) (Wd.u rfl) rfl rfl ?_
      refine LR.v (Y.move rfl rfl) (Wd.u rfl) rfl rfl ?_
      refine LR.v (Y.move rfl rfl) (Wd.g rfl rfl rfl) rfl rfl ?_
      refine LR.v (Y.move rfl rfl) (Wd.g rfl rfl rfl) rfl rfl ?_
      refine LR.v (Y.cast (v2 := .bool false) (Y.bneq rfl Try.underlying4 rfl rfl) (by rw [hf1, hby]; simp)) (Wd.g rfl rfl rfl) rfl rfl ?_
      refine LR.v (Y.pick_f rfl rfl rfl) (Wd.u rfl) rfl rfl ?_
      refine LR.nil ?_
      refine hK17 _ _ ?_
      refine CW.cond_f rfl ?_
      refine CW.skip ?_
      refine hK16 _ _ ?_
      refine CW.seq (fun K18 hK18 hE18 => ?_)
      refine CW.seq (fun K19 hK19 hE19 => ?_)
      refine CW.region ?_
      refine LR.v (Y.assign rfl rfl) (Wd.u rfl) rfl rfl ?_
      refine LR.nil ?_
      refine hK19 _ _ ?_
      refine CW.block (fun K20 hK20 hX20 hE20 => ?_)
      refine CW.loop (fun (i : (Nat)) => [(1, v2), (9, v37), (15, .int .i64 i)])
        (fun (i : (Nat)) (H : Heap) => (i ≤ m.length) ∧ Nw H60 H)
        (fun (i : (Nat)) => m.length - i) 0 ⟨rfl, rfl, rfl, trivial⟩ ?_ ?_
      ·
        exact ⟨(by omega), Mo.refl _ _⟩
      intro i HL1 hI1 K21 hN21 hE21
      obtain ⟨hi, hlm1⟩ := hI1
      replace hl := hl.nw hlm1
      replace hr := hr.nw hlm1
      replace hx := fun x hx0 => (hx x hx0).nw hlm1
      replace hy := fun x hy0 => (hy x hy0).nw hlm1
      replace owa := owa.nw hlm1
      replace hxa := fun x hx_ => (hxa x hx_).nw hlm1
      replace owx := owx.nw hlm1
      replace hxx := fun x hx_ => (hxx x hx_).nw hlm1
      replace owb := owb.nw hlm1
      replace hxb := fun x hx_ => (hxb x hx_).nw hlm1
      replace owy := owy.nw hlm1
      replace hxy := fun x hx_ => (hxy x hx_).nw hlm1
      replace ow54 := ow54.nw hlm1
      replace ow60 := ow60.nw hlm1
      replace hm0 := hm0.tr hlm1
      have hz11 := hlm1.size
      refine CW.seq (fun K22 hK22 hE22 => ?_)
      refine CW.seq (fun K23 hK23 hE23 => ?_)
      refine CW.region ?_
      refine LR.v (Y.move rfl rfl) (Wd.u rfl) rfl rfl ?_
      refine LR.v (Y.move rfl rfl) (Wd.u rfl) rfl rfl ?_
      refine LR.v (Y.len hr rfl Try.runUnderlying40 rfl) (Wd.u rfl) rfl rfl ?_
      refine LR.v (Y.lss rfl rfl rfl) (Wd.u rfl) rfl rfl ?_
      refine LR.nil ?_
      refine hK23 _ _ ?_
      refine CW.condp rfl (fun c76 => ?_) (fun c76 => ?_)
      ·
        refine CW.skip ?_
        refine hK22 _ _ ?_
        refine CW.seq (fun K24 hK24 hE24 => ?_)
        refine CW.block (fun K25 hK25 hX25 hE25 => ?_)
        refine CW.seq (fun K26 hK26 hE26 => ?_)
        refine CW.region ?_
        refine LR.v (Y.assign rfl rfl) (Wd.u rfl) rfl rfl ?_
        refine LR.nil ?_
        refine hK26 _ _ ?_
        refine CW.seq (fun K27 hK27 hE27 => ?_)
        refine CW.seq (fun K28 hK28 hE28 => ?_)
        refine CW.region ?_
        refine LR.v (Y.move rfl rfl) (Wd.u rfl) rfl rfl ?_
        have hil : i < m.length := by omega
        have hmi := hy m[i] (List.getElem_mem hil)
        have hki := hmi.k
        have hdi := hdm m[i] (List.getElem_mem hil)
        refine LR.v (Y.addi rfl rfl rfl (by omega)) (Wd.u rfl) rfl rfl ?_
        refine LR.v (Y.assign rfl rfl) (Wd.u rfl) rfl rfl ?_
        refine LR.nil ?_
        refine hK28 _ _ ?_
        refine CW.block (fun K29 hK29 hX29 hE29 => ?_)
        refine CW.loop (fun (s_ : (Nat) × (Bool)) => match s_ with | (n, lst) => [(1, v2), (9, v37), (15, .int .i64 i), (16, .bool lst), (17, .int .i64 n)])
          (fun (s_ : (Nat) × (Bool)) (H : Heap) => match s_ with | (n, lst) => (i < n ∧ n ≤ m.length) ∧ (lst = true → ∀ q (hq : q < m.length), i < q → q < n → m[q].k ≠ m[i].k) ∧ Nw HL1 H)
          (fun (s_ : (Nat) × (Bool)) => match s_ with | (n, lst) => m.length - n) (i + 1, true) ⟨rfl, rfl, rfl, rfl, rfl, trivial⟩ ?_ ?_
        ·
          exact ⟨⟨by omega, by omega⟩, (fun _ q hq h1 h2 => by omega), Mo.refl _ _⟩
        rintro ⟨n, lst⟩ HL2 hI2 K30 hN30 hE30
        obtain ⟨hn, hla, hlm2⟩ := hI2
        replace hl := hl.nw hlm2
        replace hr := hr.nw hlm2
        replace hx := fun x hx0 => (hx x hx0).nw hlm2
        replace hy := fun x hy0 => (hy x hy0).nw hlm2
        replace owa := owa.nw hlm2
        replace hxa := fun x hx_ => (hxa x hx_).nw hlm2
        replace owx := owx.nw hlm2
        replace hxx := fun x hx_ => (hxx x hx_).nw hlm2
        replace owb := owb.nw hlm2
        replace hxb := fun x hx_ => (hxb x hx_).nw hlm2
        replace owy := owy.nw hlm2
        replace hxy := fun x hx_ => (hxy x hx_).nw hlm2
        replace ow54 := ow54.nw hlm2
        replace ow60 := ow60.nw hlm2
        replace hm0 := hm0.tr hlm2
        replace hlm1 := hlm1.tr hlm2
        have hz12 := hlm2.size
        refine CW.seq (fun K31 hK31 hE31 => ?_)
        refine CW.seq (fun K32 hK32 hE32 => ?_)
        refine CW.region ?_
        refine LR.v (Y.move rfl rfl) (Wd.u rfl) rfl rfl ?_
        refine LR.v (Y.move rfl rfl) (Wd.u rfl) rfl rfl ?_
        refine LR.v (Y.len hr rfl Try.runUnderlying40 rfl) (Wd.u rfl) rfl rfl ?_
        refine LR.v (Y.lss rfl rfl rfl) (Wd.u rfl) rfl rfl ?_
        refine LR.nil ?_
        refine hK32 _ _ ?_
        refine CW.condp rfl (fun c84 => ?_) (fun c84 => ?_)
        ·
          refine CW.skip ?_
          refine hK31 _ _ ?_
          refine CW.seq (fun K33 hK33 hE33 => ?_)
          refine CW.block (fun K34 hK34 hX34 hE34 => ?_)
          refine CW.region_draw rfl (by kernel_rfl) ?_
          refine LR.v (Y.move rfl rfl) (Wd.u rfl) rfl rfl ?_
          refine LR.v (Y.move rfl rfl) (Wd.u rfl) rfl rfl ?_
          refine LR.split (d := 88) rfl (fun g88 => ?_) (fun g88 => ?_)
          ·
            refine LR.v (Y.move rfl rfl) (Wd.g rfl rfl rfl) rfl rfl ?_
            refine LR.v (Y.move rfl rfl) (Wd.g rfl rfl rfl) rfl rfl ?_
            have hnl : n < m.length := by omega
            have hkn := (hy m[n] (List.getElem_mem hnl)).k
            refine LR.e (g := fun ad => .pointer (some ad)) (Y.indexAddrF hr (n) rfl Try.runUnderlying40 Try.sizeOf47 rfl rfl (by first | rfl | omega) (by first | omega | (simp; omega) | (simp; done))) (Wd.g rfl rfl rfl) rfl rfl (fun ad91 pt91 => ?_)
            have bf_pt91 := bf_hr
            refine LR.v (Y.fieldAddr pt91.pt rfl Try.runUnderlying47 rfl rfl Try.sizeOf25 (by decide) rfl) (Wd.g rfl rfl rfl) rfl rfl ?_
            refine LR.v (Y.cast (v2 := idV m[n].k) (Y.loadN ((pt91.pt.drop 0).take 32) rfl Try.isAgg25 Try.sizeOf25 (by simp [kc_len]) rfl) (congrArg (fun x : List Value => Value.agg x.toArray) (kc_at _ hkn))) (Wd.g rfl rfl rfl) rfl rfl ?_
            refine LR.v (Y.move rfl rfl) (Wd.g rfl rfl rfl) rfl rfl ?_
            refine LR.v (Y.move rfl rfl) (Wd.g rfl rfl rfl) rfl rfl ?_
            refine LR.e (g := fun ad => .pointer (some ad)) (Y.indexAddrF hr (i) rfl Try.runUnderlying40 Try.sizeOf47 rfl rfl (by first | rfl | omega) (by first | omega | (simp; omega) | (simp; done))) (Wd.g rfl rfl rfl) rfl rfl (fun ad96 pt96 => ?_)
            have bf_pt96 := bf_hr
            refine LR.v (Y.fieldAddr pt96.pt rfl Try.runUnderlying47 rfl rfl Try.sizeOf25 (by decide) rfl) (Wd.g rfl rfl rfl) rfl rfl ?_
            refine LR.v (Y.cast (v2 := idV m[i].k) (Y.loadN ((pt96.pt.drop 0).take 32) rfl Try.isAgg25 Try.sizeOf25 (by simp [kc_len]) rfl) (congrArg (fun x : List Value => Value.agg x.toArray) (kc_at _ hki))) (Wd.g rfl rfl rfl) rfl rfl ?_
            refine LR.v (Y.aneq rfl Try.eqGuardType25 (fun w => run_equalIn_id 9998 Try.underlying25 Try.underlying5 Try.sizeOf5 Try.isAgg5 (hkn) (hki) w) rfl rfl) (Wd.g rfl rfl rfl) rfl rfl ?_
            refine LR.v (Y.pick_t rfl rfl rfl) (Wd.u rfl) rfl rfl ?_
            refine LR.v (Y.assign rfl rfl) (Wd.u rfl) rfl rfl ?_
            refine LR.nil ?_
            refine hK34 _ _ ?_
            refine hK33 _ _ ?_
            refine CW.region ?_
            refine LR.v (Y.move rfl rfl) (Wd.u rfl) rfl rfl ?_
            refine LR.v (Y.addi rfl rfl rfl (by omega)) (Wd.u rfl) rfl rfl ?_
            refine LR.v (Y.assign rfl rfl) (Wd.u rfl) rfl rfl ?_
            refine LR.nil ?_
            refine QN.sub (hN30 (n + 1, decide (¬ m[n].k = m[i].k)) _ ?_ ?_) ⟨rfl, rfl, (iv (by omega)), rfl, (iv (by omega)), trivial⟩
            · exact ⟨⟨by omega, by omega⟩, (fun h q hq h1 h2 => by rcases Nat.lt_or_ge q n with h3 | h3; exact hla g88 q hq h1 h3; obtain rfl : q = n := (by omega); simpa using h), hlm2⟩
            · first | omega | (simp only; omega) | (simp; omega)
          ·
            refine LR.gs rfl rfl rfl rfl rfl rfl ?_
            refine LR.gs rfl rfl rfl rfl rfl rfl ?_
            refine LR.gs rfl rfl rfl rfl rfl rfl ?_
            refine LR.gs rfl rfl rfl rfl rfl rfl ?_
            refine LR.gs rfl rfl rfl rfl rfl rfl ?_
            refine LR.gs rfl rfl rfl rfl rfl rfl ?_
            refine LR.gs rfl rfl rfl rfl rfl rfl ?_
            refine LR.gs rfl rfl rfl rfl rfl rfl ?_
            refine LR.gs rfl rfl rfl rfl rfl rfl ?_
            refine LR.gs rfl rfl rfl rfl rfl rfl ?_
            refine LR.gs rfl rfl rfl rfl rfl rfl ?_
            refine LR.v (Y.pick_f rfl rfl rfl) (Wd.u rfl) rfl rfl ?_
            refine LR.v (Y.assign rfl rfl) (Wd.u rfl) rfl rfl ?_
            refine LR.nil ?_
            refine hK34 _ _ ?_
            refine hK33 _ _ ?_
            refine CW.region ?_
            refine LR.v (Y.move rfl rfl) (Wd.u rfl) rfl rfl ?_
            refine LR.v (Y.addi rfl rfl rfl (by omega)) (Wd.u rfl) rfl rfl ?_
            refine LR.v (Y.assign rfl rfl) (Wd.u rfl) rfl rfl ?_
            refine LR.nil ?_
            refine QN.sub (hN30 (n + 1, false) _ ?_ ?_) ⟨rfl, rfl, (iv (by omega)), rfl, (iv (by omega)), trivial⟩
            · exact ⟨⟨by omega, by omega⟩, (fun h => by cases h), hlm2⟩
            · first | omega | (simp only; omega) | (simp; omega)
        ·
          have hnm : n = m.length := by omega
          refine CW.exit (hE31 (.exit 2) nofun _ _ (hE30 (.exit 2) nofun _ _ (hX29 _ _ ?_)))
          refine hK27 _ _ ?_
          refine CW.seq (fun K35 hK35 hE35 => ?_)
          refine CW.region ?_
          refine LR.v (Y.move rfl rfl) (Wd.u rfl) rfl rfl ?_
          refine LR.v (Y.move rfl rfl) (Wd.u rfl) rfl rfl ?_
          refine LR.v (Y.move rfl rfl) (Wd.u rfl) rfl rfl ?_
          refine LR.e (g := fun ad => .pointer (some ad)) (Y.indexAddrF hr (i) rfl Try.runUnderlying40 Try.sizeOf47 rfl rfl (by first | rfl | omega) (by first | omega | (simp; omega) | (simp; done))) (Wd.u rfl) rfl rfl (fun ad105 pt105 => ?_)
          have bf_pt105 := bf_hr
          refine LR.v (Y.fieldAddr pt105.pt rfl Try.runUnderlying47 rfl rfl Try.sizeOf25 (by decide) rfl) (Wd.u rfl) rfl rfl ?_
          refine LR.v (Y.cast (v2 := idV m[i].k) (Y.loadN ((pt105.pt.drop 0).take 32) rfl Try.isAgg25 Try.sizeOf25 (by simp [kc_len]) rfl) (congrArg (fun x : List Value => Value.agg x.toArray) (kc_at _ hki))) (Wd.u rfl) rfl rfl ?_
          obtain ⟨hg1, hg2⟩ := find_place (k := m[i].k) hsb
          -- call selvage/rerere.Find
          refine LR.call rfl Try.call18 rfl (Wd.u rfl) rfl rfl (find_ct _ b m[i].k w0 _ owb.rd.any hki (fun x e => (hxb x e).any) hdb) (fun v108 H108 r108 => ?_)
          obtain ⟨s108, k108, rfl, ow108, hkx108, hs108⟩ := r108
          have df71 := DF.app (DF.z) (bf_hl.mono hm0.size) hkx108
          have df72 := DF.app (DF.z) (bf_hr.mono hm0.size) hkx108
          have df73 := DF.app (DF.z) (bf_hx.mono hm0.size) hkx108
          have df74 := DF.app (DF.z) (bf_hy.mono hm0.size) hkx108
          have dj75 : Dj k32 k108 := Dj.app (Dj.z) owa.le hkx108
          have df76 := DF.app (DF.z) (bf_hxa.mono (by omega)) hkx108
          have dj77 : Dj k34 k108 := Dj.app (Dj.z) owx.le hkx108
          have df78 := DF.app (DF.z) (bf_hxx.mono (by omega)) hkx108
          have dj79 : Dj k37 k108 := Dj.app (Dj.z) owb.le hkx108
          have df80 := DF.app (DF.z) (bf_hxb.mono (by omega)) hkx108
          have dj81 : Dj k40 k108 := Dj.app (Dj.z) owy.le hkx108
          have df82 := DF.app (DF.z) (bf_hxy.mono (by omega)) hkx108
          have dj83 : Dj k54 k108 := Dj.app (Dj.z) ow54.le hkx108
          have dj84 : Dj k60 k108 := Dj.app (Dj.z) ow60.le hkx108
          have df85 := DF.app (DF.z) (bf_pt105.mono hm0.size) hkx108
          have nx86 : Nx 0 H0.size k108 := Nx.tr (Nx.refl 0 _) hkx108 hm0.size
          have nx87 : Nx 0 H60.size k108 := Nx.tr (Nx.refl 0 _) hkx108 hlm1.size
          replace hl := hl.nw hs108
          replace hr := hr.nw hs108
          replace hx := fun x hx0 => (hx x hx0).nw hs108
          replace hy := fun x hy0 => (hy x hy0).nw hs108
          replace owa := owa.nw hs108
          replace hxa := fun x hx_ => (hxa x hx_).nw hs108
          replace owx := owx.nw hs108
          replace hxx := fun x hx_ => (hxx x hx_).nw hs108
          replace owb := owb.nw hs108
          replace hxb := fun x hx_ => (hxb x hx_).nw hs108
          replace owy := owy.nw hs108
          replace hxy := fun x hx_ => (hxy x hx_).nw hs108
          replace ow54 := ow54.nw hs108
          replace ow60 := ow60.nw hs108
          replace pt105 := pt105.nw hs108
          replace hm0 := hm0.tr hs108
          replace hlm1 := hlm1.tr hs108
          have hz13 := hs108.size
          have hle_ow108 := ow108.le
          refine LR.v (Y.move rfl rfl) (Wd.u rfl) rfl rfl ?_
          refine LR.v (Y.extract rfl rfl rfl) (Wd.u rfl) rfl rfl ?_
          refine LR.v (Y.extract rfl rfl rfl) (Wd.u rfl) rfl rfl ?_
          refine LR.v (Y.assign rfl rfl) (Wd.u rfl) rfl rfl ?_
          refine LR.v (Y.assign rfl rfl) (Wd.u rfl) rfl rfl ?_
          refine LR.nil ?_
          refine hK35 _ _ ?_
          refine CW.seq (fun K36 hK36 hE36 => ?_)
          refine CW.region_draw rfl (by kernel_rfl) ?_
          refine LR.v (Y.move rfl rfl) (Wd.u rfl) rfl rfl ?_
          refine LR.v (Y.move rfl rfl) (Wd.u rfl) rfl rfl ?_
          refine LR.split (d := 112) rfl (fun g112 => ?_) (fun g112 => ?_)
          ·
            refine LR.v (Y.move rfl rfl) (Wd.g rfl rfl rfl) rfl rfl ?_
            refine LR.v (Y.move rfl rfl) (Wd.g rfl rfl rfl) rfl rfl ?_
            refine LR.e (g := fun ad => .pointer (some ad)) (Y.indexAddrF hr (i) rfl Try.runUnderlying40 Try.sizeOf47 rfl rfl (by first | rfl | omega) (by first | omega | (simp; omega) | (simp; done))) (Wd.g rfl rfl rfl) rfl rfl (fun ad115 pt115 => ?_)
            have bf_pt115 := bf_hr
            refine LR.v (Y.fieldAddr pt115.pt rfl Try.runUnderlying47 rfl rfl Try.sizeOf25 (by decide) rfl) (Wd.g rfl rfl rfl) rfl rfl ?_
            refine LR.v (Y.cast (v2 := idV m[i].k) (Y.loadN ((pt115.pt.drop 0).take 32) rfl Try.isAgg25 Try.sizeOf25 (by simp [kc_len]) rfl) (congrArg (fun x : List Value => Value.agg x.toArray) (kc_at _ hki))) (Wd.g rfl rfl rfl) rfl rfl ?_
            refine LR.v (Y.build (v := idV Z32) rfl rfl (by intro w; kernel_rfl)) (Wd.g rfl rfl rfl) rfl rfl ?_
            refine LR.v (Y.aneq rfl Try.eqGuardType25 (fun w => run_equalIn_id 9998 Try.underlying25 Try.underlying5 Try.sizeOf5 Try.isAgg5 (hki) (Z32_len) w) rfl rfl) (Wd.g rfl rfl rfl) rfl rfl ?_
            refine LR.v (Y.pick_t rfl rfl rfl) (Wd.u rfl) rfl rfl ?_
            refine LR.v (Y.move rfl rfl) (Wd.u rfl) rfl rfl ?_
            refine LR.splitp (d := 121) rfl (fun g121 => ?_) (fun g121 => ?_)
            ·
              have hnz : m[i].k ≠ Z32 := by simpa using g121
              have hfd : rfindL (b.map Mm.c) m[i].k = some m[i].d := by rw [hlob]; exact last_find hil hnz (fun q hq h1 => hla g112 q hq h1 (by omega))
              refine LR.v (Y.cast (v2 := .bool true) (Y.move rfl rfl) (by rw [hg1, hfd]; rfl)) (Wd.g rfl rfl rfl) rfl rfl ?_
              refine LR.v (Y.not rfl rfl) (Wd.g rfl rfl rfl) rfl rfl ?_
              refine LR.v (Y.move rfl rfl) (Wd.g rfl rfl rfl) rfl rfl ?_
              refine LR.v (Y.move rfl rfl) (Wd.g rfl rfl rfl) rfl rfl ?_
              refine LR.v (Y.bstr ow108.rd rfl Try.underlying22 Try.underlying9 Try.underlying5 rfl) (Wd.g rfl rfl rfl) rfl rfl ?_
              refine LR.v (Y.move rfl rfl) (Wd.g rfl rfl rfl) rfl rfl ?_
              refine LR.v (Y.move rfl rfl) (Wd.g rfl rfl rfl) rfl rfl ?_
              refine LR.e (g := fun ad => .pointer (some ad)) (Y.indexAddrF hr (i) rfl Try.runUnderlying40 Try.sizeOf47 rfl rfl (by first | rfl | omega) (by first | omega | (simp; omega) | (simp; done))) (Wd.g rfl rfl rfl) rfl rfl (fun ad129 pt129 => ?_)
              have bf_pt129 := bf_hr
              refine LR.v (Y.fieldAddr pt129.pt rfl Try.runUnderlying47 rfl rfl Try.sizeOf22 (by decide) rfl) (Wd.g rfl rfl rfl) rfl rfl ?_
              refine LR.v (Y.load1 (fM_pt pt129.pt) rfl Try.isAgg22 rfl) (Wd.g rfl rfl rfl) rfl rfl ?_
              refine LR.v (Y.bstr (hy m[i] (List.getElem_mem hil)).d rfl Try.underlying22 Try.underlying9 Try.underlying5 rfl) (Wd.g rfl rfl rfl) rfl rfl ?_
              refine LR.v ((Y.sneq rfl rfl rfl).isF (fun h => h (by rw [hg2, hfd]; rfl))) (Wd.g rfl rfl rfl) rfl rfl ?_
              refine LR.v (Y.pick_f rfl rfl rfl) (Wd.g rfl rfl rfl) rfl rfl ?_
              refine LR.v (Y.pick_t rfl rfl rfl) (Wd.u rfl) rfl rfl ?_
              refine LR.nil ?_
              refine hK36 _ _ ?_
              refine CW.cond_f rfl ?_
              refine CW.skip ?_
              refine hK25 _ _ ?_
              refine hK24 _ _ ?_
              refine CW.region ?_
              refine LR.v (Y.move rfl rfl) (Wd.u rfl) rfl rfl ?_
              refine LR.v (Y.addi rfl rfl rfl (by omega)) (Wd.u rfl) rfl rfl ?_
              refine LR.v (Y.assign rfl rfl) (Wd.u rfl) rfl rfl ?_
              refine LR.nil ?_
              refine QN.sub (hN21 (i + 1) _ ?_ ?_) ⟨rfl, rfl, (iv (by omega)), trivial⟩
              · exact ⟨(by omega), hlm1⟩
              · first | omega | (simp only; omega) | (simp; omega)
            ·
              refine LR.gs rfl rfl rfl rfl rfl rfl ?_
              refine LR.gs rfl rfl rfl rfl rfl rfl ?_
              refine LR.gs rfl rfl rfl rfl rfl rfl ?_
              refine LR.gsu rfl rfl rfl rfl rfl ?_
              refine LR.gsu rfl rfl rfl rfl rfl ?_
              refine LR.gsu rfl rfl rfl rfl rfl ?_
              refine LR.gsu rfl rfl rfl rfl rfl ?_
              refine LR.gsu rfl rfl rfl rfl rfl ?_
              refine LR.gsu rfl rfl rfl rfl rfl ?_
              refine LR.gsu rfl rfl rfl rfl rfl ?_
              refine LR.gsu rfl rfl rfl rfl rfl ?_
              refine LR.gsu rfl rfl rfl rfl rfl ?_
              refine LR.gs rfl rfl rfl rfl rfl rfl ?_
              refine LR.v (Y.pick_f rfl rfl rfl) (Wd.u rfl) rfl rfl ?_
              refine LR.nil ?_
              refine hK36 _ _ ?_
              refine CW.cond_f rfl ?_
              refine CW.skip ?_
              refine hK25 _ _ ?_
              refine hK24 _ _ ?_
              refine CW.region ?_
              refine LR.v (Y.move rfl rfl) (Wd.u rfl) rfl rfl ?_
              refine LR.v (Y.addi rfl rfl rfl (by omega)) (Wd.u rfl) rfl rfl ?_
              refine LR.v (Y.assign rfl rfl) (Wd.u rfl) rfl rfl ?_
              refine LR.nil ?_
              refine QN.sub (hN21 (i + 1) _ ?_ ?_) ⟨rfl, rfl, (iv (by omega)), trivial⟩
              · exact ⟨(by omega), hlm1⟩
              · first | omega | (simp only; omega) | (simp; omega)
          ·
            refine LR.gs rfl rfl rfl rfl rfl rfl ?_
            refine LR.gs rfl rfl rfl rfl rfl rfl ?_
            refine LR.gs rfl rfl rfl rfl rfl rfl ?_
            refine LR.gs rfl rfl rfl rfl rfl rfl ?_
            refine LR.gs rfl rfl rfl rfl rfl rfl ?_
            refine LR.gs rfl rfl rfl rfl rfl rfl ?_
            refine LR.gs rfl rfl rfl rfl rfl rfl ?_
            refine LR.v (Y.pick_f rfl rfl rfl) (Wd.u rfl) rfl rfl ?_
            refine LR.v (Y.move rfl rfl) (Wd.u rfl) rfl rfl ?_
            refine LR.gs rfl rfl rfl rfl rfl rfl ?_
            refine LR.gs rfl rfl rfl rfl rfl rfl ?_
            refine LR.gs rfl rfl rfl rfl rfl rfl ?_
            refine LR.gsu rfl rfl rfl rfl rfl ?_
            refine LR.gsu rfl rfl rfl rfl rfl ?_
            refine LR.gsu rfl rfl rfl rfl rfl ?_
            refine LR.gsu rfl rfl rfl rfl rfl ?_
            refine LR.gsu rfl rfl rfl rfl rfl ?_
            refine LR.gsu rfl rfl rfl rfl rfl ?_
            refine LR.gsu rfl rfl rfl rfl rfl ?_
            refine LR.gsu rfl rfl rfl rfl rfl ?_
            refine LR.gsu rfl rfl rfl rfl rfl ?_
            refine LR.gs rfl rfl rfl rfl rfl rfl ?_
            refine LR.v (Y.pick_f rfl rfl rfl) (Wd.u rfl) rfl rfl ?_
            refine LR.nil ?_
            refine hK36 _ _ ?_
            refine CW.cond_f rfl ?_
            refine CW.skip ?_
            refine hK25 _ _ ?_
            refine hK24 _ _ ?_
            refine CW.region ?_
            refine LR.v (Y.move rfl rfl) (Wd.u rfl) rfl rfl ?_
            refine LR.v (Y.addi rfl rfl rfl (by omega)) (Wd.u rfl) rfl rfl ?_
            refine LR.v (Y.assign rfl rfl) (Wd.u rfl) rfl rfl ?_
            refine LR.nil ?_
            refine QN.sub (hN21 (i + 1) _ ?_ ?_) ⟨rfl, rfl, (iv (by omega)), trivial⟩
            · exact ⟨(by omega), hlm1⟩
            · first | omega | (simp only; omega) | (simp; omega)
      ·
        refine CW.exit (hE22 (.exit 0) nofun _ _ (hE21 (.exit 0) nofun _ _ (hX20 _ _ ?_)))
        refine hK18 _ _ ?_
        refine CW.seq (fun K37 hK37 hE37 => ?_)
        refine CW.seq (fun K38 hK38 hE38 => ?_)
        refine CW.region ?_
        refine LR.v (Y.assign rfl rfl) (Wd.u rfl) rfl rfl ?_
        refine LR.nil ?_
        refine hK38 _ _ ?_
        refine CW.block (fun K39 hK39 hX39 hE39 => ?_)
        refine CW.loop (fun (i_ : (Nat)) => [(9, v37), (20, .int .i64 i_)])
          (fun (i_ : (Nat)) (H : Heap) => (1 ≤ i_) ∧ Nw HL1 H)
          (fun (i_ : (Nat)) => b.length - i_) 1 ⟨rfl, rfl, trivial⟩ ?_ ?_
        ·
          exact ⟨(by omega), Mo.refl _ _⟩
        intro i_ HL3 hI3 K40 hN40 hE40
        obtain ⟨hi_, hlm3⟩ := hI3
        replace hl := hl.nw hlm3
        replace hr := hr.nw hlm3
        replace hx := fun x hx0 => (hx x hx0).nw hlm3
        replace hy := fun x hy0 => (hy x hy0).nw hlm3
        replace owa := owa.nw hlm3
        replace hxa := fun x hx_ => (hxa x hx_).nw hlm3
        replace owx := owx.nw hlm3
        replace hxx := fun x hx_ => (hxx x hx_).nw hlm3
        replace owb := owb.nw hlm3
        replace hxb := fun x hx_ => (hxb x hx_).nw hlm3
        replace owy := owy.nw hlm3
        replace hxy := fun x hx_ => (hxy x hx_).nw hlm3
        replace ow54 := ow54.nw hlm3
        replace ow60 := ow60.nw hlm3
        replace hm0 := hm0.tr hlm3
        have hz14 := hlm3.size
        refine CW.seq (fun K41 hK41 hE41 => ?_)
        refine CW.seq (fun K42 hK42 hE42 => ?_)
        refine CW.region ?_
        refine LR.v (Y.move rfl rfl) (Wd.u rfl) rfl rfl ?_
        refine LR.v (Y.move rfl rfl) (Wd.u rfl) rfl rfl ?_
        refine LR.v (Y.len owb.rd rfl Try.runUnderlying40 rfl) (Wd.u rfl) rfl rfl ?_
        refine LR.v (Y.lss rfl rfl rfl) (Wd.u rfl) rfl rfl ?_
        refine LR.nil ?_
        refine hK42 _ _ ?_
        refine CW.condp rfl (fun c139 => ?_) (fun c139 => ?_)
        ·
          refine CW.skip ?_
          refine hK41 _ _ ?_
          refine CW.seq (fun K43 hK43 hE43 => ?_)
          refine CW.block (fun K44 hK44 hX44 hE44 => ?_)
          refine CW.seq (fun K45 hK45 hE45 => ?_)
          refine CW.region_tail 11 rfl (by kernel_rfl) (fun T29 hT29 => ?_)
          refine LR.v (Y.move rfl rfl) (Wd.u rfl) rfl rfl ?_
          refine LR.v (Y.move rfl rfl) (Wd.u rfl) rfl rfl ?_
          have hil : i_ < b.length := by omega
          have hk1 := (hxb b[i_ - 1] (List.getElem_mem (by omega))).k
          have hk2 := (hxb b[i_] (List.getElem_mem hil)).k
          refine LR.v (Y.cast (v2 := .int .i64 ((i_ - 1 : Nat) : Int)) (Y.subi rfl rfl rfl (by omega)) (ivv (by omega))) (Wd.u rfl) rfl rfl ?_
          refine LR.v (Y.owAddr owb (i_ - 1) rfl Try.runUnderlying40 Try.sizeOf47 rfl rfl (by first | rfl | omega) (by first | omega | (simp; omega) | (simp; done))) (Wd.u rfl) rfl rfl ?_
          refine LR.v (Y.fieldAddr (owb.pt (j := i_ - 1) (by first | omega | (simp; omega) | (simp; done))) rfl Try.runUnderlying47 rfl rfl Try.sizeOf25 (by decide) rfl) (Wd.u rfl) rfl rfl ?_
          refine LR.v (Y.cast (v2 := idV b[i_ - 1].k) (Y.loadN (((owb.pt (j := i_ - 1) (by first | omega | (simp; omega) | (simp; done))).drop 0).take 32) rfl Try.isAgg25 Try.sizeOf25 (by simp [kc_len]) rfl) (congrArg (fun x : List Value => Value.agg x.toArray) (kc_at _ hk1))) (Wd.u rfl) rfl rfl ?_
          refine LR.v (Y.move rfl rfl) (Wd.u rfl) rfl rfl ?_
          refine LR.v (Y.move rfl rfl) (Wd.u rfl) rfl rfl ?_
          refine LR.v (Y.owAddr owb (i_) rfl Try.runUnderlying40 Try.sizeOf47 rfl rfl (by first | rfl | omega) (by first | omega | (simp; omega) | (simp; done))) (Wd.u rfl) rfl rfl ?_
          refine LR.v (Y.fieldAddr (owb.pt (j := i_) (by first | omega | (simp; omega) | (simp; done))) rfl Try.runUnderlying47 rfl rfl Try.sizeOf25 (by decide) rfl) (Wd.u rfl) rfl rfl ?_
          refine LR.v (Y.cast (v2 := idV b[i_].k) (Y.loadN (((owb.pt (j := i_) (by first | omega | (simp; omega) | (simp; done))).drop 0).take 32) rfl Try.isAgg25 Try.sizeOf25 (by simp [kc_len]) rfl) (congrArg (fun x : List Value => Value.agg x.toArray) (kc_at _ hk2))) (Wd.u rfl) rfl rfl ?_
          refine LR.nil (hT29 _ ?_)
          -- call selvage/selvageref1.Less
          refine LR.call rfl Try.call20 rfl (Wd.u rfl) rfl rfl (rless_T w0 _ hk1 hk2 (srt_at hsb hi_ hil)) (fun v153 H153 r153 => ?_)
          obtain ⟨rfl, hs153⟩ := r153
          replace hl := hl.nw hs153
          replace hr := hr.nw hs153
          replace hx := fun x hx0 => (hx x hx0).nw hs153
          replace hy := fun x hy0 => (hy x hy0).nw hs153
          replace owa := owa.nw hs153
          replace hxa := fun x hx_ => (hxa x hx_).nw hs153
          replace owx := owx.nw hs153
          replace hxx := fun x hx_ => (hxx x hx_).nw hs153
          replace owb := owb.nw hs153
          replace hxb := fun x hx_ => (hxb x hx_).nw hs153
          replace owy := owy.nw hs153
          replace hxy := fun x hx_ => (hxy x hx_).nw hs153
          replace ow54 := ow54.nw hs153
          replace ow60 := ow60.nw hs153
          replace hm0 := hm0.tr hs153
          replace hlm3 := hlm3.tr hs153
          have hz15 := hs153.size
          refine LR.v (Y.not rfl rfl) (Wd.u rfl) rfl rfl ?_
          refine LR.nil ?_
          refine hK45 _ _ ?_
          refine CW.cond_f rfl ?_
          refine CW.skip ?_
          refine hK44 _ _ ?_
          refine hK43 _ _ ?_
          refine CW.region ?_
          refine LR.v (Y.move rfl rfl) (Wd.u rfl) rfl rfl ?_
          refine LR.v (Y.addi rfl rfl rfl (by omega)) (Wd.u rfl) rfl rfl ?_
          refine LR.v (Y.assign rfl rfl) (Wd.u rfl) rfl rfl ?_
          refine LR.nil ?_
          refine QN.sub (hN40 (i_ + 1) _ ?_ ?_) ⟨rfl, (iv (by omega)), trivial⟩
          · exact ⟨(by omega), hlm3⟩
          · first | omega | (simp only; omega) | (simp; omega)
        ·
          refine CW.exit (hE41 (.exit 4) nofun _ _ (hE40 (.exit 4) nofun _ _ (hX39 _ _ ?_)))
          refine hK37 _ _ ?_
          refine CW.seq (fun K46 hK46 hE46 => ?_)
          refine CW.region ?_
          refine LR.v (Y.assign rfl rfl) (Wd.u rfl) rfl rfl ?_
          refine LR.nil ?_
          refine hK46 _ _ ?_
          refine CW.ret (hret .ret (.inr rfl) _ _ _ (res1 rfl rfl) ?_)
          exact ⟨rfl, hm0⟩

end Go.Proofs.Ytegfnfhdgbcjbaa.RerL
