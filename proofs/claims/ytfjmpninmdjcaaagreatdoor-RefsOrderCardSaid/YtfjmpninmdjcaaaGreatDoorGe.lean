/-
  Contracts of functions of the program, and plain laws: put together of several texts.
-/
import Derived.Test.YtfjmpninmdjcaaaGreatDoorGd
import Derived.Test.YtfjmpninmdjcaaaGreatDoorGa
import Derived.Test.YtfjmpninmdjcaaaGreatDoorGb
import Derived.Test.YtfjmpninmdjcaaaGreatDoorRows
import Derived.Test.YtfjmpninmdjcaaaGreatDoorGc
import Derived.Shelf.Vars
set_option linter.unusedVariables false
set_option linter.unusedSimpArgs false
set_option linter.unusedSectionVars false
set_option linter.defProp false

namespace Go.Proofs.YtfjmpninmdjcaaaGreatDoor.RefI
open E Go.RowKit NamA NamB NamC NamD RefA RefB RefP RefQ RefR RefC RefD RefE RefG RefH
set_option maxRecDepth 20000
set_option maxRecDepth 100000 in
theorem inf44 : Inf Tryz.prog 44 71 33 48 := ⟨Tryz.underlying44, _, _, rfl, rfl, rfl, rfl, rfl⟩
set_option maxRecDepth 100000 in
theorem inf45 : Inf Tryz.prog 45 62 2 40 := ⟨Tryz.underlying45, _, _, rfl, rfl, rfl, rfl, rfl⟩
theorem mm_at {a : TMm} {i : Nat} {x : UInt8} (h : a.k.1[i]? = some x) : ((fMm a).drop 0)[i]? = some (.int .u8 x.toNat) := by
 rw [List.drop_zero, fMm, List.getElem?_append_left (by rw [fA_len]; have := (List.getElem?_eq_some_iff.1 h).1; rw [a.k.2] at this; exact this), fA, List.getElem?_map, h]; rfl
def MAsc (l : List TMm) : Prop := l.Pairwise (fun a b => blt a.k.1 b.k.1)
theorem MAsc.of {l : List TMm} (h : GAsc (elM l)) : MAsc l := by unfold GAsc elM at h; rw [List.pairwise_map] at h; exact h
theorem mcmp_ct (a b : TMm) (w0 : World) (H0 : Heap)
 :
 Ct Tryz.prog w0 61 #[mmV a, mmV b] H0 (fun r H2 => r = .int .i64 (Lib.compareBytes a.k.1 b.k.1) ∧ Nw H0 H2) := by
 refine Ct.enter (args := [mmV a, mmV b]) Tryz.func61 rfl rfl rfl ?_
 intro Q0 hret
 have hm0 : Nw H0 H0 := Mo.refl _ _
 refine CW.s1 (fun hK1 => CW.region ?_)
 refine LR.z1 (Z.boxv rfl rfl) fun v2 H2 r2 => ?_
 obtain ⟨rfl, va2, hs2, ob2, hH2⟩ := r2
 have hzs2 : H2.size = H0.size + 1 := by rw [hH2]; simp
 replace hm0 := hm0.tr hs2
 have hz1 := hs2.size
 replace va2 : Var 68 H2 H0.size (fMm a) := va2
 refine LR.z1 (Z.boxv rfl rfl) fun v3 H3 r3 => ?_
 obtain ⟨rfl, va3, hs3, ob3, hH3⟩ := r3
 have hzs3 : H3.size = H2.size + 1 := by rw [hH3]; simp
 replace va2 := va2.nw hs3
 replace hm0 := hm0.tr hs3
 have hz2 := hs3.size
 replace va3 : Var 68 H3 H2.size (fMm b) := va3
 refine LR.a1 (LR.nil (hK1 _ _ ?_))
 refine CW.s1 (fun hK2 => ?_)
 refine CW.region_tail 4 rfl (by kernel_rfl) (fun T1 hT1 => ?_)
 refine LR.v1 (Y.FA va2.pt rfl u'68 rfl s'26) ?_
 refine LR.e1 (g := fun v => v) (Y.sliceArrE (F := fun c => c = H0.size) (f := fB) (xs := a.k.1) va2.pt rfl va2.lt (a.k.2) (fun i x h => ⟨mm_at h, rfl⟩) (0) (32) rfl (fun w => .inl (u'26 w)) s'5 rfl (.inl ⟨rfl, rfl⟩) (.inl ⟨rfl, rfl⟩) (by omega) (by omega) (by decide)) fun v6 rd6 => ?_
 rw [List.drop_zero, List.take_of_length_le (by rw [a.k.2]; omega)] at rd6
 refine LR.v1 (Y.FA va3.pt rfl u'68 rfl s'26) ?_
 refine LR.e1 (g := fun v => v) (Y.sliceArrE (F := fun c => c = H2.size) (f := fB) (xs := b.k.1) va3.pt rfl va3.lt (b.k.2) (fun i x h => ⟨mm_at h, rfl⟩) (0) (32) rfl (fun w => .inl (u'26 w)) s'5 rfl (.inl ⟨rfl, rfl⟩) (.inl ⟨rfl, rfl⟩) (by omega) (by omega) (by decide)) fun v8 rd8 => ?_
 rw [List.drop_zero, List.take_of_length_le (by rw [b.k.2]; omega)] at rd8
 refine LR.nil (hT1 _ ?_)
 refine LR.call rfl c'62 rfl (Wd.u rfl) rfl rfl (cmp_ct _ _ a.k.1 b.k.1 w0 _ rd6.any rd8.any) (fun v9 H9 r9 => ?_)
 obtain ⟨rfl, hs9⟩ := r9
 replace hm0 := hm0.tr hs9
 refine LR.a1 (LR.nil (hK2 _ _ ?_))
 refine CW.ret (hret .ret (.inr rfl) _ _ _ (res1 rfl rfl) ?_)
 exact ⟨rfl, hm0⟩
theorem mcmpClo (w0 : World) (H : Heap) (x y : TMm) : Clo Tryz.prog w0 (.func (.func 61) #[] #[]) [mmV x, mmV y] H (fun r H2 => r = .int .i64 (Lib.compareBytes x.k.1 y.k.1) ∧ Nw H H2) :=
 Clo.of (caps := []) c'61 (mcmp_ct x y w0 H)
theorem bsf_ct (v1 : Value) (l : List TMm) (x : TMm) (w0 : World) (H0 : Heap)
 (hl : RdT H0 fMm 33 v1 l) (hll : l.length ≤ 1000000) (hs : MAsc l) :
 Ct Tryz.prog w0 60 #[v1, mmV x, .func (.func 61) #[] #[]] H0 (fun r H2 => ∃ at_ : Nat, ∃ fd : Bool, r = .tuple #[.int .i64 (at_ : Int), .bool fd] ∧ (at_ ≤ l.length ∧ (∀ j (h : j < l.length), j < at_ → blt l[j].k.1 x.k.1) ∧ (∀ j (h : j < l.length), at_ ≤ j → ¬ blt l[j].k.1 x.k.1)) ∧ (fd = true ↔ ∃ h : at_ < l.length, l[at_].k = x.k) ∧ Nw H0 H2) := by
 refine Ct.enter (args := [v1, mmV x, .func (.func 61) #[] #[]]) Tryz.func60 rfl rfl rfl ?_
 intro Q0 hret
 have hm0 : Nw H0 H0 := Mo.refl _ _
 replace hl := hl.bnd
 refine CW.s1 (fun hK1 => CW.region ?_)
 refine LR.z1 (Z.boxv rfl rfl) fun v4 H4 r4 => ?_
 obtain ⟨rfl, vi, hs4, ob4, hH4⟩ := r4
 have hzs4 : H4.size = H0.size + 1 := by rw [hH4]; simp
 replace hl := hl.nw hs4
 replace hm0 := hm0.tr hs4
 have hz1 := hs4.size
 replace vi : Var 68 H4 H0.size (fMm x) := vi
 refine LR.a1 ?_
 refine LR.a1 (LR.nil (hK1 _ _ ?_))
 refine CW.s1 (fun hK2 => CW.region ?_)
 refine LR.m1 ?_
 refine LR.v1 (Y.len hl rfl u'30 rfl) ?_
 refine LR.a1 (LR.nil (hK2 _ _ ?_))
 refine CW.s1 (fun hK3 => CW.region ?_)
 refine LR.m1 ?_
 refine LR.a1 ?_
 refine LR.a1 (LR.nil (hK3 _ _ ?_))
 refine CW.s1 (fun hK4 => CW.block (fun _ _ hX5 _ => ?_))
 refine CW.loop (fun (s_ : (Nat) × (Nat)) => match s_ with | (i, j) => [(0, v1), (2, .func (.func 61) #[] #[]), (4, .pointer (some ⟨H0.size, 0, none⟩)), (8, .int .i64 (l.length : Int)), (9, .int .i64 (i : Int)), (10, .int .i64 (j : Int))])
  (fun (s_ : (Nat) × (Nat)) (H : Heap) => match s_ with | (i, j) => (i ≤ j ∧ j ≤ l.length) ∧ (∀ q (h : q < l.length), q < i → blt l[q].k.1 x.k.1) ∧ (∀ q (h : q < l.length), j ≤ q → ¬ blt l[q].k.1 x.k.1) ∧ Nw H4 H)
  (fun (s_ : (Nat) × (Nat)) => match s_ with | (i, j) => j - i) (0, l.length) ⟨rfl, rfl, rfl, rfl, rfl, rfl, trivial⟩ ?_ ?_
 ·
  exact ⟨(by omega), fun q h h2 => by omega, fun q h h2 => by omega, Mo.refl _ _⟩
 rintro ⟨i, j⟩ HL1 hI1 K6 hN6 hE6
 obtain ⟨hij, h1, h2, hlm1⟩ := hI1
 replace hl := hl.nw hlm1
 replace vi := vi.nw hlm1
 replace hm0 := hm0.tr hlm1
 have hz2 := hlm1.size
 refine CW.s2 (fun hK7 hE7 => CW.s1 (fun hK8 => CW.region ?_))
 refine LR.m1 ?_
 refine LR.m1 ?_
 refine LR.v1 (Y.lss rfl rfl rfl) (LR.nil (hK8 _ _ ?_))
 refine CW.condp rfl (fun c17 => ?_) (fun c17 => ?_)
 ·
  refine CW.skip (hK7 _ _ (CW.block (fun _ hK9 _ _ => CW.s1 (fun hK10 => CW.region ?_))))
  refine LR.m1 ?_
  refine LR.m1 ?_
  refine LR.v1 (Y.cast (v2 := .int .i64 ((i + j : Nat) : Int)) (Y.addi rfl rfl rfl (by omega)) (ivv (by omega))) ?_
  refine LR.v1 (Y.conv_u64 rfl u'3 u'66 rfl) ?_
  refine LR.v1 (Y.cast (v2 := .int .u64 (((i + j) / 2 : Nat) : Int)) (Y.shr_u64 (1) rfl rfl rfl (by first | rfl | omega) (by omega)) (by rw [shrw_u64_toNat, UInt64.toNat_ofNat', Nat.mod_eq_of_lt (by omega)])) ?_
  refine LR.v1 (Y.convi rfl u'66 u'3 rfl (IntWalk.i64_in _ (by omega))) ?_
  refine LR.a1 (LR.nil (hK10 _ _ ?_))
  refine CW.s1 (fun hK11 => ?_)
  refine CW.region_tail 6 rfl (by kernel_rfl) (fun T5 hT5 => ?_)
  refine LR.m1 ?_
  refine LR.m1 ?_
  refine LR.m1 ?_
  refine LR.e1 (g := fun ad => .pointer (some ad)) (Y.indexAddrF hl ((i + j) / 2) rfl u'30 s'68 rfl rfl (by first | rfl | omega) (by omega)) fun ad27 pt27 => ?_
  refine LR.v1 (Y.loadN pt27.pt rfl a'68 s'68 (fMm_len _) rfl) ?_
  refine LR.v1 (Y.loadN vi.pt rfl a'68 s'68 (fMm_len _) rfl) ?_
  refine LR.nil (hT5 _ ?_)
  refine LR.calld rfl rfl rfl (Wd.u rfl) rfl rfl (mcmpClo w0 _ _ x) (fun v30 H30 r30 => ?_)
  obtain ⟨rfl, hs30⟩ := r30
  replace hlm1 := hlm1.tr hs30
  have hz3 := hs30.size
  refine LR.v1 (Y.lss rfl rfl rfl) (LR.nil (hK11 _ _ ?_))
  refine CW.condp rfl (fun c31 => ?_) (fun c31 => ?_)
  ·
   refine CW.region ?_
   refine LR.m1 ?_
   refine LR.v1 (Y.addi rfl rfl rfl (by omega)) ?_
   refine LR.a1 (LR.nil (hK9 _ _ ?_))
   refine QN.sub (hN6 ((i + j) / 2 + 1, j) _ ?_ ?_) ⟨rfl, rfl, rfl, (iv (by omega)), (iv (by omega)), (iv (by omega)), trivial⟩
   · exact ⟨(by omega), fun q h h3 => by
      by_cases hq : q = (i + j) / 2
      · subst hq; exact cb_neg.1 c31
      · exact blt_trans (List.pairwise_iff_getElem.1 hs q ((i + j) / 2) h (by omega) (by omega)) (cb_neg.1 c31), h2, hlm1⟩
   · first | omega | (simp only; omega) | (simp; omega)
  ·
   refine CW.region ?_
   refine LR.m1 ?_
   refine LR.a1 (LR.nil (hK9 _ _ ?_))
   refine QN.sub (hN6 (i, (i + j) / 2) _ ?_ ?_) ⟨rfl, rfl, rfl, (iv (by omega)), (iv (by omega)), (iv (by omega)), trivial⟩
   · exact ⟨(by omega), h1, fun q h h3 h4 => by
      by_cases hq : q = (i + j) / 2
      · subst hq; exact absurd (cb_neg.2 h4) c31
      · exact absurd (cb_neg.2 (blt_trans (List.pairwise_iff_getElem.1 hs ((i + j) / 2) q (by omega) h (by omega)) h4)) c31, hlm1⟩
   · first | omega | (simp only; omega) | (simp; omega)
 ·
  refine CW.exit (hE7 (.exit 0) nofun _ _ (hE6 (.exit 0) nofun _ _ (hX5 _ _ ?_)))
  refine hK4 _ _ (CW.s1 (fun hK12 => ?_))
  refine CW.region_any (fun Hq => Nw HL1 Hq) [] rfl ?_
  have hqs := Nw.refl HL1
  refine LH.m1 0 rfl hqs ?_
  refine LH.m1 1 rfl hqs ?_
  refine LH.m1 2 rfl hqs ?_
  refine LH.t1 3 rfl (fun Hq hq => Y.lss rfl rfl rfl) hqs ?_
  refine LH.m1 4 rfl hqs ?_
  refine LH.splitp (d := 39) rfl (fun g39 => ?_) (fun g39 => ?_)
  ·
   refine LH.u1 5 rfl (fun Hq hq => Y.move rfl rfl) (Wd.g rfl rfl rfl) hqs ?_
   refine LH.u1 6 rfl (fun Hq hq => Y.move rfl rfl) (Wd.g rfl rfl rfl) hqs ?_
   refine LH.u1 7 rfl (fun Hq hq => Y.move rfl rfl) (Wd.g rfl rfl rfl) hqs ?_
   refine LH.e (g := fun ad => .pointer (some ad)) 8 (by kernel_rfl) rfl (by kernel_rfl) (by kernel_rfl) (by kernel_rfl) (Y.indexAddrF hl (_) rfl u'30 s'68 rfl rfl rfl (by first | omega | (simp; omega) | (simp; done))) (Wd.g rfl rfl rfl) rfl rfl hqs (fun ad43 pt43 => ?_)
   refine LH.u1 9 rfl (fun Hq hq => Y.loadN (pt43.pt.nw hq) rfl a'68 s'68 (fMm_len _) rfl) (Wd.g rfl rfl rfl) hqs ?_
   refine LH.u1 10 rfl (fun Hq hq => Y.loadN (vi.pt.nw hq) rfl a'68 s'68 (fMm_len _) rfl) (Wd.g rfl rfl rfl) hqs ?_
   refine LH.o1 11 ?_
   refine LO.calld rfl rfl rfl rfl (Wd.g rfl rfl rfl) rfl rfl (mcmpClo w0 _ _ x) (fun v46 H46 r46 => ?_)
   obtain ⟨rfl, hs46⟩ := r46
   replace hm0 := hm0.tr hs46
   have hz4 := hs46.size
   have hq46 := hqs.tr hs46
   refine ⟨.inr hq46, LH.narrow (SH2 := fun Hq => Nw H46 Hq) (fun Hq hq => hq46.tr hq) ?_⟩
   have hqn46 := Nw.refl H46
   refine LH.u1 12 rfl (fun Hq hq => Y.eql rfl rfl rfl) (Wd.g rfl rfl rfl) hqn46 ?_
   refine LH.t1 13 rfl (fun Hq hq => Y.pick_t rfl rfl rfl) hqn46 ?_
   refine LH.t1 14 rfl (fun Hq hq => Y.assign rfl rfl) hqn46 ?_
   refine LH.t1 15 rfl (fun Hq hq => Y.assign rfl rfl) hqn46 ?_
   refine LH.done (by kernel_rfl) ?_
   have hqe := hqn46
   refine hK12 _ _ ?_
   refine CW.ret (hret .ret (.inr rfl) _ _ _ (res2 rfl rfl rfl) ?_)
   exact ⟨i, _, rfl, ⟨by omega, h1, fun q h h3 => h2 q h (by omega)⟩, ⟨fun h => ⟨by omega, Subtype.ext (cb_zero.1 (of_decide_eq_true h))⟩, fun ⟨_, h⟩ => decide_eq_true (cb_zero.2 (by rw [h]))⟩, hm0⟩
  ·
   refine LH.g1 5 rfl rfl rfl rfl hqs ?_
   refine LH.g1 6 rfl rfl rfl rfl hqs ?_
   refine LH.g1 7 rfl rfl rfl rfl hqs ?_
   refine LH.g1 8 rfl rfl rfl rfl hqs ?_
   refine LH.g1 9 rfl rfl rfl rfl hqs ?_
   refine LH.g1 10 rfl rfl rfl rfl hqs ?_
   refine LH.g1 11 rfl rfl rfl rfl hqs ?_
   refine LH.g1 12 rfl rfl rfl rfl hqs ?_
   refine LH.t1 13 rfl (fun Hq hq => Y.pick_f rfl rfl rfl) hqs ?_
   refine LH.t1 14 rfl (fun Hq hq => Y.assign rfl rfl) hqs ?_
   refine LH.t1 15 rfl (fun Hq hq => Y.assign rfl rfl) hqs ?_
   refine LH.done (by kernel_rfl) ?_
   have hqe := hqs
   refine hK12 _ _ ?_
   refine CW.ret (hret .ret (.inr rfl) _ _ _ (res2 rfl rfl rfl) ?_)
   exact ⟨i, _, rfl, ⟨by omega, h1, fun q h h3 => h2 q h (by omega)⟩, ⟨fun h => (by cases h), fun ⟨h, _⟩ => (by omega)⟩, hm0⟩
abbrev FV (z : SV × List TLn) : Value := z.1.v
abbrev zG : SV × List TLn := (n0, [])
theorem mput_mem2 {β : Type} {m : List (Pth × β)} {k : Pth} {b : β} {p : Pth × β} (h : p ∈ mput m k b) : p.2 = b ∨ p ∈ m := by
 unfold mput at h
 split at h
 · obtain ⟨q, hq, e⟩ := List.mem_map.1 h
   split at e
   · rw [← e]; exact .inl rfl
   · rw [← e]; exact .inr hq
 · rcases List.mem_append.1 h with h | h
   · exact .inr h
   · rw [List.mem_singleton.1 h]; exact .inl rfl
theorem lgs_step {l : List TLg} {m : List (Pth × (SV × List TLn))} {j : Nat} (hn : ((llM l).map (·.1)).Nodup) (h : ∀ q, (mget m q).map (·.2) = mget (llM (l.take j)) q) (hj : j < l.length) : ∀ q, (mget (mput m l[j].n (l[j].v, l[j].l)) q).map (·.2) = mget (llM (l.take (j + 1))) q := by
 intro q
 have e : llM (l.take (j + 1)) = llM (l.take j) ++ [(l[j].n, l[j].l)] := by unfold llM; rw [List.take_succ_eq_append_getElem hj, List.map_append]; rfl
 have hnot : mget (llM (l.take j)) l[j].n = none := by
  cases hg : mget (llM (l.take j)) l[j].n with
  | none => rfl
  | some z =>
    have h1 := isSome_iff_key.1 (show (mget (llM (l.take j)) l[j].n).isSome = true by rw [hg]; rfl)
    have h2 : (llM l).map (·.1) = (llM (l.take j)).map (·.1) ++ l[j].n :: (llM (l.drop (j + 1))).map (·.1) := by
     conv => lhs; rw [← List.take_append_drop j l, List.drop_eq_getElem_cons hj]
     unfold llM
     rw [List.map_append, List.map_append, List.map_cons, List.map_cons]
    rw [h2, List.nodup_append] at hn
    exact absurd rfl (hn.2.2 _ h1 _ List.mem_cons_self)
 rw [mget_put, e, LinM.mget_snoc]
 by_cases hq : q = l[j].n
 · rw [if_pos hq, hq, hnot, if_pos rfl]; rfl
 · rw [if_neg hq, if_neg hq, h]; simp
theorem row_of {G : Nat → Prop} {H : Heap} {m : List (Pth × (SV × List TLn))} {k : Pth} {z : SV × List TLn} (h : ∀ p ∈ m, Rd G H fLn 65 p.2.1.v p.2.2) (hz : z = (mget m k).getD zG) : Rd G H fLn 65 z.1.v z.2 := by
 cases hg : mget m k with
 | none => rw [hg] at hz; rw [hz]; exact Rd.nil _ _ _ _
 | some y => rw [hg] at hz; rw [hz]; exact h _ (E.mget_mem hg)
theorem len_of {m : List (Pth × (SV × List TLn))} {k : Pth} {z : SV × List TLn} {n : Nat} (h : ∀ p ∈ m, p.2.2.length ≤ n) (hz : z = (mget m k).getD zG) : z.2.length ≤ n := by
 cases hg : mget m k with
 | none => rw [hg] at hz; rw [hz]; exact Nat.zero_le _
 | some y => rw [hg] at hz; rw [hz]; exact h _ (E.mget_mem hg)
theorem lg_put {m : List (Pth × (SV × List TLn))} {L : GL} {y : TMv} {s : SV} {z : SV × List TLn} (h : ∀ q, (mget m q).map (·.2) = mget L q) (ga : GAsc L) (hw : ¬ y.w = Zid) (hz : z = (mget m y.n).getD zG) : ∀ q, (mget (mput m y.n (s, lastN (z.2 ++ [⟨y.o, y.w, y.y⟩]))) q).map (·.2) = mget (mvG L y) q := by
 intro q
 have e : (mget L y.n).getD [] = z.2 := by
  rw [← h]
  cases hg : mget m y.n with
  | none => rw [hg] at hz; rw [hz]; rfl
  | some w => rw [hg] at hz; rw [hz]; rfl
 unfold mvG
 rw [if_neg hw, mget_put, mget_gput _ _ _ _ ga, e]
 by_cases hq : q = y.n
 · rw [if_pos hq, if_pos hq]; rfl
 · rw [if_neg hq, if_neg hq, h]
theorem lg_del {m : List (Pth × (SV × List TLn))} {L : GL} {y : TMv} (h : ∀ q, (mget m q).map (·.2) = mget L q) (hw : y.w = Zid) : ∀ q, (mget (mdel m y.n) q).map (·.2) = mget (mvG L y) q := by
 intro q
 unfold mvG
 rw [if_pos hw, mget_del, mget_del]
 by_cases hq : q = y.n
 · rw [if_pos hq, if_pos hq]; rfl
 · rw [if_neg hq, if_neg hq, h]
def outR (m : List (Pth × Ide)) (x : Pth) : TRf := ⟨x, (mget m x).getD Zid⟩
def outG (m : List (Pth × (SV × List TLn))) (x : Pth) : TLg := ⟨x, ((mget m x).getD zG).1, ((mget m x).getD zG).2⟩
theorem mget_map {β : Type} (f : Pth → β) : ∀ (out : List Pth) (q : Pth), mget (out.map (fun x => (x, f x))) q = if q ∈ out then some (f q) else none
 | [], q => by simp [mget]
 | x :: out, q => by
   rw [List.map_cons, mget, mget_map f out q]
   by_cases hq : q = x
   · subst hq; simp
   · simp [hq]
theorem gasc_map {β : Type} {f : Pth → β} {out : List Pth} (h : Rise out) : GAsc (out.map (fun x => (x, f x))) := by
 unfold GAsc; rw [List.pairwise_map]; exact h
theorem fin_rf {m : List (Pth × Ide)} {u : RL} {out : List Pth} (hu : GAsc u) (hq : ∀ q, mget m q = mget u q) (ho : Rise out) (hm : ∀ k, k ∈ out ↔ k ∈ m.map (·.1)) : rlM (out.map (outR m)) = u := by
 have e : rlM (out.map (outR m)) = out.map (fun x => (x, (mget m x).getD Zid)) := by simp [rlM, outR]
 rw [e]
 refine gasc_ext (gasc_map ho) hu (fun q => ?_)
 rw [mget_map, ← hq]
 by_cases h : q ∈ out
 · rw [if_pos h]
   have h2 := isSome_iff_key.2 ((hm q).1 h)
   obtain ⟨z, hz⟩ := Option.isSome_iff_exists.1 h2
   rw [hz]; rfl
 · rw [if_neg h]
   cases hz : mget m q with
   | none => rfl
   | some z => exact absurd ((hm q).2 (isSome_iff_key.1 (by rw [hz]; rfl))) h
theorem fin_lg {m : List (Pth × Ide)} {w : List (Pth × (SV × List TLn))} {u : RL} {L : GL} {out : List Pth} (hL : GAsc L) (hk : L.map (·.1) = u.map (·.1)) (hq : ∀ q, mget m q = mget u q) (hw : ∀ q, (mget w q).map (·.2) = mget L q) (ho : Rise out) (hm : ∀ k, k ∈ out ↔ k ∈ m.map (·.1)) : llM (out.map (outG w)) = L := by
 have e : llM (out.map (outG w)) = out.map (fun x => (x, ((mget w x).getD zG).2)) := by simp [llM, outG]
 rw [e]
 refine gasc_ext (gasc_map ho) hL (fun q => ?_)
 have hk2 : q ∈ out ↔ (mget L q).isSome = true := by
  rw [hm, ← isSome_iff_key, hq, isSome_iff_key, ← hk, isSome_iff_key]
 rw [mget_map]
 by_cases h : q ∈ out
 · rw [if_pos h]
   obtain ⟨z, hz⟩ := Option.isSome_iff_exists.1 (hk2.1 h)
   rw [hz]
   have h3 := hw q
   rw [hz] at h3
   cases hg : mget w q with
   | none => rw [hg] at h3; cases h3
   | some y => rw [hg] at h3; rw [← h3]; rfl
 · rw [if_neg h]
   cases hz : mget L q with
   | none => rfl
   | some z => exact absurd (hk2.2 (by rw [hz]; rfl)) h
theorem mm_v (y : TMm) (s : SV) : (fMm y).set 32 s.v = fMm ⟨y.k, s, y.d⟩ := by
 unfold fMm
 rw [List.set_append, if_neg (by rw [fA_len]; omega), fA_len]; rfl
theorem el_set {l : List TMm} {x : TMm} {p : Nat} (h1 : ∀ j (h : j < l.length), j < p → blt l[j].k.1 x.k.1) (hp : p < l.length) (h2 : l[p].k = x.k) : elM (l.set p x) = gput (elM l) x.k.1 x.d := by
 rw [gput_hit (k := p) (by simpa [elM] using hp) (fun j h hj => by have := h1 j (by simpa [elM] using h) hj; simpa [elM] using this) (by simp [elM, h2])]
 simp [elM, List.map_set]
theorem el_ins {l : List TMm} {x : TMm} {p : Nat} (h1 : ∀ j (h : j < l.length), j < p → blt l[j].k.1 x.k.1) (h3 : ∀ j (h : j < l.length), p ≤ j → ¬ blt l[j].k.1 x.k.1) (hp : p ≤ l.length) (h2 : ¬ ∃ h : p < l.length, l[p].k = x.k) : elM (l.take p ++ x :: l.drop p) = gput (elM l) x.k.1 x.d := by
 rw [gput_miss (k := p) (by simpa [elM] using hp) (fun j h hj => by have := h1 j (by simpa [elM] using h) hj; simpa [elM] using this) (fun h => by
  have h4 : p < l.length := by simpa [elM] using h
  have h5 := h3 p h4 (Nat.le_refl _)
  have h6 : ¬ l[p].k = x.k := fun e => h2 ⟨h4, e⟩
  simp only [elM, List.getElem_map]
  refine Classical.byContradiction (fun h7 => h6 (Subtype.ext (blt_total h5 h7))))]
 simp [elM, List.map_take, List.map_drop]
theorem setR {F G : Nat → Prop} {H : Heap} {l : List TMm} {x : TMm} (p : Nat) (h : ∀ y ∈ l, Rd F H fB 1 y.v.v y.d) (hg : ∀ b, F b → G b) (hx : Rd G H fB 1 x.v.v x.d) : ∀ y ∈ l.set p x, Rd G H fB 1 y.v.v y.d := by
 intro y hy
 rcases List.mem_or_eq_of_mem_set hy with hy | hy
 · exact (h y hy).imp (fun b _ e => hg b e)
 · rw [hy]; exact hx
theorem insR {F G : Nat → Prop} {H : Heap} {l : List TMm} {x : TMm} (p : Nat) (h : ∀ y ∈ l, Rd F H fB 1 y.v.v y.d) (hg : ∀ b, F b → G b) (hx : Rd G H fB 1 x.v.v x.d) : ∀ y ∈ l.take p ++ x :: l.drop p, Rd G H fB 1 y.v.v y.d := by
 intro y hy
 rcases List.mem_append.1 hy with hy | hy
 · exact (h y (List.mem_of_mem_take hy)).imp (fun b _ e => hg b e)
 · rcases List.mem_cons.1 hy with hy | hy
   · rw [hy]; exact hx
   · exact (h y (List.mem_of_mem_drop hy)).imp (fun b _ e => hg b e)
theorem adM_bd {el : List TMm} {l : ML} {n : Nat} : (adM l (el.take n)).length ≤ l.length + n := by
 have h1 := adM_lenle (el.take n) l
 have h2 : (el.take n).length ≤ n := by rw [List.length_take]; exact Nat.min_le_left _ _
 omega
set_option maxHeartbeats 16000000 in
theorem apply_ct (s : TSt) (t : TTx) (F F2 : Nat → Prop) (w0 : World) (H0 : Heap)
 (hs : StR F H0 s) (bf_hs : BF F H0.size) (ht : TxR F2 H0 t) (bf_ht : BF F2 H0.size) (ok : s.m.Ok) (hc : chkE s.m t = 0) (hz : TxS t) :
 Ct Tryz.prog w0 24 #[stV s, txV t] H0 (fun r H2 => ∃ s9 : TSt, r = stV s9 ∧ (StR (fun b => H0.size ≤ b) H2 s9) ∧ (s9.m = s.m.ap t) ∧ Nw H0 H2) := by
 refine Ct.enter (args := [stV s, txV t]) Tryz.func24 rfl rfl rfl ?_
 intro Q0 hret
 have hm0 : Nw H0 H0 := Mo.refl _ _
 have ok2 := ok.ap hc
 have cc := chkE_zero hc
 have z6 := hz.td
 have z7 := hz.ml
 have z8 := hz.el
 have z3 := ok.mn
 refine CW.s1 (fun hK1 => CW.region ?_)
 refine LR.z1 (Z.boxv rfl rfl) fun v2 H2 r2 => ?_
 obtain ⟨rfl, vs, hs2, ob2, hH2⟩ := r2
 have hzs2 : H2.size = H0.size + 1 := by rw [hH2]; simp
 replace hs := hs.nw hs2
 replace ht := ht.nw hs2
 replace hm0 := hm0.tr hs2
 have hz1 := hs2.size
 replace vs : Var 47 H2 H0.size (fSt s) := vs
 refine LR.z1 (Z.boxv rfl rfl) fun v3 H3 r3 => ?_
 obtain ⟨rfl, va, hs3, ob3, hH3⟩ := r3
 have hzs3 : H3.size = H2.size + 1 := by rw [hH3]; simp
 replace hs := hs.nw hs3
 replace ht := ht.nw hs3
 replace vs := vs.nw hs3
 replace hm0 := hm0.tr hs3
 have hz2 := hs3.size
 replace va : Var 32 H3 H2.size (fTx t) := va
 refine LR.z1 (Z.allocv rfl z'47) fun v4 H4 r4 => ?_
 obtain ⟨rfl, vr, hs4, ob4, hH4⟩ := r4
 have hzs4 : H4.size = H3.size + 1 := by rw [hH4]; simp
 have nx12 : Nx 0 H0.size (H3.size + 1) := Nx.new hm0.size
 replace hs := hs.nw hs4
 replace ht := ht.nw hs4
 replace vs := vs.nw hs4
 replace va := va.nw hs4
 replace hm0 := hm0.tr hs4
 have hz3 := hs4.size
 refine LR.nil (hK1 _ _ (CW.s1 (fun hK2 => CW.region ?_)))
 refine LR.v1 (Y.loadN vs.pt rfl a'47 s'47 (fSt_len _) rfl) ?_
 refine LR.call rfl c'39 rfl (Wd.u rfl) rfl rfl (twin_ct s F w0 _ hs (bf_hs.mono hm0.size) ok) (fun v19 H19 r19 => ?_)
 obtain ⟨s2, ke, G, rfl, hq, ow, hke, hbf, hab, hdf, hm2, hs19⟩ := r19
 have df14 := DF.app (DF.z) (bf_ht.mono hm0.size) hke
 have dj17 : Dj (H3.size + 1) ke := Dj.app (Dj.z) vr.lt hke
 have nx18 : Nx 0 H0.size ke := Nx.tr (Nx.refl 0 _) hke hm0.size
 replace hs := hs.nw hs19
 replace ht := ht.nw hs19
 replace vs := vs.nw hs19
 replace va := va.nw hs19
 replace vr := vr.nw hs19
 replace hm0 := hm0.tr hs19
 have hz4 := hs19.size
 have hle_ow := ow.le
 have bf_hq := hbf
 have df21 : DF _ (H3.size + 1) := DF.above hab (by first | exact hle_vr | exact hlt_vr | omega)
 have hqll := hq.g.len
 have hab0 : ∀ c, G c → H0.size ≤ c := fun c e => by have q1 := hab c e; omega
 refine LR.z1 (Z.allocv rfl z'47) fun v5 H5 r5 => ?_
 obtain ⟨rfl, vo, hs5, ob5, hH5⟩ := r5
 have hzs5 : H5.size = H19.size + 1 := by rw [hH5]; simp
 have df22 := (DF.new (bf_hs.mono hm0.size) : DF _ (H19.size + 1))
 have df23 := (DF.new (bf_ht.mono hm0.size) : DF _ (H19.size + 1))
 have dj24 : Dj (H0.size + 1) (H19.size + 1) := Dj.new vs.lt
 have dj25 : Dj (H2.size + 1) (H19.size + 1) := Dj.new va.lt
 have dj26 : Dj (H3.size + 1) (H19.size + 1) := Dj.new vr.lt
 have dj27 : Dj ke (H19.size + 1) := Dj.new ow.le
 have df28 := (DF.new (bf_hq.mono (by omega)) : DF _ (H19.size + 1))
 have nx29 : Nx 0 H0.size (H19.size + 1) := Nx.new hm0.size
 replace hs := hs.nw hs5
 replace ht := ht.nw hs5
 replace vs := vs.nw hs5
 replace va := va.nw hs5
 replace vr := vr.nw hs5
 replace ow := ow.nw hs5
 replace hq := hq.nw hs5
 replace hm0 := hm0.tr hs5
 have hz5 := hs5.size
 refine LR.s1 (S.var vo (_) (fSt s2) rfl rfl rfl rfl (fSt_one _) s'47 (fSt_len _) (by decide) ((splice_all2 (fSt_len _).symm))) fun H1_3 r1_3 => ?_
 obtain ⟨vo, hs1_3⟩ := r1_3
 replace hs1_3 := hs1_3.md1
 replace hs := hs.upL hs1_3 (DFL.o df22)
 replace ht := ht.upL hs1_3 (DFL.o df23)
 replace vs := vs.upL hs1_3 (DL.o dj24)
 replace va := va.upL hs1_3 (DL.o dj25)
 replace vr := vr.upL hs1_3 (DL.o dj26)
 replace ow := ow.upL hs1_3 (DL.o dj27)
 replace hq := hq.upL hs1_3 (DFL.o df28)
 replace hm0 := hm0.tq hs1_3 (MIL.o (MI.q nx29))
 have hz6 := hs1_3.size
 refine LR.nil (hK2 _ _ ?_)
 refine CW.cut (fun (h1 : (List UInt8)) => [(2, .pointer (some ⟨H0.size, 0, none⟩)), (3, .pointer (some ⟨H2.size, 0, none⟩)), (4, .pointer (some ⟨H3.size, 0, none⟩)), (5, .pointer (some ⟨H19.size, 0, none⟩))])
  (fun (h1 : (List UInt8)) (H : Heap) => (Var 47 H H19.size (fSt { s2 with hd := h1 })) ∧ (h1 = if t.hh = true then t.hd else s2.hd) ∧ Mo (Ms [(H19.size + 1)]) H1_3 H) (fun _ hK3 _ => ?_) ?_
 ·
  have hcm3 : Mo (Ms [(H19.size + 1)]) H1_3 H1_3 := Mo.refl _ _
  have nx_hcm3_vo := Nx.refl (H19.size + 1) H1_3.size
  refine CW.s1 (fun hK4 => CW.region ?_)
  refine LR.v1 (Y.FA va.pt rfl u'32 rfl s'4) ?_
  refine LR.v1 (Y.load1 va.pt rfl a'4 rfl) (LR.nil (hK4 _ _ ?_))
  refine CW.cond rfl (fun c21 => ?_) (fun c21 => ?_)
  ·
   refine CW.region ?_
   refine LR.v1 (Y.FA va.pt rfl u'32 rfl s'9) ?_
   refine LR.v1 (Y.load1 (va.pt.drop 1) rfl a'9 rfl) ?_
   refine LR.v1 (Y.FA vo.pt rfl u'47 rfl s'9) ?_
   refine LR.s1 (S.var1 vo 0 (fSt { s2 with hd := t.hd }) rfl rfl rfl (rfl) s'9 (by rw [fSt_len]; omega) ((st_hd _))) fun H3_3 r3_3 => ?_
   obtain ⟨vo, hs3_3⟩ := r3_3
   replace hs3_3 := hs3_3.md1
   replace hcm3 := hcm3.trL hs3_3 (MIL.o (MI.r nx_hcm3_vo))
   have hz7 := hs3_3.size
   refine LR.nil ?_
   refine QN.sub (hK3 (t.hd) _ ?_) ⟨rfl, rfl, rfl, rfl, trivial⟩
   exact ⟨vo, by rw [if_pos c21], hcm3⟩
  ·
   refine CW.skip ?_
   refine QN.sub (hK3 (s2.hd) _ ?_) ⟨rfl, rfl, rfl, rfl, trivial⟩
   exact ⟨vo, by rw [if_neg (by simp [c21])], hcm3⟩
 ·
  intro h1 Hcutc21 hIcutc21
  obtain ⟨vo, hh1, hlmcutc21⟩ := hIcutc21
  replace hs := hs.upL hlmcutc21 (DFL.o df22)
  replace ht := ht.upL hlmcutc21 (DFL.o df23)
  replace vs := vs.upL hlmcutc21 (DL.o dj24)
  replace va := va.upL hlmcutc21 (DL.o dj25)
  replace vr := vr.upL hlmcutc21 (DL.o dj26)
  replace ow := ow.upL hlmcutc21 (DL.o dj27)
  replace hq := hq.upL hlmcutc21 (DFL.o df28)
  replace hm0 := hm0.tq hlmcutc21 (MIL.o (MI.q nx29))
  have hz8 := hlmcutc21.size
  refine CW.cut (fun (s_ : (TSq) × (Nat → Prop)) => match s_ with | (q9, G9) => [(2, .pointer (some ⟨H0.size, 0, none⟩)), (3, .pointer (some ⟨H2.size, 0, none⟩)), (4, .pointer (some ⟨H3.size, 0, none⟩)), (5, .pointer (some ⟨H19.size, 0, none⟩))])
   (fun (s_ : (TSq) × (Nat → Prop)) (H : Heap) => match s_ with | (q9, G9) => (Var 47 H H19.size (fSt { s2 with hd := h1, q := q9 })) ∧ (∀ u : Unit, Rd G9 H fTd 33 q9.tv.v q9.td) ∧ (BF G9 H.size) ∧ (DF G9 (H19.size + 1)) ∧ (DF G9 ke) ∧ (DF G9 (H3.size + 1)) ∧ (∀ c, G9 c → H0.size ≤ c) ∧ (q9.p = if t.hs = true then (if t.q.k = 0 then zSq else t.q.p) else s.m.q) ∧ Mo (Ms [(H19.size + 1)]) Hcutc21 H) (fun _ hK5 _ => ?_) ?_
  ·
   have hcm5 : Mo (Ms [(H19.size + 1)]) Hcutc21 Hcutc21 := Mo.refl _ _
   have nx_hcm5_vo := Nx.refl (H19.size + 1) Hcutc21.size
   refine CW.s1 (fun hK6 => CW.region ?_)
   refine LR.v1 (Y.FA va.pt rfl u'32 rfl s'4) ?_
   refine LR.v1 (Y.load1 (va.pt.drop 3) rfl a'4 rfl) (LR.nil (hK6 _ _ ?_))
   refine CW.cond rfl (fun c26 => ?_) (fun c26 => ?_)
   ·
    refine CW.s1 (fun hK7 => CW.region ?_)
    refine LR.v1 (Y.FA va.pt rfl u'32 rfl s'29) ?_
    refine LR.v1 (Y.cast (v2 := sqV t.q) (Y.loadN ((va.pt.drop 4).take 70) rfl a'29 s'29 (by rw [fTx_q]; exact fSq_len _) rfl) (congrArg (fun z : List Value => Value.agg z.toArray) (fTx_q t))) ?_
    refine LR.v1 (Y.FA vo.pt rfl u'47 rfl s'29) ?_
    refine LR.s1 (S.var vo (_) (fSt { s2 with hd := h1, q := t.q }) rfl rfl rfl rfl ((fSq_one _)) s'29 (fSq_len _) (by rw [fSt_len]; exact Nat.le_of_ble_eq_true rfl) ((st_q _))) fun H5_3 r5_3 => ?_
    obtain ⟨vo, hs5_3⟩ := r5_3
    replace hs5_3 := hs5_3.md1
    replace ht := ht.upL hs5_3 (DFL.o df23)
    replace va := va.upL hs5_3 (DL.o dj25)
    replace vr := vr.upL hs5_3 (DL.o dj26)
    replace ow := ow.upL hs5_3 (DL.o dj27)
    replace hm0 := hm0.tq hs5_3 (MIL.o (MI.q nx29))
    replace hcm5 := hcm5.trL hs5_3 (MIL.o (MI.r nx_hcm5_vo))
    have hz9 := hs5_3.size
    refine LR.nil (hK7 _ _ (CW.s1 (fun hK8 => CW.region ?_)))
    refine LR.v1 (Y.FA va.pt rfl u'32 rfl s'29) ?_
    refine LR.v1 (Y.FA (va.pt.drop 4) rfl u'29 rfl s'27) ?_
    refine LR.v1 (Y.load1 va.pt.tx70 rfl a'27 rfl) ?_
    refine LR.call rfl c'52 rfl (Wd.u rfl) rfl rfl (tclone_ct t.q.tv.v t.q.td w0 _ ht.q.any (by omega)) (fun v33 H33 r33 => ?_)
    obtain ⟨s33, k33, rfl, oq, hk33, hs33⟩ := r33
    have dj34 : Dj (H3.size + 1) k33 := Dj.app (Dj.z) vr.lt hk33
    have dj35 : Dj ke k33 := Dj.app (Dj.z) ow.le hk33
    have dj37 : Dj (H19.size + 1) k33 := Dj.app (Dj.z) vo.lt hk33
    have nx38 : Nx 0 H0.size k33 := Nx.tr (Nx.refl 0 _) hk33 hm0.size
    replace va := va.nw hs33
    replace vo := vo.nw hs33
    replace hcm5 := hcm5.trN hs33
    have hz10 := hs33.size
    have hle_oq := oq.le
    refine LR.v1 (Y.FA vo.pt rfl u'47 rfl s'29) ?_
    refine LR.v1 (Y.FA (vo.pt.drop 3) rfl u'29 rfl s'27) ?_
    refine LR.s1 (S.var1 vo 69 (fSt { s2 with hd := h1, q := { t.q with tv := s33 } }) rfl rfl rfl (rfl) s'27 (by rw [fSt_len]; omega) ((st_tv _ _))) fun H6_6 r6_6 => ?_
    obtain ⟨vo, hs6_6⟩ := r6_6
    replace hs6_6 := hs6_6.md1
    replace va := va.upL hs6_6 (DL.o dj25)
    replace oq := oq.upL hs6_6 (DL.o dj37.symm)
    replace hcm5 := hcm5.trL hs6_6 (MIL.o (MI.r nx_hcm5_vo))
    have hz11 := hs6_6.size
    refine LR.nil (hK8 _ _ (CW.s1 (fun hK9 => CW.region ?_)))
    refine LR.v1 (Y.FA va.pt rfl u'32 rfl s'29) ?_
    refine LR.v1 (Y.FA (va.pt.drop 4) rfl u'29 rfl s'3) ?_
    refine LR.v1 (Y.load1 va.pt.tx4k rfl a'3 rfl) ?_
    refine LR.v1 (Y.eql rfl rfl rfl) (LR.nil (hK9 _ _ ?_))
    refine CW.condp rfl (fun c39 => ?_) (fun c39 => ?_)
    ·
     refine CW.region ?_
     refine LR.v1 (Y.build (v := sqV zSq) rfl rfl (by intro w; kernel_rfl)) ?_
     refine LR.v1 (Y.FA vo.pt rfl u'47 rfl s'29) ?_
     refine LR.s1 (S.var vo (_) (fSt { s2 with hd := h1, q := zSq }) rfl rfl rfl rfl ((fSq_one _)) s'29 (fSq_len _) (by rw [fSt_len]; exact Nat.le_of_ble_eq_true rfl) ((st_q _))) fun H8_2 r8_2 => ?_
     obtain ⟨vo, hs8_2⟩ := r8_2
     replace hs8_2 := hs8_2.md1
     replace hcm5 := hcm5.trL hs8_2 (MIL.o (MI.r nx_hcm5_vo))
     have hz12 := hs8_2.size
     refine LR.nil ?_
     refine QN.sub (hK5 (zSq, fun _ => False) _ ?_) ⟨rfl, rfl, rfl, rfl, trivial⟩
     exact ⟨vo, (fun _ => Rd.nil _ _ _ _), (fun b e => e.elim), (fun b e => e.elim), (fun b e => e.elim), (fun b e => e.elim), (fun c e => e.elim), by rw [if_pos c26, if_pos (by omega)]; rfl, hcm5⟩
    ·
     refine CW.skip ?_
     refine QN.sub (hK5 ({ t.q with tv := s33 }, fun b => b + 1 = k33) _ ?_) ⟨rfl, rfl, rfl, rfl, trivial⟩
     exact ⟨vo, (fun _ => oq.rd), BF.of oq.le, (DF.of (dj37.symm)), (DF.of (dj35.symm)), (DF.of (dj34.symm)), (fun c e => by have q1 := (nx38); unfold Nx at q1; omega), by rw [if_pos c26, if_neg (by omega)]; rfl, hcm5⟩
   ·
    refine CW.skip ?_
    refine QN.sub (hK5 (s2.q, G) _ ?_) ⟨rfl, rfl, rfl, rfl, trivial⟩
    exact ⟨vo, (fun _ => hq.q), (bf_hq.mono (by omega)), (df28), (hdf), (df21), hab0, by rw [if_neg (by simp [c26])]; exact congrArg MSt.q hm2, hcm5⟩
  ·
   rintro ⟨q9, G9⟩ Hcutc26 hIcutc26
   obtain ⟨vo, hq9, bf_hq9, x1, x2, x3, a9, hp9, hlmcutc26⟩ := hIcutc26
   replace hs := hs.upL hlmcutc26 (DFL.o df22)
   replace ht := ht.upL hlmcutc26 (DFL.o df23)
   replace vs := vs.upL hlmcutc26 (DL.o dj24)
   replace va := va.upL hlmcutc26 (DL.o dj25)
   replace vr := vr.upL hlmcutc26 (DL.o dj26)
   replace ow := ow.upL hlmcutc26 (DL.o dj27)
   replace hq := hq.upL hlmcutc26 (DFL.o df28)
   replace hm0 := hm0.tq hlmcutc26 (MIL.o (MI.q nx29))
   have hz13 := hlmcutc26.size
   refine CW.s1 (fun hK10 => CW.region ?_)
   refine LR.v1 (Y.loadN vs.pt rfl a'47 s'47 (fSt_len _) rfl) ?_
   refine LR.call rfl c'53 rfl (Wd.u rfl) rfl rfl (table_ct s F w0 _ hs (bf_hs.mono hm0.size)) (fun v43 H43 r43 => ?_)
   obtain ⟨mb, rfl, tm, hk43, hs43⟩ := r43
   have df41 := DF.app (DF.z) (bf_ht.mono hm0.size) hk43
   have dj43 : Dj (H2.size + 1) (mb + 1) := Dj.app (Dj.z) va.lt hk43
   have dj44 : Dj (H3.size + 1) (mb + 1) := Dj.app (Dj.z) vr.lt hk43
   have dj45 : Dj ke (mb + 1) := Dj.app (Dj.z) ow.le hk43
   have df46 := DF.app (DF.z) (bf_hq.mono (by omega)) hk43
   have dj47 : Dj (H19.size + 1) (mb + 1) := Dj.app (Dj.z) vo.lt hk43
   have df48 := DF.app (DF.z) (bf_hq9.mono (by omega)) hk43
   have nx49 : Nx 0 H0.size (mb + 1) := Nx.tr (Nx.refl 0 _) hk43 hm0.size
   replace ht := ht.nw hs43
   replace va := va.nw hs43
   replace vr := vr.nw hs43
   replace ow := ow.nw hs43
   replace hq := hq.nw hs43
   replace vo := vo.nw hs43
   replace hq9 := fun u => (hq9 u).nw hs43
   replace hm0 := hm0.tr hs43
   have hz14 := hs43.size
   have hle_tm := tm.le
   have htq := mget_tab s.rl ok.ra.nodup
   refine LR.a1 (LR.nil (hK10 _ _ ?_))
   refine CW.s1 (fun hK11 => CW.region ?_)
   refine LR.z1 (Z.makeMp Str FV rfl) fun v44 H44 r44 => ?_
   obtain ⟨rfl, tl, hs44, ob44, hH44⟩ := r44
   have hzs44 : H44.size = H43.size + 1 := by rw [hH44]; simp
   have df51 := (DF.new (bf_ht.mono hm0.size) : DF _ (H43.size + 1))
   have dj52 : Dj (H2.size + 1) (H43.size + 1) := Dj.new va.lt
   have dj53 : Dj (H3.size + 1) (H43.size + 1) := Dj.new vr.lt
   have dj54 : Dj ke (H43.size + 1) := Dj.new ow.le
   have df55 := (DF.new (bf_hq.mono (by omega)) : DF _ (H43.size + 1))
   have dj56 : Dj (H19.size + 1) (H43.size + 1) := Dj.new vo.lt
   have df57 := (DF.new (bf_hq9.mono (by omega)) : DF _ (H43.size + 1))
   have dj58 : Dj (mb + 1) (H43.size + 1) := Dj.new tm.le
   have nx59 : Nx 0 H0.size (H43.size + 1) := Nx.new hm0.size
   replace ht := ht.nw hs44
   replace va := va.nw hs44
   replace vr := vr.nw hs44
   replace ow := ow.nw hs44
   replace hq := hq.nw hs44
   replace vo := vo.nw hs44
   replace hq9 := fun u => (hq9 u).nw hs44
   replace tm := tm.nw hs44
   replace hm0 := hm0.tr hs44
   have hz15 := hs44.size
   have hlt_tl := tl.lt
   refine LR.a1 (LR.nil (hK11 _ _ ?_))
   refine CW.s1 (fun hK12 => CW.s1 (fun hK13 => CW.region ?_))
   refine LR.v1 (Y.FA vo.pt rfl u'47 rfl s'45) ?_
   refine LR.v1 (Y.load1 (vo.pt.drop 2) rfl a'45 rfl) ?_
   refine LR.v1 (Y.len hq.g rfl u'45 rfl) ?_
   refine LR.m1 (LR.nil (hK13 _ _ ?_))
   refine CW.block (fun _ _ hX14 _ => ?_)
   refine CW.loop (fun (s_ : (Nat) × (List (Pth × (SV × List TLn)))) => match s_ with | (j, m1) => [(3, .pointer (some ⟨H2.size, 0, none⟩)), (4, .pointer (some ⟨H3.size, 0, none⟩)), (5, .pointer (some ⟨H19.size, 0, none⟩)), (6, .map (some mb)), (7, .map (some H43.size)), (46, s2.lv.v), (47, .int .i64 (s2.ll.length : Int)), (48, .int .i64 (j : Int))])
    (fun (s_ : (Nat) × (List (Pth × (SV × List TLn)))) (H : Heap) => match s_ with | (j, m1) => (j ≤ s2.ll.length) ∧ (Mp H Str FV H43.size m1) ∧ (∀ p ∈ m1, ∃ y ∈ s2.ll, p.2 = (y.v, y.l)) ∧ (∀ q, (mget m1 q).map (·.2) = mget (llM (s2.ll.take j)) q) ∧ Mo (Ms [(H43.size + 1)]) H44 H)
    (fun (s_ : (Nat) × (List (Pth × (SV × List TLn)))) => match s_ with | (j, m1) => s2.ll.length - j) (0, []) ⟨rfl, rfl, rfl, rfl, rfl, rfl, rfl, rfl, trivial⟩ ?_ ?_
   ·
    exact ⟨(by omega), tl, (fun p h => by cases h), (fun q => rfl), Mo.refl _ _⟩
   rintro ⟨j, m1⟩ HL1 hI1 K15 hN15 hE15
   obtain ⟨hj, tl, hm1, hg1, hlm1⟩ := hI1
   replace ht := ht.upL hlm1 (DFL.o df51)
   replace va := va.upL hlm1 (DL.o dj52)
   replace vr := vr.upL hlm1 (DL.o dj53)
   replace ow := ow.upL hlm1 (DL.o dj54)
   replace hq := hq.upL hlm1 (DFL.o df55)
   replace vo := vo.upL hlm1 (DL.o dj56)
   replace hq9 := fun u => (hq9 u).upL hlm1 (DFL.o df57)
   replace tm := tm.upL hlm1 (DL.o dj58)
   replace hm0 := hm0.tq hlm1 (MIL.o (MI.q nx59))
   have hz16 := hlm1.size
   have nx_hlm1_tl := Nx.refl (H43.size + 1) H44.size
   refine CW.s1 (fun hK16 => CW.region ?_)
   refine LR.v1 (Y.lss rfl rfl rfl) (LR.nil (hK16 _ _ ?_))
   refine CW.s2 (fun hK17 hE17 => ?_)
   refine CW.condp rfl (fun c49 => ?_) (fun c49 => ?_)
   ·
    refine CW.skip (hK17 _ _ (CW.s1 (fun hK18 => CW.block (fun _ hK19 _ _ => CW.s1 (fun hK20 => CW.region ?_)))))
    have hil : j < s2.ll.length := by omega
    obtain ⟨y, hey⟩ : ∃ q, q = s2.ll[j] := ⟨_, rfl⟩
    have hmy : y ∈ s2.ll := by rw [hey]; exact List.getElem_mem hil
    refine LR.e1 (g := fun ad => .pointer (some ad)) (Y.iF hq.g (j) rfl u'45 s'62 rfl rfl) fun ad50 pt50 => ?_
    refine LR.v1 (Y.cast (v2 := .agg (fLg y).toArray) (Y.loadN pt50.pt rfl a'62 s'62 (fLg_len _) rfl) (by rw [hey])) ?_
    refine LR.z1 (Z.allocv rfl z'62) fun v9 H9 r9 => ?_
    obtain ⟨rfl, vl, hs9, ob9, hH9⟩ := r9
    have hzs9 : H9.size = HL1.size + 1 := by rw [hH9]; simp
    have df67 := (DF.new (bf_hq9.mono (by omega)) : DF _ (HL1.size + 1))
    have dj69 : Dj (H43.size + 1) (HL1.size + 1) := Dj.new tl.lt
    have nx72 : Nx 0 H44.size (HL1.size + 1) := Nx.new hlm1.size
    replace hq9 := fun u => (hq9 u).nw hs9
    replace tl := tl.nw hs9
    replace hlm1 := hlm1.trN hs9
    have hz17 := hs9.size
    refine LR.s1 (S.var vl (_) (fLg y) rfl rfl rfl rfl (fLg_one y) s'62 (fLg_len _) (by decide) ((splice_all2 (fLg_len _).symm))) fun H13_3 r13_3 => ?_
    obtain ⟨vl, hs13_3⟩ := r13_3
    replace hs13_3 := hs13_3.md1
    replace hq9 := fun u => (hq9 u).upL hs13_3 (DFL.o df67)
    replace tl := tl.upL hs13_3 (DL.o dj69)
    replace hlm1 := hlm1.trL hs13_3 (MIL.o (MI.q nx72))
    have hz18 := hs13_3.size
    refine LR.nil (hK20 _ _ (CW.region ?_))
    refine LR.m1 ?_
    refine LR.v1 (Y.FA vl.pt rfl u'62 rfl s'9) ?_
    refine LR.v1 (Y.load1 vl.pt rfl a'9 rfl) ?_
    refine LR.v1 (Y.FA vl.pt rfl u'62 rfl s'60) ?_
    refine LR.v1 (Y.load1 (vl.pt.drop 1) rfl a'60 rfl) ?_
    refine LR.s1 (S.putMp ((y.v, y.l)) tl keyStr rfl u'132 Tryz.underlying9 rfl rfl rfl) fun H14_5 r14_5 => ?_
    obtain ⟨tl, hs14_5⟩ := r14_5
    replace hs14_5 := hs14_5.md1
    replace hq9 := fun u => (hq9 u).upL hs14_5 (DFL.o df57)
    replace hlm1 := hlm1.trL hs14_5 (MIL.o (MI.r nx_hlm1_tl))
    have hz19 := hs14_5.size
    refine LR.nil (hK19 _ _ (hK18 _ _ (CW.region ?_)))
    refine LR.v1 (Y.addi rfl rfl rfl (by omega)) ?_
    refine LR.m1 (LR.nil ?_)
    refine QN.sub (hN15 (j + 1, mput m1 y.n (y.v, y.l)) _ ?_ ?_) ⟨rfl, rfl, rfl, rfl, rfl, rfl, (iv (by omega)), (iv (by omega)), trivial⟩
    · exact ⟨(by omega), tl, (fun p hp => by rcases mput_mem2 hp with h | h; exact ⟨y, hmy, h⟩; exact hm1 p h), (by rw [hey]; exact lgs_step (by rw [show llM s2.ll = s.m.lg from congrArg MSt.lg hm2]; exact ok.ga.nodup) hg1 hil), hlm1⟩
    · first | omega | (simp only; omega) | (simp; omega)
   ·
    obtain rfl : j = s2.ll.length := by omega
    rw [List.take_length, show llM s2.ll = s.m.lg from congrArg MSt.lg hm2] at hg1
    have hl1 : ∀ p ∈ m1, p.2.2.length ≤ 100 := fun p hp => by obtain ⟨y, hy, e⟩ := hm1 p hp; rw [e]; exact ok.ll (y.n, y.l) (by rw [← show llM s2.ll = s.m.lg from congrArg MSt.lg hm2]; exact List.mem_map.2 ⟨y, hy, rfl⟩)
    refine CW.exit (hE17 (.exit 0) nofun _ _ (hE15 (.exit 0) nofun _ _ (hX14 _ _ ?_)))
    refine hK12 _ _ (CW.s1 (fun hK21 => CW.s1 (fun hK22 => CW.region ?_)))
    refine LR.v1 (Y.FA va.pt rfl u'32 rfl s'24) ?_
    refine LR.v1 (Y.load1 (va.pt.drop 2) rfl a'24 rfl) ?_
    refine LR.v1 (Y.len ht.m rfl u'24 rfl) ?_
    refine LR.m1 (LR.nil (hK22 _ _ ?_))
    refine CW.block (fun _ _ hX23 _ => ?_)
    refine CW.loop (fun (s_ : (Nat) × (List (Pth × Ide)) × (List (Pth × (SV × List TLn))) × (Nat → Prop)) => match s_ with | (i, mr, ml2, G3) => [(3, .pointer (some ⟨H2.size, 0, none⟩)), (4, .pointer (some ⟨H3.size, 0, none⟩)), (5, .pointer (some ⟨H19.size, 0, none⟩)), (6, .map (some mb)), (7, .map (some H43.size)), (59, t.mv.v), (60, .int .i64 (t.ml.length : Int)), (61, .int .i64 (i : Int))])
     (fun (s_ : (Nat) × (List (Pth × Ide)) × (List (Pth × (SV × List TLn))) × (Nat → Prop)) (H : Heap) => match s_ with | (i, mr, ml2, G3) => (i ≤ t.ml.length) ∧ (Mp H Str vA mb mr) ∧ (∀ q, mget mr q = mget ((t.ml.take i).foldl mvR s.m.rf) q) ∧ (Mp H Str FV H43.size ml2) ∧ (∀ p ∈ ml2, Rd G3 H fLn 65 p.2.1.v p.2.2) ∧ (BF G3 H.size) ∧ (DF G3 (mb + 1)) ∧ (DF G3 (H43.size + 1)) ∧ (DF G3 (H19.size + 1)) ∧ (DF G3 ke) ∧ (DF G3 (H3.size + 1)) ∧ (∀ c, G3 c → H0.size ≤ c) ∧ (∀ q, (mget ml2 q).map (·.2) = mget ((t.ml.take i).foldl mvG s.m.lg) q) ∧ (∀ p ∈ ml2, p.2.2.length ≤ 100) ∧ Mo (Ms [(mb + 1), (H43.size + 1)]) HL1 H)
     (fun (s_ : (Nat) × (List (Pth × Ide)) × (List (Pth × (SV × List TLn))) × (Nat → Prop)) => match s_ with | (i, mr, ml2, G3) => t.ml.length - i) (0, tabL s.rl, m1, G) ⟨rfl, rfl, rfl, rfl, rfl, rfl, rfl, rfl, trivial⟩ ?_ ?_
    ·
     exact ⟨(by omega), tm, htq, tl, (fun p hp => by obtain ⟨y, hy, e⟩ := hm1 p hp; rw [e]; exact hq.n y hy), (bf_hq.mono (by omega)), (df46), (df55), (df28), (hdf), (df21), hab0, hg1, hl1, Mo.refl _ _⟩
    rintro ⟨i, mr, ml2, G3⟩ HL2 hI2 K24 hN24 hE24
    obtain ⟨hi, tm, hqr, tl, hx3, bf_hx3, y1, y2, y3, y4, y5, a3, hg3, hl3, hlm2⟩ := hI2
    replace ht := ht.upL hlm2 (DFL.cons df41 (DFL.o df51))
    replace va := va.upL hlm2 (DL.cons dj43 (DL.o dj52))
    replace vr := vr.upL hlm2 (DL.cons dj44 (DL.o dj53))
    replace ow := ow.upL hlm2 (DL.cons dj45 (DL.o dj54))
    replace hq := hq.upL hlm2 (DFL.cons df46 (DFL.o df55))
    replace vo := vo.upL hlm2 (DL.cons dj47 (DL.o dj56))
    replace hq9 := fun u => (hq9 u).upL hlm2 (DFL.cons df48 (DFL.o df57))
    replace hm0 := hm0.tq hlm2 (MIL.cons (MI.q nx49) (MIL.o (MI.q nx59)))
    have hz20 := hlm2.size
    have nx_hlm2_tm := Nx.refl (mb + 1) HL1.size
    have nx_hlm2_tl := Nx.refl (H43.size + 1) HL1.size
    refine CW.s1 (fun hK25 => CW.region ?_)
    refine LR.v1 (Y.lss rfl rfl rfl) (LR.nil (hK25 _ _ ?_))
    refine CW.s2 (fun hK26 hE26 => ?_)
    refine CW.condp rfl (fun c62 => ?_) (fun c62 => ?_)
    ·
     refine CW.skip (hK26 _ _ (CW.s1 (fun hK27 => CW.block (fun _ hK28 _ _ => CW.s1 (fun hK29 => CW.region ?_)))))
     have hil : i < t.ml.length := by omega
     obtain ⟨y, hey⟩ : ∃ q, q = t.ml[i] := ⟨_, rfl⟩
     have hmy : y ∈ t.ml := by rw [hey]; exact List.getElem_mem hil
     refine LR.e1 (g := fun ad => .pointer (some ad)) (Y.iF ht.m (i) rfl u'24 s'52 rfl rfl) fun ad63 pt63 => ?_
     refine LR.v1 (Y.cast (v2 := .agg (fMv y).toArray) (Y.loadN pt63.pt rfl a'52 s'52 (fMv_len _) rfl) (by rw [hey])) ?_
     refine LR.z1 (Z.allocv rfl z'52) fun v11 H11 r11 => ?_
     obtain ⟨rfl, vm, hs11, ob11, hH11⟩ := r11
     have hzs11 : H11.size = HL2.size + 1 := by rw [hH11]; simp
     have dj76 : Dj (H3.size + 1) (HL2.size + 1) := Dj.new vr.lt
     have dj77 : Dj ke (HL2.size + 1) := Dj.new ow.le
     have df78 := (DF.new (bf_hq.mono (by omega)) : DF _ (HL2.size + 1))
     have dj79 : Dj (H19.size + 1) (HL2.size + 1) := Dj.new vo.lt
     have df80 := (DF.new (bf_hq9.mono (by omega)) : DF _ (HL2.size + 1))
     have dj81 : Dj (mb + 1) (HL2.size + 1) := Dj.new tm.le
     have dj82 : Dj (H43.size + 1) (HL2.size + 1) := Dj.new tl.lt
     have df83 := (DF.new (bf_hx3.mono (by omega)) : DF _ (HL2.size + 1))
     have nx85 : Nx 0 H0.size (HL2.size + 1) := Nx.new hm0.size
     have nx86 : Nx 0 HL1.size (HL2.size + 1) := Nx.new hlm2.size
     replace vr := vr.nw hs11
     replace ow := ow.nw hs11
     replace hq := hq.nw hs11
     replace vo := vo.nw hs11
     replace hq9 := fun u => (hq9 u).nw hs11
     replace tm := tm.nw hs11
     replace tl := tl.nw hs11
     replace hx3 := fun p hp_ => (hx3 p hp_).nw hs11
     replace hm0 := hm0.tr hs11
     replace hlm2 := hlm2.trN hs11
     have hz21 := hs11.size
     refine LR.s1 (S.var vm (_) (fMv y) rfl rfl rfl rfl (fMv_one y) s'52 (fMv_len _) (by decide) ((splice_all2 (fMv_len _).symm))) fun H18_3 r18_3 => ?_
     obtain ⟨vm, hs18_3⟩ := r18_3
     replace hs18_3 := hs18_3.md1
     replace vr := vr.upL hs18_3 (DL.o dj76)
     replace ow := ow.upL hs18_3 (DL.o dj77)
     replace hq := hq.upL hs18_3 (DFL.o df78)
     replace vo := vo.upL hs18_3 (DL.o dj79)
     replace hq9 := fun u => (hq9 u).upL hs18_3 (DFL.o df80)
     replace tm := tm.upL hs18_3 (DL.o dj81)
     replace tl := tl.upL hs18_3 (DL.o dj82)
     replace hx3 := fun p hp_ => (hx3 p hp_).upL hs18_3 (DFL.o df83)
     replace hm0 := hm0.tq hs18_3 (MIL.o (MI.q nx85))
     replace hlm2 := hlm2.trL hs18_3 (MIL.o (MI.q nx86))
     have hz22 := hs18_3.size
     refine LR.nil (hK29 _ _ (CW.s1 (fun hK30 => CW.region ?_)))
     refine LR.m1 ?_
     refine LR.v1 (Y.loadN vm.pt rfl a'52 s'52 (fMv_len _) rfl) ?_
     refine LR.call rfl c'54 rfl (Wd.u rfl) rfl rfl (move_ct mb mr y w0 _ tm) (fun v67 H67 r67 => ?_)
     obtain ⟨rfl, tm, hs67⟩ := r67
     replace vr := vr.upL hs67 (DL.o dj44)
     replace ow := ow.upL hs67 (DL.o dj45)
     replace hq := hq.upL hs67 (DFL.o df46)
     replace vo := vo.upL hs67 (DL.o dj47)
     replace hq9 := fun u => (hq9 u).upL hs67 (DFL.o df48)
     replace tl := tl.upL hs67 (DL.o dj58.symm)
     replace hx3 := fun p hp_ => (hx3 p hp_).upL hs67 (DFL.o y1)
     replace vm := vm.upL hs67 (DL.o dj81.symm)
     replace hm0 := hm0.tq hs67 (MIL.o (MI.q nx49))
     replace hlm2 := hlm2.trL hs67 (MIL.o (MI.r nx_hlm2_tm))
     have hz23 := hs67.size
     refine LR.nil (hK30 _ _ (CW.s1 (fun hK31 => CW.region ?_)))
     refine LR.v1 (Y.FA vm.pt rfl u'52 rfl s'26) ?_
     refine LR.v1 (Y.cast (v2 := vA y.w) (Y.loadN ((vm.pt.drop 33).take 32) rfl a'26 s'26 (by rw [fMv_w]; exact fA_len _) rfl) (congrArg (fun z : List Value => Value.agg z.toArray) (fMv_w _))) ?_
     refine LR.call rfl c'55 rfl (Wd.u rfl) rfl rfl (rnone_ct y.w w0 _) (fun v70 H70 r70 => ?_)
     obtain ⟨rfl, hs70⟩ := r70
     replace vr := vr.nw hs70
     replace ow := ow.nw hs70
     replace hq := hq.nw hs70
     replace vo := vo.nw hs70
     replace hq9 := fun u => (hq9 u).nw hs70
     replace tm := tm.nw hs70
     replace tl := tl.nw hs70
     replace hx3 := fun p hp_ => (hx3 p hp_).nw hs70
     replace vm := vm.nw hs70
     replace hm0 := hm0.tr hs70
     replace hlm2 := hlm2.trN hs70
     have hz24 := hs70.size
     refine LR.nil (hK31 _ _ ?_)
     refine CW.condp rfl (fun c70 => ?_) (fun c70 => ?_)
     ·
      refine CW.region ?_
      refine LR.m1 ?_
      refine LR.v1 (Y.FA vm.pt rfl u'52 rfl s'9) ?_
      refine LR.v1 (Y.load1 vm.pt rfl a'9 rfl) ?_
      refine LR.zn (Z.delS tl keyStr rfl u'132 Tryz.underlying9 rfl rfl) (Wd.u rfl) rfl (fun v21_3 H21_3 r21_3 => ?_)
      obtain ⟨rfl, tl, hs21_3⟩ := r21_3
      replace hs21_3 := hs21_3.md1
      replace hq9 := fun u => (hq9 u).upL hs21_3 (DFL.o df57)
      replace tm := tm.upL hs21_3 (DL.o dj58)
      replace hx3 := fun p hp_ => (hx3 p hp_).upL hs21_3 (DFL.o y2)
      replace hlm2 := hlm2.trL hs21_3 (MIL.o (MI.r nx_hlm2_tl))
      have hz25 := hs21_3.size
      refine LR.nil (hK28 _ _ (hK27 _ _ (CW.region ?_)))
      refine LR.v1 (Y.addi rfl rfl rfl (by omega)) ?_
      refine LR.m1 (LR.nil ?_)
      refine QN.sub (hN24 (i + 1, movL mr y, mdel ml2 y.n, G3) _ ?_ ?_) ⟨rfl, rfl, rfl, rfl, rfl, rfl, (iv (by omega)), (iv (by omega)), trivial⟩
      · exact ⟨(by omega), tm, (fun q => by rw [foldl_take hil, ← hey, mget_movL, mget_mvR (gasc_mvRs ok.ra), hqr]), tl, (fun p hp => hx3 p (mem_del hp).1), (bf_hx3.mono (by omega)), y1, y2, y3, y4, y5, (by omega), by rw [foldl_take hil, ← hey]; exact lg_del hg3 (by simpa using c70), (fun p hp => hl3 p (mem_del hp).1), hlm2⟩
      · first | omega | (simp only; omega) | (simp; omega)
     ·
      refine CW.region_any (fun Hq => Nw H70 Hq) [9] rfl ?_
      have hq22 : Nw H70 H70 := Mo.refl _ _
      obtain ⟨z, hz9⟩ : ∃ z, z = (mget ml2 y.n).getD zG := ⟨_, rfl⟩
      have hzl := len_of hl3 hz9
      refine LH.m1 0 rfl hq22 ?_
      refine LH.t1 1 rfl (fun Hq hq => Y.FA (vm.pt.nw hq) rfl u'52 rfl s'9) hq22 ?_
      refine LH.t1 2 rfl (fun Hq hq => Y.load1 (vm.pt.nw hq) rfl a'9 rfl) hq22 ?_
      refine LH.m1 3 rfl hq22 ?_
      refine LH.t1 4 rfl (fun Hq hq => Y.FA (vm.pt.nw hq) rfl u'52 rfl s'9) hq22 ?_
      refine LH.t1 5 rfl (fun Hq hq => Y.load1 (vm.pt.nw hq) rfl a'9 rfl) hq22 ?_
      refine LH.t1 6 rfl (fun Hq hq => Y.cast (v2 := z.1.v) (Y.lookup (z0 := zG) (tl.nw hq).mo keyStr rfl u'132 Tryz.underlying9 z'60 rfl rfl) (by rw [hz9])) hq22 ?_
      refine LH.t1 7 rfl (fun Hq hq => Y.loadN (vm.pt.nw hq) rfl a'52 s'52 (fMv_len _) rfl) hq22 ?_
      refine LH.o1 8 ?_
      refine LO.call rfl rfl c'56 rfl (Wd.u rfl) rfl rfl (log_ct z.1.v z.2 y w0 _ (row_of hx3 hz9).any (by omega)) (fun v82 H82 r82 => ?_)
      obtain ⟨s82, k82, rfl, oz, hk82, hs82⟩ := r82
      have dj90 : Dj (H3.size + 1) k82 := Dj.app (Dj.z) vr.lt hk82
      have dj91 : Dj ke k82 := Dj.app (Dj.z) ow.le hk82
      have dj93 : Dj (H19.size + 1) k82 := Dj.app (Dj.z) vo.lt hk82
      have dj95 : Dj (mb + 1) k82 := Dj.app (Dj.z) tm.le hk82
      have dj96 : Dj (H43.size + 1) k82 := Dj.app (Dj.z) tl.lt hk82
      have nx99 : Nx 0 H0.size k82 := Nx.tr (Nx.refl 0 _) hk82 hm0.size
      have nx101 : Nx 0 H70.size k82 := Nx.tr (Nx.refl 0 _) hk82 hq22.size
      replace hq := hq.nw hs82
      replace hq9 := fun u => (hq9 u).nw hs82
      replace tm := tm.nw hs82
      replace tl := tl.nw hs82
      replace hx3 := fun p hp_ => (hx3 p hp_).nw hs82
      replace hlm2 := hlm2.trN hs82
      replace hq22 := hq22.tr hs82
      have hz26 := hs82.size
      have hle_oz := oz.le
      refine ⟨.inr hq22, LH.narrow (SH2 := fun Hq => Mo (Ms [k82]) H82 Hq) (fun Hq hq => (Mo.trL (ks := []) (hq22.mdn []) hq (MIL.o (MI.q nx101))).nil) ?_⟩
      refine LH.o1 9 ?_
      refine LO.s rfl (S.putMp ((s82, lastN (z.2 ++ [⟨y.o, y.w, y.y⟩]))) tl keyStr rfl u'132 Tryz.underlying9 rfl rfl rfl) (Wd.u rfl) rfl (fun H22_9 r22_9 => ?_)
      obtain ⟨tl, hs22_9⟩ := r22_9
      replace hs22_9 := hs22_9.md1
      replace hq9 := fun u => (hq9 u).upL hs22_9 (DFL.o df57)
      replace tm := tm.upL hs22_9 (DL.o dj58)
      replace hx3 := fun p hp_ => (hx3 p hp_).upL hs22_9 (DFL.o y2)
      replace oz := oz.upL hs22_9 (DL.o dj96.symm)
      replace hlm2 := hlm2.trL hs22_9 (MIL.o (MI.r nx_hlm2_tl))
      have hz27 := hs22_9.size
      refine ⟨.inl rfl, ?_⟩
      refine LH.done (by kernel_rfl) ?_
      refine hK28 _ _ (hK27 _ _ (CW.region ?_))
      refine LR.v1 (Y.addi rfl rfl rfl (by omega)) ?_
      refine LR.m1 (LR.nil ?_)
      refine QN.sub (hN24 (i + 1, movL mr y, mput ml2 y.n (s82, lastN (z.2 ++ [⟨y.o, y.w, y.y⟩])), fun b => G3 b ∨ b + 1 = k82) _ ?_ ?_) ⟨rfl, rfl, rfl, rfl, rfl, rfl, (iv (by omega)), (iv (by omega)), trivial⟩
      · exact ⟨(by omega), tm, (fun q => by rw [foldl_take hil, ← hey, mget_movL, mget_mvR (gasc_mvRs ok.ra), hqr]), tl, (fun p hp => by rcases mput_mem2 hp with h | h; rw [h]; exact oz.rd.imp (fun b _ e => .inr e); exact (hx3 p h).imp (fun b _ e => .inl e)), BF.or1 (bf_hx3.mono (by omega)) oz.le, DF.or1 (y1) (dj95), DF.or1 (y2) (dj96), DF.or1 (y3) (dj93), DF.or1 (y4) (dj91), DF.or1 (y5) (dj90), ab_or a3 (nx99), by rw [foldl_take hil, ← hey]; exact lg_put hg3 (gasc_mvGs ok.ga) (by simpa using c70) hz9, (fun p hp => by rcases mput_mem2 hp with h | h; rw [h]; exact lastN_le _; exact hl3 p h), hlm2⟩
      · first | omega | (simp only; omega) | (simp; omega)
    ·
     obtain rfl : i = t.ml.length := by omega
     rw [List.take_length] at hqr hg3
     have hmrl := mget_len tm.mo.nodup (gasc_mvRs ok.ra).nodup hqr
     have hrn := cc.rn
     refine CW.exit (hE26 (.exit 2) nofun _ _ (hE24 (.exit 2) nofun _ _ (hX23 _ _ ?_)))
     refine hK21 _ _ (CW.s1 (fun hK32 => CW.region ?_))
     refine LR.v1 (Y.FA vo.pt rfl u'47 rfl s'44) ?_
     refine LR.s1 (S.var1 vo 1 (fSt { s2 with hd := h1, q := q9, rv := n0, rl := [] }) rfl rfl rfl (rfl) s'44 (by rw [fSt_len]; omega) ((st_rv n0 []))) fun H24_1 r24_1 => ?_
     obtain ⟨vo, hs24_1⟩ := r24_1
     replace hs24_1 := hs24_1.md1
     replace ht := ht.upL hs24_1 (DFL.o df23)
     replace va := va.upL hs24_1 (DL.o dj25)
     replace vr := vr.upL hs24_1 (DL.o dj26)
     replace ow := ow.upL hs24_1 (DL.o dj27)
     replace hq := hq.upL hs24_1 (DFL.o df28)
     replace hq9 := fun u => (hq9 u).upL hs24_1 (DFL.o x1)
     replace tm := tm.upL hs24_1 (DL.o dj47.symm)
     replace tl := tl.upL hs24_1 (DL.o dj56.symm)
     replace hx3 := fun p hp_ => (hx3 p hp_).upL hs24_1 (DFL.o y3)
     replace hm0 := hm0.tq hs24_1 (MIL.o (MI.q nx29))
     have hz28 := hs24_1.size
     refine LR.v1 (Y.FA vo.pt rfl u'47 rfl s'45) ?_
     refine LR.s1 (S.var1 vo 2 (fSt { s2 with hd := h1, q := q9, rv := n0, rl := [], lv := n0, ll := [] }) rfl rfl rfl (rfl) s'45 (by rw [fSt_len]; omega) ((st_lv n0 []))) fun H24_3 r24_3 => ?_
     obtain ⟨vo, hs24_3⟩ := r24_3
     replace hs24_3 := hs24_3.md1
     replace ht := ht.upL hs24_3 (DFL.o df23)
     replace va := va.upL hs24_3 (DL.o dj25)
     replace vr := vr.upL hs24_3 (DL.o dj26)
     replace ow := ow.upL hs24_3 (DL.o dj27)
     replace hq := hq.upL hs24_3 (DFL.o df28)
     replace hq9 := fun u => (hq9 u).upL hs24_3 (DFL.o x1)
     replace tm := tm.upL hs24_3 (DL.o dj47.symm)
     replace tl := tl.upL hs24_3 (DL.o dj56.symm)
     replace hx3 := fun p hp_ => (hx3 p hp_).upL hs24_3 (DFL.o y3)
     replace hm0 := hm0.tq hs24_3 (MIL.o (MI.q nx29))
     have hz29 := hs24_3.size
     refine LR.nil (hK32 _ _ (CW.s1 (fun hK33 => CW.s1 (fun hK34 => CW.region ?_))))
     refine LR.m1 ?_
     refine LR.call rfl c'58 rfl (Wd.u rfl) rfl rfl (keysR mb w0 _) (fun v87 H87 r87 => ?_)
     obtain ⟨bx, rfl, hx, hkx, hs87⟩ := r87
     have dj106 : Dj (H3.size + 1) (bx + 1) := Dj.app (Dj.z) vr.lt hkx
     have dj107 : Dj ke (bx + 1) := Dj.app (Dj.z) ow.le hkx
     have dj109 : Dj (H19.size + 1) (bx + 1) := Dj.app (Dj.z) vo.lt hkx
     replace ht := ht.nw hs87
     replace va := va.nw hs87
     replace vr := vr.nw hs87
     replace ow := ow.nw hs87
     replace hq := hq.nw hs87
     replace vo := vo.nw hs87
     replace hq9 := fun u => (hq9 u).nw hs87
     replace tm := tm.nw hs87
     replace tl := tl.nw hs87
     replace hx3 := fun p hp_ => (hx3 p hp_).nw hs87
     replace hm0 := hm0.tr hs87
     have hz30 := hs87.size
     have hle_hx := hx.le
     refine LR.call rfl c'57 rfl (Wd.u rfl) rfl rfl (sortedR bx mb vA mr w0 _ hx tm (by omega)) (fun v88 H88 r88 => ?_)
     obtain ⟨s88, k88, out88, rfl, on, hk88, hout, hs88⟩ := r88
     have dj121 : Dj (H19.size + 1) k88 := Dj.app (Dj.z) vo.lt hk88
     replace ht := ht.nw hs88
     replace va := va.nw hs88
     replace vr := vr.nw hs88
     replace ow := ow.nw hs88
     replace hq := hq.nw hs88
     replace vo := vo.nw hs88
     replace hq9 := fun u => (hq9 u).nw hs88
     replace tm := tm.nw hs88
     replace tl := tl.nw hs88
     replace hx3 := fun p hp_ => (hx3 p hp_).nw hs88
     replace hx := hx.nw hs88
     replace hm0 := hm0.tr hs88
     have hz31 := hs88.size
     have hle_on := on.le
     have hol := nodup_le2 (rise_nodup hout.1) (fun k hk => (hout.2 k).1 hk)
     rw [List.length_map] at hol
     refine LR.v1 (Y.len on.rd rfl u'69 rfl) ?_
     refine LR.m1 (LR.nil (hK34 _ _ ?_))
     refine CW.block (fun _ _ hX35 _ => ?_)
     refine CW.loop (fun (s_ : (Nat) × (SV) × (Nat) × (SV) × (Nat)) => match s_ with | (n3, sr, kr, sl, kl) => [(3, .pointer (some ⟨H2.size, 0, none⟩)), (4, .pointer (some ⟨H3.size, 0, none⟩)), (5, .pointer (some ⟨H19.size, 0, none⟩)), (6, .map (some mb)), (7, .map (some H43.size)), (88, s88.v), (89, .int .i64 (out88.length : Int)), (90, .int .i64 (n3 : Int))])
      (fun (s_ : (Nat) × (SV) × (Nat) × (SV) × (Nat)) (H : Heap) => match s_ with | (n3, sr, kr, sl, kl) => (n3 ≤ out88.length) ∧ (Var 47 H H19.size (fSt { s2 with hd := h1, q := q9, rv := sr, rl := (out88.take n3).map (outR mr), lv := sl, ll := (out88.take n3).map (outG ml2) })) ∧ (Ow kr 71 H fRf 33 sr.v ((out88.take n3).map (outR mr))) ∧ (Ow kl 62 H fLg 2 sl.v ((out88.take n3).map (outG ml2))) ∧ (Nx 0 H88.size kr) ∧ (Nx 0 H88.size kl) ∧ (Dj (H19.size + 1) kr) ∧ (Dj (H19.size + 1) kl) ∧ (Dj kr kl) ∧ Mo (Ms [(H19.size + 1)]) H88 H)
      (fun (s_ : (Nat) × (SV) × (Nat) × (SV) × (Nat)) => match s_ with | (n3, sr, kr, sl, kl) => out88.length - n3) (0, n0, 0, n0, 0) ⟨rfl, rfl, rfl, rfl, rfl, rfl, rfl, rfl, trivial⟩ ?_ ?_
     ·
      exact ⟨(by omega), vo, Ow.nil fRf_len fRf_one, Ow.nil fLg_len fLg_one, Nx.refl _ _, Nx.refl _ _, Dj.z, Dj.z, Dj.z, Mo.refl _ _⟩
     rintro ⟨n3, sr, kr, sl, kl⟩ HL3 hI3 K36 hN36 hE36
     obtain ⟨hn3, vo, owr, owg, nxl_owr, nxl_owg, dj_vo_owr, dj_vo_owg, dj_owr_owg, hlm3⟩ := hI3
     have dj131 : Dj (H3.size + 1) kr := Dj.app (Dj.z) vr.lt nxl_owr
     have dj132 : Dj ke kr := Dj.app (Dj.z) ow.le nxl_owr
     have df134 := DF.app (DF.z) (bf_hq9.mono (by omega)) nxl_owr
     have dj136 : Dj (H43.size + 1) kr := Dj.app (Dj.z) tl.lt nxl_owr
     have df137 := DF.app (DF.z) (bf_hx3.mono (by omega)) nxl_owr
     have nx140 : Nx 0 H0.size kr := Nx.tr (Nx.refl 0 _) nxl_owr hm0.size
     have dj144 : Dj (H3.size + 1) kl := Dj.app (Dj.z) vr.lt nxl_owg
     have dj145 : Dj ke kl := Dj.app (Dj.z) ow.le nxl_owg
     have df147 := DF.app (DF.z) (bf_hq9.mono (by omega)) nxl_owg
     have df150 := DF.app (DF.z) (bf_hx3.mono (by omega)) nxl_owg
     have nx153 : Nx 0 H0.size kl := Nx.tr (Nx.refl 0 _) nxl_owg hm0.size
     replace ht := ht.upL hlm3 (DFL.o df23)
     replace va := va.upL hlm3 (DL.o dj25)
     replace vr := vr.upL hlm3 (DL.o dj26)
     replace ow := ow.upL hlm3 (DL.o dj27)
     replace hq := hq.upL hlm3 (DFL.o df28)
     replace hq9 := fun u => (hq9 u).upL hlm3 (DFL.o x1)
     replace tm := tm.upL hlm3 (DL.o dj47.symm)
     replace tl := tl.upL hlm3 (DL.o dj56.symm)
     replace hx3 := fun p hp_ => (hx3 p hp_).upL hlm3 (DFL.o y3)
     replace hx := hx.upL hlm3 (DL.o dj109.symm)
     replace on := on.upL hlm3 (DL.o dj121.symm)
     replace hm0 := hm0.tq hlm3 (MIL.o (MI.q nx29))
     have hz32 := hlm3.size
     have hle_owr := owr.le
     have hle_owg := owg.le
     have dj154 := dj_vo_owr
     have dj155 := dj_vo_owg
     have dj156 := dj_owr_owg
     have nx_hlm3_vo := Nx.refl (H19.size + 1) H88.size
     have nx157 := nxl_owr
     have nx158 := nxl_owg
     refine CW.s1 (fun hK37 => CW.region ?_)
     refine LR.v1 (Y.lss rfl rfl rfl) (LR.nil (hK37 _ _ ?_))
     refine CW.s2 (fun hK38 hE38 => ?_)
     refine CW.condp rfl (fun c91 => ?_) (fun c91 => ?_)
     ·
      refine CW.skip (hK38 _ _ (CW.s1 (fun hK39 => CW.block (fun _ hK40 _ _ => CW.s1 (fun hK41 => CW.region ?_)))))
      have hil : n3 < out88.length := by omega
      obtain ⟨x, hex⟩ : ∃ x, x = out88[n3] := ⟨_, rfl⟩
      have hto1 : (out88.take (n3 + 1)).map (outR mr) = (out88.take n3).map (outR mr) ++ [outR mr x] := by rw [List.take_succ_eq_append_getElem hil, List.map_append, ← hex]; rfl
      have hto2 : (out88.take (n3 + 1)).map (outG ml2) = (out88.take n3).map (outG ml2) ++ [outG ml2 x] := by rw [List.take_succ_eq_append_getElem hil, List.map_append, ← hex]; rfl
      have htl : (out88.take n3).length = n3 := by rw [List.length_take]; omega
      refine LR.v1 (Y.owAddr on (n3) rfl u'69 s'9 rfl rfl (by first | rfl | omega) (by first | omega | (simp; omega) | (simp; done))) ?_
      refine LR.v1 (Y.cast (v2 := Str x) (Y.load1 (on.pt (j := n3) (by first | omega | (simp; omega) | (simp; done))) rfl a'9 rfl) (by rw [hex])) ?_
      refine LR.a1 (LR.nil (hK41 _ _ ?_))
      refine CW.s1 (fun hK42 => CW.region ?_)
      refine LR.v1 (Y.FA vo.pt rfl u'47 rfl s'44) ?_
      refine LR.v1 (Y.load1 (vo.pt.drop 1) rfl a'44 rfl) ?_
      refine LR.m1 ?_
      refine LR.m1 ?_
      refine LR.m1 ?_
      refine LR.v1 (Y.lookup (z0 := Zid) tm.mo keyStr rfl u'130 Tryz.underlying9 z'26 rfl rfl) ?_
      refine LR.v1 (Y.build (v := .agg (fRf (outR mr x)).toArray) rfl rfl (by intro w; exact build_rf _ _)) ?_
      refine LR.z1 (Z.litw _ ([outR mr x]) rfl inf44 rfl rfl rfl (by decide) (by decide) fRf_len fRf_one (rfl)) fun v101 H101 r101 => ?_
      obtain ⟨nw101, hs101, ob101, hH101⟩ := r101
      have hzs101 : H101.size = HL3.size + 1 := by rw [hH101]; simp
      replace hq9 := fun u => (hq9 u).nw hs101
      replace tl := tl.nw hs101
      replace hx3 := fun p hp_ => (hx3 p hp_).nw hs101
      replace vo := vo.nw hs101
      replace owr := owr.nw hs101
      replace owg := owg.nw hs101
      replace hlm3 := hlm3.trN hs101
      have hz33 := hs101.size
      refine LR.z1 (Z.apnd owr nw101.rd rfl inf44 rfl rfl (by simp; omega) (by simp; omega)) fun v102 H102 r102 => ?_
      obtain ⟨k102, owr, hk102, hs102⟩ := r102
      replace hk102 : Nx kr H101.size k102 := hk102
      replace hs102 := hs102.md
      have dj188 : Dj (H19.size + 1) k102 := Dj.app (dj154) vo.lt hk102
      have dj189 : Dj kl k102 := Dj.app (dj156.symm) owg.le hk102
      have nx192 : Nx 0 H88.size k102 := Nx.tr (nx157) hk102 hlm3.size
      replace hq9 := fun u => (hq9 u).upL hs102 (DFL.o df134)
      replace tl := tl.upL hs102 (DL.o dj136)
      replace hx3 := fun p hp_ => (hx3 p hp_).upL hs102 (DFL.o df137)
      replace vo := vo.upL hs102 (DL.o dj154)
      replace owg := owg.upL hs102 (DL.o dj156.symm)
      replace hlm3 := hlm3.trL hs102 (MIL.o (MI.q nx157))
      have hz34 := hs102.size
      have hle_owr := owr.le
      obtain ⟨s102, rfl⟩ : ∃ s : SV, v102 = s.v := ⟨toSV v102, owr.sv.symm⟩
      refine LR.v1 (Y.FA vo.pt rfl u'47 rfl s'44) ?_
      refine LR.s1 (S.var1 vo 1 (fSt { s2 with hd := h1, q := q9, rv := s102, rl := (out88.take n3).map (outR mr) ++ [outR mr x], lv := sl, ll := (out88.take n3).map (outG ml2) }) rfl rfl rfl (rfl) s'44 (by rw [fSt_len]; omega) ((st_rv _ _))) fun H28_10 r28_10 => ?_
      obtain ⟨vo, hs28_10⟩ := r28_10
      replace hs28_10 := hs28_10.md1
      replace hq9 := fun u => (hq9 u).upL hs28_10 (DFL.o x1)
      replace tl := tl.upL hs28_10 (DL.o dj56.symm)
      replace hx3 := fun p hp_ => (hx3 p hp_).upL hs28_10 (DFL.o y3)
      replace owr := owr.upL hs28_10 (DL.o dj188.symm)
      replace owg := owg.upL hs28_10 (DL.o dj155.symm)
      replace hlm3 := hlm3.trL hs28_10 (MIL.o (MI.r nx_hlm3_vo))
      have hz35 := hs28_10.size
      refine LR.nil (hK42 _ _ (CW.region ?_))
      refine LR.v1 (Y.FA vo.pt rfl u'47 rfl s'45) ?_
      refine LR.v1 (Y.load1 (vo.pt.drop 2) rfl a'45 rfl) ?_
      refine LR.m1 ?_
      refine LR.m1 ?_
      refine LR.m1 ?_
      refine LR.v1 (Y.lookup (z0 := zG) tl.mo keyStr rfl u'132 Tryz.underlying9 z'60 rfl rfl) ?_
      refine LR.v1 (Y.build (v := .agg (fLg (outG ml2 x)).toArray) rfl rfl (by intro w; kernel_rfl)) ?_
      refine LR.z1 (Z.litw _ ([outG ml2 x]) rfl inf45 rfl rfl rfl (by decide) (by decide) fLg_len fLg_one (rfl)) fun v111 H111 r111 => ?_
      obtain ⟨nw111, hs111, ob111, hH111⟩ := r111
      have hzs111 : H111.size = H28_10.size + 1 := by rw [hH111]; simp
      replace hq9 := fun u => (hq9 u).nw hs111
      replace hx3 := fun p hp_ => (hx3 p hp_).nw hs111
      replace vo := vo.nw hs111
      replace owr := owr.nw hs111
      replace owg := owg.nw hs111
      replace hlm3 := hlm3.trN hs111
      have hz36 := hs111.size
      refine LR.z1 (Z.apnd owg nw111.rd rfl inf45 rfl rfl (by simp; omega) (by simp; omega)) fun v112 H112 r112 => ?_
      obtain ⟨k112, owg, hk112, hs112⟩ := r112
      replace hk112 : Nx kl H111.size k112 := hk112
      replace hs112 := hs112.md
      have dj222 : Dj (H19.size + 1) k112 := Dj.app (dj155) vo.lt hk112
      have dj223 : Dj k102 k112 := Dj.app (dj189.symm) owr.le hk112
      have nx226 : Nx 0 H88.size k112 := Nx.tr (nx158) hk112 hlm3.size
      replace hq9 := fun u => (hq9 u).upL hs112 (DFL.o df147)
      replace hx3 := fun p hp_ => (hx3 p hp_).upL hs112 (DFL.o df150)
      replace vo := vo.upL hs112 (DL.o dj155)
      replace owr := owr.upL hs112 (DL.o dj189.symm)
      replace hlm3 := hlm3.trL hs112 (MIL.o (MI.q nx158))
      have hz37 := hs112.size
      have hle_owg := owg.le
      obtain ⟨s112, rfl⟩ : ∃ s : SV, v112 = s.v := ⟨toSV v112, owg.sv.symm⟩
      refine LR.v1 (Y.FA vo.pt rfl u'47 rfl s'45) ?_
      refine LR.s1 (S.var1 vo 2 (fSt { s2 with hd := h1, q := q9, rv := s102, rl := (out88.take n3).map (outR mr) ++ [outR mr x], lv := s112, ll := (out88.take n3).map (outG ml2) ++ [outG ml2 x] }) rfl rfl rfl (rfl) s'45 (by rw [fSt_len]; omega) ((st_lv _ _))) fun H29_10 r29_10 => ?_
      obtain ⟨vo, hs29_10⟩ := r29_10
      replace hs29_10 := hs29_10.md1
      replace hq9 := fun u => (hq9 u).upL hs29_10 (DFL.o x1)
      replace hx3 := fun p hp_ => (hx3 p hp_).upL hs29_10 (DFL.o y3)
      replace owr := owr.upL hs29_10 (DL.o dj188.symm)
      replace owg := owg.upL hs29_10 (DL.o dj222.symm)
      replace hlm3 := hlm3.trL hs29_10 (MIL.o (MI.r nx_hlm3_vo))
      have hz38 := hs29_10.size
      refine LR.nil (hK40 _ _ (hK39 _ _ (CW.region ?_)))
      refine LR.v1 (Y.addi rfl rfl rfl (by omega)) ?_
      refine LR.m1 (LR.nil ?_)
      refine QN.sub (hN36 (n3 + 1, s102, k102, s112, k112) _ ?_ ?_) ⟨rfl, rfl, rfl, rfl, rfl, rfl, (iv (by omega)), (iv (by omega)), trivial⟩
      · exact ⟨(by omega), (by rw [hto1, hto2]; exact vo), (by rw [hto1]; exact owr), (by rw [hto2]; exact owg), nx192, nx226, dj188, dj222, dj223, hlm3⟩
      · first | omega | (simp only; omega) | (simp; omega)
     ·
      obtain rfl : n3 = out88.length := by omega
      rw [List.take_length] at vo owr owg
      refine CW.exit (hE38 (.exit 4) nofun _ _ (hE36 (.exit 4) nofun _ _ (hX35 _ _ ?_)))
      refine hK33 _ _ (CW.s1 (fun hK43 => CW.s1 (fun hK44 => CW.region ?_)))
      refine LR.v1 (Y.FA va.pt rfl u'32 rfl s'30) ?_
      refine LR.v1 (Y.load1 va.pt.tx74 rfl a'30 rfl) ?_
      refine LR.v1 (Y.len ht.e rfl u'30 rfl) ?_
      refine LR.m1 (LR.nil (hK44 _ _ ?_))
      refine CW.block (fun _ _ hX45 _ => ?_)
      refine CW.loop (fun (s_ : (Nat) × (SV) × (Nat) × (List TMm) × (Nat → Prop)) => match s_ with | (i4, se, k4, l4, G4) => [(4, .pointer (some ⟨H3.size, 0, none⟩)), (5, .pointer (some ⟨H19.size, 0, none⟩)), (116, t.ev.v), (117, .int .i64 (t.el.length : Int)), (118, .int .i64 (i4 : Int))])
       (fun (s_ : (Nat) × (SV) × (Nat) × (List TMm) × (Nat → Prop)) (H : Heap) => match s_ with | (i4, se, k4, l4, G4) => (i4 ≤ t.el.length) ∧ (Var 47 H H19.size (fSt { s2 with hd := h1, q := q9, rv := sr, rl := (out88.map (outR mr)), lv := sl, ll := (out88.map (outG ml2)), ev := se, el := l4 })) ∧ (Ow k4 68 H fMm 33 se.v l4) ∧ (∀ y ∈ l4, Rd G4 H fB 1 y.v.v y.d) ∧ (BF G4 H.size) ∧ (DF G4 (H19.size + 1)) ∧ (DF G4 k4) ∧ (DF G4 (H3.size + 1)) ∧ (∀ c, G4 c → H0.size ≤ c) ∧ (elM l4 = adM s.m.me (t.el.take i4)) ∧ (Nx ke HL3.size k4) ∧ (Dj (H19.size + 1) k4) ∧ Mo (Ms [(H19.size + 1), ke]) HL3 H)
       (fun (s_ : (Nat) × (SV) × (Nat) × (List TMm) × (Nat → Prop)) => match s_ with | (i4, se, k4, l4, G4) => t.el.length - i4) (0, s2.ev, ke, s2.el, G) ⟨rfl, rfl, rfl, rfl, rfl, trivial⟩ ?_ ?_
      ·
       exact ⟨(by omega), vo, ow, hq.d, (bf_hq.mono (by omega)), (df28), (hdf), (df21), hab0, congrArg MSt.me hm2, Nx.refl _ _, dj27.symm, Mo.refl _ _⟩
      rintro ⟨i4, se, k4, l4, G4⟩ HL4 hI4 K46 hN46 hE46
      obtain ⟨hi4, vo, ow, hx4, bf_hx4, u1, u2, u3, a4, hl4, nxl_ow, dj_vo_ow, hlm4⟩ := hI4
      have dj229 : Dj (H3.size + 1) k4 := Dj.app (dj17) vr.lt nxl_ow
      have df231 := DF.app (x2) (bf_hq9.mono (by omega)) nxl_ow
      have df234 := DF.app (y4) (bf_hx3.mono (by omega)) nxl_ow
      have nx239 : Nx 0 H0.size k4 := Nx.tr (nx18) nxl_ow hm0.size
      replace ht := ht.upL hlm4 (DFL.cons df23 (DFL.o df14))
      replace vr := vr.upL hlm4 (DL.cons dj26 (DL.o dj17))
      replace hq9 := fun u => (hq9 u).upL hlm4 (DFL.cons x1 (DFL.o x2))
      replace hx3 := fun p hp_ => (hx3 p hp_).upL hlm4 (DFL.cons y3 (DFL.o y4))
      replace hx := hx.upL hlm4 (DL.cons dj109.symm (DL.o dj107.symm))
      replace owr := owr.upL hlm4 (DL.cons dj154.symm (DL.o dj132.symm))
      replace owg := owg.upL hlm4 (DL.cons dj155.symm (DL.o dj145.symm))
      replace hm0 := hm0.tq hlm4 (MIL.cons (MI.q nx29) (MIL.o (MI.q nx18)))
      have hz39 := hlm4.size
      have hle_ow := ow.le
      have dj240 := dj_vo_ow
      have nx_hlm4_vo := Nx.refl (H19.size + 1) HL3.size
      have nx241 := nxl_ow
      have hl4l := congrArg List.length hl4
      have hab4 := adM_bd (el := t.el) (l := s.m.me) (n := i4)
      simp only [elM, List.length_map] at hl4l
      have hga4 : MAsc l4 := MAsc.of (by rw [hl4]; exact gasc_adM ok.ma)
      refine CW.s1 (fun hK47 => CW.region ?_)
      refine LR.v1 (Y.lss rfl rfl rfl) (LR.nil (hK47 _ _ ?_))
      refine CW.s2 (fun hK48 hE48 => ?_)
      refine CW.condp rfl (fun c119 => ?_) (fun c119 => ?_)
      ·
       refine CW.skip (hK48 _ _ (CW.s1 (fun hK49 => CW.block (fun _ hK50 _ _ => CW.s1 (fun hK51 => CW.region ?_)))))
       have hil : i4 < t.el.length := by omega
       obtain ⟨y, hey⟩ : ∃ q, q = t.el[i4] := ⟨_, rfl⟩
       have hmy : y ∈ t.el := by rw [hey]; exact List.getElem_mem hil
       have hyd : y.d.length ≤ 65536 := by
        have h9 := memAll_zero cc.me y hmy
        unfold memE at h9
        split at h9
        · cases h9
        · split at h9
          · cases h9
          · omega
       refine LR.e1 (g := fun ad => .pointer (some ad)) (Y.iF ht.e (i4) rfl u'30 s'68 rfl rfl) fun ad120 pt120 => ?_
       refine LR.v1 (Y.cast (v2 := .agg (fMm y).toArray) (Y.loadN pt120.pt rfl a'68 s'68 (fMm_len _) rfl) (by rw [hey])) ?_
       refine LR.z1 (Z.allocv rfl z'68) fun v15 H15 r15 => ?_
       obtain ⟨rfl, vn, hs15, ob15, hH15⟩ := r15
       have hzs15 : H15.size = HL4.size + 1 := by rw [hH15]; simp
       have df243 := (DF.new (bf_ht.mono hm0.size) : DF _ (HL4.size + 1))
       have dj244 : Dj (H3.size + 1) (HL4.size + 1) := Dj.new vr.lt
       have dj245 : Dj k4 (HL4.size + 1) := Dj.new ow.le
       have df247 := (DF.new (bf_hq9.mono (by omega)) : DF _ (HL4.size + 1))
       have df250 := (DF.new (bf_hx3.mono (by omega)) : DF _ (HL4.size + 1))
       have dj255 : Dj (H19.size + 1) (HL4.size + 1) := Dj.new vo.lt
       have df256 := (DF.new (bf_hx4.mono (by omega)) : DF _ (HL4.size + 1))
       have nx258 : Nx 0 H0.size (HL4.size + 1) := Nx.new hm0.size
       have nx259 : Nx 0 HL3.size (HL4.size + 1) := Nx.new hlm4.size
       replace ht := ht.nw hs15
       replace vr := vr.nw hs15
       replace ow := ow.nw hs15
       replace hq9 := fun u => (hq9 u).nw hs15
       replace hx3 := fun p hp_ => (hx3 p hp_).nw hs15
       replace vo := vo.nw hs15
       replace hx4 := fun y hy_ => (hx4 y hy_).nw hs15
       replace hm0 := hm0.tr hs15
       replace hlm4 := hlm4.trN hs15
       have hz40 := hs15.size
       refine LR.s1 (S.var vn (_) (fMm y) rfl rfl rfl rfl (fMm_one y) s'68 (fMm_len _) (by decide) ((splice_all2 (fMm_len _).symm))) fun H33_3 r33_3 => ?_
       obtain ⟨vn, hs33_3⟩ := r33_3
       replace hs33_3 := hs33_3.md1
       replace ht := ht.upL hs33_3 (DFL.o df243)
       replace vr := vr.upL hs33_3 (DL.o dj244)
       replace ow := ow.upL hs33_3 (DL.o dj245)
       replace hq9 := fun u => (hq9 u).upL hs33_3 (DFL.o df247)
       replace hx3 := fun p hp_ => (hx3 p hp_).upL hs33_3 (DFL.o df250)
       replace vo := vo.upL hs33_3 (DL.o dj255)
       replace hx4 := fun y hy_ => (hx4 y hy_).upL hs33_3 (DFL.o df256)
       replace hm0 := hm0.tq hs33_3 (MIL.o (MI.q nx258))
       replace hlm4 := hlm4.trL hs33_3 (MIL.o (MI.q nx259))
       have hz41 := hs33_3.size
       refine LR.nil (hK51 _ _ (CW.s1 (fun hK52 => CW.region ?_)))
       refine LR.v1 (Y.FA vn.pt rfl u'68 rfl s'57) ?_
       refine LR.v1 (Y.load1 vn.pt.mm32 rfl a'57 rfl) ?_
       refine LR.call rfl c'59 rfl (Wd.u rfl) rfl rfl (bclone_ct y.v.v y.d w0 _ (ht.d y hmy).any (by omega)) (fun v124 H124 r124 => ?_)
       obtain ⟨s124, k124, rfl, od, hk124, hs124⟩ := r124
       have dj262 : Dj (H3.size + 1) k124 := Dj.app (Dj.z) vr.lt hk124
       have dj263 : Dj k4 k124 := Dj.app (Dj.z) ow.le hk124
       have dj273 : Dj (H19.size + 1) k124 := Dj.app (Dj.z) vo.lt hk124
       have dj275 : Dj (HL4.size + 1) k124 := Dj.app (Dj.z) vn.lt hk124
       have nx276 : Nx 0 H0.size k124 := Nx.tr (Nx.refl 0 _) hk124 hm0.size
       replace ow := ow.nw hs124
       replace hq9 := fun u => (hq9 u).nw hs124
       replace hx3 := fun p hp_ => (hx3 p hp_).nw hs124
       replace vo := vo.nw hs124
       replace hx4 := fun y hy_ => (hx4 y hy_).nw hs124
       replace vn := vn.nw hs124
       replace hlm4 := hlm4.trN hs124
       have hz42 := hs124.size
       have hle_od := od.le
       refine LR.v1 (Y.FA vn.pt rfl u'68 rfl s'57) ?_
       refine LR.s1 (S.var1 vn 32 (fMm ⟨y.k, s124, y.d⟩) rfl rfl rfl (rfl) s'57 (by rw [fMm_len]; omega) ((mm_v _ _))) fun H34_4 r34_4 => ?_
       obtain ⟨vn, hs34_4⟩ := r34_4
       replace hs34_4 := hs34_4.md1
       replace ow := ow.upL hs34_4 (DL.o dj245)
       replace hq9 := fun u => (hq9 u).upL hs34_4 (DFL.o df247)
       replace hx3 := fun p hp_ => (hx3 p hp_).upL hs34_4 (DFL.o df250)
       replace vo := vo.upL hs34_4 (DL.o dj255)
       replace hx4 := fun y hy_ => (hx4 y hy_).upL hs34_4 (DFL.o df256)
       replace od := od.upL hs34_4 (DL.o dj275.symm)
       replace hlm4 := hlm4.trL hs34_4 (MIL.o (MI.q nx259))
       have hz43 := hs34_4.size
       refine LR.nil (hK52 _ _ (CW.s1 (fun hK53 => CW.region ?_)))
       refine LR.v1 (Y.FA vo.pt rfl u'47 rfl s'30) ?_
       refine LR.v1 (Y.load1 vo.pt.st73 rfl a'30 rfl) ?_
       refine LR.v1 (Y.loadN vn.pt rfl a'68 s'68 (fMm_len _) rfl) ?_
       refine LR.call rfl c'60 rfl (Wd.u rfl) rfl rfl (bsf_ct se.v l4 ⟨y.k, s124, y.d⟩ w0 _ ow.rd.any (by omega) hga4) (fun v130 H130 r130 => ?_)
       obtain ⟨p, fd, rfl, hpa, hfd, hs130⟩ := r130
       replace ow := ow.nw hs130
       replace hq9 := fun u => (hq9 u).nw hs130
       replace hx3 := fun p hp_ => (hx3 p hp_).nw hs130
       replace vo := vo.nw hs130
       replace hx4 := fun y hy_ => (hx4 y hy_).nw hs130
       replace vn := vn.nw hs130
       replace od := od.nw hs130
       replace hlm4 := hlm4.trN hs130
       have hz44 := hs130.size
       obtain ⟨hp0, hp1, hp2⟩ := hpa
       refine LR.m1 ?_
       refine LR.v1 (Y.extract rfl rfl rfl) ?_
       refine LR.v1 (Y.extract rfl rfl rfl) ?_
       refine LR.a1 ?_
       refine LR.a1 (LR.nil (hK53 _ _ ?_))
       refine CW.s1 (fun hK54 => CW.region ?_)
       refine LR.m1 (LR.nil (hK54 _ _ ?_))
       refine CW.cond rfl (fun c133 => ?_) (fun c133 => ?_)
       ·
        obtain ⟨hp4, hp5⟩ := hfd.1 c133
        refine CW.region ?_
        refine LR.v1 (Y.FA vo.pt rfl u'47 rfl s'30) ?_
        refine LR.v1 (Y.load1 vo.pt.st73 rfl a'30 rfl) ?_
        refine LR.m1 ?_
        refine LR.v1 (Y.loadN vn.pt rfl a'68 s'68 (fMm_len _) rfl) ?_
        refine LR.v1 (Y.owAddr ow (p) rfl u'30 s'68 rfl rfl (by first | rfl | omega) (by omega)) ?_
        refine LR.s1 (S.owwN ow p 0 (⟨y.k, s124, y.d⟩ : TMm) (fMm ⟨y.k, s124, y.d⟩) rfl rfl rfl rfl (fMm_one _) s'68 (fMm_len _) hp4 (by decide) (splice_all2 (by rw [fMm_len, fMm_len])).symm) fun H37_5 r37_5 => ?_
        obtain ⟨ow, hs37_5⟩ := r37_5
        replace hs37_5 := hs37_5.md
        replace hq9 := fun u => (hq9 u).upL hs37_5 (DFL.o df231)
        replace hx3 := fun p hp_ => (hx3 p hp_).upL hs37_5 (DFL.o df234)
        replace vo := vo.upL hs37_5 (DL.o dj240)
        replace hx4 := fun y hy_ => (hx4 y hy_).upL hs37_5 (DFL.o u2)
        replace od := od.upL hs37_5 (DL.o dj263.symm)
        replace hlm4 := hlm4.trL hs37_5 (MIL.o (MI.r nx241))
        have hz45 := hs37_5.size
        refine LR.nil (hK50 _ _ (hK49 _ _ (CW.region ?_)))
        refine LR.v1 (Y.addi rfl rfl rfl (by omega)) ?_
        refine LR.m1 (LR.nil ?_)
        refine QN.sub (hN46 (i4 + 1, se, k4, l4.set p ⟨y.k, s124, y.d⟩, fun b => G4 b ∨ b + 1 = k124) _ ?_ ?_) ⟨rfl, rfl, rfl, (iv (by omega)), (iv (by omega)), trivial⟩
        · exact ⟨(by omega), vo, ow, setR p hx4 (fun b e => .inl e) (od.rd.imp (fun b _ e => .inr e)), BF.or1 (bf_hx4.mono (by omega)) od.le, DF.or1 (u1) (dj273), DF.or1 (u2) (dj263), DF.or1 (u3) (dj262), ab_or a4 (nx276), by rw [adM_take hil, ← hey, ← hl4]; exact el_set (x := ⟨y.k, s124, y.d⟩) hp1 hp4 hp5, nx241, dj240, hlm4⟩
        · first | omega | (simp only; omega) | (simp; omega)
       ·
        have hp4 : ¬ _ := fun h => by rw [hfd.2 h] at c133; cases c133
        refine CW.region ?_
        refine LR.v1 (Y.FA vo.pt rfl u'47 rfl s'30) ?_
        refine LR.v1 (Y.load1 vo.pt.st73 rfl a'30 rfl) ?_
        refine LR.m1 ?_
        refine LR.v1 (Y.loadN vn.pt rfl a'68 s'68 (fMm_len _) rfl) ?_
        refine LR.z1 (Z.litz _ [(⟨y.k, s124, y.d⟩ : TMm)] rfl inf30 rfl rfl rfl (by decide) (by decide) fMm_len fMm_one rfl) fun v143 H143 r143 => ?_
        obtain ⟨nw143, hs143, ob143, hH143⟩ := r143
        have hzs143 : H143.size = H130.size + 1 := by rw [hH143]; simp
        have dj281 : Dj k4 (H130.size + 1) := Dj.new ow.le
        replace ow := ow.nw hs143
        replace hq9 := fun u => (hq9 u).nw hs143
        replace hx3 := fun p hp_ => (hx3 p hp_).nw hs143
        replace vo := vo.nw hs143
        replace hx4 := fun y hy_ => (hx4 y hy_).nw hs143
        replace od := od.nw hs143
        replace hlm4 := hlm4.trN hs143
        have hz46 := hs143.size
        refine LR.call rfl c'63 rfl (Wd.u rfl) rfl rfl (insert_ct k4 _ se.v _ l4 ⟨y.k, s124, y.d⟩ p w0 _ ow nw143 (dj281) hp0 ⟨ob143, by rw [hH143]; simp⟩ (by omega)) (fun v144 H144 r144 => ?_)
        have ql305 := vo.lt
        have ql307 := od.le
        obtain ⟨v144_, k144, rfl, ow, hkr144, hs144⟩ := r144
        have dj321 : Dj (H19.size + 1) k144 := Dj.app (dj240) ql305 hkr144
        have df322 := DF.app (u2) (bf_hx4.mono (by omega)) hkr144
        have dj324 : Dj k124 k144 := Dj.app (dj263.symm) ql307 hkr144
        have nx327 : Nx ke HL3.size k144 := Nx.tr (nx241) hkr144 hlm4.size
        replace hq9 := fun u => (hq9 u).upL hs144 (DFL.o df231)
        replace hx3 := fun p hp_ => (hx3 p hp_).upL hs144 (DFL.o df234)
        replace vo := vo.upL hs144 (DL.o dj240)
        replace hx4 := fun y hy_ => (hx4 y hy_).upL hs144 (DFL.o u2)
        replace od := od.upL hs144 (DL.o dj263.symm)
        replace hlm4 := hlm4.trL hs144 (MIL.o (MI.r nx241))
        have hz47 := hs144.size
        have hle_ow := ow.le
        obtain ⟨s144, rfl⟩ : ∃ s : SV, v144 = s.v := ⟨toSV v144, ow.sv.symm⟩
        refine LR.v1 (Y.FA vo.pt rfl u'47 rfl s'30) ?_
        refine LR.s1 (S.var1 vo 73 (fSt { s2 with hd := h1, q := q9, rv := sr, rl := (out88.map (outR mr)), lv := sl, ll := (out88.map (outG ml2)), ev := s144, el := l4.take p ++ ⟨y.k, s124, y.d⟩ :: l4.drop p }) rfl rfl rfl (rfl) s'30 (by rw [fSt_len]; omega) ((st_ev _ _))) fun H38_7 r38_7 => ?_
        obtain ⟨vo, hs38_7⟩ := r38_7
        replace hs38_7 := hs38_7.md1
        replace ow := ow.upL hs38_7 (DL.o dj321.symm)
        replace hq9 := fun u => (hq9 u).upL hs38_7 (DFL.o x1)
        replace hx3 := fun p hp_ => (hx3 p hp_).upL hs38_7 (DFL.o y3)
        replace hx4 := fun y hy_ => (hx4 y hy_).upL hs38_7 (DFL.o u1)
        replace od := od.upL hs38_7 (DL.o dj273.symm)
        replace hlm4 := hlm4.trL hs38_7 (MIL.o (MI.r nx_hlm4_vo))
        have hz48 := hs38_7.size
        refine LR.nil (hK50 _ _ (hK49 _ _ (CW.region ?_)))
        refine LR.v1 (Y.addi rfl rfl rfl (by omega)) ?_
        refine LR.m1 (LR.nil ?_)
        refine QN.sub (hN46 (i4 + 1, s144, k144, l4.take p ++ ⟨y.k, s124, y.d⟩ :: l4.drop p, fun b => G4 b ∨ b + 1 = k124) _ ?_ ?_) ⟨rfl, rfl, rfl, (iv (by omega)), (iv (by omega)), trivial⟩
        · exact ⟨(by omega), vo, ow, insR p hx4 (fun b e => .inl e) (od.rd.imp (fun b _ e => .inr e)), BF.or1 (bf_hx4.mono (by omega)) od.le, DF.or1 (u1) (dj273), DF.or1 (df322) (dj324.symm), DF.or1 (u3) (dj262), ab_or a4 (nx276), by rw [adM_take hil, ← hey, ← hl4]; exact el_ins (x := ⟨y.k, s124, y.d⟩) hp1 hp2 hp0 hp4, nx327, dj321, hlm4⟩
        · first | omega | (simp only; omega) | (simp; omega)
      ·
       obtain rfl : i4 = t.el.length := by omega
       rw [List.take_length] at hl4
       refine CW.exit (hE48 (.exit 6) nofun _ _ (hE46 (.exit 6) nofun _ _ (hX45 _ _ ?_)))
       refine hK43 _ _ (CW.s1 (fun hK55 => CW.region ?_))
       refine LR.v1 (Y.loadN vo.pt rfl a'47 s'47 (fSt_len _) rfl) ?_
       refine LR.s1 (S.var vr (_) (fSt { s2 with hd := h1, q := q9, rv := sr, rl := (out88.map (outR mr)), lv := sl, ll := (out88.map (outG ml2)), ev := se, el := l4 }) rfl rfl rfl rfl (fSt_one _) s'47 (fSt_len _) (by decide) ((splice_all2 (fSt_len _).symm))) fun H40_1 r40_1 => ?_
       obtain ⟨vr, hs40_1⟩ := r40_1
       replace hs40_1 := hs40_1.md1
       replace ow := ow.upL hs40_1 (DL.o dj229.symm)
       replace hq9 := fun u => (hq9 u).upL hs40_1 (DFL.o x3)
       replace hx3 := fun p hp_ => (hx3 p hp_).upL hs40_1 (DFL.o y5)
       replace hx := hx.upL hs40_1 (DL.o dj106.symm)
       replace owr := owr.upL hs40_1 (DL.o dj131.symm)
       replace owg := owg.upL hs40_1 (DL.o dj144.symm)
       replace hx4 := fun y hy_ => (hx4 y hy_).upL hs40_1 (DFL.o u3)
       replace hm0 := hm0.tq hs40_1 (MIL.o (MI.q nx12))
       have hz49 := hs40_1.size
       refine LR.nil (hK55 _ _ ?_)
       refine CW.ret (hret .ret (.inr rfl) _ _ _ (resC rfl rfl vr.pt a'47 s'47 (fSt_len _)) ?_)
       exact ⟨{ s2 with hd := h1, q := q9, rv := sr, rl := (out88.map (outR mr)), lv := sl, ll := (out88.map (outG ml2)), ev := se, el := l4 }, rfl, ⟨owr.rd.imp (fun b _ e => by have q1 := (nx140); unfold Nx at q1; omega), owg.rd.imp (fun b _ e => by have q1 := (nx153); unfold Nx at q1; omega), (fun y hy => by obtain ⟨x, hx, e⟩ := List.mem_map.1 hy; rw [← e]; exact (row_of hx3 rfl).imp (fun b _ e => a3 b e)), (hq9 ()).imp (fun b _ e => a9 b e), ow.rd.imp (fun b _ e => by have q1 := (nx239); unfold Nx at q1; omega), (fun y hy => (hx4 y hy).imp (fun b _ e => a4 b e))⟩, by
        have e1 : h1 = if t.hh = true then t.hd else s.m.hd := by rw [hh1]; congr 1; exact congrArg MSt.hd hm2
        have e2 := fin_rf (gasc_mvRs ok.ra) hqr hout.1 hout.2
        have e3 := fin_lg (gasc_mvGs ok.ga) (keys_mv ok.lk) hqr hg3 hout.1 hout.2
        show MSt.mk h1 (rlM _) (llM _) q9.p (elM l4) = _
        rw [e1, e2, e3, hp9, hl4]; rfl, hm0⟩
end Go.Proofs.YtfjmpninmdjcaaaGreatDoor.RefI

namespace Go.Proofs.YtfjmpninmdjcaaaGreatDoor.DelA
open E Go.RowKit Num
set_option maxRecDepth 20000
def be32 (n : Nat) : List UInt8 := [UInt8.ofNat (n / 2 ^ 24), UInt8.ofNat (n / 2 ^ 16), UInt8.ofNat (n / 2 ^ 8), UInt8.ofNat n]
def bev (v : Nat) (l : List UInt8) : Nat := l.foldl (fun v x => v * 256 + x.toNat) v
theorem be32_len (n : Nat) : (be32 n).length = 4 := rfl
theorem num_be32 (n : Nat) (h : n < 18446744073709551616) : numL 4 (UInt64.ofNat n) = be32 n := by
 have e : ∀ j, (shrw_u64 (UInt64.ofNat n) j).toNat = n / 2 ^ j := fun j => by rw [shrw_u64_toNat, UInt64.toNat_ofNat', Nat.mod_eq_of_lt h]
 simp only [numL, e, be32]; simp
theorem bev_lt : ∀ (l : List UInt8) (v : Nat), bev v l < (v + 1) * 256 ^ l.length
 | [], v => by simp [bev]
 | x :: l, v => by
   have hx := x.toNat_lt
   have := bev_lt l (v * 256 + x.toNat)
   have e : bev v (x :: l) = bev (v * 256 + x.toNat) l := rfl
   rw [e, List.length_cons, Nat.pow_succ]
   refine Nat.lt_of_lt_of_le this ?_
   have : v * 256 + x.toNat + 1 ≤ (v + 1) * 256 := by omega
   calc (v * 256 + x.toNat + 1) * 256 ^ l.length ≤ ((v + 1) * 256) * 256 ^ l.length := Nat.mul_le_mul_right _ this
    _ = (v + 1) * (256 ^ l.length * 256) := by rw [Nat.mul_assoc, Nat.mul_comm 256]
theorem bev4 (l : List UInt8) (h : l.length ≤ 4) : bev 0 l < 4294967296 := by
 have := bev_lt l 0
 have h2 : 256 ^ l.length ≤ 256 ^ 4 := Nat.pow_le_pow_right (by decide) h
 omega
theorem or256 (a : Nat) (x : UInt8) : a * 2 ^ 8 ||| x.toNat = a * 256 + x.toNat := by
 rw [Nat.mul_comm, ← Nat.two_pow_add_eq_or_of_lt x.toNat_lt]
end Go.Proofs.YtfjmpninmdjcaaaGreatDoor.DelA

namespace Go.Proofs.YtfjmpninmdjcaaaGreatDoor.SumA
open E Go.RowKit
set_option maxRecDepth 20000
def rotr (x : UInt32) (j : Nat) : UInt32 := shrw_u32 x j ||| shlw_u32 x (32 - j)
theorem and31 : ∀ j : Nat, j < 32 → 0 < j → (UInt64.ofNat (18446744073709551616 - j) &&& UInt64.ofNat 31) = UInt64.ofNat (32 - j) := by decide +kernel
theorem rotl_ct (x : UInt32) (j : Nat) (w0 : World) (H0 : Heap)
 (h0 : 0 < j) (h1 : j < 32) :
 Ct Tryz.prog w0 280 #[.int .u32 x.toNat, .int .i64 (-(j : Int))] H0 (fun r H2 => r = .int .u32 (rotr x j).toNat ∧ H2 = H0) := by
 refine Ct.enter (args := [.int .u32 x.toNat, .int .i64 (-(j : Int))]) Tryz.func280 rfl rfl rfl ?_
 intro Q0 hret
 refine CW.s1 (fun hK1 => CW.region ?_)
 refine LR.a1 (LR.nil (hK1 _ _ ?_))
 refine CW.s1 (fun hK2 => CW.region ?_)
 refine LR.m1 ?_
 refine LR.v1 (Y.conv rfl u'3 u'66 rfl) ?_
 rw [show IntKind.u64.wrap (-(j : Int)) = ((UInt64.ofNat (18446744073709551616 - j)).toNat : Int) by rw [wrap_u64, UInt64.toNat_ofNat']; omega]
 refine LR.v1 (Y.and_u64 (b := (UInt64.ofNat 31)) rfl rfl rfl) ?_
 rw [and31 j h1 h0]
 refine LR.a1 (LR.nil (hK2 _ _ ?_))
 refine CW.s1 (fun hK3 => CW.region ?_)
 refine LR.m1 ?_
 refine LR.m1 ?_
 refine LR.v1 (Y.shl_u32 (32 - j) rfl rfl rfl (by rw [UInt64.toNat_ofNat']; omega) (by omega)) ?_
 refine LR.m1 ?_
 refine LR.m1 ?_
 refine LR.v1 (Y.sub_u64 (a := (UInt64.ofNat 32)) rfl rfl rfl) ?_
 rw [show UInt64.ofNat 32 - UInt64.ofNat (32 - j) = UInt64.ofNat j from UInt64.toNat_inj.1 (by rw [UInt64.toNat_sub, UInt64.toNat_ofNat', UInt64.toNat_ofNat', UInt64.toNat_ofNat']; omega)]
 refine LR.v1 (Y.shr_u32 (j) rfl rfl rfl (by rw [UInt64.toNat_ofNat']; omega) (by omega)) ?_
 refine LR.v1 (Y.or_u32 rfl rfl rfl) ?_
 refine LR.a1 (LR.nil (hK3 _ _ ?_))
 refine CW.ret (hret .ret (.inr rfl) _ _ _ (res1 rfl rfl) ?_)
 exact ⟨by rw [rotr, UInt32.or_comm], rfl⟩
theorem turn_ct (x : UInt32) (j : Nat) (w0 : World) (H0 : Heap)
 (h0 : 0 < j) (h1 : j < 32) :
 Ct Tryz.prog w0 278 #[.int .u32 x.toNat, .int .i64 j] H0 (fun r H2 => r = .int .u32 (rotr x j).toNat ∧ H2 = H0) := by
 refine Ct.enter (args := [.int .u32 x.toNat, .int .i64 j]) Tryz.func278 rfl rfl rfl ?_
 intro Q0 hret
 refine CW.s1 (fun hK1 => CW.region ?_)
 refine LR.a1 (LR.nil (hK1 _ _ ?_))
 refine CW.s1 (fun hK2 => CW.region ?_)
 refine LR.m1 ?_
 refine LR.m1 ?_
 refine LR.v1 (Y.neg rfl rfl) ?_
 rw [IntWalk.i64_in _ (by omega), Int.zero_sub]
 refine LR.call rfl c'280 rfl (Wd.u rfl) rfl rfl (rotl_ct x j w0 H0 h0 h1) (fun v8 H8 r8 => ?_)
 obtain ⟨rfl, rfl⟩ := r8
 refine LR.a1 (LR.nil (hK2 _ _ ?_))
 refine CW.ret (hret .ret (.inr rfl) _ _ _ (res1 rfl rfl) ?_)
 exact ⟨rfl, rfl⟩
def word4 (a b c d : UInt8) : UInt32 := shlw_u32 (UInt32.ofNat a.toNat) 24 ||| shlw_u32 (UInt32.ofNat b.toNat) 16 ||| shlw_u32 (UInt32.ofNat c.toNat) 8 ||| UInt32.ofNat d.toNat
theorem word_ct (v : Value) (l : List UInt8) (w0 : World) (H0 : Heap)
 (hv : RdT H0 fB 1 v l) (hl : 4 ≤ l.length) :
 Ct Tryz.prog w0 277 #[v] H0 (fun r H2 => r = .int .u32 (word4 l[0] l[1] l[2] l[3]).toNat ∧ H2 = H0) := by
 refine Ct.enter (args := [v]) Tryz.func277 rfl rfl rfl ?_
 intro Q0 hret
 refine CW.s1 (fun hK1 => CW.region ?_)
 refine LR.a1 (LR.nil (hK1 _ _ ?_))
 refine CW.s1 (fun hK2 => ?_)
 refine CW.region_draw rfl (by kernel_rfl) ?_
 refine LR.m1 ?_
 refine LR.e1 (g := fun ad => .pointer (some ad)) (Y.indexAddr hv (0) rfl u'57 s'5 rfl rfl (by first | rfl | omega) (by first | omega | (simp; omega) | (simp; done))) fun ad4 pt4 => ?_
 refine LR.v1 (Y.load1 pt4 rfl a'5 rfl) ?_
 refine LR.v1 (Y.conv_u32 rfl u'5 u'329 rfl) ?_
 refine LR.v1 (Y.shl_u32 (24) rfl rfl rfl (by first | rfl | omega) (by omega)) ?_
 refine LR.m1 ?_
 refine LR.e1 (g := fun ad => .pointer (some ad)) (Y.indexAddr hv (1) rfl u'57 s'5 rfl rfl (by first | rfl | omega) (by first | omega | (simp; omega) | (simp; done))) fun ad9 pt9 => ?_
 refine LR.v1 (Y.load1 pt9 rfl a'5 rfl) ?_
 refine LR.v1 (Y.conv_u32 rfl u'5 u'329 rfl) ?_
 refine LR.v1 (Y.shl_u32 (16) rfl rfl rfl (by first | rfl | omega) (by omega)) ?_
 refine LR.v1 (Y.or_u32 rfl rfl rfl) ?_
 refine LR.m1 ?_
 refine LR.e1 (g := fun ad => .pointer (some ad)) (Y.indexAddr hv (2) rfl u'57 s'5 rfl rfl (by first | rfl | omega) (by first | omega | (simp; omega) | (simp; done))) fun ad15 pt15 => ?_
 refine LR.v1 (Y.load1 pt15 rfl a'5 rfl) ?_
 refine LR.v1 (Y.conv_u32 rfl u'5 u'329 rfl) ?_
 refine LR.v1 (Y.shl_u32 (8) rfl rfl rfl (by first | rfl | omega) (by omega)) ?_
 refine LR.v1 (Y.or_u32 rfl rfl rfl) ?_
 refine LR.m1 ?_
 refine LR.e1 (g := fun ad => .pointer (some ad)) (Y.indexAddr hv (3) rfl u'57 s'5 rfl rfl (by first | rfl | omega) (by first | omega | (simp; omega) | (simp; done))) fun ad21 pt21 => ?_
 refine LR.v1 (Y.load1 pt21 rfl a'5 rfl) ?_
 refine LR.v1 (Y.conv_u32 rfl u'5 u'329 rfl) ?_
 refine LR.v1 (Y.or_u32 rfl rfl rfl) ?_
 refine LR.a1 (LR.nil (hK2 _ _ ?_))
 refine CW.ret (hret .ret (.inr rfl) _ _ _ (res1 rfl rfl) ?_)
 exact ⟨rfl, rfl⟩
end Go.Proofs.YtfjmpninmdjcaaaGreatDoor.SumA

namespace Go.Proofs.YtfjmpninmdjcaaaGreatDoor.SumB
open E Go.RowKit SumA
set_option maxRecDepth 20000
abbrev V32 (x : UInt32) : Value := .int .u32 x.toNat
abbrev V8 (x : UInt8) : Value := .int .u8 x.toNat
structure S8 where
 a : UInt32
 b : UInt32
 c : UInt32
 d : UInt32
 e : UInt32
 f : UInt32
 g : UInt32
 h : UInt32
abbrev S8.list (s : S8) : List UInt32 := [s.a, s.b, s.c, s.d, s.e, s.f, s.g, s.h]
abbrev S8.cells (s : S8) : List Value := [V32 s.a, V32 s.b, V32 s.c, V32 s.d, V32 s.e, V32 s.f, V32 s.g, V32 s.h]
def one (s : S8) (k w : UInt32) : UInt32 := s.h + (rotr s.e 6 ^^^ rotr s.e 11 ^^^ rotr s.e 25) + (s.e &&& s.f ^^^ ~~~s.e &&& s.g) + k + w
def two (s : S8) : UInt32 := (rotr s.a 2 ^^^ rotr s.a 13 ^^^ rotr s.a 22) + (s.a &&& s.b ^^^ s.a &&& s.c ^^^ s.b &&& s.c)
def rnd (s : S8) (k w : UInt32) : S8 := ⟨one s k w + two s, s.a, s.b, s.c, s.d + one s k w, s.e, s.f, s.g⟩
def grow (w : List UInt32) : List UInt32 := w ++ [w.getD (w.length - 16) 0 + (rotr (w.getD (w.length - 15) 0) 7 ^^^ rotr (w.getD (w.length - 15) 0) 18 ^^^ shrw_u32 (w.getD (w.length - 15) 0) 3) + w.getD (w.length - 7) 0 + (rotr (w.getD (w.length - 2) 0) 17 ^^^ rotr (w.getD (w.length - 2) 0) 19 ^^^ shrw_u32 (w.getD (w.length - 2) 0) 10)]
def schedL (w0 : List UInt32) : Nat → List UInt32
 | 0 => w0
 | n + 1 => grow (schedL w0 n)
def first16 (b : List UInt8) (n : Nat) : List UInt32 := (List.range n).map (fun i => word4 (b.getD (4 * i) 0) (b.getD (4 * i + 1) 0) (b.getD (4 * i + 2) 0) (b.getD (4 * i + 3) 0))
def KS : List UInt32 := [0x428a2f98, 0x71374491, 0xb5c0fbcf, 0xe9b5dba5, 0x3956c25b, 0x59f111f1, 0x923f82a4, 0xab1c5ed5, 0xd807aa98, 0x12835b01, 0x243185be, 0x550c7dc3, 0x72be5d74, 0x80deb1fe, 0x9bdc06a7, 0xc19bf174, 0xe49b69c1, 0xefbe4786, 0xfc19dc6, 0x240ca1cc, 0x2de92c6f, 0x4a7484aa, 0x5cb0a9dc, 0x76f988da, 0x983e5152, 0xa831c66d, 0xb00327c8, 0xbf597fc7, 0xc6e00bf3, 0xd5a79147, 0x6ca6351, 0x14292967, 0x27b70a85, 0x2e1b2138, 0x4d2c6dfc, 0x53380d13, 0x650a7354, 0x766a0abb, 0x81c2c92e, 0x92722c85, 0xa2bfe8a1, 0xa81a664b, 0xc24b8b70, 0xc76c51a3, 0xd192e819, 0xd6990624, 0xf40e3585, 0x106aa070, 0x19a4c116, 0x1e376c08, 0x2748774c, 0x34b0bcb5, 0x391c0cb3, 0x4ed8aa4a, 0x5b9cca4f, 0x682e6ff3, 0x748f82ee, 0x78a5636f, 0x84c87814, 0x8cc70208, 0x90befffa, 0xa4506ceb, 0xbef9a3f7, 0xc67178f2]
def rndN (s : S8) (w : List UInt32) : Nat → S8
 | 0 => s
 | n + 1 => rnd (rndN s w n) (KS.getD n 0) (w.getD n 0)
def add8 (s t : S8) : S8 := ⟨s.a + t.a, s.b + t.b, s.c + t.c, s.d + t.d, s.e + t.e, s.f + t.f, s.g + t.g, s.h + t.h⟩
def compress (s : S8) (b : List UInt8) : S8 := add8 s (rndN s (schedL (first16 b 16) 48) 64)
theorem rounds_ct  (w0 : World) (H0 : Heap)
 :
 Ct Tryz.prog w0 279 #[] H0 (fun r H2 => r = .agg (KS.map V32).toArray ∧ Nw H0 H2) := by
 refine Ct.enter (args := []) Tryz.func279 rfl rfl rfl ?_
 intro Q0 hret
 refine CW.s1 (fun hK1 => CW.region ?_)
 refine LR.z1 (Z.allocv rfl z'335) fun vz0 Hz0 rz0 => ?_
 obtain ⟨rfl, vaz0, hsz0, obz0, hHz0⟩ := rz0
 replace vaz0 : Var 335 Hz0 H0.size (List.replicate 64 (V32 0)) := vaz0
 refine LR.nil (hK1 _ _ (CW.s1 (fun hK2 => CW.region ?_)))
 refine LR.v1 (Y.build (v := .agg (KS.map V32).toArray) rfl rfl (by intro w; kernel_rfl)) ?_
 refine LR.s1 (S.var vaz0 (KS.map V32) (KS.map V32) rfl rfl rfl rfl (by intro u hu; obtain ⟨x, _, rfl⟩ := List.mem_map.1 hu; rfl) s'335 (rfl) (Nat.le_of_ble_eq_true rfl) (by kernel_rfl)) fun H1_1 r1_1 => ?_
 obtain ⟨vaz0, hst⟩ := r1_1
 refine LR.nil (hK2 _ _ ?_)
 refine CW.ret (hret .ret (.inr rfl) _ _ _ (resC rfl rfl vaz0.pt a'335 s'335 (by first | rfl | simp)) ?_)
 exact ⟨rfl, hsz0.trans hst (fun _ _ e => e) (fun b hb e => by omega)⟩
end Go.Proofs.YtfjmpninmdjcaaaGreatDoor.SumB

namespace Go.Proofs.YtfjmpninmdjcaaaGreatDoor.SumC
open E Go.RowKit SumA SumB
set_option maxRecDepth 20000
theorem map_get (w : List UInt32) (j : Nat) (h : j < w.length) : (w.map V32)[j]? = some (V32 (w.getD j 0)) := by simp [h]
theorem map_set (w : List UInt32) (j : Nat) (x : UInt32) : (w.map V32).set (0 + j) (V32 x) = (w.set j x).map V32 := by rw [Nat.zero_add, List.map_set]
theorem take_set_succ {α : Type} (w : List α) (j : Nat) (x : α) (h : j < w.length) : (w.set j x).take (j + 1) = w.take j ++ [x] := by
 rw [List.take_succ_eq_append_getElem (by simpa using h), List.take_set]; rw [List.set_eq_of_length_le (by simp; omega)]; simp
theorem getD_take (w : List UInt32) (j k : Nat) (h : j < k) : (w.take k).getD j 0 = w.getD j 0 := by
 simp [List.getD, List.getElem?_take, h]
theorem first16_succ (b : List UInt8) (n : Nat) : first16 b (n + 1) = first16 b n ++ [word4 (b.getD (4 * n) 0) (b.getD (4 * n + 1) 0) (b.getD (4 * n + 2) 0) (b.getD (4 * n + 3) 0)] := by
 unfold first16; rw [List.range_succ, List.map_append]; rfl
def nxt (w : List UInt32) (i : Nat) : UInt32 := w.getD (i - 16) 0 + (rotr (w.getD (i - 15) 0) 7 ^^^ rotr (w.getD (i - 15) 0) 18 ^^^ shrw_u32 (w.getD (i - 15) 0) 3) + w.getD (i - 7) 0 + (rotr (w.getD (i - 2) 0) 17 ^^^ rotr (w.getD (i - 2) 0) 19 ^^^ shrw_u32 (w.getD (i - 2) 0) 10)
theorem grow_take (w : List UInt32) (i : Nat) (h0 : 16 ≤ i) (h : i ≤ w.length) : grow (w.take i) = w.take i ++ [nxt w i] := by
 unfold grow nxt
 have hl : (w.take i).length = i := by simp; omega
 rw [hl, getD_take w (i - 16) i (by omega), getD_take w (i - 15) i (by omega), getD_take w (i - 7) i (by omega), getD_take w (i - 2) i (by omega)]
abbrev hc (s : List UInt32) (wt : List UInt8) (n : Nat) (al : UInt64) : List Value := s.map V32 ++ wt.map V8 ++ [.int .i64 n, .int .u64 al.toNat]
theorem hc_len {s : List UInt32} {wt : List UInt8} {n : Nat} {al : UInt64} (hs : s.length = 8) (hw : wt.length = 64) : (hc s wt n al).length = 74 := by simp [hs, hw]
theorem hc_wait {s : List UInt32} {wt : List UInt8} {n : Nat} {al : UInt64} (hs : s.length = 8) (i : Nat) (x : UInt8) (h : wt[i]? = some x) : ((hc s wt n al).drop 8)[i]? = (fB x)[0]? ∧ (fB x).length = 1 := by
 refine ⟨?_, rfl⟩
 have hi := (List.getElem?_eq_some_iff.1 h).1
 have : (s.map V32).length = 8 := by simpa using hs
 rw [hc, List.append_assoc, List.drop_left' this, List.getElem?_append_left (by simpa using hi)]
 simp [h]
theorem hc_n {s : List UInt32} {wt : List UInt8} {n : Nat} {al : UInt64} (hs : s.length = 8) (hw : wt.length = 64) : (hc s wt n al)[72]? = some (.int .i64 n) := by
 rw [hc, List.getElem?_append_right (by simp [hs, hw])]; simp [hs, hw]
theorem hc_all {s : List UInt32} {wt : List UInt8} {n : Nat} {al : UInt64} (hs : s.length = 8) (hw : wt.length = 64) : (hc s wt n al)[73]? = some (.int .u64 al.toNat) := by
 rw [hc, List.getElem?_append_right (by simp [hs, hw])]; simp [hs, hw]
theorem hc_set_n {s : List UInt32} {wt : List UInt8} {n m : Nat} {al : UInt64} (hs : s.length = 8) (hw : wt.length = 64) : (hc s wt n al).set 72 (.int .i64 m) = hc s wt m al := by
 rw [hc, List.set_append_right _ _ (by simp [hs, hw])]; simp [hs, hw]
theorem hc_set_all {s : List UInt32} {wt : List UInt8} {n : Nat} {al be : UInt64} (hs : s.length = 8) (hw : wt.length = 64) : (hc s wt n al).set 73 (.int .u64 be.toNat) = hc s wt n be := by
 rw [hc, List.set_append_right _ _ (by simp [hs, hw])]; simp [hs, hw]
theorem hc_state {s : List UInt32} {wt : List UInt8} {n : Nat} {al : UInt64} (i : Nat) (hi : i < s.length) : (hc s wt n al)[i]? = some (V32 (s.getD i 0)) := by
 rw [hc, List.append_assoc, List.getElem?_append_left (by simpa using hi)]; simp [hi]
theorem hc_set_state {s : List UInt32} {wt : List UInt8} {n : Nat} {al : UInt64} (i : Nat) (hi : i < s.length) (x : UInt32) : (hc s wt n al).set (0 + i) (V32 x) = hc (s.set i x) wt n al := by
 rw [hc, List.append_assoc, List.set_append_left _ _ (by simpa using hi), Nat.zero_add, ← List.append_assoc, hc, List.map_set]
theorem word_at (wt : List UInt8) (i : Nat) (h : wt.length = 64) (hi : i < 16) (hl : 4 ≤ ((wt.take 64).drop (4 * i)).length) : word4 ((wt.take 64).drop (4 * i))[0] ((wt.take 64).drop (4 * i))[1] ((wt.take 64).drop (4 * i))[2] ((wt.take 64).drop (4 * i))[3] = word4 (wt.getD (4 * i) 0) (wt.getD (4 * i + 1) 0) (wt.getD (4 * i + 2) 0) (wt.getD (4 * i + 3) 0) := by
 have : ∀ j, j < 4 → ∀ (h2 : j < ((wt.take 64).drop (4 * i)).length), ((wt.take 64).drop (4 * i))[j] = wt.getD (4 * i + j) 0 := by
  intro j hj h2
  rw [List.getElem_drop, List.getElem_take]
  simp [List.getD, show 4 * i + j < wt.length by omega]
 rw [this 0 (by omega), this 1 (by omega), this 2 (by omega), this 3 (by omega)]; rfl
def addL (a b : List UInt32) (i : Nat) : List UInt32 := (List.zipWith (· + ·) (a.take i) (b.take i)) ++ a.drop i
theorem addL_len (a b : List UInt32) (i : Nat) (ha : a.length = 8) (hb : b.length = 8) (hi : i ≤ 8) : (addL a b i).length = 8 := by simp [addL, ha, hb]; omega
theorem addL_get (a b : List UInt32) (i : Nat) (ha : a.length = 8) (hb : b.length = 8) (hi : i < 8) : (addL a b i).getD i 0 = a.getD i 0 := by
 have hl : (List.zipWith (· + ·) (a.take i) (b.take i)).length = i := by simp [ha, hb]; omega
 simp only [addL, List.getD]
 rw [List.getElem?_append_right (by omega), hl, Nat.sub_self, List.getElem?_drop, Nat.add_zero]
theorem addL_succ (a b : List UInt32) (i : Nat) (ha : a.length = 8) (hb : b.length = 8) (hi : i < 8) : (addL a b i).set i (a.getD i 0 + b.getD i 0) = addL a b (i + 1) := by
 have hl : (List.zipWith (· + ·) (a.take i) (b.take i)).length = i := by simp [ha, hb]; omega
 unfold addL
 rw [List.set_append_right _ _ (by omega), hl, Nat.sub_self, List.drop_eq_getElem_cons (show i < a.length by omega), List.set_cons_zero, List.take_succ_eq_append_getElem (show i < a.length by omega), List.take_succ_eq_append_getElem (show i < b.length by omega), List.zipWith_append (by simp; omega), List.append_assoc]
 simp [List.getD, ha, hb, hi]
set_option maxHeartbeats 4000000 in
theorem block_ct (hb : Nat) (st : S8) (wt : List UInt8) (n : Nat) (al : UInt64) (w0 : World) (H0 : Heap)
 (hv : Var 356 H0 hb (hc st.list wt n al)) (hw : wt.length = 64) :
 Ct Tryz.prog w0 273 #[.pointer (some ⟨hb, 0, none⟩)] H0 (fun r H2 => r = .tuple #[] ∧ Var 356 H2 hb (hc (compress st wt).list wt 0 al) ∧ Mo (fun c => c = hb) H0 H2) := by
 refine Ct.enter (args := [.pointer (some ⟨hb, 0, none⟩)]) Tryz.func273 rfl rfl rfl ?_
 intro Q0 hret
 have hlt := hv.lt
 have hsl : st.list.length = 8 := rfl
 refine CW.s1 (fun hK1 => CW.region ?_)
 refine LR.z1 (Z.allocv rfl z'335) fun v2 H2 r2 => ?_
 obtain ⟨rfl, va2, hs2, ob2, hH2⟩ := r2
 replace hv := hv.nw hs2
 replace va2 : Var 335 H2 H0.size ((List.replicate 64 (0 : UInt32)).map V32) := va2
 have hz2 : H2.size = H0.size + 1 := by rw [hH2]; simp
 refine LR.nil (hK1 _ _ (CW.s1 (fun hK2 => CW.s1 (fun hK3 => CW.region ?_))))
 refine LR.m1 (LR.nil (hK3 _ _ ?_))
 refine CW.block (fun _ _ hX4 _ => ?_)
 refine CW.loop (fun (s_ : (Nat) × (List UInt32)) => match s_ with | (i, w) => [(0, .pointer (some ⟨hb, 0, none⟩)), (2, .pointer (some ⟨H0.size, 0, none⟩)), (14, .int .i64 i)])
  (fun (s_ : (Nat) × (List UInt32)) (H : Heap) => match s_ with | (i, w) => i ≤ 16 ∧ w.length = 64 ∧ w.take i = first16 wt i ∧ Var 335 H H0.size (w.map V32) ∧ Mo (fun c => c = H0.size) H2 H)
  (fun (s_ : (Nat) × (List UInt32)) => match s_ with | (i, w) => 16 - i) (0, List.replicate 64 0) ⟨rfl, rfl, rfl, trivial⟩ ?_ ?_
 ·
  exact ⟨by omega, by simp, rfl, va2, Mo.refl _ _⟩
 rintro ⟨i, w⟩ H1 hI1 K5 hN5 hE5
 obtain ⟨hi, hwl, hwt, va2, hm⟩ := hI1
 replace hv := hv.up hm (by omega)
 refine CW.s1 (fun hK6 => CW.region ?_)
 refine LR.v1 (Y.lss rfl rfl rfl) (LR.nil (hK6 _ _ ?_))
 refine CW.s2 (fun hK7 hE7 => ?_)
 refine CW.condp rfl (fun c15 => ?_) (fun c15 => ?_)
 ·
  refine CW.skip (hK7 _ _ (CW.s1 (fun hK8 => CW.block (fun _ hK9 _ _ => CW.s1 (fun hK10 => CW.region ?_)))))
  refine LR.m1 ?_
  refine LR.a1 (LR.nil (hK10 _ _ ?_))
  refine CW.region ?_
  refine LR.m1 ?_
  refine LR.m1 ?_
  refine LR.v1 (Y.nilCheck rfl rfl) ?_
  refine LR.v1 (Y.FA hv.pt rfl u'356 rfl s'354) ?_
  refine LR.m1 ?_
  refine LR.v1 (Y.muli rfl rfl rfl (by omega)) ?_
  refine LR.e1 (g := fun v => v) (Y.sliceArrE (F := fun c => c = hb) (f := fB) (xs := wt) (hv.pt.drop 8) rfl hv.lt (hw) (fun i x h => hc_wait hsl i x h) (4 * i) (64) rfl (fun w => .inl (u'354 w)) s'5 rfl (.inr ⟨_, _, _, rfl, rfl, by first | rfl | omega⟩) (.inl ⟨rfl, rfl⟩) (by omega) (by omega) (by decide)) fun v23 rd23 => ?_
  refine LR.call rfl c'277 rfl (Wd.u rfl) rfl rfl (word_ct _ _ w0 H1 rd23.any (by simp; omega)) (fun v24 H24 r24 => ?_)
  obtain ⟨rfl, rfl⟩ := r24
  rw [word_at wt i hw (by omega)]
  refine LR.v1 (Y.arrAddr va2.pt (i) rfl u'335 s'329 rfl rfl (by first | rfl | omega) (by first | omega | (simp; omega) | (simp; done))) ?_
  refine LR.s1 (S.var1 va2 (0 + (i)) (_) rfl rfl rfl (rfl) s'329 (by simp; omega) (map_set w i _)) fun H4_9 r4_9 => ?_
  obtain ⟨va2, hst⟩ := r4_9
  replace hm := hm.trans hst (fun _ _ e => e) (fun _ _ e => e)
  refine LR.nil (hK9 _ _ (hK8 _ _ (CW.region ?_)))
  refine LR.v1 (Y.addi rfl rfl rfl (by omega)) ?_
  refine LR.m1 (LR.nil ?_)
  refine QN.sub (hN5 (i + 1, w.set i (word4 (wt.getD (4 * i) 0) (wt.getD (4 * i + 1) 0) (wt.getD (4 * i + 2) 0) (wt.getD (4 * i + 3) 0))) _ ?_ ?_) ⟨rfl, rfl, (iv (by omega)), trivial⟩
  · exact ⟨by omega, by simp [hwl], by rw [take_set_succ _ _ _ (by omega), first16_succ, hwt], va2, hm⟩
  · show 16 - (i + 1) < 16 - i; omega
 ·
  have hi16 : i = 16 := by omega
  subst hi16
  refine CW.exit (hE7 (.exit 0) nofun _ _ (hE5 (.exit 0) nofun _ _ (hX4 _ _ ?_)))
  refine hK2 _ _ (CW.s1 (fun hK11 => CW.s1 (fun hK12 => CW.region ?_)))
  refine LR.a1 (LR.nil (hK12 _ _ ?_))
  refine CW.block (fun _ _ hX13 _ => ?_)
  refine CW.loop (fun (s_ : (Nat) × (List UInt32)) => match s_ with | (i, w) => [(0, .pointer (some ⟨hb, 0, none⟩)), (2, .pointer (some ⟨H0.size, 0, none⟩)), (4, .int .i64 i)])
   (fun (s_ : (Nat) × (List UInt32)) (H : Heap) => match s_ with | (i, w) => 16 ≤ i ∧ i ≤ 64 ∧ w.length = 64 ∧ w.take i = schedL (first16 wt 16) (i - 16) ∧ Var 335 H H0.size (w.map V32) ∧ Mo (fun c => c = H0.size) H1 H)
   (fun (s_ : (Nat) × (List UInt32)) => match s_ with | (i, w) => 64 - i) (16, w) ⟨rfl, rfl, rfl, trivial⟩ ?_ ?_
  ·
   exact ⟨by omega, by omega, hwl, hwt, va2, Mo.refl _ _⟩
  rintro ⟨i, w⟩ HL2 hI2 K14 hN14 hE14
  obtain ⟨hi0, hi, hwl, hwt, va2, hm2⟩ := hI2
  replace hv := hv.up hm2 (by omega)
  refine CW.s2 (fun hK15 hE15 => CW.s1 (fun hK16 => CW.region ?_))
  refine LR.m1 ?_
  refine LR.v1 (Y.lss rfl rfl rfl) (LR.nil (hK16 _ _ ?_))
  refine CW.condp rfl (fun c28 => ?_) (fun c28 => ?_)
  ·
   refine CW.skip (hK15 _ _ (CW.s1 (fun hK17 => CW.block (fun _ hK18 _ _ => CW.s1 (fun hK19 => ?_)))))
   refine CW.region_draw rfl (by kernel_rfl) ?_
   refine LR.m1 ?_
   refine LR.v1 (Y.subi rfl rfl rfl (by omega)) ?_
   refine LR.v1 (Y.arrAddr va2.pt (i - 15) rfl u'335 s'329 rfl rfl (by omega) (by first | omega | (simp; omega) | (simp; done))) ?_
   refine LR.v1 (Y.load1 (va2.pt.at (i - 15) (map_get w (i - 15) (by omega))) rfl a'329 rfl) ?_
   refine LR.m1 ?_
   refine LR.v1 (Y.subi rfl rfl rfl (by omega)) ?_
   refine LR.v1 (Y.arrAddr va2.pt (i - 2) rfl u'335 s'329 rfl rfl (by omega) (by first | omega | (simp; omega) | (simp; done))) ?_
   refine LR.v1 (Y.load1 (va2.pt.at (i - 2) (map_get w (i - 2) (by omega))) rfl a'329 rfl) ?_
   refine LR.a1 ?_
   refine LR.a1 (LR.nil (hK19 _ _ ?_))
   refine CW.region_any (fun Hq => Nw HL2 Hq) [29] rfl ?_
   have hqs := Nw.refl HL2
   refine LH.m1 0 rfl hqs ?_
   refine LH.m1 1 rfl hqs ?_
   refine LH.t1 2 rfl (fun Hq hq => Y.subi rfl rfl rfl (by omega)) hqs ?_
   refine LH.t1 3 rfl (fun Hq hq => Y.arrAddr (va2.pt.nw hq) (i - 16) rfl u'335 s'329 rfl rfl (by omega) (by first | omega | (simp; omega) | (simp; done))) hqs ?_
   refine LH.t1 4 rfl (fun Hq hq => Y.load1 ((va2.pt.at (i - 16) (map_get w (i - 16) (by omega))).nw hq) rfl a'329 rfl) hqs ?_
   refine LH.m1 5 rfl hqs ?_
   refine LH.m1 7 rfl hqs ?_
   refine LH.m1 10 rfl hqs ?_
   refine LH.t1 11 rfl (fun Hq hq => Y.shr_u32 (3) rfl rfl rfl (by first | rfl | omega) (by omega)) hqs ?_
   refine LH.m1 14 rfl hqs ?_
   refine LH.t1 15 rfl (fun Hq hq => Y.subi rfl rfl rfl (by omega)) hqs ?_
   refine LH.t1 16 rfl (fun Hq hq => Y.arrAddr (va2.pt.nw hq) (i - 7) rfl u'335 s'329 rfl rfl (by omega) (by first | omega | (simp; omega) | (simp; done))) hqs ?_
   refine LH.t1 17 rfl (fun Hq hq => Y.load1 ((va2.pt.at (i - 7) (map_get w (i - 7) (by omega))).nw hq) rfl a'329 rfl) hqs ?_
   refine LH.m1 19 rfl hqs ?_
   refine LH.m1 21 rfl hqs ?_
   refine LH.m1 24 rfl hqs ?_
   refine LH.t1 25 rfl (fun Hq hq => Y.shr_u32 (10) rfl rfl rfl (by first | rfl | omega) (by omega)) hqs ?_
   refine LH.o1 6 ?_
   refine LO.call rfl rfl c'278 rfl (Wd.u rfl) rfl rfl (turn_ct _ 7 w0 _ (by omega) (by omega)) (fun v45 H45 r45 => ?_)
   obtain ⟨rfl, rfl⟩ := r45
   have hs45 := Nw.refl H45
   have hq45 := hqs.tr hs45
   refine ⟨.inr hq45, ?_⟩
   refine LH.o1 8 ?_
   refine LO.call rfl rfl c'278 rfl (Wd.u rfl) rfl rfl (turn_ct _ 18 w0 _ (by omega) (by omega)) (fun v47 H47 r47 => ?_)
   obtain ⟨rfl, rfl⟩ := r47
   have hs47 := Nw.refl H47
   have hq47 := hq45.tr hs47
   refine ⟨.inr hq47, ?_⟩
   refine LH.t1 9 rfl (fun Hq hq => Y.xor_u32 rfl rfl rfl) hq47 ?_
   refine LH.t1 12 rfl (fun Hq hq => Y.xor_u32 rfl rfl rfl) hq47 ?_
   refine LH.t1 13 rfl (fun Hq hq => Y.add_u32 rfl rfl rfl) hq47 ?_
   refine LH.t1 18 rfl (fun Hq hq => Y.add_u32 rfl rfl rfl) hq47 ?_
   refine LH.o1 20 ?_
   refine LO.call rfl rfl c'278 rfl (Wd.u rfl) rfl rfl (turn_ct _ 17 w0 _ (by omega) (by omega)) (fun v59 H59 r59 => ?_)
   obtain ⟨rfl, rfl⟩ := r59
   have hs59 := Nw.refl H59
   have hq59 := hq47.tr hs59
   refine ⟨.inr hq59, ?_⟩
   refine LH.o1 22 ?_
   refine LO.call rfl rfl c'278 rfl (Wd.u rfl) rfl rfl (turn_ct _ 19 w0 _ (by omega) (by omega)) (fun v61 H61 r61 => ?_)
   obtain ⟨rfl, rfl⟩ := r61
   have hs61 := Nw.refl H61
   have hq61 := hq59.tr hs61
   refine ⟨.inr hq61, ?_⟩
   refine LH.t1 23 rfl (fun Hq hq => Y.xor_u32 rfl rfl rfl) hq61 ?_
   refine LH.t1 26 rfl (fun Hq hq => Y.xor_u32 rfl rfl rfl) hq61 ?_
   refine LH.t1 27 rfl (fun Hq hq => Y.add_u32 rfl rfl rfl) hq61 ?_
   refine LH.t1 28 rfl (fun Hq hq => Y.arrAddr (va2.pt.nw hq) (i) rfl u'335 s'329 rfl rfl (by first | rfl | omega) (by first | omega | (simp; omega) | (simp; done))) hq61 ?_
   refine LH.o1 29 ?_
   refine LO.s rfl (S.var1 va2 (0 + (i)) (_) rfl rfl rfl (rfl) s'329 (by simp; omega) (map_set w i _)) (Wd.u rfl) rfl (fun H10_29 r10_29 => ?_)
   obtain ⟨va2, hst⟩ := r10_29
   refine ⟨.inl rfl, ?_⟩
   refine LH.done (by kernel_rfl) ?_
   have hqe := hq61
   refine hK18 _ _ (hK17 _ _ (CW.region ?_))
   refine LR.m1 ?_
   refine LR.v1 (Y.addi rfl rfl rfl (by omega)) ?_
   refine LR.a1 (LR.nil ?_)
   refine QN.sub (hN14 (i + 1, w.set i (nxt w i)) _ ?_ ?_) ⟨rfl, rfl, (iv (by omega)), trivial⟩
   · exact ⟨by omega, by omega, by simp [hwl], by rw [take_set_succ _ _ _ (by omega), hwt, show i + 1 - 16 = (i - 16) + 1 by omega, schedL, ← hwt, grow_take w i hi0 (by omega)], va2, hm2.trans hst (fun _ _ e => e) (fun _ _ e => e)⟩
   · show 64 - (i + 1) < 64 - i; omega
  ·
   have hi64 : i = 64 := by omega
   subst hi64
   rw [List.take_of_length_le (by omega)] at hwt
   refine CW.exit (hE15 (.exit 2) nofun _ _ (hE14 (.exit 2) nofun _ _ (hX13 _ _ ?_)))
   refine hK11 _ _ (CW.s1 (fun hK20 => CW.region ?_))
   refine LR.m1 ?_
   refine LR.v1 (Y.nilCheck rfl rfl) ?_
   refine LR.v1 (Y.FA hv.pt rfl u'356 rfl s'336) ?_
   refine LR.v1 (Y.loadN (hv.pt.take 8) rfl a'336 s'336 (rfl) rfl) ?_
   have hlt2 := va2.lt
   refine LR.z1 (Z.allocv rfl z'336) fun v7 H7 r7 => ?_
   obtain ⟨rfl, va7, hs7, ob7, hH7⟩ := r7
   replace hv := hv.nw hs7
   replace va2 := va2.nw hs7
   refine LR.s1 (S.var va7 (st.cells) (st.cells) rfl rfl rfl rfl (by simp [Value.oneCell']) s'336 (rfl) (Nat.le_of_ble_eq_true rfl) (rfl)) fun H11_5 r11_5 => ?_
   obtain ⟨va7, hs11⟩ := r11_5
   replace hv := hv.up hs11 (by omega)
   replace va2 := va2.up hs11 (by omega)
   refine LR.nil (hK20 _ _ (CW.s1 (fun hK21 => CW.s1 (fun hK22 => CW.region ?_))))
   refine LR.call rfl c'279 rfl (Wd.u rfl) rfl rfl (rounds_ct w0 _) (fun v72 H72 r72 => ?_)
   obtain ⟨rfl, hs72⟩ := r72
   replace hv := hv.nw hs72
   replace va2 := va2.nw hs72
   replace va7 := va7.nw hs72
   refine LR.m1 (LR.nil (hK22 _ _ ?_))
   refine CW.block (fun _ _ hX23 _ => ?_)
   refine CW.loop (fun (s_ : (Nat) × (S8)) => match s_ with | (i, q) => [(0, .pointer (some ⟨hb, 0, none⟩)), (2, .pointer (some ⟨H0.size, 0, none⟩)), (7, .pointer (some ⟨HL2.size, 0, none⟩)), (72, .agg (KS.map V32).toArray), (73, .int .i64 i)])
    (fun (s_ : (Nat) × (S8)) (H : Heap) => match s_ with | (i, q) => i ≤ 64 ∧ q = rndN st w i ∧ Var 336 H HL2.size q.cells ∧ Mo (fun c => c = HL2.size) H72 H)
    (fun (s_ : (Nat) × (S8)) => match s_ with | (i, q) => 64 - i) (0, st) ⟨rfl, rfl, rfl, rfl, rfl, trivial⟩ ?_ ?_
   ·
    exact ⟨by omega, rfl, va7, Mo.refl _ _⟩
   rintro ⟨i, q⟩ HL3 hI3 K24 hN24 hE24
   obtain ⟨hi3, hq3, va7, hm3⟩ := hI3
   replace hv := hv.up hm3 (by omega)
   replace va2 := va2.up hm3 (by omega)
   refine CW.s1 (fun hK25 => CW.region ?_)
   refine LR.v1 (Y.lss rfl rfl rfl) (LR.nil (hK25 _ _ ?_))
   refine CW.s2 (fun hK26 hE26 => ?_)
   refine CW.condp rfl (fun c74 => ?_) (fun c74 => ?_)
   ·
    refine CW.skip (hK26 _ _ (CW.s1 (fun hK27 => CW.block (fun _ hK28 _ _ => CW.s1 (fun hK29 => CW.region ?_)))))
    refine LR.m1 ?_
    refine LR.v1 (Y.arrIndex (i) rfl u'335 s'329 a'329 rfl rfl (by first | rfl | omega) (by omega) (by rw [List.getElem?_toArray]; exact map_get KS i (by simp [KS]; omega))) ?_
    refine LR.a1 ?_
    refine LR.a1 (LR.nil (hK29 _ _ ?_))
    refine CW.s1 (fun hK30 => ?_)
    refine CW.region_any (fun Hq => Nw HL3 Hq) [] rfl ?_
    have hqs := Nw.refl HL3
    refine LH.t1 0 rfl (fun Hq hq => Y.arrAddr (va7.pt.nw hq) (7) rfl u'336 s'329 rfl rfl (by first | rfl | omega) (by first | omega | (simp; omega) | (simp; done))) hqs ?_
    refine LH.t1 1 rfl (fun Hq hq => Y.load1 ((va7.pt.drop 7).nw hq) rfl a'329 rfl) hqs ?_
    refine LH.t1 2 rfl (fun Hq hq => Y.arrAddr (va7.pt.nw hq) (4) rfl u'336 s'329 rfl rfl (by first | rfl | omega) (by first | omega | (simp; omega) | (simp; done))) hqs ?_
    refine LH.t1 3 rfl (fun Hq hq => Y.load1 ((va7.pt.drop 4).nw hq) rfl a'329 rfl) hqs ?_
    refine LH.t1 5 rfl (fun Hq hq => Y.arrAddr (va7.pt.nw hq) (4) rfl u'336 s'329 rfl rfl (by first | rfl | omega) (by first | omega | (simp; omega) | (simp; done))) hqs ?_
    refine LH.t1 6 rfl (fun Hq hq => Y.load1 ((va7.pt.drop 4).nw hq) rfl a'329 rfl) hqs ?_
    refine LH.t1 9 rfl (fun Hq hq => Y.arrAddr (va7.pt.nw hq) (4) rfl u'336 s'329 rfl rfl (by first | rfl | omega) (by first | omega | (simp; omega) | (simp; done))) hqs ?_
    refine LH.t1 10 rfl (fun Hq hq => Y.load1 ((va7.pt.drop 4).nw hq) rfl a'329 rfl) hqs ?_
    refine LH.t1 14 rfl (fun Hq hq => Y.arrAddr (va7.pt.nw hq) (4) rfl u'336 s'329 rfl rfl (by first | rfl | omega) (by first | omega | (simp; omega) | (simp; done))) hqs ?_
    refine LH.t1 15 rfl (fun Hq hq => Y.load1 ((va7.pt.drop 4).nw hq) rfl a'329 rfl) hqs ?_
    refine LH.t1 16 rfl (fun Hq hq => Y.arrAddr (va7.pt.nw hq) (5) rfl u'336 s'329 rfl rfl (by first | rfl | omega) (by first | omega | (simp; omega) | (simp; done))) hqs ?_
    refine LH.t1 17 rfl (fun Hq hq => Y.load1 ((va7.pt.drop 5).nw hq) rfl a'329 rfl) hqs ?_
    refine LH.t1 18 rfl (fun Hq hq => Y.and_u32 rfl rfl rfl) hqs ?_
    refine LH.t1 19 rfl (fun Hq hq => Y.arrAddr (va7.pt.nw hq) (4) rfl u'336 s'329 rfl rfl (by first | rfl | omega) (by first | omega | (simp; omega) | (simp; done))) hqs ?_
    refine LH.t1 20 rfl (fun Hq hq => Y.load1 ((va7.pt.drop 4).nw hq) rfl a'329 rfl) hqs ?_
    refine LH.t1 21 rfl (fun Hq hq => Y.not_u32 rfl rfl) hqs ?_
    refine LH.t1 22 rfl (fun Hq hq => Y.arrAddr (va7.pt.nw hq) (6) rfl u'336 s'329 rfl rfl (by first | rfl | omega) (by first | omega | (simp; omega) | (simp; done))) hqs ?_
    refine LH.t1 23 rfl (fun Hq hq => Y.load1 ((va7.pt.drop 6).nw hq) rfl a'329 rfl) hqs ?_
    refine LH.t1 24 rfl (fun Hq hq => Y.and_u32 rfl rfl rfl) hqs ?_
    refine LH.t1 25 rfl (fun Hq hq => Y.xor_u32 rfl rfl rfl) hqs ?_
    refine LH.m1 27 rfl hqs ?_
    refine LH.m1 29 rfl hqs ?_
    refine LH.t1 30 rfl (fun Hq hq => Y.arrAddr (va2.pt.nw hq) (i) rfl u'335 s'329 rfl rfl (by first | rfl | omega) (by first | omega | (simp; omega) | (simp; done))) hqs ?_
    refine LH.t1 31 rfl (fun Hq hq => Y.load1 ((va2.pt.at (i) (map_get w i (by omega))).nw hq) rfl a'329 rfl) hqs ?_
    refine LH.o1 4 ?_
    refine LO.call rfl rfl c'278 rfl (Wd.u rfl) rfl rfl (turn_ct _ 6 w0 _ (by omega) (by omega)) (fun v81 H81 r81 => ?_)
    obtain ⟨rfl, rfl⟩ := r81
    have hs81 := Nw.refl H81
    have hq81 := hqs.tr hs81
    refine ⟨.inr hq81, ?_⟩
    refine LH.o1 7 ?_
    refine LO.call rfl rfl c'278 rfl (Wd.u rfl) rfl rfl (turn_ct _ 11 w0 _ (by omega) (by omega)) (fun v84 H84 r84 => ?_)
    obtain ⟨rfl, rfl⟩ := r84
    have hs84 := Nw.refl H84
    have hq84 := hq81.tr hs84
    refine ⟨.inr hq84, ?_⟩
    refine LH.t1 8 rfl (fun Hq hq => Y.xor_u32 rfl rfl rfl) hq84 ?_
    refine LH.o1 11 ?_
    refine LO.call rfl rfl c'278 rfl (Wd.u rfl) rfl rfl (turn_ct _ 25 w0 _ (by omega) (by omega)) (fun v88 H88 r88 => ?_)
    obtain ⟨rfl, rfl⟩ := r88
    have hs88 := Nw.refl H88
    have hq88 := hq84.tr hs88
    refine ⟨.inr hq88, ?_⟩
    refine LH.t1 12 rfl (fun Hq hq => Y.xor_u32 rfl rfl rfl) hq88 ?_
    refine LH.t1 13 rfl (fun Hq hq => Y.add_u32 rfl rfl rfl) hq88 ?_
    refine LH.t1 26 rfl (fun Hq hq => Y.add_u32 rfl rfl rfl) hq88 ?_
    refine LH.t1 28 rfl (fun Hq hq => Y.add_u32 rfl rfl rfl) hq88 ?_
    refine LH.t1 32 rfl (fun Hq hq => Y.add_u32 rfl rfl rfl) hq88 ?_
    refine LH.t1 33 rfl (fun Hq hq => Y.assign rfl rfl) hq88 ?_
    refine LH.done (by kernel_rfl) ?_
    have hqe := hq88
    refine hK30 _ _ (CW.s1 (fun hK31 => ?_))
    refine CW.region_any (fun Hq => Nw H88 Hq) [] rfl ?_
    have hqs := Nw.refl H88
    refine LH.t1 0 rfl (fun Hq hq => Y.arrAddr (va7.pt.nw hq) (0) rfl u'336 s'329 rfl rfl (by first | rfl | omega) (by first | omega | (simp; omega) | (simp; done))) hqs ?_
    refine LH.t1 1 rfl (fun Hq hq => Y.load1 (va7.pt.nw hq) rfl a'329 rfl) hqs ?_
    refine LH.t1 3 rfl (fun Hq hq => Y.arrAddr (va7.pt.nw hq) (0) rfl u'336 s'329 rfl rfl (by first | rfl | omega) (by first | omega | (simp; omega) | (simp; done))) hqs ?_
    refine LH.t1 4 rfl (fun Hq hq => Y.load1 (va7.pt.nw hq) rfl a'329 rfl) hqs ?_
    refine LH.t1 7 rfl (fun Hq hq => Y.arrAddr (va7.pt.nw hq) (0) rfl u'336 s'329 rfl rfl (by first | rfl | omega) (by first | omega | (simp; omega) | (simp; done))) hqs ?_
    refine LH.t1 8 rfl (fun Hq hq => Y.load1 (va7.pt.nw hq) rfl a'329 rfl) hqs ?_
    refine LH.t1 11 rfl (fun Hq hq => Y.arrAddr (va7.pt.nw hq) (0) rfl u'336 s'329 rfl rfl (by first | rfl | omega) (by first | omega | (simp; omega) | (simp; done))) hqs ?_
    refine LH.t1 12 rfl (fun Hq hq => Y.load1 (va7.pt.nw hq) rfl a'329 rfl) hqs ?_
    refine LH.t1 13 rfl (fun Hq hq => Y.arrAddr (va7.pt.nw hq) (1) rfl u'336 s'329 rfl rfl (by first | rfl | omega) (by first | omega | (simp; omega) | (simp; done))) hqs ?_
    refine LH.t1 14 rfl (fun Hq hq => Y.load1 ((va7.pt.drop 1).nw hq) rfl a'329 rfl) hqs ?_
    refine LH.t1 15 rfl (fun Hq hq => Y.and_u32 rfl rfl rfl) hqs ?_
    refine LH.t1 16 rfl (fun Hq hq => Y.arrAddr (va7.pt.nw hq) (0) rfl u'336 s'329 rfl rfl (by first | rfl | omega) (by first | omega | (simp; omega) | (simp; done))) hqs ?_
    refine LH.t1 17 rfl (fun Hq hq => Y.load1 (va7.pt.nw hq) rfl a'329 rfl) hqs ?_
    refine LH.t1 18 rfl (fun Hq hq => Y.arrAddr (va7.pt.nw hq) (2) rfl u'336 s'329 rfl rfl (by first | rfl | omega) (by first | omega | (simp; omega) | (simp; done))) hqs ?_
    refine LH.t1 19 rfl (fun Hq hq => Y.load1 ((va7.pt.drop 2).nw hq) rfl a'329 rfl) hqs ?_
    refine LH.t1 20 rfl (fun Hq hq => Y.and_u32 rfl rfl rfl) hqs ?_
    refine LH.t1 21 rfl (fun Hq hq => Y.xor_u32 rfl rfl rfl) hqs ?_
    refine LH.t1 22 rfl (fun Hq hq => Y.arrAddr (va7.pt.nw hq) (1) rfl u'336 s'329 rfl rfl (by first | rfl | omega) (by first | omega | (simp; omega) | (simp; done))) hqs ?_
    refine LH.t1 23 rfl (fun Hq hq => Y.load1 ((va7.pt.drop 1).nw hq) rfl a'329 rfl) hqs ?_
    refine LH.t1 24 rfl (fun Hq hq => Y.arrAddr (va7.pt.nw hq) (2) rfl u'336 s'329 rfl rfl (by first | rfl | omega) (by first | omega | (simp; omega) | (simp; done))) hqs ?_
    refine LH.t1 25 rfl (fun Hq hq => Y.load1 ((va7.pt.drop 2).nw hq) rfl a'329 rfl) hqs ?_
    refine LH.t1 26 rfl (fun Hq hq => Y.and_u32 rfl rfl rfl) hqs ?_
    refine LH.t1 27 rfl (fun Hq hq => Y.xor_u32 rfl rfl rfl) hqs ?_
    refine LH.o1 2 ?_
    refine LO.call rfl rfl c'278 rfl (Wd.u rfl) rfl rfl (turn_ct _ 2 w0 _ (by omega) (by omega)) (fun v112 H112 r112 => ?_)
    obtain ⟨rfl, rfl⟩ := r112
    have hs112 := Nw.refl H112
    have hq112 := hqs.tr hs112
    refine ⟨.inr hq112, ?_⟩
    refine LH.o1 5 ?_
    refine LO.call rfl rfl c'278 rfl (Wd.u rfl) rfl rfl (turn_ct _ 13 w0 _ (by omega) (by omega)) (fun v115 H115 r115 => ?_)
    obtain ⟨rfl, rfl⟩ := r115
    have hs115 := Nw.refl H115
    have hq115 := hq112.tr hs115
    refine ⟨.inr hq115, ?_⟩
    refine LH.t1 6 rfl (fun Hq hq => Y.xor_u32 rfl rfl rfl) hq115 ?_
    refine LH.o1 9 ?_
    refine LO.call rfl rfl c'278 rfl (Wd.u rfl) rfl rfl (turn_ct _ 22 w0 _ (by omega) (by omega)) (fun v119 H119 r119 => ?_)
    obtain ⟨rfl, rfl⟩ := r119
    have hs119 := Nw.refl H119
    have hq119 := hq115.tr hs119
    refine ⟨.inr hq119, ?_⟩
    refine LH.t1 10 rfl (fun Hq hq => Y.xor_u32 rfl rfl rfl) hq119 ?_
    refine LH.t1 28 rfl (fun Hq hq => Y.add_u32 rfl rfl rfl) hq119 ?_
    refine LH.t1 29 rfl (fun Hq hq => Y.assign rfl rfl) hq119 ?_
    refine LH.done (by kernel_rfl) ?_
    have hqe := hq119
    refine hK31 _ _ (CW.region ?_)
    refine LR.m1 ?_
    refine LR.m1 ?_
    refine LR.v1 (Y.add_u32 rfl rfl rfl) ?_
    refine LR.v1 (Y.arrAddr va7.pt (0) rfl u'336 s'329 rfl rfl (by first | rfl | omega) (by first | omega | (simp; omega) | (simp; done))) ?_
    refine LR.v1 (Y.load1 va7.pt rfl a'329 rfl) ?_
    refine LR.v1 (Y.arrAddr va7.pt (1) rfl u'336 s'329 rfl rfl (by first | rfl | omega) (by first | omega | (simp; omega) | (simp; done))) ?_
    refine LR.v1 (Y.load1 (va7.pt.drop 1) rfl a'329 rfl) ?_
    refine LR.v1 (Y.arrAddr va7.pt (2) rfl u'336 s'329 rfl rfl (by first | rfl | omega) (by first | omega | (simp; omega) | (simp; done))) ?_
    refine LR.v1 (Y.load1 (va7.pt.drop 2) rfl a'329 rfl) ?_
    refine LR.v1 (Y.arrAddr va7.pt (3) rfl u'336 s'329 rfl rfl (by first | rfl | omega) (by first | omega | (simp; omega) | (simp; done))) ?_
    refine LR.v1 (Y.load1 (va7.pt.drop 3) rfl a'329 rfl) ?_
    refine LR.m1 ?_
    refine LR.v1 (Y.add_u32 rfl rfl rfl) ?_
    refine LR.v1 (Y.arrAddr va7.pt (4) rfl u'336 s'329 rfl rfl (by first | rfl | omega) (by first | omega | (simp; omega) | (simp; done))) ?_
    refine LR.v1 (Y.load1 (va7.pt.drop 4) rfl a'329 rfl) ?_
    refine LR.v1 (Y.arrAddr va7.pt (5) rfl u'336 s'329 rfl rfl (by first | rfl | omega) (by first | omega | (simp; omega) | (simp; done))) ?_
    refine LR.v1 (Y.load1 (va7.pt.drop 5) rfl a'329 rfl) ?_
    refine LR.v1 (Y.arrAddr va7.pt (6) rfl u'336 s'329 rfl rfl (by first | rfl | omega) (by first | omega | (simp; omega) | (simp; done))) ?_
    refine LR.v1 (Y.load1 (va7.pt.drop 6) rfl a'329 rfl) ?_
    refine LR.v1 (Y.build (v := .agg (rnd q (KS.getD i 0) (w.getD i 0)).cells.toArray) rfl rfl (by intro w; kernel_rfl)) ?_
    refine LR.s1 (S.var va7 ((rnd q (KS.getD i 0) (w.getD i 0)).cells) ((rnd q (KS.getD i 0) (w.getD i 0)).cells) rfl rfl rfl rfl (by simp [Value.oneCell']) s'336 (rfl) (Nat.le_of_ble_eq_true rfl) (rfl)) fun H17_20 r17_20 => ?_
    obtain ⟨va7, hst17⟩ := r17_20
    refine LR.nil (hK28 _ _ (hK27 _ _ (CW.region ?_)))
    refine LR.v1 (Y.addi rfl rfl rfl (by omega)) ?_
    refine LR.m1 (LR.nil ?_)
    refine QN.sub (hN24 (i + 1, rnd q (KS.getD i 0) (w.getD i 0)) _ ?_ ?_) ⟨rfl, rfl, rfl, rfl, (iv (by omega)), trivial⟩
    · exact ⟨by omega, by rw [hq3]; rfl, va7, hm3.trans hst17 (fun _ _ e => e) (fun _ _ e => e)⟩
    · show 64 - (i + 1) < 64 - i; omega
   ·
    have hi64 : i = 64 := by omega
    subst hi64
    rw [hwt] at hq3
    have hcm : (add8 st q).list = (compress st wt).list := by rw [hq3]; rfl
    refine CW.exit (hE26 (.exit 4) nofun _ _ (hE24 (.exit 4) nofun _ _ (hX23 _ _ ?_)))
    refine hK21 _ _ (CW.s1 (fun hK32 => CW.s1 (fun hK33 => CW.region ?_)))
    refine LR.v1 (Y.loadN va7.pt rfl a'336 s'336 (rfl) rfl) ?_
    refine LR.m1 (LR.nil (hK33 _ _ ?_))
    refine CW.block (fun _ _ hX34 _ => ?_)
    refine CW.loop (fun (i : (Nat)) => [(0, .pointer (some ⟨hb, 0, none⟩)), (160, .agg q.cells.toArray), (161, .int .i64 i)])
     (fun (i : (Nat)) (H : Heap) => i ≤ 8 ∧ Var 356 H hb (hc (addL st.list q.list i) wt n al) ∧ Mo (fun c => c = hb) HL3 H)
     (fun (i : (Nat)) => 8 - i) 0 ⟨rfl, rfl, rfl, trivial⟩ ?_ ?_
    ·
     exact ⟨by omega, hv, Mo.refl _ _⟩
    intro i HL4 hI4 K35 hN35 hE35
    obtain ⟨hi4, hv, hm4⟩ := hI4
    have hal := addL_len st.list q.list i rfl rfl hi4
    refine CW.s1 (fun hK36 => CW.region ?_)
    refine LR.v1 (Y.lss rfl rfl rfl) (LR.nil (hK36 _ _ ?_))
    refine CW.s2 (fun hK37 hE37 => ?_)
    refine CW.condp rfl (fun c162 => ?_) (fun c162 => ?_)
    ·
     refine CW.skip (hK37 _ _ (CW.s1 (fun hK38 => CW.block (fun _ hK39 _ _ => CW.s1 (fun hK40 => CW.region ?_)))))
     refine LR.m1 ?_
     refine LR.v1 (Y.arrIndex (i) rfl u'336 s'329 a'329 rfl rfl (by first | rfl | omega) (by omega) (by rw [List.getElem?_toArray]; exact map_get q.list i (by simp; omega))) ?_
     refine LR.a1 ?_
     refine LR.a1 (LR.nil (hK40 _ _ ?_))
     refine CW.region_tail 11 rfl (by kernel_rfl) (fun T22 hT22 => ?_)
     refine LR.m1 ?_
     refine LR.m1 ?_
     refine LR.v1 (Y.nilCheck rfl rfl) ?_
     refine LR.v1 (Y.FA hv.pt rfl u'356 rfl s'336) ?_
     refine LR.v1 (Y.arrAddr hv.pt (i) rfl u'336 s'329 rfl rfl (by first | rfl | omega) (by first | omega | (simp; omega) | (simp; done))) ?_
     refine LR.v1 (Y.load1 (hv.pt.at (i) (hc_state i (by omega))) rfl a'329 rfl) ?_
     rw [addL_get st.list q.list i rfl rfl (by omega)]
     refine LR.m1 ?_
     refine LR.v1 (Y.add_u32 rfl rfl rfl) ?_
     refine LR.v1 (Y.nilCheck rfl rfl) ?_
     refine LR.v1 (Y.FA hv.pt rfl u'356 rfl s'336) ?_
     refine LR.v1 (Y.arrAddr hv.pt (i) rfl u'336 s'329 rfl rfl (by first | rfl | omega) (by first | omega | (simp; omega) | (simp; done))) ?_
     refine LR.nil (hT22 _ ?_)
     refine LR.s1 (S.var1 hv (0 + (i)) (_) rfl rfl rfl (rfl) s'329 (by rw [hc_len hal hw]; omega) (hc_set_state i (by omega) _)) fun H22_11 r22_11 => ?_
     obtain ⟨hv, hst22⟩ := r22_11
     refine LR.nil (hK39 _ _ (hK38 _ _ (CW.region ?_)))
     refine LR.v1 (Y.addi rfl rfl rfl (by omega)) ?_
     refine LR.m1 (LR.nil ?_)
     refine QN.sub (hN35 (i + 1) _ ?_ ?_) ⟨rfl, rfl, (iv (by omega)), trivial⟩
     · exact ⟨by omega, by rw [← addL_succ st.list q.list i rfl rfl (by omega)]; exact hv, hm4.trans hst22 (fun _ _ e => e) (fun _ _ e => e)⟩
     · omega
    ·
     have hi8 : i = 8 := by omega
     subst hi8
     refine CW.exit (hE37 (.exit 6) nofun _ _ (hE35 (.exit 6) nofun _ _ (hX34 _ _ ?_)))
     refine hK32 _ _ (CW.region ?_)
     refine LR.m1 ?_
     refine LR.v1 (Y.nilCheck rfl rfl) ?_
     refine LR.v1 (Y.FA hv.pt rfl u'356 rfl s'3) ?_
     refine LR.s1 (S.var1 hv 72 (_) rfl rfl rfl (rfl) s'3 (by rw [hc_len hal hw]; omega) (hc_set_n (m := 0) hal hw)) fun H24_3 r24_3 => ?_
     obtain ⟨hv, hst24⟩ := r24_3
     refine LR.nil ?_
     refine hret .normal (.inl rfl) _ _ _ (res0 rfl) ?_
     refine ⟨rfl, by rw [← hcm]; exact hv, ⟨by have := hs2.size; have := hm.size; have := hm2.size; have := hs7.size; have := hs11.size; have := hs72.size; have := hm3.size; have := hm4.size; have := hst24.size; omega, fun b hb2 hne => ?_⟩⟩
     have q1 := hs2.size; have q2 := hm.size; have q3 := hm2.size; have q4 := hs7.size; have q5 := hs11.size; have q6 := hs72.size; have q7 := hm3.size; have q8 := hm4.size
     rw [hst24.same b (by omega) hne, hm4.same b (by omega) hne, hm3.same b (by omega) (by omega), hs72.same b (by omega) (fun e => e), hs11.same b (by omega) (by omega), hs7.same b (by omega) (fun e => e), hm2.same b (by omega) (by omega), hm.same b (by omega) (by omega), hs2.same b (by omega) (fun e => e)]
end Go.Proofs.YtfjmpninmdjcaaaGreatDoor.SumC

namespace Go.Proofs.YtfjmpninmdjcaaaGreatDoor.SumD
open E Go.RowKit SumA SumB SumC
set_option maxRecDepth 20000
def IV : S8 := ⟨0x6a09e667, 0xbb67ae85, 0x3c6ef372, 0xa54ff53a, 0x510e527f, 0x9b05688c, 0x1f83d9ab, 0x5be0cd19⟩
def run (s : S8) (b : List UInt8) : S8 × List UInt8 := if h : b.length < 64 then (s, b) else run (compress s (b.take 64)) (b.drop 64)
termination_by b.length
decreasing_by simp; omega
theorem run_lt (s : S8) (b : List UInt8) (h : b.length < 64) : run s b = (s, b) := by rw [run, dif_pos h]
theorem run_ge (s : S8) (b : List UInt8) (h : 64 ≤ b.length) : run s b = run (compress s (b.take 64)) (b.drop 64) := by rw [run, dif_neg (by omega)]
theorem run_len : ∀ (n : Nat) (s : S8) (b : List UInt8), b.length ≤ n → (run s b).2.length < 64 := by
 intro n
 induction n with
 | zero => intro s b h; rw [run_lt s b (by omega)]; simp; omega
 | succ n ih =>
   intro s b h
   by_cases hb : b.length < 64
   · rw [run_lt s b hb]; exact hb
   · rw [run_ge s b (by omega)]; exact ih _ _ (by simp; omega)
theorem run_app : ∀ (n : Nat) (s : S8) (a b : List UInt8), a.length ≤ n → run s (a ++ b) = run (run s a).1 ((run s a).2 ++ b) := by
 intro n
 induction n with
 | zero => intro s a b h; rw [run_lt s a (by omega)]
 | succ n ih =>
   intro s a b h
   by_cases ha : a.length < 64
   · rw [run_lt s a ha]
   · rw [run_ge s a (by omega), run_ge s (a ++ b) (by simp; omega), List.take_append_of_le_length (by omega), List.drop_append_of_le_length (by omega)]
     exact ih _ _ _ (by simp; omega)
theorem run_more (s : S8) (a b : List UInt8) : run s (a ++ b) = run (run s a).1 ((run s a).2 ++ b) := run_app _ s a b (Nat.le_refl _)
theorem run_rest (s : S8) (b : List UInt8) : (run s b).2.length < 64 := run_len _ s b (Nat.le_refl _)
theorem hc_splice {s : List UInt32} {wt xs : List UInt8} {n m : Nat} {al : UInt64} (hs : s.length = 8) (hw : wt.length = 64) (h : m + xs.length ≤ 64) : splice (hc s wt n al) (8 + m) (xs.flatMap fB) = hc s (wt.take m ++ xs ++ wt.drop (m + xs.length)) n al := by
 have h8 : (s.map V32).length = 8 := by simpa using hs
 have hx : (xs.flatMap fB).length = xs.length := by rw [length_flatMap fB_len, Nat.mul_one]
 have e : ∀ (wt : List UInt8), hc s wt n al = s.map V32 ++ (wt.map V8 ++ [.int .i64 n, .int .u64 al.toNat]) := fun wt => by rw [hc, List.append_assoc]
 rw [splice, hx, e, e, List.take_append, List.take_of_length_le (by omega), h8, show 8 + m - 8 = m by omega, List.drop_append, List.drop_of_length_le (by omega), h8, List.nil_append, show 8 + m + xs.length - 8 = m + xs.length by omega]
 rw [List.take_append_of_le_length (by simp; omega), List.drop_append_of_le_length (by simp; omega), flatMap_fB]
 simp [List.map_append, List.map_take, List.map_drop]
structure HS (H : Heap) (hb : Nat) (m : List UInt8) (al : UInt64) : Prop where
 ex : ∃ wt : List UInt8, wt.length = 64 ∧ Var 356 H hb (hc (run IV m).1.list wt (run IV m).2.length al) ∧ wt.take (run IV m).2.length = (run IV m).2
theorem HS.nw {H H' : Heap} {hb : Nat} {m : List UInt8} {al : UInt64} (h : HS H hb m al) (s : Nw H H') : HS H' hb m al := let ⟨wt, h1, h2, h3⟩ := h.ex; ⟨wt, h1, h2.nw s, h3⟩
theorem HS.up {H H' : Heap} {hb : Nat} {m : List UInt8} {al : UInt64} {S : Nat → Prop} (h : HS H hb m al) (s : Mo S H H') (hS : ¬ S hb) : HS H' hb m al := let ⟨wt, h1, h2, h3⟩ := h.ex; ⟨wt, h1, h2.up s hS, h3⟩
theorem HS.lt {H : Heap} {hb : Nat} {m : List UInt8} {al : UInt64} (h : HS H hb m al) : hb < H.size := let ⟨_, _, h2, _⟩ := h.ex; h2.lt
def cat (l : List (SV × List UInt8)) : List UInt8 := l.flatMap (·.2)
theorem cat_take (l : List (SV × List UInt8)) (k : Nat) (h : k < l.length) : cat (l.take (k + 1)) = cat (l.take k) ++ (l[k]).2 := by
 unfold cat; rw [List.take_succ_eq_append_getElem h, List.flatMap_append]; simp
theorem new_ct  (w0 : World) (H0 : Heap)
 :
 Ct Tryz.prog w0 256 #[] H0 (fun r H2 => r = .pointer (some ⟨H0.size, 0, none⟩) ∧ HS H2 H0.size [] 0 ∧ Nw H0 H2 ∧ H2.size = H0.size + 1) := by
 refine Ct.enter (args := []) Tryz.func256 rfl rfl rfl ?_
 intro Q0 hret
 refine CW.s1 (fun hK1 => CW.region ?_)
 refine LR.a1 (LR.nil (hK1 _ _ ?_))
 refine CW.s1 (fun hK2 => CW.region ?_)
 refine LR.v1 (Y.build (v := .agg (IV.list.map V32).toArray) rfl rfl (by intro w; kernel_rfl)) ?_
 refine LR.v1 (Y.build (v := .agg (hc IV.list (List.replicate 64 0) 0 0).toArray) rfl rfl (by intro w; kernel_rfl)) ?_
 refine LR.z1 (Z.boxv rfl rfl) fun v3 H3 r3 => ?_
 obtain ⟨rfl, va3, hs3, ob3, hH3⟩ := r3
 replace va3 : Var 356 H3 H0.size (hc IV.list (List.replicate 64 0) 0 0) := va3
 refine LR.a1 (LR.nil (hK2 _ _ ?_))
 refine CW.ret (hret .ret (.inr rfl) _ _ _ (res1 rfl rfl) ?_)
 exact ⟨rfl, ⟨List.replicate 64 0, by simp, by rw [run_lt IV [] (by simp)]; exact va3, by rw [run_lt IV [] (by simp)]; rfl⟩, hs3, by rw [hH3]; simp⟩
theorem run_part {c x wt : List UInt8} {n : Nat} (hn : (run IV c).2.length = n) (hb : wt.take n = (run IV c).2) (hw : wt.length = 64) (h : n + x.length < 64) : run IV (c ++ x) = ((run IV c).1, wt.take n ++ x) := by
 rw [run_more, run_lt _ _ (by simp; omega), hb]
theorem run_full {c x wt : List UInt8} {n : Nat} (hn : (run IV c).2.length = n) (hb : wt.take n = (run IV c).2) (hw : wt.length = 64) (h : n + x.length = 64) : run IV (c ++ x) = (compress (run IV c).1 (wt.take n ++ x ++ wt.drop (n + x.length)), []) := by
 have hl : (wt.take n ++ x).length = 64 := by simp; omega
 rw [run_more, ← hb, run_ge _ _ (by omega), List.take_of_length_le (by omega), List.drop_of_length_le (by omega), run_lt _ _ (by simp), List.drop_of_length_le (show wt.length ≤ n + x.length by omega), List.append_nil]
theorem join_take {wt x : List UInt8} {n : Nat} (hw : wt.length = 64) (h : n + x.length ≤ 64) : (wt.take n ++ x ++ wt.drop (n + x.length)).length = 64 ∧ (wt.take n ++ x ++ wt.drop (n + x.length)).take (n + x.length) = wt.take n ++ x := by
 have hl : (wt.take n ++ x).length = n + x.length := by simp; omega
 exact ⟨by simp; omega, List.take_left' hl⟩
set_option maxHeartbeats 4000000 in
theorem write_ct (hb : Nat) (vl : Value) (m : List UInt8) (al : UInt64) (l : List (SV × List UInt8)) (w0 : World) (H0 : Heap)
 (hS : HS H0 hb m al) (hl : Rd (fun b => b ≠ hb) H0 fP 1 vl l) (hx : ∀ x ∈ l, Rd (fun b => b ≠ hb) H0 fB 1 x.1.v x.2) :
 Ct Tryz.prog w0 257 #[.pointer (some ⟨hb, 0, none⟩), vl] H0 (fun r H2 => r = .tuple #[] ∧ HS H2 hb (m ++ cat l) (al + UInt64.ofNat (cat l).length) ∧ Mo (fun c => c = hb) H0 H2) := by
 refine Ct.enter (args := [.pointer (some ⟨hb, 0, none⟩), vl]) Tryz.func257 rfl rfl rfl ?_
 intro Q0 hret
 have hll := hl.len
 refine CW.s1 (fun hK1 => CW.region ?_)
 refine LR.m1 ?_
 refine LR.v1 (Y.len hl rfl u'104 rfl) ?_
 refine LR.m1 (LR.nil (hK1 _ _ ?_))
 refine CW.block (fun _ _ hX2 _ => ?_)
 refine CW.loop (fun (k : (Nat)) => [(0, .pointer (some ⟨hb, 0, none⟩)), (7, vl), (8, .int .i64 l.length), (9, .int .i64 k)])
  (fun (k : (Nat)) (H : Heap) => k ≤ l.length ∧ HS H hb (m ++ cat (l.take k)) (al + UInt64.ofNat (cat (l.take k)).length) ∧ Mo (fun c => c = hb) H0 H)
  (fun (k : (Nat)) => l.length - k) 0 ⟨rfl, rfl, rfl, rfl, trivial⟩ ?_ ?_
 ·
  exact ⟨by omega, by simpa [cat] using hS, Mo.refl _ _⟩
 intro k HL1 hI1 K3 hN3 hE3
 obtain ⟨hk, hS, hm⟩ := hI1
 obtain ⟨wt, hwt, hv, hbuf⟩ := hS.ex
 have hl2 := hl.up hm (fun _ _ h1 h2 => h1 h2)
 refine CW.s1 (fun hK4 => CW.region ?_)
 refine LR.v1 (Y.lss rfl rfl rfl) (LR.nil (hK4 _ _ ?_))
 refine CW.s2 (fun hK5 hE5 => ?_)
 refine CW.condp rfl (fun c10 => ?_) (fun c10 => ?_)
 ·
  refine CW.skip (hK5 _ _ (CW.s1 (fun hK6 => CW.block (fun _ hK7 _ _ => CW.s1 (fun hK8 => CW.region ?_)))))
  refine LR.e1 (g := fun ad => .pointer (some ad)) (Y.indexAddr hl2 (k) rfl u'104 s'57 rfl rfl (by first | rfl | omega) (by first | omega | (simp; omega) | (simp; done))) fun ad11 pt11 => ?_
  refine LR.v1 (Y.load1 pt11 rfl a'57 rfl) ?_
  have hr0 := (hx l[k] (List.getElem_mem _)).up hm (fun _ _ h1 h2 => h1 h2)
  have hrl := hr0.len
  refine LR.a1 (LR.nil (hK8 _ _ ?_))
  refine CW.s1 (fun hK9 => CW.region ?_)
  refine LR.m1 ?_
  refine LR.v1 (Y.nilCheck rfl rfl) ?_
  refine LR.v1 (Y.FA hv.pt rfl u'356 rfl s'216) ?_
  refine LR.v1 (Y.load1 (hv.pt.at 73 (hc_all rfl hwt)) rfl a'216 rfl) ?_
  refine LR.m1 ?_
  refine LR.v1 (Y.len hr0 rfl u'57 rfl) ?_
  refine LR.v1 (Y.conv_u64 rfl u'3 u'216 rfl) ?_
  refine LR.v1 (Y.add_u64 rfl rfl rfl) ?_
  refine LR.v1 (Y.nilCheck rfl rfl) ?_
  refine LR.v1 (Y.FA hv.pt rfl u'356 rfl s'216) ?_
  refine LR.s1 (S.var1 hv 73 (_) rfl rfl rfl (rfl) s'216 (by rw [hc_len rfl hwt]; omega) (hc_set_all rfl hwt)) fun H3_10 r3_10 => ?_
  obtain ⟨hv, hst3⟩ := r3_10
  replace hm := hm.trans hst3 (fun _ _ e => e) (fun _ _ e => e)
  replace hr0 := hr0.up hst3 (fun _ _ h1 h2 => h1 h2)
  refine LR.nil (hK9 _ _ (CW.block (fun _ _ hX10 _ => ?_)))
  refine CW.loop (fun (s_ : (Value) × (List UInt8) × (List UInt8) × (List UInt8)) => match s_ with | (v, r, c, wt) => [(0, .pointer (some ⟨hb, 0, none⟩)), (5, v), (7, vl), (8, .int .i64 l.length), (9, .int .i64 k)])
   (fun (s_ : (Value) × (List UInt8) × (List UInt8) × (List UInt8)) (H : Heap) => match s_ with | (v, r, c, wt) => wt.length = 64 ∧ Var 356 H hb (hc (run IV c).1.list wt (run IV c).2.length (al + UInt64.ofNat (cat (l.take k)).length + UInt64.ofNat (l[k]).2.length)) ∧ wt.take (run IV c).2.length = (run IV c).2 ∧ Rd (fun b => b ≠ hb) H fB 1 v r ∧ c ++ r = m ++ cat (l.take k) ++ (l[k]).2 ∧ Mo (fun c => c = hb) H0 H)
   (fun (s_ : (Value) × (List UInt8) × (List UInt8) × (List UInt8)) => match s_ with | (v, r, c, wt) => r.length) ((l[k]).1.v, (l[k]).2, m ++ cat (l.take k), wt) ⟨rfl, rfl, rfl, rfl, rfl, trivial⟩ ?_ ?_
  ·
   exact ⟨hwt, hv, hbuf, hr0, rfl, hm⟩
  rintro ⟨v, r, c, wt⟩ HL2 hI2 K11 hN11 hE11
  obtain ⟨hwt, hv, hbuf, hr, hc0, hm⟩ := hI2
  have hrl := hr.len
  refine CW.s2 (fun hK12 hE12 => CW.s1 (fun hK13 => CW.region ?_))
  refine LR.m1 ?_
  refine LR.v1 (Y.len hr rfl u'57 rfl) ?_
  refine LR.v1 (Y.gtr rfl rfl rfl) (LR.nil (hK13 _ _ ?_))
  refine CW.condp rfl (fun c25 => ?_) (fun c25 => ?_)
  ·
   refine CW.skip (hK12 _ _ (CW.block (fun _ hK14 _ _ => CW.s1 (fun hK15 => ?_))))
   have hn64 := run_rest IV c
   obtain ⟨n, hn⟩ : ∃ n, (run IV c).2.length = n := ⟨_, rfl⟩
   rw [hn] at hv hbuf hn64
   obtain ⟨kk, hkk⟩ : ∃ kk, min r.length (64 - n) = kk := ⟨_, rfl⟩
   have hkl : (r.take kk).length = kk := by simp; omega
   obtain ⟨hj1, hj2⟩ := join_take (x := r.take kk) (n := n) hwt (by omega)
   refine CW.region_tail 9 rfl (by kernel_rfl) (fun T5 hT5 => ?_)
   refine LR.m1 ?_
   refine LR.v1 (Y.nilCheck rfl rfl) ?_
   refine LR.v1 (Y.FA hv.pt rfl u'356 rfl s'354) ?_
   refine LR.m1 ?_
   refine LR.v1 (Y.nilCheck rfl rfl) ?_
   refine LR.v1 (Y.FA hv.pt rfl u'356 rfl s'3) ?_
   refine LR.v1 (Y.load1 (hv.pt.at 72 (hc_n rfl hwt)) rfl a'3 rfl) ?_
   refine LR.v1 ((Y.sliceArr (F := fun c => c = hb) (f := fB) (xs := wt) (hv.pt.drop 8) rfl hv.lt (hwt) (fun i x h => hc_wait rfl i x h) (n) (64) rfl (fun w => .inl (u'354 w)) s'5 rfl (.inr ⟨_, _, _, rfl, rfl, by first | rfl | omega⟩) (.inl ⟨rfl, rfl⟩) (by omega) (by omega) (by decide)).1 _) ?_
   rw [if_neg (by omega)]
   refine LR.m1 ?_
   refine LR.nil (hT5 _ ?_)
   refine LR.z1 (Z.copy (off := 8 + n) hv hr fB_len fB_one rfl Tryz.underlying57 s'5 rfl rfl (by rw [hc_len rfl hwt]; omega) (kk) (by omega)) fun v35 H35 r35 => ?_
   obtain ⟨rfl, hv, hs35⟩ := r35
   rw [hc_splice rfl hwt (by omega)] at hv
   replace hr := hr.up hs35 (fun _ _ h1 h2 => h1 h2)
   replace hm := hm.trans hs35 (fun _ _ e => e) (fun _ _ e => e)
   refine LR.a1 (LR.nil (hK15 _ _ ?_))
   refine CW.s1 (fun hK16 => CW.region ?_)
   refine LR.m1 ?_
   refine LR.v1 (Y.nilCheck rfl rfl) ?_
   refine LR.v1 (Y.FA hv.pt rfl u'356 rfl s'3) ?_
   refine LR.v1 (Y.load1 (hv.pt.at 72 (hc_n rfl hj1)) rfl a'3 rfl) ?_
   refine LR.m1 ?_
   refine LR.v1 (Y.addi rfl rfl rfl (by omega)) ?_
   refine LR.v1 (Y.nilCheck rfl rfl) ?_
   refine LR.v1 (Y.FA hv.pt rfl u'356 rfl s'3) ?_
   refine LR.s1 (S.var1 hv 72 (hc (run IV c).1.list (wt.take n ++ r.take kk ++ wt.drop (n + (r.take kk).length)) (n + kk) (al + UInt64.ofNat (cat (l.take k)).length + UInt64.ofNat (l[k]).2.length)) rfl rfl rfl (rfl) s'3 (by rw [hc_len rfl hj1]; omega) (by rw [← hc_set_n (m := n + kk) (n := n) rfl hj1, Int.natCast_add])) fun H6_8 r6_8 => ?_
   obtain ⟨hv, hs6⟩ := r6_8
   replace hr := hr.up hs6 (fun _ _ h1 h2 => h1 h2)
   replace hm := hm.trans hs6 (fun _ _ e => e) (fun _ _ e => e)
   refine LR.nil (hK16 _ _ (CW.s1 (fun hK17 => CW.region ?_)))
   refine LR.m1 ?_
   refine LR.m1 ?_
   refine LR.e1 (g := fun v => v) (Y.slice hr (kk) (_) rfl u'57 s'5 rfl (.inr ⟨_, _, _, rfl, rfl, by first | rfl | omega⟩) (.inl ⟨rfl, rfl⟩) (by omega) (by omega)) fun v46 rd46 => ?_
   rw [List.take_length] at rd46
   refine LR.a1 (LR.nil (hK17 _ _ ?_))
   refine CW.s1 (fun hK18 => CW.region ?_)
   refine LR.m1 ?_
   refine LR.v1 (Y.nilCheck rfl rfl) ?_
   refine LR.v1 (Y.FA hv.pt rfl u'356 rfl s'3) ?_
   refine LR.v1 (Y.load1 (hv.pt.at 72 (hc_n rfl hj1)) rfl a'3 rfl) ?_
   refine LR.v1 (Y.eql rfl rfl rfl) (LR.nil (hK18 _ _ ?_))
   refine CW.condp rfl (fun c51 => ?_) (fun c51 => ?_)
   ·
    refine CW.region ?_
    refine LR.m1 ?_
    refine LR.call rfl c'273 rfl (Wd.u rfl) rfl rfl (block_ct hb _ _ _ _ w0 _ hv hj1) (fun v53 H53 r53 => ?_)
    obtain ⟨rfl, hv, hs53⟩ := r53
    replace rd46 := rd46.up hs53 (fun _ _ h1 h2 => h1 h2)
    replace hm := hm.trans hs53 (fun _ _ e => e) (fun _ _ e => e)
    refine LR.nil (hK14 _ _ ?_)
    have hrn := run_full (x := r.take kk) (c := c) (wt := wt) hn hbuf hwt (by omega)
    refine QN.sub (hN11 (v46, r.drop kk, c ++ r.take kk, wt.take n ++ r.take kk ++ wt.drop (n + (r.take kk).length)) _ ?_ ?_) ⟨rfl, rfl, rfl, (iv (by omega)), (iv (by omega)), trivial⟩
    · exact ⟨hj1, by rw [hrn]; exact hv, by rw [hrn]; rfl, rd46, by rw [List.append_assoc, List.take_append_drop]; exact hc0, hm⟩
    · show (r.drop kk).length < r.length; rw [List.length_drop]; omega
   ·
    refine CW.skip (hK14 _ _ ?_)
    have hrn := run_part (x := r.take kk) (c := c) (wt := wt) hn hbuf hwt (by omega)
    have hl2 : (wt.take n ++ r.take kk).length = n + kk := by rw [List.length_append, List.length_take]; omega
    refine QN.sub (hN11 (v46, r.drop kk, c ++ r.take kk, wt.take n ++ r.take kk ++ wt.drop (n + (r.take kk).length)) _ ?_ ?_) ⟨rfl, rfl, rfl, (iv (by omega)), (iv (by omega)), trivial⟩
    · exact ⟨hj1, by rw [hrn]; simp only; rw [hl2]; exact hv, by rw [hrn]; simp only; rw [hl2]; simpa only [hkl] using hj2, rd46, by rw [List.append_assoc, List.take_append_drop]; exact hc0, hm⟩
    · show (r.drop kk).length < r.length; rw [List.length_drop]; omega
  ·
   have hr0 : r = [] := List.eq_nil_of_length_eq_zero (by omega)
   subst hr0
   rw [List.append_nil] at hc0
   subst hc0
   refine CW.exit (hE12 (.exit 2) nofun _ _ (hE11 (.exit 2) nofun _ _ (hX10 _ _ ?_)))
   refine hK7 _ _ (hK6 _ _ (CW.region ?_))
   refine LR.v1 (Y.addi rfl rfl rfl (by omega)) ?_
   refine LR.m1 (LR.nil ?_)
   refine QN.sub (hN3 (k + 1) _ ?_ ?_) ⟨rfl, rfl, (iv (by omega)), (iv (by omega)), trivial⟩
   · exact ⟨by omega, ⟨wt, hwt, by rw [cat_take l k (by omega), ← List.append_assoc, List.length_append, UInt64.ofNat_add, ← UInt64.add_assoc]; exact hv, by rw [cat_take l k (by omega), ← List.append_assoc]; exact hbuf⟩, hm⟩
   · omega
 ·
  refine CW.exit (hE5 (.exit 0) nofun _ _ (hE3 (.exit 0) nofun _ _ (hX2 _ _ ?_)))
  refine hret .normal (.inl rfl) _ _ _ (res0 rfl) ?_
  have hkl : k = l.length := by omega
  subst hkl
  rw [List.take_length] at hS
  exact ⟨rfl, hS, hm⟩
end Go.Proofs.YtfjmpninmdjcaaaGreatDoor.SumD

namespace Go.Proofs.YtfjmpninmdjcaaaGreatDoor.SumE
open E Go.RowKit SumA SumB SumC SumD
set_option maxRecDepth 20000
def numL : Nat → UInt64 → List UInt8
 | 0, _ => []
 | j + 1, x => UInt8.ofNat (shrw_u64 x (8 * j)).toNat :: numL j x
theorem numL_len : ∀ (n : Nat) (x : UInt64), (numL n x).length = n
 | 0, _ => rfl
 | n + 1, x => by rw [numL, List.length_cons, numL_len]
end Go.Proofs.YtfjmpninmdjcaaaGreatDoor.SumE

namespace Go.Proofs.YtfjmpninmdjcaaaGreatDoor.SumF
open E Go.RowKit SumA SumB SumC SumD SumE
set_option maxRecDepth 20000
def padZ (n : Nat) : Nat := (119 - n % 64) % 64
def padOf (n : Nat) : List UInt8 := 0x80 :: (List.replicate (padZ n) 0 ++ numL 8 (UInt64.ofNat (8 * n)))
def outL (s : List UInt32) : List UInt8 := (List.range 32).map (fun i => UInt8.ofNat (shrw_u32 (s.getD (i / 4) 0) (24 - 8 * (i % 4))).toNat)
theorem outL_len (s : List UInt32) : (outL s).length = 32 := by simp [outL]
def sumOf (m : List UInt8) : List UInt8 := outL (run IV (m ++ padOf m.length)).1.list
theorem sumOf_len (m : List UInt8) : (sumOf m).length = 32 := outL_len _
theorem map_set8 (w : List UInt8) (j : Nat) (x : UInt8) : (w.map V8).set (0 + j) (V8 x) = (w.set j x).map V8 := by rw [Nat.zero_add, List.map_set]
theorem take8_succ (w r : List UInt8) (i : Nat) (x : UInt8) (h : w.take i = r.take i) (hi : i < w.length) (hr : r[i]? = some x) : (w.set i x).take (i + 1) = r.take (i + 1) := by
 have h2 := (List.getElem?_eq_some_iff.1 hr)
 obtain ⟨h3, h4⟩ := h2
 rw [take_set_succ _ _ _ hi, h, List.take_succ_eq_append_getElem h3, h4]
theorem outL_get (s : List UInt32) (i : Nat) (h : i < 32) : (outL s)[i]? = some (UInt8.ofNat (shrw_u32 (s.getD (i / 4) 0) (24 - 8 * (i % 4))).toNat) := by
 simp [outL, h]
end Go.Proofs.YtfjmpninmdjcaaaGreatDoor.SumF

namespace Go.Proofs.YtfjmpninmdjcaaaGreatDoor.SumG
open E Go.RowKit SumA SumB SumC SumD SumE SumF
set_option maxRecDepth 20000
set_option maxRecDepth 100000 in
theorem inf57 : Inf Tryz.prog 57 5 1 1 := ⟨Tryz.underlying57, _, _, rfl, rfl, rfl, rfl, rfl⟩
set_option maxRecDepth 100000 in
theorem inf104 : Inf Tryz.prog 104 57 1 24 := ⟨Tryz.underlying104, _, _, rfl, rfl, rfl, rfl, rfl⟩
theorem zvHash : ∀ w, (zeroValue 356).run Tryz.prog w = .ok (.agg (hc (List.replicate 8 0) (List.replicate 64 0) 0 0).toArray) w := fun w => by kernel_rfl
theorem splice_all {cs vs : List Value} (h : cs.length = vs.length) : splice cs 0 vs = vs := by simp [splice, ← h]
theorem hc_one (s : List UInt32) (wt : List UInt8) (n : Nat) (al : UInt64) : ∀ u ∈ hc s wt n al, u.oneCell' = true := by
 intro u hu
 simp only [hc, List.mem_append, List.mem_map, List.mem_cons, List.not_mem_nil, or_false] at hu
 rcases hu with (⟨x, _, rfl⟩ | ⟨x, _, rfl⟩) | rfl | rfl <;> rfl
theorem run_mod_aux : ∀ (n : Nat) (s : S8) (b : List UInt8), b.length ≤ n → (run s b).2.length = b.length % 64 := by
 intro n
 induction n with
 | zero => intro s b h; rw [run_lt s b (by omega)]; simp only; omega
 | succ n ih =>
   intro s b h
   by_cases hb : b.length < 64
   · rw [run_lt s b hb]; simp only; omega
   · rw [run_ge s b (by omega), ih _ _ (by simp; omega)]; simp; omega
theorem run_mod (s : S8) (b : List UInt8) : (run s b).2.length = b.length % 64 := run_mod_aux _ s b (Nat.le_refl _)
theorem pad_set (z : Nat) : (List.replicate (1 + z) (0 : UInt8)).set 0 0x80 = 0x80 :: List.replicate z 0 := by rw [Nat.add_comm, List.replicate_succ, List.set_cons_zero]
theorem outL_at (s : List UInt32) (i k : Nat) (hi : i < 8) (hk : k < 4) : (outL s)[4 * i + k]? = some (UInt8.ofNat (shrw_u32 (s.getD i 0) (24 - 8 * k)).toNat) := by
 rw [outL_get s _ (by omega), show (4 * i + k) / 4 = i by omega, show (4 * i + k) % 4 = k by omega]
set_option maxHeartbeats 4000000 in
theorem psum_ct (hb : Nat) (m : List UInt8) (w0 : World) (H0 : Heap)
 (hS : HS H0 hb m (UInt64.ofNat m.length)) (hml : m.length ≤ 1099511627776) :
 Ct Tryz.prog w0 258 #[.pointer (some ⟨hb, 0, none⟩)] H0 (fun r H2 => r = .agg ((sumOf m).map V8).toArray ∧ Mo (fun c => False) H0 H2) := by
 refine Ct.enter (args := [.pointer (some ⟨hb, 0, none⟩)]) Tryz.func258 rfl rfl rfl ?_
 intro Q0 hret
 obtain ⟨wt, hwt, hv, hbuf⟩ := hS.ex
 have hn64 := run_rest IV m
 have hnm := run_mod IV m
 obtain ⟨n, hn⟩ : ∃ n, (run IV m).2.length = n := ⟨_, rfl⟩
 have hbuf0 := hbuf
 rw [hn] at hv hbuf hn64 hnm
 have hlt_hv := hv.lt
 have hlt_hS := hS.lt
 have hm0 : Mo (fun c => False) H0 H0 := Mo.refl _ _
 refine CW.s1 (fun hK1 => CW.region ?_)
 refine LR.z1 (Z.allocv rfl z'26) fun v2 H2 r2 => ?_
 obtain ⟨rfl, va2, hs2, ob2, hH2⟩ := r2
 have hzs2 : H2.size = H0.size + 1 := by rw [hH2]; simp
 replace hv := hv.nw hs2
 replace hm0 := hm0.trans hs2 (fun b hb0 hb1 => hb1) (fun b hb0 hb1 => hb1.elim)
 have hz1 := hs2.size
 have hlt_va2 := va2.lt
 replace va2 : Var 26 H2 H0.size ((List.replicate 32 (0 : UInt8)).map V8) := va2
 refine LR.nil (hK1 _ _ (CW.s1 (fun hK2 => CW.region ?_)))
 refine LR.m1 ?_
 refine LR.v1 (Y.nilCheck rfl rfl) ?_
 refine LR.v1 (Y.loadN hv.pt rfl a'356 s'356 (hc_len rfl hwt) rfl) ?_
 refine LR.z1 (Z.allocv rfl zvHash) fun v3 H3 r3 => ?_
 obtain ⟨rfl, va3, hs3, ob3, hH3⟩ := r3
 have hzs3 : H3.size = H2.size + 1 := by rw [hH3]; simp
 replace hv := hv.nw hs3
 replace hm0 := hm0.trans hs3 (fun b hb0 hb1 => hb1) (fun b hb0 hb1 => hb1.elim)
 replace va2 := va2.nw hs3
 have hz2 := hs3.size
 have hlt_va3 := va3.lt
 replace va3 : Var 356 H3 H2.size (hc (List.replicate 8 0) (List.replicate 64 0) 0 0) := va3
 refine LR.s1 (S.var va3 (hc (run IV m).1.list wt n (UInt64.ofNat m.length)) (hc (run IV m).1.list wt n (UInt64.ofNat m.length)) rfl rfl rfl rfl (hc_one _ _ _ _) s'356 (hc_len rfl hwt) (Nat.le_of_ble_eq_true rfl) (splice_all (by rw [hc_len (by simp) (by simp), hc_len rfl hwt]))) fun H1_4 r1_4 => ?_
 obtain ⟨va3, hs1_4⟩ := r1_4
 replace hv := hv.up hs1_4 (by omega)
 replace hm0 := hm0.trans hs1_4 (fun b hb0 hb1 => hb1) (fun b hb0 hb1 => by omega)
 replace va2 := va2.up hs1_4 (by omega)
 have hz3 := hs1_4.size
 refine LR.nil (hK2 _ _ (CW.s1 (fun hK3 => ?_)))
 have hpz : padZ m.length = (119 - m.length % 64) % 64 := rfl
 refine CW.region ?_
 refine LR.v1 (Y.FA va3.pt rfl u'356 rfl s'3) ?_
 refine LR.v1 (Y.load1 (va3.pt.at 72 (hc_n rfl hwt)) rfl a'3 rfl) ?_
 refine LR.v1 (Y.subi rfl rfl rfl (by omega)) ?_
 refine LR.v1 (Y.remi rfl rfl rfl (by omega)) ?_
 refine LR.v1 (Y.addi rfl rfl rfl (by omega)) ?_
 refine LR.z1 (Z.makew (1 + padZ m.length) ((0 : UInt8)) rfl inf57 z'5 rfl fB_len fB_one rfl rfl (by first | rfl | omega) (by omega) (by omega)) fun v18 H18 r18 => ?_
 obtain ⟨ow4, hs18, ob18, hH18⟩ := r18
 have hzs18 : H18.size = H1_4.size + 1 := by rw [hH18]; simp
 replace hv := hv.nw hs18
 replace hm0 := hm0.trans hs18 (fun b hb0 hb1 => hb1) (fun b hb0 hb1 => hb1.elim)
 replace va2 := va2.nw hs18
 replace va3 := va3.nw hs18
 have hz4 := hs18.size
 have hle_ow4 := ow4.le
 refine LR.a1 (LR.nil (hK3 _ _ ?_))
 refine CW.s1 (fun hK4 => CW.region ?_)
 refine LR.m1 ?_
 refine LR.v1 (Y.owAddr ow4 (0) rfl u'57 s'5 rfl rfl (by first | rfl | omega) (by first | omega | (simp; omega) | (simp; done))) ?_
 refine LR.s1 (S.oww ow4 (0) 0 ((0x80 : UInt8)) rfl rfl rfl rfl s'5 (by first | omega | (simp; omega) | (simp; done)) (by decide) (rfl)) fun H3_2 r3_2 => ?_
 obtain ⟨ow4, hs3_2⟩ := r3_2
 replace hv := hv.up hs3_2 (by omega)
 replace hm0 := hm0.trans hs3_2 (fun b hb0 hb1 => hb1) (fun b hb0 hb1 => by omega)
 replace va2 := va2.up hs3_2 (by omega)
 replace va3 := va3.up hs3_2 (by omega)
 have hz5 := hs3_2.size
 rw [pad_set] at ow4
 refine LR.nil (hK4 _ _ (CW.s1 (fun hK5 => CW.s1 (fun hK6 => CW.region ?_))))
 refine LR.a1 (LR.nil (hK6 _ _ ?_))
 refine CW.block (fun _ _ hX7 _ => ?_)
 refine CW.loop (fun (s_ : (Nat) × (Value) × (Nat) × (List UInt8)) => match s_ with | (j, v', k', ys) => [(0, .pointer (some ⟨hb, 0, none⟩)), (2, .pointer (some ⟨H0.size, 0, none⟩)), (3, .pointer (some ⟨H2.size, 0, none⟩)), (4, v'), (5, .int .i64 (8 * (j : Int) - 8))])
  (fun (s_ : (Nat) × (Value) × (Nat) × (List UInt8)) (H : Heap) => match s_ with | (j, v', k', ys) => (j ≤ 8) ∧ (Ow k' 5 H fB 1 v' ys) ∧ (k' = 0 ∨ k' = H1_4.size + 1 ∨ H3_2.size < k') ∧ (ys ++ numL j (UInt64.ofNat (8 * m.length)) = (0x80 :: List.replicate (padZ m.length) (0 : UInt8)) ++ numL 8 (UInt64.ofNat (8 * m.length))) ∧ Mo (fun c => c = H1_4.size) H3_2 H)
  (fun (s_ : (Nat) × (Value) × (Nat) × (List UInt8)) => match s_ with | (j, v', k', ys) => j) (8, v18, H1_4.size + 1, (0x80 :: List.replicate (padZ m.length) (0 : UInt8))) ⟨rfl, rfl, rfl, rfl, rfl, trivial⟩ ?_ ?_
 ·
  exact ⟨(by omega), ow4, (by omega), rfl, Mo.refl _ _⟩
 rintro ⟨j, v', k', ys⟩ HL1 hI1 K8 hN8 hE8
 obtain ⟨hj, ow4, hk, hys, hlm1⟩ := hI1
 replace hv := hv.up hlm1 (by omega)
 replace hm0 := hm0.trans hlm1 (fun b hb0 hb1 => hb1) (fun b hb0 hb1 => by omega)
 replace va2 := va2.up hlm1 (by omega)
 replace va3 := va3.up hlm1 (by omega)
 have hz6 := hlm1.size
 have hle_ow4 := ow4.le
 have hyl : ys.length + j = padZ m.length + 9 := by have := congrArg List.length hys; simpa [numL_len] using this
 have hpz2 : padZ m.length < 64 := by rw [padZ]; omega
 refine CW.s2 (fun hK9 hE9 => CW.s1 (fun hK10 => CW.region ?_))
 refine LR.m1 ?_
 refine LR.v1 (Y.geq rfl rfl rfl) (LR.nil (hK10 _ _ ?_))
 refine CW.condp rfl (fun c22 => ?_) (fun c22 => ?_)
 ·
  obtain ⟨j, rfl⟩ : ∃ q, j = q + 1 := ⟨j - 1, by omega⟩
  refine CW.skip (hK9 _ _ (CW.s1 (fun hK11 => CW.block (fun _ hK12 _ _ => CW.region ?_))))
  refine LR.m1 ?_
  refine LR.m1 ?_
  refine LR.v1 (Y.nilCheck rfl rfl) ?_
  refine LR.v1 (Y.FA hv.pt rfl u'356 rfl s'216) ?_
  refine LR.v1 (Y.load1 (hv.pt.at 73 (hc_all rfl hwt)) rfl a'216 rfl) ?_
  refine LR.v1 (Y.cast (v2 := .int .u64 (UInt64.ofNat (8 * m.length)).toNat) (Y.mul_u64 (b := (UInt64.ofNat 8)) rfl rfl rfl) (by rw [← UInt64.ofNat_mul, Nat.mul_comm])) ?_
  refine LR.m1 ?_
  refine LR.v1 (Y.shr_u64 (8 * j) rfl rfl rfl (by first | rfl | omega) (by omega)) ?_
  refine LR.v1 (Y.conv_u8 rfl u'216 u'5 rfl) ?_
  refine LR.z1 (Z.litw _ ([UInt8.ofNat (shrw_u64 (UInt64.ofNat (8 * m.length)) (8 * j)).toNat]) rfl inf57 rfl rfl rfl (by decide) (by decide) fB_len fB_one (rfl)) fun v34 H34 r34 => ?_
  obtain ⟨ow34, hs34, ob34, hH34⟩ := r34
  have hzs34 : H34.size = HL1.size + 1 := by rw [hH34]; simp
  replace hm0 := hm0.trans hs34 (fun b hb0 hb1 => hb1) (fun b hb0 hb1 => hb1.elim)
  replace ow4 := ow4.nw hs34
  try replace hlm1 := hlm1.trans hs34 (fun b hb0 hb1 => hb1) (fun b hb0 hb1 => hb1.elim)
  have hz7 := hs34.size
  have hle_ow34 := ow34.le
  refine LR.z1 (Z.apnd ow4 ow34.rd rfl inf57 rfl rfl (by first | omega | (simp; omega)) (by first | omega | (simp; omega))) fun v35 H35 r35 => ?_
  obtain ⟨k35, ow35, hk35, hs35⟩ := r35
  replace hm0 := hm0.trans hs35 (fun b hb0 hb1 => hb1) (fun b hb0 hb1 => by omega)
  try replace hlm1 := hlm1.trans hs35 (fun b hb0 hb1 => hb1) (fun b hb0 hb1 => by omega)
  have hz8 := hs35.size
  have hle_ow35 := ow35.le
  refine LR.a1 (LR.nil (hK12 _ _ ?_))
  refine hK11 _ _ (CW.region ?_)
  refine LR.m1 ?_
  refine LR.v1 (Y.subi rfl rfl rfl (by omega)) ?_
  refine LR.a1 (LR.nil ?_)
  refine QN.sub (hN8 (j, v35, k35, ys ++ [UInt8.ofNat (shrw_u64 (UInt64.ofNat (8 * m.length)) (8 * j)).toNat]) _ ?_ ?_) ⟨rfl, rfl, rfl, rfl, (iv (by omega)), trivial⟩
  · exact ⟨(by omega), ow35, (by omega), by rw [← hys, List.append_assoc]; rfl, hlm1⟩
  · first | omega | (simp only; omega) | (simp; omega)
 ·
  obtain rfl : j = 0 := by omega
  rw [numL, List.append_nil] at hys
  replace hys : ys = padOf m.length := by rw [hys]; rfl
  subst hys
  refine CW.exit (hE9 (.exit 0) nofun _ _ (hE8 (.exit 0) nofun _ _ (hX7 _ _ ?_)))
  refine hK5 _ _ (CW.s1 (fun hK13 => CW.region ?_))
  refine LR.m1 ?_
  refine LR.z1 (Z.litw _ ([((toSV v', padOf m.length) : SV × List UInt8)]) rfl inf104 rfl rfl rfl (by decide) (by decide) fP_len fP_one (by simp only [List.map_cons, List.map_nil, fP]; rw [ow4.sv, ow4.rd.cells1])) fun v37 H37 r37 => ?_
  obtain ⟨ow37, hs37, ob37, hH37⟩ := r37
  have hzs37 : H37.size = HL1.size + 1 := by rw [hH37]; simp
  replace hm0 := hm0.trans hs37 (fun b hb0 hb1 => hb1) (fun b hb0 hb1 => hb1.elim)
  replace va2 := va2.nw hs37
  replace va3 := va3.nw hs37
  replace ow4 := ow4.nw hs37
  have hz9 := hs37.size
  have hle_ow37 := ow37.le
  refine LR.call rfl c'257 rfl (Wd.u rfl) rfl rfl (write_ct H2.size _ m (UInt64.ofNat m.length) [((toSV v', padOf m.length) : SV × List UInt8)] w0 _ ⟨wt, hwt, hn ▸ va3, hbuf0⟩ (ow37.rd.imp (fun b _ h => by omega)) (by intro x hx; simp only [List.mem_singleton] at hx; subst hx; simp only; rw [ow4.sv]; exact ow4.rd.imp (fun b _ h => by omega))) (fun v38 H38 r38 => ?_)
  obtain ⟨rfl, hS3, hs38⟩ := r38
  have hct : m ++ cat [((toSV v', padOf m.length) : SV × List UInt8)] = m ++ padOf m.length := by simp [cat]
  rw [hct] at hS3
  obtain ⟨wt3, hwt3, va3, hbuf3⟩ := hS3.ex
  replace hm0 := hm0.trans hs38 (fun b hb0 hb1 => hb1) (fun b hb0 hb1 => by omega)
  replace va2 := va2.up hs38 (by omega)
  have hz10 := hs38.size
  refine LR.nil (hK13 _ _ (CW.s1 (fun hK14 => CW.region ?_)))
  refine LR.z1 (Z.allocv rfl z'26) fun v6 H6 r6 => ?_
  obtain ⟨rfl, va6, hs6, ob6, hH6⟩ := r6
  have hzs6 : H6.size = H38.size + 1 := by rw [hH6]; simp
  replace hm0 := hm0.trans hs6 (fun b hb0 hb1 => hb1) (fun b hb0 hb1 => hb1.elim)
  replace va2 := va2.nw hs6
  replace va3 := va3.nw hs6
  have hz11 := hs6.size
  have hlt_va6 := va6.lt
  replace va6 : Var 26 H6 H38.size ((List.replicate 32 (0 : UInt8)).map V8) := va6
  refine LR.nil (hK14 _ _ (CW.s1 (fun hK15 => CW.s1 (fun hK16 => CW.region ?_))))
  refine LR.v1 (Y.FA va3.pt rfl u'356 rfl s'336) ?_
  refine LR.v1 (Y.cast (v2 := .agg ((run IV (m ++ padOf m.length)).1.list.map V32).toArray) (Y.loadN (va3.pt.take 8) rfl a'336 s'336 (rfl) rfl) (rfl)) ?_
  refine LR.m1 (LR.nil (hK16 _ _ ?_))
  refine CW.block (fun _ _ hX17 _ => ?_)
  refine CW.loop (fun (s_ : (Nat) × (List UInt8)) => match s_ with | (i, o) => [(2, .pointer (some ⟨H0.size, 0, none⟩)), (6, .pointer (some ⟨H38.size, 0, none⟩)), (40, .agg ((run IV (m ++ padOf m.length)).1.list.map V32).toArray), (41, .int .i64 i)])
   (fun (s_ : (Nat) × (List UInt8)) (H : Heap) => match s_ with | (i, o) => (i ≤ 8) ∧ (o.length = 32) ∧ (o.take (4 * i) = (outL (run IV (m ++ padOf m.length)).1.list).take (4 * i)) ∧ (Var 26 H H38.size (o.map V8)) ∧ Mo (fun c => c = H38.size) H6 H)
   (fun (s_ : (Nat) × (List UInt8)) => match s_ with | (i, o) => 8 - i) (0, List.replicate 32 0) ⟨rfl, rfl, rfl, rfl, trivial⟩ ?_ ?_
  ·
   exact ⟨(by omega), by simp, by simp, va6, Mo.refl _ _⟩
  rintro ⟨i, o⟩ HL2 hI2 K18 hN18 hE18
  obtain ⟨hi, hol, hot, va6, hlm2⟩ := hI2
  replace hm0 := hm0.trans hlm2 (fun b hb0 hb1 => hb1) (fun b hb0 hb1 => by omega)
  replace va2 := va2.up hlm2 (by omega)
  have hz12 := hlm2.size
  have hlt_va6 := va6.lt
  refine CW.s1 (fun hK19 => CW.region ?_)
  refine LR.v1 (Y.lss rfl rfl rfl) (LR.nil (hK19 _ _ ?_))
  refine CW.s2 (fun hK20 hE20 => ?_)
  refine CW.condp rfl (fun c42 => ?_) (fun c42 => ?_)
  ·
   refine CW.skip (hK20 _ _ (CW.s1 (fun hK21 => CW.block (fun _ hK22 _ _ => CW.s1 (fun hK23 => CW.region ?_)))))
   refine LR.m1 ?_
   refine LR.v1 (Y.arrIndex (i) rfl u'336 s'329 a'329 rfl rfl (by first | rfl | omega) (by omega) ((by rw [List.getElem?_toArray]; exact map_get (run IV (m ++ padOf m.length)).1.list i (by simp; omega)))) ?_
   refine LR.a1 ?_
   refine LR.a1 (LR.nil (hK23 _ _ ?_))
   refine CW.s1 (fun hK24 => CW.region ?_)
   refine LR.m1 (LR.nil (hK24 _ _ ?_))
   refine CW.block (fun _ _ hX25 _ => ?_)
   refine CW.loop (fun (s_ : (Nat) × (List UInt8)) => match s_ with | (k, o) => [(2, .pointer (some ⟨H0.size, 0, none⟩)), (6, .pointer (some ⟨H38.size, 0, none⟩)), (7, .int .i64 i), (8, .int .u32 ((run IV (m ++ padOf m.length)).1.list.getD i 0).toNat), (40, .agg ((run IV (m ++ padOf m.length)).1.list.map V32).toArray), (41, .int .i64 i), (45, .int .i64 k)])
    (fun (s_ : (Nat) × (List UInt8)) (H : Heap) => match s_ with | (k, o) => (k ≤ 4) ∧ (o.length = 32) ∧ (o.take (4 * i + k) = (outL (run IV (m ++ padOf m.length)).1.list).take (4 * i + k)) ∧ (Var 26 H H38.size (o.map V8)) ∧ Mo (fun c => c = H38.size) HL2 H)
    (fun (s_ : (Nat) × (List UInt8)) => match s_ with | (k, o) => 4 - k) (0, o) ⟨rfl, rfl, rfl, rfl, rfl, rfl, rfl, trivial⟩ ?_ ?_
   ·
    exact ⟨(by omega), hol, hot, va6, Mo.refl _ _⟩
   rintro ⟨k, o⟩ HL3 hI3 K26 hN26 hE26
   obtain ⟨hk4, hol, hot, va6, hlm3⟩ := hI3
   replace hm0 := hm0.trans hlm3 (fun b hb0 hb1 => hb1) (fun b hb0 hb1 => by omega)
   try replace hlm2 := hlm2.trans hlm3 (fun b hb0 hb1 => hb1) (fun b hb0 hb1 => by omega)
   have hz13 := hlm3.size
   have hlt_va6 := va6.lt
   refine CW.s1 (fun hK27 => CW.region ?_)
   refine LR.v1 (Y.lss rfl rfl rfl) (LR.nil (hK27 _ _ ?_))
   refine CW.s2 (fun hK28 hE28 => ?_)
   refine CW.condp rfl (fun c46 => ?_) (fun c46 => ?_)
   ·
    refine CW.skip (hK28 _ _ (CW.s1 (fun hK29 => CW.block (fun _ hK30 _ _ => CW.s1 (fun hK31 => CW.region ?_)))))
    refine LR.m1 ?_
    refine LR.a1 (LR.nil (hK31 _ _ ?_))
    refine CW.region ?_
    refine LR.m1 ?_
    refine LR.v1 (Y.muli rfl rfl rfl (by omega)) ?_
    refine LR.m1 ?_
    refine LR.v1 (Y.addi rfl rfl rfl (by omega)) ?_
    refine LR.m1 ?_
    refine LR.m1 ?_
    refine LR.v1 (Y.muli rfl rfl rfl (by omega)) ?_
    refine LR.v1 (Y.subi rfl rfl rfl (by omega)) ?_
    refine LR.v1 (Y.shr_u32 (24 - 8 * k) rfl rfl rfl (by omega) (by omega)) ?_
    refine LR.v1 (Y.conv_u8 rfl u'329 u'5 rfl) ?_
    refine LR.v1 (Y.arrAddr va6.pt (4 * i + k) rfl u'26 s'5 rfl rfl (by first | rfl | omega) (by first | omega | (simp; omega) | (simp; done))) ?_
    refine LR.s1 (S.var1 va6 (0 + (4 * i + k)) (_) rfl rfl rfl (rfl) s'5 (by simp; omega) (map_set8 o (4 * i + k) _)) fun H16_11 r16_11 => ?_
    obtain ⟨va6, hs16_11⟩ := r16_11
    replace hm0 := hm0.trans hs16_11 (fun b hb0 hb1 => hb1) (fun b hb0 hb1 => by omega)
    try replace hlm2 := hlm2.trans hs16_11 (fun b hb0 hb1 => hb1) (fun b hb0 hb1 => by omega)
    try replace hlm3 := hlm3.trans hs16_11 (fun b hb0 hb1 => hb1) (fun b hb0 hb1 => by omega)
    have hz14 := hs16_11.size
    refine LR.nil (hK30 _ _ (hK29 _ _ (CW.region ?_)))
    refine LR.v1 (Y.addi rfl rfl rfl (by omega)) ?_
    refine LR.m1 (LR.nil ?_)
    refine QN.sub (hN26 (k + 1, o.set (4 * i + k) (UInt8.ofNat (shrw_u32 ((run IV (m ++ padOf m.length)).1.list.getD i 0) (24 - 8 * k)).toNat)) _ ?_ ?_) ⟨rfl, rfl, (iv (by omega)), (iv (by omega)), rfl, (iv (by omega)), (iv (by omega)), trivial⟩
    · exact ⟨(by omega), by simp [hol], take8_succ o _ (4 * i + k) _ hot (by omega) (outL_at _ i k (by omega) (by omega)), va6, hlm3⟩
    · first | omega | (simp only; omega) | (simp; omega)
   ·
    obtain rfl : k = 4 := by omega
    rw [show 4 * i + 4 = 4 * (i + 1) by omega] at hot
    refine CW.exit (hE28 (.exit 4) nofun _ _ (hE26 (.exit 4) nofun _ _ (hX25 _ _ ?_)))
    refine hK22 _ _ (hK21 _ _ (CW.region ?_))
    refine LR.v1 (Y.addi rfl rfl rfl (by omega)) ?_
    refine LR.m1 (LR.nil ?_)
    refine QN.sub (hN18 (i + 1, o) _ ?_ ?_) ⟨rfl, rfl, rfl, (iv (by omega)), trivial⟩
    · exact ⟨(by omega), hol, hot, va6, hlm2⟩
    · first | omega | (simp only; omega) | (simp; omega)
  ·
   obtain rfl : i = 8 := by omega
   rw [List.take_of_length_le (by omega), List.take_of_length_le (by rw [outL_len]; omega), show outL (run IV (m ++ padOf m.length)).1.list = sumOf m from rfl] at hot
   subst hot
   refine CW.exit (hE20 (.exit 2) nofun _ _ (hE18 (.exit 2) nofun _ _ (hX17 _ _ ?_)))
   refine hK15 _ _ (CW.s1 (fun hK32 => CW.region ?_))
   refine LR.v1 (Y.loadN va6.pt rfl a'26 s'26 (rfl) rfl) ?_
   refine LR.s1 (S.var va2 ((sumOf m).map V8) ((sumOf m).map V8) rfl rfl rfl rfl (by intro u hu; obtain ⟨x, _, rfl⟩ := List.mem_map.1 hu; rfl) s'26 (rfl) (by simp [sumOf_len]) (by simp [splice, sumOf_len])) fun H19_1 r19_1 => ?_
   obtain ⟨va2, hs19_1⟩ := r19_1
   replace hm0 := hm0.trans hs19_1 (fun b hb0 hb1 => hb1) (fun b hb0 hb1 => by omega)
   refine LR.nil (hK32 _ _ ?_)
   refine CW.ret (hret .ret (.inr rfl) _ _ _ (resC rfl rfl va2.pt a'26 s'26 (by first | rfl | simp)) ?_)
   exact ⟨rfl, hm0⟩
theorem ofNat_zero_add (n : Nat) : (0 : UInt64) + UInt64.ofNat n = UInt64.ofNat n := by simp
theorem pof_ct (vl : Value) (l : List (SV × List UInt8)) (w0 : World) (H0 : Heap)
 (hl : RdT H0 fP 1 vl l) (hx : ∀ x ∈ l, RdT H0 fB 1 x.1.v x.2) (hml : (cat l).length ≤ 1099511627776) :
 Ct Tryz.prog w0 224 #[vl] H0 (fun r H2 => r = .agg ((sumOf (cat l)).map V8).toArray ∧ Mo (fun c => False) H0 H2) := by
 refine Ct.enter (args := [vl]) Tryz.func224 rfl rfl rfl ?_
 intro Q0 hret
 replace hl := hl.lt
 replace hx := fun x hx0 => (hx x hx0).lt
 have hm0 : Mo (fun c => False) H0 H0 := Mo.refl _ _
 refine CW.s1 (fun hK1 => CW.region ?_)
 refine LR.z1 (Z.allocv rfl z'26) fun v2 H2 r2 => ?_
 obtain ⟨rfl, va2, hs2, ob2, hH2⟩ := r2
 have hzs2 : H2.size = H0.size + 1 := by rw [hH2]; simp
 replace hl := hl.nw hs2
 replace hx := fun x hx0 => (hx x hx0).up hs2 (fun b hb0 hb1 hb2 => hb2)
 replace hm0 := hm0.trans hs2 (fun b hb0 hb1 => hb1) (fun b hb0 hb1 => hb1.elim)
 have hz1 := hs2.size
 have hlt_va2 := va2.lt
 replace va2 : Var 26 H2 H0.size ((List.replicate 32 (0 : UInt8)).map V8) := va2
 refine LR.nil (hK1 _ _ (CW.s1 (fun hK2 => CW.region ?_)))
 refine LR.call rfl c'256 rfl (Wd.u rfl) rfl rfl (new_ct w0 _) (fun v4 H4 r4 => ?_)
 obtain ⟨rfl, hS, hs4, hz4⟩ := r4
 replace hl := hl.nw hs4
 replace hx := fun x hx0 => (hx x hx0).up hs4 (fun b hb0 hb1 hb2 => hb2)
 replace hm0 := hm0.trans hs4 (fun b hb0 hb1 => hb1) (fun b hb0 hb1 => hb1.elim)
 replace va2 := va2.nw hs4
 have hz2 := hs4.size
 refine LR.a1 (LR.nil (hK2 _ _ ?_))
 refine CW.s1 (fun hK3 => CW.region ?_)
 refine LR.m1 ?_
 refine LR.m1 ?_
 have hSl := hS.lt
 refine LR.call rfl c'257 rfl (Wd.u rfl) rfl rfl (write_ct H2.size _ [] 0 l w0 _ hS (hl.imp (fun b _ h => by omega)) (fun x hx0 => (hx x hx0).imp (fun b _ h => by omega))) (fun v7 H7 r7 => ?_)
 obtain ⟨rfl, hS, hs7⟩ := r7
 rw [List.nil_append, ofNat_zero_add] at hS
 replace hx := fun x hx0 => (hx x hx0).up hs7 (fun b hb0 hb1 hb2 => by omega)
 replace hm0 := hm0.trans hs7 (fun b hb0 hb1 => hb1) (fun b hb0 hb1 => by omega)
 replace va2 := va2.up hs7 (by omega)
 have hz3 := hs7.size
 refine LR.nil (hK3 _ _ (CW.s1 (fun hK4 => CW.region ?_)))
 refine LR.m1 ?_
 refine LR.call rfl c'258 rfl (Wd.u rfl) rfl rfl (psum_ct _ (cat l) w0 _ hS hml) (fun v9 H9 r9 => ?_)
 obtain ⟨rfl, hs9⟩ := r9
 replace hx := fun x hx0 => (hx x hx0).up hs9 (fun b hb0 hb1 hb2 => hb2)
 replace hm0 := hm0.trans hs9 (fun b hb0 hb1 => hb1) (fun b hb0 hb1 => hb1.elim)
 replace va2 := va2.nw hs9
 have hz4 := hs9.size
 refine LR.s1 (S.var va2 ((sumOf (cat l)).map V8) ((sumOf (cat l)).map V8) rfl rfl rfl rfl (by intro u hu; obtain ⟨x, _, rfl⟩ := List.mem_map.1 hu; rfl) s'26 (rfl) (by simp [sumOf_len]) (by simp [splice, sumOf_len])) fun H3_2 r3_2 => ?_
 obtain ⟨va2, hs3_2⟩ := r3_2
 replace hx := fun x hx0 => (hx x hx0).up hs3_2 (fun b hb0 hb1 hb2 => by omega)
 replace hm0 := hm0.trans hs3_2 (fun b hb0 hb1 => hb1) (fun b hb0 hb1 => by omega)
 refine LR.nil (hK4 _ _ ?_)
 refine CW.ret (hret .ret (.inr rfl) _ _ _ (resC rfl rfl va2.pt a'26 s'26 (by first | rfl | simp)) ?_)
 exact ⟨rfl, hm0⟩
end Go.Proofs.YtfjmpninmdjcaaaGreatDoor.SumG

namespace Go.Proofs.YtfjmpninmdjcaaaGreatDoor.WalA
open E Go.RowKit Num DelA SumF
set_option maxRecDepth 20000
abbrev Rec := List UInt8
def W8 : List UInt8 := [83, 76, 86, 71, 87, 65, 76, 49]
def chkW (n : Nat) (r : Rec) : List UInt8 := (sumOf (Num.numL 8 (UInt64.ofNat n) ++ r)).take 8
def layW (n : Nat) (r : Rec) : List UInt8 := be32 r.length ++ (chkW n r ++ r)
def recW (n : Nat) (r : Rec) : List UInt8 := layW n r ++ [67]
def encN : Nat → List Rec → List UInt8
 | _, [] => []
 | n, r :: l => recW n r ++ encN (n + 1) l
def encW (l : List Rec) : List UInt8 := W8 ++ encN 0 l
theorem chkW_len (n : Nat) (r : Rec) : (chkW n r).length = 8 := by unfold chkW; rw [List.length_take, sumOf_len]; rfl
theorem layW_len (n : Nat) (r : Rec) : (layW n r).length = 12 + r.length := by unfold layW; rw [List.length_append, List.length_append, chkW_len, be32_len]; omega
theorem recW_len (n : Nat) (r : Rec) : (recW n r).length = 13 + r.length := by unfold recW; rw [List.length_append, layW_len]; simp; omega
theorem encN_app : ∀ (a b : List Rec) (n : Nat), encN n (a ++ b) = encN n a ++ encN (n + a.length) b
 | [], b, n => rfl
 | r :: a, b, n => by rw [List.cons_append, encN, encN_app a b (n + 1), encN, List.append_assoc, List.length_cons, show n + 1 + a.length = n + (a.length + 1) by omega]
theorem encW_snoc (l : List Rec) (r : Rec) : encW (l ++ [r]) = encW l ++ recW l.length r := by unfold encW; rw [encN_app, List.append_assoc]; simp [encN]
theorem encN_len : ∀ (l : List Rec) (n : Nat), (encN n l).length = (l.map (fun r => 13 + r.length)).sum
 | [], n => rfl
 | r :: l, n => by rw [encN, List.length_append, encN_len l, recW_len]; simp
theorem encW_len (l : List Rec) : (encW l).length = 8 + (l.map (fun r => 13 + r.length)).sum := by unfold encW; rw [List.length_append, encN_len]; rfl
def big (b : List UInt8) : Nat := bev 0 (b.take 4)
def oneW (n : Nat) (b : List UInt8) : Option Rec :=
 if b.length ≤ 12 ∨ 1048576 < big b ∨ b.length - 12 ≤ big b then none
 else if b.getD (12 + big b) 0 = 67 ∧ (b.drop 4).take 8 = chkW n ((b.drop 12).take (big b)) then some ((b.drop 12).take (big b)) else none
theorem oneW_len {n : Nat} {b : List UInt8} {r : Rec} (h : oneW n b = some r) : r.length = big b ∧ 13 + r.length ≤ b.length ∧ r.length ≤ 1048576 := by
 unfold oneW at h
 split at h
 · cases h
 · rename_i h1
   split at h
   · have e := Option.some.inj h
     rw [← e, List.length_take, List.length_drop]; omega
   · cases h
def parF : Nat → Nat → List UInt8 → List Rec
 | 0, _, _ => []
 | f + 1, n, b => match oneW n b with
   | none => []
   | some r => r :: parF f (n + 1) (b.drop (13 + r.length))
theorem parF_ext : ∀ (f g n : Nat) (b : List UInt8), b.length ≤ f → b.length ≤ g → parF f n b = parF g n b
 | 0, 0, _, _, _, _ => rfl
 | 0, g + 1, n, b, h, _ => by
   have : oneW n b = none := by unfold oneW; rw [if_pos (.inl (by omega))]
   simp [parF, this]
 | f + 1, 0, n, b, _, h => by
   have : oneW n b = none := by unfold oneW; rw [if_pos (.inl (by omega))]
   simp [parF, this]
 | f + 1, g + 1, n, b, h1, h2 => by
   unfold parF
   cases h : oneW n b with
   | none => rfl
   | some r =>
     have := oneW_len h
     simp only
     rw [parF_ext f g (n + 1) _ (by rw [List.length_drop]; omega) (by rw [List.length_drop]; omega)]
def parP (n : Nat) (b : List UInt8) : List Rec := parF b.length n b
theorem parP_stop {n : Nat} {b : List UInt8} (h : oneW n b = none) : parP n b = [] := by
 unfold parP
 cases hb : b.length with
 | zero => rfl
 | succ f => simp [parF, h]
theorem parP_step {n : Nat} {b : List UInt8} {r : Rec} (h : oneW n b = some r) : parP n b = r :: parP (n + 1) (b.drop (13 + r.length)) := by
 have h1 := oneW_len h
 unfold parP
 rw [parF_ext b.length (b.length + 1) n b (Nat.le_refl _) (by omega), parF, h]
 show r :: parF b.length (n + 1) (b.drop (13 + r.length)) = _
 rw [parF_ext b.length _ (n + 1) (b.drop (13 + r.length)) (by rw [List.length_drop]; omega) (Nat.le_refl _)]
theorem be32_bev : ∀ (a b c d : UInt8), be32 (bev 0 [a, b, c, d]) = [a, b, c, d] := fun a b c d => by
 have ha := a.toNat_lt; have hb := b.toNat_lt; have hc := c.toNat_lt; have hd := d.toNat_lt
 simp only [bev, List.foldl_cons, List.foldl_nil, be32, List.cons.injEq, and_true]
 refine ⟨?_, ?_, ?_, ?_⟩ <;> (apply UInt8.toNat.inj; rw [UInt8.toNat_ofNat']; omega)
theorem oneW_some {n : Nat} {b : List UInt8} {r : Rec} (h : oneW n b = some r) : b = recW n r ++ b.drop (13 + r.length) := by
 have h0 := oneW_len h
 unfold oneW at h
 split at h
 · cases h
 · rename_i h1
   split at h
   · rename_i h2
     have e := Option.some.inj h
     rw [e, ← h0.1] at h2
     have h3 : b.take 4 = be32 r.length := by
      rw [h0.1]; unfold big
      match b, h1 with
      | a :: b :: c :: d :: t, _ => exact (be32_bev a b c d).symm
     have h4 : (b.drop 12).take r.length = r := by rw [h0.1]; exact e
     have h5 : b.drop (12 + r.length) = 67 :: b.drop (13 + r.length) := by
      have hl : 12 + r.length < b.length := by omega
      rw [List.drop_eq_getElem_cons hl, show 12 + r.length + 1 = 13 + r.length by omega]
      have := h2.1
      rw [List.getD_eq_getElem?_getD, List.getElem?_eq_getElem hl] at this
      rw [show b[12 + r.length] = 67 from this]
     calc b = b.take 4 ++ b.drop 4 := (List.take_append_drop 4 b).symm
      _ = b.take 4 ++ ((b.drop 4).take 8 ++ (b.drop 4).drop 8) := congrArg (fun x => b.take 4 ++ x) (List.take_append_drop 8 (b.drop 4)).symm
      _ = be32 r.length ++ (chkW n r ++ b.drop 12) := by rw [h3, h2.2, List.drop_drop]
      _ = be32 r.length ++ (chkW n r ++ (r ++ (b.drop 12).drop r.length)) := by
       rw [show (b.drop 12) = (b.drop 12).take r.length ++ (b.drop 12).drop r.length from (List.take_append_drop _ _).symm, h4]
       rw [List.drop_left' rfl]
      _ = recW n r ++ b.drop (13 + r.length) := by rw [List.drop_drop, h5]; unfold recW layW; simp
   · cases h
def parE (b : List UInt8) : Nat := if b.take 8 = W8 then 0 else 16
def parL (b : List UInt8) : List Rec := if b.take 8 = W8 then parP 0 (b.drop 8) else []
def parS (b : List UInt8) : Nat := if b.take 8 = W8 then (encW (parL b)).length else 0
theorem parP_max : ∀ (f : Nat) (n : Nat) (b : List UInt8), ∀ r ∈ parF f n b, r.length ≤ 1048576
 | 0, _, _, r, h => by cases h
 | f + 1, n, b, r, h => by
   unfold parF at h
   split at h
   · cases h
   · rename_i x hx
     rcases List.mem_cons.1 h with e | h
     · rw [e]; exact (oneW_len hx).2.2
     · exact parP_max f _ _ r h
theorem parL_max (b : List UInt8) : ∀ r ∈ parL b, r.length ≤ 1048576 := fun r h => by
 unfold parL at h
 split at h
 · exact parP_max _ _ _ r h
 · cases h
theorem parP_pre : ∀ (f n : Nat) (b : List UInt8), b.length ≤ f → ∃ t, b = encN n (parP n b) ++ t ∧ oneW (n + (parP n b).length) t = none
 | 0, n, b, h => by
   have : oneW n b = none := by unfold oneW; rw [if_pos (.inl (by omega))]
   rw [parP_stop this]; exact ⟨b, rfl, by simpa using this⟩
 | f + 1, n, b, h => by
   cases ho : oneW n b with
   | none => rw [parP_stop ho]; exact ⟨b, rfl, by simpa using ho⟩
   | some r =>
     have h1 := oneW_len ho
     obtain ⟨t, e, h2⟩ := parP_pre f (n + 1) (b.drop (13 + r.length)) (by rw [List.length_drop]; omega)
     rw [parP_step ho]
     refine ⟨t, ?_, by rw [List.length_cons, show n + ((parP (n + 1) (b.drop (13 + r.length))).length + 1) = n + 1 + (parP (n + 1) (b.drop (13 + r.length))).length by omega]; exact h2⟩
     rw [encN, List.append_assoc, ← e]
     exact oneW_some ho
theorem parL_pre {b : List UInt8} (h : parE b = 0) : ∃ t, b = encW (parL b) ++ t ∧ oneW (parL b).length t = none := by
 have h8 : b.take 8 = W8 := by unfold parE at h; split at h; assumption; cases h
 obtain ⟨t, e, h2⟩ := parP_pre _ 0 (b.drop 8) (Nat.le_refl _)
 have e2 : parL b = parP 0 (b.drop 8) := by unfold parL; rw [if_pos h8]
 refine ⟨t, ?_, by rw [e2]; simpa using h2⟩
 rw [e2]; unfold encW
 rw [List.append_assoc, ← e, ← h8, List.take_append_drop]
end Go.Proofs.YtfjmpninmdjcaaaGreatDoor.WalA

namespace Go.Proofs.YtfjmpninmdjcaaaGreatDoor.WalB
open E Go.RowKit SumB SumC SumD SumF SumG DelA SimA SimB WalA
set_option maxRecDepth 20000
set_option maxRecDepth 100000 in
theorem inf57 : Inf Tryz.prog 57 5 1 1 := ⟨Tryz.underlying57, _, _, rfl, rfl, rfl, rfl, rfl⟩
set_option maxRecDepth 100000 in
theorem inf104 : Inf Tryz.prog 104 57 1 24 := ⟨Tryz.underlying104, _, _, rfl, rfl, rfl, rfl, rfl⟩
abbrev recs (l : List (SV × Rec)) : List Rec := l.map (·.2)
theorem encN_take {l : List (SV × Rec)} {i : Nat} (h : i < l.length) : encN 0 (recs (l.take (i + 1))) = encN 0 (recs (l.take i)) ++ recW i l[i].2 := by
 have e : (recs (l.take i)).length = i := by simp; omega
 rw [List.take_succ_eq_append_getElem h]
 unfold recs
 rw [List.map_append, encN_app]
 unfold recs at e
 rw [e]; simp [encN]
theorem encN_take_le (l : List (SV × Rec)) (i : Nat) : (encN 0 (recs (l.take i))).length ≤ (encN 0 (recs l)).length := by
 have h : l = l.take i ++ l.drop i := (List.take_append_drop i l).symm
 have h2 : recs l = recs (l.take i) ++ recs (l.drop i) := by unfold recs; rw [← List.map_append, ← h]
 rw [h2, encN_app, List.length_append]; omega
theorem encN_take_le2 {l : List (SV × Rec)} {i : Nat} (h : i < l.length) : (encN 0 (recs (l.take i))).length + (13 + l[i].2.length) ≤ (encN 0 (recs l)).length := by
 have := encN_take_le l (i + 1)
 rw [encN_take h, List.length_append, recW_len] at this; exact this
theorem number_ct (k : Nat) (v : Value) (xs : List UInt8) (n : Nat) (x : UInt64) (w0 : World) (H0 : Heap)
 (how : Ow k 5 H0 fB 1 v xs) (hn : n ≤ 8) (hx : xs.length ≤ 1099511627776) :
 Ct Tryz.prog w0 187 #[v, .int .i64 n, .int .u64 x.toNat] H0 (fun r H2 => ∃ v2 : Value, ∃ k2 : Nat, r = v2 ∧ (Ow k2 5 H2 fB 1 v2 (xs ++ Num.numL n x)) ∧ (Nx k H0.size k2) ∧ Mo (Ms [k]) H0 H2) := by
 refine Ct.enter (args := [v, .int .i64 n, .int .u64 x.toNat]) Tryz.func187 rfl rfl rfl ?_
 intro Q0 hret
 have hm0 : Mo (Ms [k]) H0 H0 := Mo.refl _ _
 have nx_hm0_how := Nx.refl k H0.size
 have hle_how := how.le
 refine CW.s1 (fun hK1 => CW.region ?_)
 refine LR.a1 (LR.nil (hK1 _ _ ?_))
 refine CW.s1 (fun hK2 => CW.s1 (fun hK3 => CW.region ?_))
 refine LR.m1 ?_
 refine LR.v1 (Y.subi rfl rfl rfl (by omega)) ?_
 refine LR.a1 (LR.nil (hK3 _ _ ?_))
 refine CW.block (fun _ _ hX4 _ => ?_)
 refine CW.loop (fun (s_ : (Nat) × (Value) × (Nat) × (List UInt8)) => match s_ with | (j, v', k', ys) => [(0, v'), (2, .int .u64 x.toNat), (7, .int .i64 ((j : Int) - 1))])
  (fun (s_ : (Nat) × (Value) × (Nat) × (List UInt8)) (H : Heap) => match s_ with | (j, v', k', ys) => (j ≤ n) ∧ (Ow k' 5 H fB 1 v' ys) ∧ (ys ++ Num.numL j x = xs ++ Num.numL n x) ∧ (Nx k H0.size (k')) ∧ Mo (Ms [k]) H0 H)
  (fun (s_ : (Nat) × (Value) × (Nat) × (List UInt8)) => match s_ with | (j, v', k', ys) => j) (n, v, k, xs) ⟨rfl, rfl, rfl, trivial⟩ ?_ ?_
 ·
  exact ⟨(by omega), how, rfl, Nx.refl _ _, Mo.refl _ _⟩
 rintro ⟨j, v', k', ys⟩ HL1 hI1 K5 hN5 hE5
 obtain ⟨hj, how, hys, nxl_how, hlm1⟩ := hI1
 have nx1 : Nx k H0.size (k') := Nx.tr (nx_hm0_how) nxl_how hm0.size
 replace hm0 := hm0.trL hlm1 (MIL.o (MI.r nx_hm0_how))
 have hz1 := hlm1.size
 have hle_how := how.le
 have nx2 := nxl_how
 have hyl : ys.length + j = xs.length + n := by have := congrArg List.length hys; simpa [Num.numL_len] using this
 refine CW.s2 (fun hK6 hE6 => CW.s1 (fun hK7 => CW.region ?_))
 refine LR.m1 ?_
 refine LR.v1 (Y.geq rfl rfl rfl) (LR.nil (hK7 _ _ ?_))
 refine CW.condp rfl (fun c11 => ?_) (fun c11 => ?_)
 ·
  obtain ⟨j, rfl⟩ : ∃ q, j = q + 1 := ⟨j - 1, by omega⟩
  refine CW.skip (hK6 _ _ (CW.s1 (fun hK8 => CW.block (fun _ hK9 _ _ => CW.region ?_))))
  refine LR.m1 ?_
  refine LR.m1 ?_
  refine LR.m1 ?_
  refine LR.v1 (Y.muli rfl rfl rfl (by omega)) ?_
  refine LR.v1 (Y.shr_u64 (8 * j) rfl rfl rfl (by first | rfl | omega) (by omega)) ?_
  refine LR.v1 (Y.conv_u8 rfl u'216 u'5 rfl) ?_
  refine LR.z1 (Z.litw _ ([UInt8.ofNat (shrw_u64 x (8 * j)).toNat]) rfl inf57 rfl rfl rfl (by decide) (by decide) fB_len fB_one (rfl)) fun v20 H20 r20 => ?_
  obtain ⟨ow20, hs20, ob20, hH20⟩ := r20
  have hzs20 : H20.size = HL1.size + 1 := by rw [hH20]; simp
  replace how := how.nw hs20
  replace hlm1 := hlm1.trN hs20
  have hz2 := hs20.size
  refine LR.z1 (Z.apnd how ow20.rd rfl inf57 rfl rfl (by first | omega | (simp; omega)) (by first | omega | (simp; omega))) fun v21 H21 r21 => ?_
  obtain ⟨k21, ow21, hk21, hs21⟩ := r21
  replace hk21 : Nx (k') H20.size k21 := hk21
  replace hs21 := hs21.md
  have nx8 : Nx k H0.size k21 := Nx.tr (nx2) hk21 hlm1.size
  replace hlm1 := hlm1.trL hs21 (MIL.o (MI.r nx2))
  have hz3 := hs21.size
  have hle_ow21 := ow21.le
  refine LR.a1 (LR.nil (hK9 _ _ ?_))
  refine hK8 _ _ (CW.region ?_)
  refine LR.m1 ?_
  refine LR.v1 (Y.subi rfl rfl rfl (by omega)) ?_
  refine LR.a1 (LR.nil ?_)
  refine QN.sub (hN5 (j, v21, k21, ys ++ [UInt8.ofNat (shrw_u64 x (8 * j)).toNat]) _ ?_ ?_) ⟨rfl, (iv (by omega)), (iv (by omega)), trivial⟩
  · exact ⟨(by omega), ow21, by rw [← hys, List.append_assoc]; rfl, nx8, hlm1⟩
  · first | omega | (simp only; omega) | (simp; omega)
 ·
  obtain rfl : j = 0 := by omega
  rw [Num.numL, List.append_nil] at hys
  subst hys
  refine CW.exit (hE6 (.exit 0) nofun _ _ (hE5 (.exit 0) nofun _ _ (hX4 _ _ ?_)))
  refine hK2 _ _ (CW.s1 (fun hK10 => CW.region ?_))
  refine LR.m1 ?_
  refine LR.a1 (LR.nil (hK10 _ _ ?_))
  refine CW.ret (hret .ret (.inr rfl) _ _ _ (res1 rfl rfl) ?_)
  exact ⟨v', k', rfl, how, nx1, hm0⟩
theorem spl2 {vs cs : List Value} (h : cs.length = vs.length) : splice cs 0 vs = vs := by simp [splice, h]
theorem check_ct (n : Nat) (s : SV) (rc : List UInt8) (w0 : World) (H0 : Heap)
 (hr : RdT H0 fB 1 s.v rc) (hrl : rc.length ≤ 1099511000000) :
 Ct Tryz.prog w0 180 #[.int .i64 (n : Int), s.v] H0 (fun r H2 => ∃ t : SV, r = t.v ∧ (Rd (fun b => H0.size ≤ b) H2 fB 1 t.v (chkW n rc)) ∧ Nw H0 H2) := by
 refine Ct.enter (args := [.int .i64 (n : Int), s.v]) Tryz.func180 rfl rfl rfl ?_
 intro Q0 hret
 have hm0 : Nw H0 H0 := Mo.refl _ _
 replace hr := hr.bnd
 refine CW.s1 (fun hK1 => CW.region ?_)
 refine LR.a1 (LR.nil (hK1 _ _ ?_))
 refine CW.s1 (fun hK2 => CW.region ?_)
 refine LR.m1 ?_
 refine LR.v1 (Y.cast (v2 := .int .u64 (UInt64.ofNat n).toNat) (Y.conv_u64 rfl u'3 u'216 rfl) (rfl)) ?_
 refine LR.call rfl c'187 rfl (Wd.u rfl) rfl rfl (number_ct 0 _ [] 8 (UInt64.ofNat (n)) w0 _ (Ow.nil fB_len fB_one) (by omega) (by simp)) (fun v8 H8 r8 => ?_)
 obtain ⟨v28, k8, rfl, ow8, hk8, hs8⟩ := r8
 replace hr := hr.upL hs8 (DFL.o DF.z)
 replace hm0 := hm0.tq hs8 (MIL.cons MI.z MIL.nil)
 have hz1 := hs8.size
 have hle_ow8 := ow8.le
 rw [List.nil_append] at ow8
 obtain ⟨s8, rfl⟩ : ∃ s : SV, v8 = s.v := ⟨toSV v8, ow8.sv.symm⟩
 refine LR.m1 ?_
 refine LR.z1 (Z.litw _ ([(s8, Num.numL 8 (UInt64.ofNat n)), (s, rc)]) rfl inf104 rfl rfl rfl (by decide) (by decide) fP_len fP_one (rfl)) fun v10 H10 r10 => ?_
 obtain ⟨ow10, hs10, ob10, hH10⟩ := r10
 have hzs10 : H10.size = H8.size + 1 := by rw [hH10]; simp
 replace hr := hr.nw hs10
 replace ow8 := ow8.nw hs10
 replace hm0 := hm0.tr hs10
 have hz2 := hs10.size
 refine LR.call rfl c'224 rfl (Wd.u rfl) rfl rfl (pof_ct _ [(s8, Num.numL 8 (UInt64.ofNat n)), (s, rc)] w0 _ ow10.rd.any (fun x hx => by simp only [List.mem_cons, List.not_mem_nil, or_false] at hx; rcases hx with rfl | rfl; exact ow8.rd.any; exact hr.any) (by simp [cat, Num.numL_len]; omega)) (fun v11 H11 r11 => ?_)
 obtain ⟨rfl, hs11⟩ := r11
 replace hm0 := hm0.tr hs11
 have hz3 := hs11.size
 rw [show cat [(s8, Num.numL 8 (UInt64.ofNat n)), (s, rc)] = (Num.numL 8 (UInt64.ofNat n) ++ rc) from by simp [cat]]
 refine LR.z1 (Z.allocv rfl z'26) fun v5 H5 r5 => ?_
 obtain ⟨rfl, va5, hs5, ob5, hH5⟩ := r5
 have hzs5 : H5.size = H11.size + 1 := by rw [hH5]; simp
 have nx9 : Nx 0 H0.size (H11.size + 1) := Nx.new hm0.size
 replace hm0 := hm0.tr hs5
 have hz4 := hs5.size
 replace va5 : Var 26 H5 H11.size ((List.replicate 32 (0 : UInt8)).map V8) := va5
 refine LR.s1 (S.var va5 ((sumOf (Num.numL 8 (UInt64.ofNat n) ++ rc)).map V8) ((sumOf (Num.numL 8 (UInt64.ofNat n) ++ rc)).map V8) rfl rfl rfl rfl (by intro u hu; obtain ⟨x, _, rfl⟩ := List.mem_map.1 hu; rfl) s'26 (by simp [sumOf_len]) (by simp [sumOf_len]) (spl2 (by simp [sumOf_len]))) fun H1_7 r1_7 => ?_
 obtain ⟨va5, hs1_7⟩ := r1_7
 replace hs1_7 := hs1_7.md1
 replace hm0 := hm0.tq hs1_7 (MIL.o (MI.q nx9))
 have hz5 := hs1_7.size
 refine LR.nil (hK2 _ _ (CW.s1 (fun hK3 => CW.region ?_)))
 refine LR.e1 (g := fun v => v) (Y.sliceArrE (F := fun c => c = H11.size) (f := fB) (xs := sumOf (Num.numL 8 (UInt64.ofNat n) ++ rc)) va5.pt rfl va5.lt (sumOf_len _) (fun i x h => ⟨by simp [h], rfl⟩) (0) (8) rfl (fun w => .inl (u'26 w)) s'5 rfl (.inl ⟨rfl, rfl⟩) (.inr ⟨_, _, _, rfl, rfl, by first | rfl | omega⟩) (by omega) (by omega) (by decide)) fun v12 rd12 => ?_
 rw [List.drop_zero] at rd12
 obtain ⟨s12, rfl⟩ : ∃ s : SV, v12 = s.v := ⟨toSV v12, rd12.sv.symm⟩
 refine LR.a1 (LR.nil (hK3 _ _ ?_))
 refine CW.ret (hret .ret (.inr rfl) _ _ _ (res1 rfl rfl) ?_)
 exact ⟨s12, rfl, (rd12.imp (fun b _ e => by omega)), hm0⟩
theorem wlay_ct (n : Nat) (s : SV) (rc : List UInt8) (w0 : World) (H0 : Heap)
 (hr : RdT H0 fB 1 s.v rc) (hrl : rc.length ≤ 4294967000) :
 Ct Tryz.prog w0 111 #[.int .i64 (n : Int), s.v] H0 (fun r H2 => ∃ t : SV, ∃ k : Nat, r = t.v ∧ (Ow k 5 H2 fB 1 t.v (layW n rc)) ∧ (Nx 0 H0.size k) ∧ Nw H0 H2) := by
 refine Ct.enter (args := [.int .i64 (n : Int), s.v]) Tryz.func111 rfl rfl rfl ?_
 intro Q0 hret
 have hm0 : Nw H0 H0 := Mo.refl _ _
 replace hr := hr.bnd
 refine CW.s1 (fun hK1 => CW.region ?_)
 refine LR.a1 (LR.nil (hK1 _ _ ?_))
 refine CW.s1 (fun hK2 => CW.region ?_)
 refine LR.m1 ?_
 refine LR.v1 (Y.len hr rfl u'57 rfl) ?_
 refine LR.v1 (Y.cast (v2 := .int .u64 (UInt64.ofNat rc.length).toNat) (Y.conv_u64 rfl u'3 u'216 rfl) (rfl)) ?_
 refine LR.call rfl c'187 rfl (Wd.u rfl) rfl rfl (number_ct 0 _ [] 4 (UInt64.ofNat (rc.length)) w0 _ (Ow.nil fB_len fB_one) (by omega) (by simp)) (fun v8 H8 r8 => ?_)
 obtain ⟨v28, k8, rfl, ow8, hk8, hs8⟩ := r8
 replace hr := hr.upL hs8 (DFL.o DF.z)
 replace hm0 := hm0.tq hs8 (MIL.cons MI.z MIL.nil)
 have hz1 := hs8.size
 have hle_ow8 := ow8.le
 rw [List.nil_append] at ow8
 obtain ⟨s8, rfl⟩ : ∃ s : SV, v8 = s.v := ⟨toSV v8, ow8.sv.symm⟩
 rw [num_be32 _ (by omega)] at ow8
 refine LR.m1 ?_
 refine LR.m1 ?_
 refine LR.call rfl c'180 rfl (Wd.u rfl) rfl rfl (check_ct n s rc w0 _ hr.any (by omega)) (fun v11 H11 r11 => ?_)
 obtain ⟨t11, rfl, hw11, hs11⟩ := r11
 replace hr := hr.nw hs11
 replace ow8 := ow8.nw hs11
 replace hm0 := hm0.tr hs11
 have hz2 := hs11.size
 replace hw11 := hw11.bnd
 refine LR.m1 ?_
 refine LR.z1 (Z.litw _ ([(s8, be32 rc.length), (t11, chkW n rc), (s, rc)]) rfl inf104 rfl rfl rfl (by decide) (by decide) fP_len fP_one (rfl)) fun v13 H13 r13 => ?_
 obtain ⟨ow13, hs13, ob13, hH13⟩ := r13
 have hzs13 : H13.size = H11.size + 1 := by rw [hH13]; simp
 replace hr := hr.nw hs13
 replace ow8 := ow8.nw hs13
 replace hw11 := hw11.nw hs13
 replace hm0 := hm0.tr hs13
 have hz3 := hs13.size
 refine LR.call rfl c'186 rfl (Wd.u rfl) rfl rfl (concat_ct v13 [(s8, be32 rc.length), (t11, chkW n rc), (s, rc)] w0 _ ow13.rd.any (fun x hx => by simp only [List.mem_cons, List.not_mem_nil, or_false] at hx; rcases hx with rfl | rfl | rfl; exact ow8.rd.any; exact hw11.any; exact hr.any) (by simp [catP, be32_len, chkW_len]; omega)) (fun v14 H14 r14 => ?_)
 obtain ⟨s14, k14, rfl, ow14, hk14, hs14⟩ := r14
 have nx12 : Nx 0 H0.size k14 := Nx.tr (Nx.refl 0 _) hk14 hm0.size
 replace hm0 := hm0.tr hs14
 refine LR.a1 (LR.nil (hK2 _ _ ?_))
 refine CW.ret (hret .ret (.inr rfl) _ _ _ (res1 rfl rfl) ?_)
 exact ⟨s14, k14, rfl, by have e : catP [(s8, be32 rc.length), (t11, chkW n rc), (s, rc)] = layW n rc := (by simp [catP, layW]); rw [← e]; exact ow14, nx12, hm0⟩
theorem encode_ct (s : SV) (l : List (SV × Rec)) (w0 : World) (H0 : Heap)
 (hl : RdT H0 fP 1 s.v l) (hx : ∀ x ∈ l, RdT H0 fB 1 x.1.v x.2) (hrl : ∀ x ∈ l, x.2.length ≤ 1048576) (hel : (encN 0 (recs l)).length ≤ 1099510000000) :
 Ct Tryz.prog w0 171 #[s.v] H0 (fun r H2 => ∃ t : SV, ∃ k : Nat, r = t.v ∧ (Ow k 5 H2 fB 1 t.v (encW (recs l))) ∧ (Nx 0 H0.size k) ∧ Nw H0 H2) := by
 refine Ct.enter (args := [s.v]) Tryz.func171 rfl rfl rfl ?_
 intro Q0 hret
 have hm0 : Nw H0 H0 := Mo.refl _ _
 replace hl := hl.bnd
 have bf_hl := hl.bf
 replace hx := fun x hx0 => (hx x hx0).bnd
 have bf_hx : BF (fun b => True ∧ b < H0.size) H0.size := fun b h => h.2
 have hll := hl.len
 refine CW.s1 (fun hK1 => CW.region ?_)
 refine LR.a1 (LR.nil (hK1 _ _ ?_))
 refine CW.s1 (fun hK2 => CW.region ?_)
 refine LR.z1 (Z.litw _ (W8) rfl inf57 rfl rfl rfl (by decide) (by decide) fB_len fB_one (rfl)) fun v6 H6 r6 => ?_
 obtain ⟨ow, hs6, ob6, hH6⟩ := r6
 have hzs6 : H6.size = H0.size + 1 := by rw [hH6]; simp
 have df1 := (DF.new (bf_hl.mono hm0.size) : DF _ (H0.size + 1))
 have df2 := (DF.new (bf_hx.mono hm0.size) : DF _ (H0.size + 1))
 have nx3 : Nx 0 H0.size (H0.size + 1) := Nx.new hm0.size
 replace hl := hl.nw hs6
 replace hx := fun x hx0 => (hx x hx0).nw hs6
 replace hm0 := hm0.tr hs6
 have hz1 := hs6.size
 refine LR.z1 (Z.bconst ow (by decide) rfl Tryz.underlying57 Tryz.underlying5 rfl) fun v7 H7 r7 => ?_
 obtain ⟨rfl, ow, hs7⟩ := r7
 replace hs7 := hs7.md
 replace hl := hl.upL hs7 (DFL.o df1)
 replace hx := fun x hx0 => (hx x hx0).upL hs7 (DFL.o df2)
 replace hm0 := hm0.tq hs7 (MIL.o (MI.q nx3))
 have hz2 := hs7.size
 refine LR.a1 (LR.nil (hK2 _ _ ?_))
 refine CW.s1 (fun hK3 => CW.s1 (fun hK4 => CW.region ?_))
 refine LR.m1 ?_
 refine LR.v1 (Y.len hl rfl u'104 rfl) ?_
 refine LR.m1 (LR.nil (hK4 _ _ ?_))
 refine CW.block (fun _ _ hX5 _ => ?_)
 refine CW.loop (fun (s_ : (Nat) × (Value) × (Nat)) => match s_ with | (i, vo, ko) => [(3, vo), (8, s.v), (9, .int .i64 (l.length : Int)), (10, .int .i64 (i : Int))])
  (fun (s_ : (Nat) × (Value) × (Nat)) (H : Heap) => match s_ with | (i, vo, ko) => (i ≤ l.length) ∧ (Ow ko 5 H fB 1 vo (W8 ++ encN 0 (recs (l.take i)))) ∧ (Nx (H0.size + 1) H7.size ko) ∧ Mo (Ms [(H0.size + 1)]) H7 H)
  (fun (s_ : (Nat) × (Value) × (Nat)) => match s_ with | (i, vo, ko) => l.length - i) (0, v7, (H0.size + 1)) ⟨rfl, rfl, rfl, rfl, trivial⟩ ?_ ?_
 ·
  exact ⟨(by omega), by simpa only [List.take_zero, recs, List.map_nil, encN, List.append_nil] using ow, Nx.refl _ _, Mo.refl _ _⟩
 rintro ⟨i, vo, ko⟩ HL1 hI1 K6 hN6 hE6
 obtain ⟨hi, ow, nxl_ow, hlm1⟩ := hI1
 have df5 := DF.app (df2) (bf_hx.mono hm0.size) nxl_ow
 have nx6 : Nx 0 H0.size ko := Nx.tr (nx3) nxl_ow hm0.size
 replace hl := hl.upL hlm1 (DFL.o df1)
 replace hx := fun x hx0 => (hx x hx0).upL hlm1 (DFL.o df2)
 replace hm0 := hm0.tq hlm1 (MIL.o (MI.q nx3))
 have hz3 := hlm1.size
 have hle_ow := ow.le
 have nx7 := nxl_ow
 refine CW.s1 (fun hK7 => CW.region ?_)
 refine LR.v1 (Y.lss rfl rfl rfl) (LR.nil (hK7 _ _ ?_))
 refine CW.s2 (fun hK8 hE8 => ?_)
 refine CW.condp rfl (fun c11 => ?_) (fun c11 => ?_)
 ·
  refine CW.skip (hK8 _ _ (CW.s1 (fun hK9 => CW.block (fun _ hK10 _ _ => CW.s1 (fun hK11 => CW.region ?_)))))
  refine LR.m1 ?_
  have hil : i < l.length := by omega
  have hel2 := encN_take_le2 hil
  have hxi := hx l[i] (List.getElem_mem hil)
  have hri := hrl l[i] (List.getElem_mem hil)
  have h8 : W8.length = 8 := rfl
  have hwl := layW_len i l[i].2
  refine LR.e1 (g := fun ad => .pointer (some ad)) (Y.iF hl (i) rfl u'104 s'57 rfl rfl) fun ad13 pt13 => ?_
  refine LR.v1 (Y.load1 pt13.pt rfl a'57 rfl) ?_
  refine LR.a1 ?_
  refine LR.a1 (LR.nil (hK11 _ _ ?_))
  refine CW.region ?_
  refine LR.m1 ?_
  refine LR.m1 ?_
  refine LR.m1 ?_
  refine LR.call rfl c'111 rfl (Wd.u rfl) rfl rfl (wlay_ct i l[i].1 l[i].2 w0 _ hxi.any (by omega)) (fun v18 H18 r18 => ?_)
  obtain ⟨t18, k18, rfl, ow18, hk18, hs18⟩ := r18
  replace hx := fun x hx0 => (hx x hx0).nw hs18
  replace ow := ow.nw hs18
  replace hm0 := hm0.tr hs18
  replace hlm1 := hlm1.trN hs18
  have hz4 := hs18.size
  have hle_ow18 := ow18.le
  refine LR.z1 (Z.apnd ow ow18.rd rfl inf57 rfl rfl (by simp only [List.length_append]; omega) (by simp only [List.length_append]; omega)) fun v19 H19 r19 => ?_
  obtain ⟨k19, ow, hk19, hs19⟩ := r19
  replace hk19 : Nx ko H18.size k19 := hk19
  replace hs19 := hs19.md
  have df14 := DF.app (df5) (bf_hx.mono hm0.size) hk19
  have nx17 : Nx (H0.size + 1) H7.size k19 := Nx.tr (nx7) hk19 hlm1.size
  replace hx := fun x hx0 => (hx x hx0).upL hs19 (DFL.o df5)
  replace hlm1 := hlm1.trL hs19 (MIL.o (MI.r nx7))
  have hz5 := hs19.size
  have hle_ow := ow.le
  refine LR.z1 (Z.litw _ ([(67 : UInt8)]) rfl inf57 rfl rfl rfl (by decide) (by decide) fB_len fB_one (rfl)) fun v20 H20 r20 => ?_
  obtain ⟨ow20, hs20, ob20, hH20⟩ := r20
  have hzs20 : H20.size = H19.size + 1 := by rw [hH20]; simp
  replace hx := fun x hx0 => (hx x hx0).nw hs20
  replace ow := ow.nw hs20
  replace hlm1 := hlm1.trN hs20
  have hz6 := hs20.size
  refine LR.z1 (Z.apnd ow ow20.rd rfl inf57 rfl rfl (by simp only [List.length_append, List.length_singleton]; omega) (by simp only [List.length_append, List.length_singleton]; omega)) fun v21 H21 r21 => ?_
  obtain ⟨k21, ow, hk21, hs21⟩ := r21
  replace hk21 : Nx k19 H20.size k21 := hk21
  replace hs21 := hs21.md
  have nx29 : Nx (H0.size + 1) H7.size k21 := Nx.tr (nx17) hk21 hlm1.size
  replace hx := fun x hx0 => (hx x hx0).upL hs21 (DFL.o df14)
  replace hlm1 := hlm1.trL hs21 (MIL.o (MI.r nx17))
  have hz7 := hs21.size
  have hle_ow := ow.le
  refine LR.a1 (LR.nil (hK10 _ _ ?_))
  refine hK9 _ _ (CW.region ?_)
  refine LR.v1 (Y.addi rfl rfl rfl (by omega)) ?_
  refine LR.m1 (LR.nil ?_)
  refine QN.sub (hN6 (i + 1, v21, k21) _ ?_ ?_) ⟨rfl, rfl, (iv (by omega)), (iv (by omega)), trivial⟩
  · exact ⟨(by omega), by rw [encN_take hil, ← List.append_assoc]; unfold recW; rw [← List.append_assoc]; exact ow, nx29, hlm1⟩
  · first | omega | (simp only; omega) | (simp; omega)
 ·
  refine CW.exit (hE8 (.exit 0) nofun _ _ (hE6 (.exit 0) nofun _ _ (hX5 _ _ ?_)))
  refine hK3 _ _ (CW.s1 (fun hK12 => CW.region ?_))
  refine LR.m1 ?_
  refine LR.a1 (LR.nil (hK12 _ _ ?_))
  refine CW.ret (hret .ret (.inr rfl) _ _ _ (res1 rfl rfl) ?_)
  have hil : i = l.length := by omega
  rw [hil, List.take_length] at ow
  obtain ⟨so, rfl⟩ : ∃ s : SV, vo = s.v := ⟨toSV vo, ow.sv.symm⟩
  exact ⟨so, ko, rfl, ow, nx6, hm0⟩
theorem equal_ct (s t : SV) (a b : List UInt8) (w0 : World) (H0 : Heap)
 (ha : RdT H0 fB 1 s.v a) (hb : RdT H0 fB 1 t.v b) :
 Ct Tryz.prog w0 179 #[s.v, t.v] H0 (fun r H2 => r = .bool (decide (a = b)) ∧ Nw H0 H2) := by
 refine Ct.enter (args := [s.v, t.v]) Tryz.func179 rfl rfl rfl ?_
 intro Q0 hret
 have hm0 : Nw H0 H0 := Mo.refl _ _
 replace ha := ha.bnd
 replace hb := hb.bnd
 refine CW.s1 (fun hK1 => CW.region ?_)
 refine LR.a1 (LR.nil (hK1 _ _ ?_))
 refine CW.s1 (fun hK2 => CW.region ?_)
 refine LR.m1 ?_
 refine LR.v1 (Y.bstr ha rfl Tryz.underlying57 Tryz.underlying9 Tryz.underlying5 rfl) ?_
 refine LR.m1 ?_
 refine LR.v1 (Y.bstr hb rfl Tryz.underlying57 Tryz.underlying9 Tryz.underlying5 rfl) ?_
 refine LR.v1 (Y.seql rfl rfl rfl) ?_
 refine LR.a1 (LR.nil (hK2 _ _ ?_))
 refine CW.ret (hret .ret (.inr rfl) _ _ _ (res1 rfl rfl) ?_)
 exact ⟨rfl, hm0⟩
end Go.Proofs.YtfjmpninmdjcaaaGreatDoor.WalB

namespace Go.Proofs.YtfjmpninmdjcaaaGreatDoor.WalC
open E Go.RowKit SumB SumC SumD SumF SumG DelA SimA SimB WalA WalB
set_option maxRecDepth 20000
set_option maxRecDepth 100000 in
theorem inf57 : Inf Tryz.prog 57 5 1 1 := ⟨Tryz.underlying57, _, _, rfl, rfl, rfl, rfl, rfl⟩
set_option maxRecDepth 100000 in
theorem inf104 : Inf Tryz.prog 104 57 1 24 := ⟨Tryz.underlying104, _, _, rfl, rfl, rfl, rfl, rfl⟩
theorem big_or {b : List UInt8} (h : 4 ≤ b.length) : ((b[0].toNat * 2 ^ 24 ||| b[1].toNat * 2 ^ 16) ||| b[2].toNat * 2 ^ 8) ||| b[3].toNat = big b := by
 match b, h with
 | a :: b :: c :: d :: t, _ =>
   have h1 := a.toNat_lt; have h2 := b.toNat_lt; have h3 := c.toNat_lt; have h4 := d.toNat_lt
   have e1 : a.toNat * 2 ^ 24 ||| b.toNat * 2 ^ 16 = (a.toNat * 256 + b.toNat) * 2 ^ 16 := by
    rw [show a.toNat * 2 ^ 24 = (a.toNat * 2 ^ 8) * 2 ^ 16 by omega, ← Nat.shiftLeft_eq _ 16, ← Nat.shiftLeft_eq b.toNat 16, ← Nat.shiftLeft_or_distrib, or256, Nat.shiftLeft_eq]
   have e2 : (a.toNat * 256 + b.toNat) * 2 ^ 16 ||| c.toNat * 2 ^ 8 = ((a.toNat * 256 + b.toNat) * 256 + c.toNat) * 2 ^ 8 := by
    rw [show (a.toNat * 256 + b.toNat) * 2 ^ 16 = ((a.toNat * 256 + b.toNat) * 2 ^ 8) * 2 ^ 8 by omega, ← Nat.shiftLeft_eq _ 8, ← Nat.shiftLeft_eq c.toNat 8, ← Nat.shiftLeft_or_distrib, or256, Nat.shiftLeft_eq]
   simp only [List.getElem_cons_zero, List.getElem_cons_succ]
   rw [e1, e2, or256]
   simp [big, bev]
structure PS (b : List UInt8) (l : List Rec) (at_ : Nat) : Prop where
 ln : at_ = (encW l).length
 eq : b = encW l ++ b.drop at_
 pp : parL b = l ++ parP l.length (b.drop at_)
 e : parE b = 0
theorem PS.le {b : List UInt8} {l : List Rec} {a : Nat} (h : PS b l a) : a ≤ b.length := by
 have h1 := congrArg List.length h.eq
 rw [List.length_append, ← h.ln] at h1; omega
theorem PS.start {b : List UInt8} (h : b.take 8 = W8) : PS b [] 8 :=
 ⟨rfl, by show b = (W8 ++ []) ++ b.drop 8; rw [List.append_nil, ← h, List.take_append_drop], by unfold parL; rw [if_pos h]; rfl, by unfold parE; rw [if_pos h]⟩
theorem PS.step {b : List UInt8} {l : List Rec} {a : Nat} {r : Rec} (h : PS b l a) (h1 : oneW l.length (b.drop a) = some r) : PS b (l ++ [r]) (a + (13 + r.length)) := by
 have h2 := oneW_some h1
 refine ⟨by rw [encW_snoc, List.length_append, recW_len, ← h.ln], ?_, ?_, h.e⟩
 · rw [encW_snoc, List.append_assoc, ← List.drop_drop, ← h2]; exact h.eq
 · rw [h.pp, parP_step h1, List.drop_drop, List.append_assoc]; simp
theorem PS.stop {b : List UInt8} {l : List Rec} {a : Nat} (h : PS b l a) (h1 : oneW l.length (b.drop a) = none) : l = parL b ∧ a = parS b := by
 have h2 : l = parL b := by rw [h.pp, parP_stop h1, List.append_nil]
 refine ⟨h2, ?_⟩
 have h8 : b.take 8 = W8 := by have := h.e; unfold parE at this; split at this; assumption; cases this
 unfold parS; rw [if_pos h8, ← h2]; exact h.ln
theorem oneW_short {n : Nat} {b : List UInt8} (h : b.length ≤ 12) : oneW n b = none := by unfold oneW; rw [if_pos (.inl h)]
theorem oneW_big {n : Nat} {b : List UInt8} (h : 1048576 < big b ∨ b.length ≤ 12 + big b) : oneW n b = none := by unfold oneW; rw [if_pos (by omega)]
theorem oneW_mark {n : Nat} {b : List UInt8} (h : b.getD (12 + big b) 0 ≠ 67) : oneW n b = none := by
 unfold oneW; split
 · rfl
 · rw [if_neg (fun h2 => h h2.1)]
theorem oneW_chk {n : Nat} {b : List UInt8} (h : (b.drop 4).take 8 ≠ chkW n ((b.drop 12).take (big b))) : oneW n b = none := by
 unfold oneW; split
 · rfl
 · rw [if_neg (fun h2 => h h2.2)]
theorem oneW_yes {n : Nat} {b : List UInt8} (h0 : ¬ b.length ≤ 12) (h1 : ¬ 1048576 < big b) (h2 : ¬ b.length ≤ 12 + big b) (h3 : b.getD (12 + big b) 0 = 67) (h4 : (b.drop 4).take 8 = chkW n ((b.drop 12).take (big b))) : oneW n b = some ((b.drop 12).take (big b)) := by
 unfold oneW; rw [if_neg (by omega), if_pos ⟨h3, h4⟩]
theorem take_drop' (b : List UInt8) (i n : Nat) : (b.take (i + n)).drop i = (b.drop i).take n := by rw [List.drop_take]; congr 1; omega
theorem u8_ne {x : UInt8} {n : Nat} (h : (x.toNat : Int) ≠ (n : Int)) (hn : n < 256) : x ≠ UInt8.ofNat n := fun e => h (by rw [e, UInt8.toNat_ofNat']; omega)
theorem u8_eq {x : UInt8} {n : Nat} (h : (x.toNat : Int) = (n : Int)) (hn : n < 256) : x = UInt8.ofNat n := UInt8.toNat.inj (by rw [UInt8.toNat_ofNat']; omega)
theorem getD_at {b : List UInt8} {i : Nat} (h : i < b.length) : b.getD i 0 = b[i] := by rw [List.getD_eq_getElem?_getD, List.getElem?_eq_getElem h]; rfl
theorem DF.or1 {G : Nat → Prop} {kB k : Nat} (h : DF G k) (hB : Dj k kB) : DF (fun b => G b ∨ b + 1 = kB) k := by
 rintro b (e | e) h2
 · exact h b e h2
 · exact hB b h2 e
theorem BF.or1 {G : Nat → Prop} {n kB : Nat} (h : BF G n) (h1 : kB ≤ n) : BF (fun b => G b ∨ b + 1 = kB) n := by
 rintro b (e | e)
 · exact h b e
 · omega
theorem or63 {a b : Nat} (h1 : a < 2 ^ 62) (h2 : b < 2 ^ 62) : a ||| b < 2 ^ 62 := Nat.or_lt_two_pow h1 h2
theorem encW_many (l : List Rec) : l.length ≤ (encW l).length := by
 rw [encW_len]
 have : ∀ l : List Rec, l.length ≤ (l.map (fun r => 13 + r.length)).sum := fun l => by
  induction l with
  | nil => simp
  | cons r l ih => simp only [List.length_cons, List.map_cons, List.sum_cons]; omega
 have := this l; omega
theorem snocP {α : Type} {F G : Nat → Prop} {H : Heap} {fb : α → SV × Rec} {l : List (SV × Rec)} {x : SV × Rec} (h : ∀ y ∈ l, Rd F H fB 1 y.1.v y.2) (hF : ∀ b, F b → G b) (hx : Rd G H fB 1 x.1.v x.2) : ∀ y ∈ l ++ [x], Rd G H fB 1 y.1.v y.2 := fun y hy => by
 rcases List.mem_append.1 hy with hy | hy
 · exact (h y hy).imp (fun b _ e => hF b e)
 · rw [List.mem_singleton.1 hy]; exact hx
theorem hasP_ct (s t : SV) (a p : List UInt8) (w0 : World) (H0 : Heap)
 (ha : RdT H0 fB 1 s.v a) (hb : RdT H0 fB 1 t.v p) :
 Ct Tryz.prog w0 178 #[s.v, t.v] H0 (fun r H2 => r = .bool (decide (a.take p.length = p)) ∧ Nw H0 H2) := by
 refine Ct.enter (args := [s.v, t.v]) Tryz.func178 rfl rfl rfl ?_
 intro Q0 hret
 have hm0 : Nw H0 H0 := Mo.refl _ _
 replace ha := ha.bnd
 replace hb := hb.bnd
 refine CW.s1 (fun hK1 => CW.region ?_)
 refine LR.a1 (LR.nil (hK1 _ _ ?_))
 refine CW.s1 (fun hK2 => CW.region ?_)
 refine LR.m1 ?_
 refine LR.v1 (Y.len ha rfl u'57 rfl) ?_
 refine LR.m1 ?_
 refine LR.v1 (Y.len hb rfl u'57 rfl) ?_
 refine LR.v1 (Y.geq rfl rfl rfl) ?_
 refine LR.m1 ?_
 refine LR.splitp (d := 10) rfl (fun g10 => ?_) (fun g10 => ?_)
 ·
  refine LR.w1 (Y.move rfl rfl) ?_
  refine LR.w1 (Y.move rfl rfl) ?_
  refine LR.w1 (Y.len hb rfl u'57 rfl) ?_
  refine LR.e (g := fun v => v) (Y.slice ha (0) (p.length) rfl u'57 s'5 rfl (.inl ⟨rfl, rfl⟩) (.inr ⟨_, _, _, rfl, rfl, by first | rfl | omega⟩) (by omega) (by omega)) (Wd.g rfl rfl rfl) rfl rfl (fun v14 rd14 => ?_)
  rw [List.drop_zero] at rd14
  obtain ⟨s14, rfl⟩ : ∃ s : SV, v14 = s.v := ⟨toSV v14, rd14.sv.symm⟩
  refine LR.w1 (Y.move rfl rfl) ?_
  refine LR.call rfl c'179 rfl (Wd.g rfl rfl rfl) rfl rfl (equal_ct s14 t (a.take p.length) p w0 _ rd14.any hb.any) (fun v16 H16 r16 => ?_)
  obtain ⟨rfl, hs16⟩ := r16
  replace hm0 := hm0.tr hs16
  refine LR.v1 (Y.pick_t rfl rfl rfl) ?_
  refine LR.a1 (LR.nil (hK2 _ _ ?_))
  refine CW.ret (hret .ret (.inr rfl) _ _ _ (res1 rfl rfl) ?_)
  exact ⟨rfl, hm0⟩
 ·
  refine LR.g1 ?_
  refine LR.g1 ?_
  refine LR.g1 ?_
  refine LR.g1 ?_
  refine LR.g1 ?_
  refine LR.g1 ?_
  refine LR.v1 (Y.pick_f rfl rfl rfl) ?_
  refine LR.a1 (LR.nil (hK2 _ _ ?_))
  refine CW.ret (hret .ret (.inr rfl) _ _ _ (res1 rfl rfl) ?_)
  exact ⟨by rw [decide_eq_false (fun h => by have h2 := congrArg List.length h; rw [List.length_take] at h2; omega)], hm0⟩
set_option maxHeartbeats 2000000 in
theorem parse_ct (s : SV) (b : List UInt8) (w0 : World) (H0 : Heap)
 (hb : RdT H0 fB 1 s.v b) (hbl : b.length ≤ 1000000000) :
 Ct Tryz.prog w0 91 #[s.v] H0 (fun r H2 => ∃ t : SV, ∃ l : List (SV × Rec), r = .tuple #[t.v, .int .i64 (parS b : Int), .int .i64 (parE b : Int)] ∧ (recs l = parL b) ∧ (Rd (fun b => H0.size ≤ b) H2 fP 1 t.v l) ∧ (∀ x ∈ l, Rd (fun b => H0.size ≤ b) H2 fB 1 x.1.v x.2) ∧ Nw H0 H2) := by
 refine Ct.enter (args := [s.v]) Tryz.func91 rfl rfl rfl ?_
 intro Q0 hret
 have hm0 : Nw H0 H0 := Mo.refl _ _
 replace hb := hb.bnd
 have bf_hb := hb.bf
 refine CW.s1 (fun hK1 => CW.region ?_)
 refine LR.a1 ?_
 refine LR.a1 ?_
 refine LR.a1 (LR.nil (hK1 _ _ ?_))
 refine CW.scope (fun _ _ hE2 => CW.s2 (fun hK3 hE3 => CW.s1 (fun hK4 => CW.region ?_)))
 refine LR.m1 ?_
 refine LR.z1 (Z.litw _ (W8) rfl inf57 rfl rfl rfl (by decide) (by decide) fB_len fB_one (rfl)) fun v11 H11 r11 => ?_
 obtain ⟨ow11, hs11, ob11, hH11⟩ := r11
 have hzs11 : H11.size = H0.size + 1 := by rw [hH11]; simp
 have df1 := (DF.new (bf_hb.mono hm0.size) : DF _ (H0.size + 1))
 have nx2 : Nx 0 H0.size (H0.size + 1) := Nx.new hm0.size
 replace hb := hb.nw hs11
 replace hm0 := hm0.tr hs11
 have hz1 := hs11.size
 refine LR.z1 (Z.bconst ow11 (by decide) rfl Tryz.underlying57 Tryz.underlying5 rfl) fun v12 H12 r12 => ?_
 obtain ⟨rfl, ow11, hs12⟩ := r12
 replace hs12 := hs12.md
 replace hb := hb.upL hs12 (DFL.o df1)
 replace hm0 := hm0.tq hs12 (MIL.o (MI.q nx2))
 have hz2 := hs12.size
 obtain ⟨s12, rfl⟩ : ∃ s : SV, v12 = s.v := ⟨toSV v12, ow11.sv.symm⟩
 refine LR.call rfl c'178 rfl (Wd.u rfl) rfl rfl (hasP_ct s s12 b W8 w0 _ hb.any ow11.rd.any) (fun v13 H13 r13 => ?_)
 obtain ⟨rfl, hs13⟩ := r13
 replace hb := hb.nw hs13
 replace hm0 := hm0.tr hs13
 have hz3 := hs13.size
 refine LR.v1 (Y.notp rfl rfl) (LR.nil (hK4 _ _ ?_))
 refine CW.condp rfl (fun c14 => ?_) (fun c14 => ?_)
 ·
  refine CW.s1 (fun hK5 => CW.region ?_)
  refine LR.a1 ?_
  refine LR.a1 ?_
  refine LR.a1 (LR.nil (hK5 _ _ ?_))
  refine CW.ret (hE3 .ret nofun _ _ (hE2 .ret nofun nofun _ _ (hret .ret (.inr rfl) _ _ _ (res3 rfl rfl rfl rfl) ?_)))
  have h8 : ¬ b.take 8 = W8 := c14
  exact ⟨⟨none, 0, 0⟩, [], by unfold parS parE; rw [if_neg h8, if_neg h8]; rfl, by unfold parL; rw [if_neg h8]; rfl, Rd.nil _ _ _ _, (fun x h => by cases h), hm0⟩
 ·
  have h8 : b.take 8 = W8 := Decidable.byContradiction (fun h => c14 h)
  refine CW.skip (hK3 _ _ (CW.s1 (fun hK6 => CW.region ?_)))
  refine LR.a1 (LR.nil (hK6 _ _ ?_))
  refine CW.s1 (fun hK7 => CW.region ?_)
  refine LR.a1 (LR.nil (hK7 _ _ ?_))
  refine CW.s1 (fun hK8 => ?_)
  refine CW.label ?_
  refine hK8 _ _ (CW.s1 (fun hK9 => CW.block (fun _ _ hX10 _ => ?_)))
  refine CW.loop (fun (s_ : (Nat) × (Value) × (Nat) × (List (SV × Rec)) × (Nat → Prop)) => match s_ with | (a, vo, ko, l, G) => [(0, s.v), (5, vo), (6, .int .i64 (a : Int))])
   (fun (s_ : (Nat) × (Value) × (Nat) × (List (SV × Rec)) × (Nat → Prop)) (H : Heap) => match s_ with | (a, vo, ko, l, G) => (PS b (recs l) a) ∧ (Ow ko 57 H fP 1 vo l) ∧ (∀ x ∈ l, Rd G H fB 1 x.1.v x.2) ∧ (BF G H.size) ∧ (DF G ko) ∧ (∀ c, G c → H0.size ≤ c) ∧ (Nx 0 H13.size ko) ∧ Nw H13 H)
   (fun (s_ : (Nat) × (Value) × (Nat) × (List (SV × Rec)) × (Nat → Prop)) => match s_ with | (a, vo, ko, l, G) => b.length - a) (8, .slice none 0 0, 0, [], fun _ => False) ⟨rfl, rfl, rfl, trivial⟩ ?_ ?_
  ·
   exact ⟨PS.start h8, Ow.nil fP_len fP_one, (fun x h => by cases h), (fun b e => e.elim), (fun b e => e.elim), (fun c e => e.elim), Nx.refl _ _, Mo.refl _ _⟩
  rintro ⟨a, vo, ko, l, G⟩ HL1 hI1 K11 hN11 hE11
  obtain ⟨hps, ow, hxa, bf_hxa, f1, hG, nxl_ow, hlm1⟩ := hI1
  have nx4 : Nx 0 H0.size ko := Nx.tr (Nx.refl 0 _) nxl_ow hm0.size
  replace hb := hb.nw hlm1
  replace hm0 := hm0.tr hlm1
  have hz4 := hlm1.size
  have hle_ow := ow.le
  have nx5 := nxl_ow
  have hal := hps.le
  have hrl : (b.drop a).length = b.length - a := List.length_drop
  have hln : (recs l).length = l.length := by simp [recs]
  have hll := hps.ln
  have hle8 : l.length ≤ (encW (recs l)).length := by rw [← hln]; exact encW_many _
  refine CW.block (fun _ hK12 _ hE12 => CW.s1 (fun hK13 => CW.region ?_))
  refine LR.m1 ?_
  refine LR.m1 ?_
  refine LR.e1 (g := fun v => v) (Y.slice hb (a) (_) rfl u'57 s'5 rfl (.inr ⟨_, _, _, rfl, rfl, by first | rfl | omega⟩) (.inl ⟨rfl, rfl⟩) (by omega) (by omega)) fun v17 rd17 => ?_
  rw [List.take_length] at rd17
  refine LR.a1 (LR.nil (hK13 _ _ ?_))
  refine CW.s2 (fun hK14 hE14 => CW.s1 (fun hK15 => CW.region ?_))
  refine LR.m1 ?_
  refine LR.v1 (Y.len rd17 rfl u'57 rfl) ?_
  refine LR.v1 (Y.leq rfl rfl rfl) (LR.nil (hK15 _ _ ?_))
  refine CW.condp rfl (fun c20 => ?_) (fun c20 => ?_)
  ·
   have hno : oneW (recs l).length (b.drop a) = none := oneW_short (by omega)
   refine CW.exit (hE14 (.exit 0) nofun _ _ (hE12 (.exit 0) nofun (by simp) _ _ (hE11 (.exit 0) nofun _ _ (hX10 _ _ ?_))))
   refine hK9 _ _ (CW.s1 (fun hK16 => CW.region ?_))
   refine LR.m1 ?_
   refine LR.m1 ?_
   refine LR.a1 ?_
   refine LR.a1 ?_
   refine LR.a1 (LR.nil (hK16 _ _ ?_))
   refine CW.ret (hE2 .ret nofun nofun _ _ (hret .ret (.inr rfl) _ _ _ (res3 rfl rfl rfl rfl) ?_))
   obtain ⟨q1, q2⟩ := hps.stop hno
   obtain ⟨so, rfl⟩ : ∃ s : SV, vo = s.v := ⟨toSV vo, ow.sv.symm⟩
   exact ⟨so, l, by rw [hps.e, ← q2]; rfl, q1, (ow.rd.imp (fun c _ e => by have h9 := (nx4); unfold Nx at h9; omega)), (fun x h => (hxa x h).imp (fun c _ e => hG c e)), hm0⟩
  ·
   have hR : 12 < (b.drop a).length := by omega
   have hbo := big_or (b := b.drop a) (by omega)
   have hb4 : big (b.drop a) < 4294967296 := bev4 _ (by rw [List.length_take]; omega)
   refine CW.skip (hK14 _ _ (CW.s1 (fun hK17 => ?_)))
   refine CW.region_draw rfl (by kernel_rfl) ?_
   refine LR.m1 ?_
   refine LR.e1 (g := fun ad => .pointer (some ad)) (Y.iF rd17 (0) rfl u'57 s'5 rfl rfl) fun ad22 pt22 => ?_
   refine LR.v1 (Y.load1 pt22.pt rfl a'5 rfl) ?_
   refine LR.v1 (Y.conv8i rfl u'5 u'3 rfl) ?_
   refine LR.v1 (Y.shln (24) rfl rfl rfl (by first | rfl | omega) (by omega) (by have := ((b.drop a)[0]).toNat_lt; omega)) ?_
   refine LR.m1 ?_
   refine LR.e1 (g := fun ad => .pointer (some ad)) (Y.iF rd17 (1) rfl u'57 s'5 rfl rfl) fun ad27 pt27 => ?_
   refine LR.v1 (Y.load1 pt27.pt rfl a'5 rfl) ?_
   refine LR.v1 (Y.conv8i rfl u'5 u'3 rfl) ?_
   refine LR.v1 (Y.shln (16) rfl rfl rfl (by first | rfl | omega) (by omega) (by have := ((b.drop a)[1]).toNat_lt; omega)) ?_
   refine LR.v1 (Y.orn rfl rfl rfl (by have h0 := (b.drop a)[0].toNat_lt; omega) (by have h0 := (b.drop a)[1].toNat_lt; omega)) ?_
   refine LR.m1 ?_
   refine LR.e1 (g := fun ad => .pointer (some ad)) (Y.iF rd17 (2) rfl u'57 s'5 rfl rfl) fun ad33 pt33 => ?_
   refine LR.v1 (Y.load1 pt33.pt rfl a'5 rfl) ?_
   refine LR.v1 (Y.conv8i rfl u'5 u'3 rfl) ?_
   refine LR.v1 (Y.shln (8) rfl rfl rfl (by first | rfl | omega) (by omega) (by have := ((b.drop a)[2]).toNat_lt; omega)) ?_
   refine LR.v1 (Y.orn rfl rfl rfl (by have h0 := (b.drop a)[0].toNat_lt; have h1 := (b.drop a)[1].toNat_lt; exact Nat.le_trans (Nat.le_of_lt (or63 (by omega) (by omega))) (by decide)) (by have h0 := (b.drop a)[2].toNat_lt; omega)) ?_
   refine LR.m1 ?_
   refine LR.e1 (g := fun ad => .pointer (some ad)) (Y.iF rd17 (3) rfl u'57 s'5 rfl rfl) fun ad39 pt39 => ?_
   refine LR.v1 (Y.load1 pt39.pt rfl a'5 rfl) ?_
   refine LR.v1 (Y.conv8i rfl u'5 u'3 rfl) ?_
   refine LR.v1 (Y.cast (v2 := .int .i64 (big (b.drop a) : Int)) (Y.orn rfl rfl rfl (by have h0 := (b.drop a)[0].toNat_lt; have h1 := (b.drop a)[1].toNat_lt; have h2 := (b.drop a)[2].toNat_lt; exact Nat.le_trans (Nat.le_of_lt (or63 (or63 (by omega) (by omega)) (by omega))) (by decide)) (by have h0 := (b.drop a)[3].toNat_lt; omega)) (by rw [hbo])) ?_
   refine LR.a1 (LR.nil (hK17 _ _ ?_))
   refine CW.s2 (fun hK18 hE18 => CW.s1 (fun hK19 => CW.region ?_))
   refine LR.m1 ?_
   refine LR.v1 (Y.gtr rfl rfl rfl) ?_
   refine LR.m1 ?_
   refine LR.splitp (d := 45) rfl (fun g45 => ?_) (fun g45 => ?_)
   ·
    have hno : oneW (recs l).length (b.drop a) = none := oneW_big (.inl (by omega))
    refine LR.g1 ?_
    refine LR.g1 ?_
    refine LR.g1 ?_
    refine LR.g1 ?_
    refine LR.g1 ?_
    refine LR.v1 (Y.pick_t rfl rfl rfl) (LR.nil (hK19 _ _ ?_))
    refine CW.cond_t rfl ?_
    refine CW.exit (hE18 (.exit 0) nofun _ _ (hE12 (.exit 0) nofun (by simp) _ _ (hE11 (.exit 0) nofun _ _ (hX10 _ _ ?_))))
    refine hK9 _ _ (CW.s1 (fun hK20 => CW.region ?_))
    refine LR.m1 ?_
    refine LR.m1 ?_
    refine LR.a1 ?_
    refine LR.a1 ?_
    refine LR.a1 (LR.nil (hK20 _ _ ?_))
    refine CW.ret (hE2 .ret nofun nofun _ _ (hret .ret (.inr rfl) _ _ _ (res3 rfl rfl rfl rfl) ?_))
    obtain ⟨q1, q2⟩ := hps.stop hno
    obtain ⟨so, rfl⟩ : ∃ s : SV, vo = s.v := ⟨toSV vo, ow.sv.symm⟩
    exact ⟨so, l, by rw [hps.e, ← q2]; rfl, q1, (ow.rd.imp (fun c _ e => by have h9 := (nx4); unfold Nx at h9; omega)), (fun x h => (hxa x h).imp (fun c _ e => hG c e)), hm0⟩
   ·
    refine LR.w1 (Y.move rfl rfl) ?_
    refine LR.w1 (Y.len rd17 rfl u'57 rfl) ?_
    refine LR.w1 (Y.subi rfl rfl rfl (by omega)) ?_
    refine LR.w1 (Y.move rfl rfl) ?_
    refine LR.w1 (Y.leq rfl rfl rfl) ?_
    refine LR.v1 (Y.pick_f rfl rfl rfl) (LR.nil (hK19 _ _ ?_))
    refine CW.condp rfl (fun c51 => ?_) (fun c51 => ?_)
    ·
     have hno : oneW (recs l).length (b.drop a) = none := oneW_big (.inr (by omega))
     refine CW.exit (hE18 (.exit 0) nofun _ _ (hE12 (.exit 0) nofun (by simp) _ _ (hE11 (.exit 0) nofun _ _ (hX10 _ _ ?_))))
     refine hK9 _ _ (CW.s1 (fun hK21 => CW.region ?_))
     refine LR.m1 ?_
     refine LR.m1 ?_
     refine LR.a1 ?_
     refine LR.a1 ?_
     refine LR.a1 (LR.nil (hK21 _ _ ?_))
     refine CW.ret (hE2 .ret nofun nofun _ _ (hret .ret (.inr rfl) _ _ _ (res3 rfl rfl rfl rfl) ?_))
     obtain ⟨q1, q2⟩ := hps.stop hno
     obtain ⟨so, rfl⟩ : ∃ s : SV, vo = s.v := ⟨toSV vo, ow.sv.symm⟩
     exact ⟨so, l, by rw [hps.e, ← q2]; rfl, q1, (ow.rd.imp (fun c _ e => by have h9 := (nx4); unfold Nx at h9; omega)), (fun x h => (hxa x h).imp (fun c _ e => hG c e)), hm0⟩
    ·
     have hrcl : (((b.drop a).drop 12).take (big (b.drop a))).length = big (b.drop a) := by rw [List.length_take, List.length_drop]; omega
     refine CW.skip (hK18 _ _ (CW.s1 (fun hK22 => CW.region ?_)))
     refine LR.m1 ?_
     refine LR.m1 ?_
     refine LR.v1 (Y.addi rfl rfl rfl (by omega)) ?_
     refine LR.e1 (g := fun v => v) (Y.slice rd17 (12) (12 + big (b.drop a)) rfl u'57 s'5 rfl (.inr ⟨_, _, _, rfl, rfl, by first | rfl | omega⟩) (.inr ⟨_, _, _, rfl, rfl, by first | rfl | omega⟩) (by omega) (by omega)) fun v55 rd55 => ?_
     rw [take_drop'] at rd55
     obtain ⟨s55, rfl⟩ : ∃ s : SV, v55 = s.v := ⟨toSV v55, rd55.sv.symm⟩
     refine LR.a1 (LR.nil (hK22 _ _ ?_))
     refine CW.s2 (fun hK23 hE23 => CW.s1 (fun hK24 => ?_))
     refine CW.region_any (fun Hq => Nw HL1 Hq) [] rfl ?_
     have hqs := Nw.refl HL1
     refine LH.m1 0 rfl hqs ?_
     refine LH.m1 1 rfl hqs ?_
     refine LH.t1 2 rfl (fun Hq hq => Y.addi rfl rfl rfl (by omega)) hqs ?_
     refine LH.e (g := fun ad => .pointer (some ad)) 3 (by kernel_rfl) rfl (by kernel_rfl) (by kernel_rfl) (by kernel_rfl) (Y.iF rd17 (12 + big (b.drop a)) rfl u'57 s'5 rfl rfl) (Wd.u rfl) rfl rfl hqs (fun ad59 pt59 => ?_)
     refine LH.t1 4 rfl (fun Hq hq => Y.load1 (pt59.pt.nw hq) rfl a'5 rfl) hqs ?_
     refine LH.t1 5 rfl (fun Hq hq => Y.neq rfl rfl rfl) hqs ?_
     refine LH.m1 6 rfl hqs ?_
     refine LH.splitp (d := 62) rfl (fun g62 => ?_) (fun g62 => ?_)
     ·
      have hno : oneW (recs l).length (b.drop a) = none := oneW_mark (by rw [getD_at (by omega)]; exact u8_ne g62 (by decide))
      refine LH.g1 7 rfl rfl rfl rfl hqs ?_
      refine LH.g1 8 rfl rfl rfl rfl hqs ?_
      refine LH.g1 9 rfl rfl rfl rfl hqs ?_
      refine LH.g1 10 rfl rfl rfl rfl hqs ?_
      refine LH.g1 11 rfl rfl rfl rfl hqs ?_
      refine LH.g1 12 rfl rfl rfl rfl hqs ?_
      refine LH.g1 13 rfl rfl rfl rfl hqs ?_
      refine LH.g1 14 rfl rfl rfl rfl hqs ?_
      refine LH.t1 15 rfl (fun Hq hq => Y.pick_t rfl rfl rfl) hqs ?_
      refine LH.done (by kernel_rfl) ?_
      have hqe := hqs
      refine hK24 _ _ ?_
      refine CW.cond_t rfl ?_
      refine CW.exit (hE23 (.exit 0) nofun _ _ (hE12 (.exit 0) nofun (by simp) _ _ (hE11 (.exit 0) nofun _ _ (hX10 _ _ ?_))))
      refine hK9 _ _ (CW.s1 (fun hK25 => CW.region ?_))
      refine LR.m1 ?_
      refine LR.m1 ?_
      refine LR.a1 ?_
      refine LR.a1 ?_
      refine LR.a1 (LR.nil (hK25 _ _ ?_))
      refine CW.ret (hE2 .ret nofun nofun _ _ (hret .ret (.inr rfl) _ _ _ (res3 rfl rfl rfl rfl) ?_))
      obtain ⟨q1, q2⟩ := hps.stop hno
      obtain ⟨so, rfl⟩ : ∃ s : SV, vo = s.v := ⟨toSV vo, ow.sv.symm⟩
      exact ⟨so, l, by rw [hps.e, ← q2]; rfl, q1, (ow.rd.imp (fun c _ e => by have h9 := (nx4); unfold Nx at h9; omega)), (fun x h => (hxa x h).imp (fun c _ e => hG c e)), hm0⟩
     ·
      have hmk : (b.drop a).getD (12 + big (b.drop a)) 0 = 67 := by rw [getD_at (by omega)]; exact u8_eq (Decidable.byContradiction g62) (by decide)
      refine LH.u1 7 rfl (fun Hq hq => Y.move rfl rfl) (Wd.g rfl rfl rfl) hqs ?_
      refine LH.e (g := fun v => v) 8 (by kernel_rfl) rfl (by kernel_rfl) (by kernel_rfl) (by kernel_rfl) (Y.slice rd17 (4) (12) rfl u'57 s'5 rfl (.inr ⟨_, _, _, rfl, rfl, by first | rfl | omega⟩) (.inr ⟨_, _, _, rfl, rfl, by first | rfl | omega⟩) (by omega) (by omega)) (Wd.g rfl rfl rfl) rfl rfl hqs (fun v64 rd64 => ?_)
      rw [show (12 : Nat) = 4 + 8 from rfl, take_drop'] at rd64
      obtain ⟨s64, rfl⟩ : ∃ s : SV, v64 = s.v := ⟨toSV v64, rd64.sv.symm⟩
      refine LH.u1 9 rfl (fun Hq hq => Y.move rfl rfl) (Wd.g rfl rfl rfl) hqs ?_
      refine LH.u1 10 rfl (fun Hq hq => Y.cast (v2 := .int .i64 (l.length : Int)) (Y.len (ow.rd.nw hq) rfl u'104 rfl) (rfl)) (Wd.g rfl rfl rfl) hqs ?_
      refine LH.u1 11 rfl (fun Hq hq => Y.move rfl rfl) (Wd.g rfl rfl rfl) hqs ?_
      refine LH.o1 12 ?_
      refine LO.call rfl rfl c'180 rfl (Wd.g rfl rfl rfl) rfl rfl (check_ct l.length s55 (((b.drop a).drop 12).take (big (b.drop a))) w0 _ rd55.any (by omega)) (fun v68 H68 r68 => ?_)
      obtain ⟨t68, rfl, hw68, hs68⟩ := r68
      replace ow := ow.nw hs68
      replace hxa := fun x hxa_ => (hxa x hxa_).nw hs68
      replace rd55 := rd55.nw hs68
      replace rd64 := rd64.nw hs68
      replace hm0 := hm0.tr hs68
      replace hlm1 := hlm1.tr hs68
      have hz5 := hs68.size
      replace hw68 := hw68.bnd
      have hq68 := hqs.tr hs68
      refine ⟨.inr hq68, LH.narrow (SH2 := fun Hq => Nw H68 Hq) (fun Hq hq => hq68.tr hq) ?_⟩
      have hqn68 := Nw.refl H68
      refine LH.o1 13 ?_
      refine LO.call rfl rfl c'179 rfl (Wd.g rfl rfl rfl) rfl rfl (equal_ct s64 t68 _ _ w0 _ rd64.any hw68.any) (fun v69 H69 r69 => ?_)
      obtain ⟨rfl, hs69⟩ := r69
      replace ow := ow.nw hs69
      replace hxa := fun x hxa_ => (hxa x hxa_).nw hs69
      replace rd55 := rd55.nw hs69
      replace hm0 := hm0.tr hs69
      replace hlm1 := hlm1.tr hs69
      have hz6 := hs69.size
      have hq69 := hqn68.tr hs69
      refine ⟨.inr hq69, LH.narrow (SH2 := fun Hq => Nw H69 Hq) (fun Hq hq => hq69.tr hq) ?_⟩
      have hqn69 := Nw.refl H69
      refine LH.u1 14 rfl (fun Hq hq => Y.notp rfl rfl) (Wd.g rfl rfl rfl) hqn69 ?_
      refine LH.t1 15 rfl (fun Hq hq => Y.pick_f rfl rfl rfl) hqn69 ?_
      refine LH.done (by kernel_rfl) ?_
      have hqe := hqn69
      refine hK24 _ _ ?_
      refine CW.condp rfl (fun c71 => ?_) (fun c71 => ?_)
      ·
       have hno : oneW (recs l).length (b.drop a) = none := by rw [hln]; exact oneW_chk c71
       refine CW.exit (hE23 (.exit 0) nofun _ _ (hE12 (.exit 0) nofun (by simp) _ _ (hE11 (.exit 0) nofun _ _ (hX10 _ _ ?_))))
       refine hK9 _ _ (CW.s1 (fun hK26 => CW.region ?_))
       refine LR.m1 ?_
       refine LR.m1 ?_
       refine LR.a1 ?_
       refine LR.a1 ?_
       refine LR.a1 (LR.nil (hK26 _ _ ?_))
       refine CW.ret (hE2 .ret nofun nofun _ _ (hret .ret (.inr rfl) _ _ _ (res3 rfl rfl rfl rfl) ?_))
       obtain ⟨q1, q2⟩ := hps.stop hno
       obtain ⟨so, rfl⟩ : ∃ s : SV, vo = s.v := ⟨toSV vo, ow.sv.symm⟩
       exact ⟨so, l, by rw [hps.e, ← q2]; rfl, q1, (ow.rd.imp (fun c _ e => by have h9 := (nx4); unfold Nx at h9; omega)), (fun x h => (hxa x h).imp (fun c _ e => hG c e)), hm0⟩
      ·
       have hyes : oneW (recs l).length (b.drop a) = some (((b.drop a).drop 12).take (big (b.drop a))) := by rw [hln]; exact oneW_yes (by omega) (by omega) (by omega) hmk (Decidable.byContradiction (fun h => c71 h))
       refine CW.skip (hK23 _ _ (CW.s1 (fun hK27 => CW.region ?_)))
       refine LR.m1 ?_
       refine LR.m1 ?_
       refine LR.call rfl c'59 rfl (Wd.u rfl) rfl rfl (bclone_ct _ (((b.drop a).drop 12).take (big (b.drop a))) w0 _ rd55.any (by omega)) (fun v74 H74 r74 => ?_)
       obtain ⟨s74, k74, rfl, nd, hk74, hs74⟩ := r74
       have dj8 : Dj ko k74 := Dj.app (Dj.z) ow.le hk74
       have nx11 : Nx 0 H0.size k74 := Nx.tr (Nx.refl 0 _) hk74 hm0.size
       replace ow := ow.nw hs74
       replace hxa := fun x hxa_ => (hxa x hxa_).nw hs74
       replace hlm1 := hlm1.tr hs74
       have hz7 := hs74.size
       have hle_nd := nd.le
       refine LR.z1 (Z.litw _ ([(s74, ((b.drop a).drop 12).take (big (b.drop a)))]) rfl inf104 rfl rfl rfl (by decide) (by decide) fP_len fP_one (rfl)) fun v75 H75 r75 => ?_
       obtain ⟨nw75, hs75, ob75, hH75⟩ := r75
       have hzs75 : H75.size = H74.size + 1 := by rw [hH75]; simp
       replace ow := ow.nw hs75
       replace hxa := fun x hxa_ => (hxa x hxa_).nw hs75
       replace nd := nd.nw hs75
       replace hlm1 := hlm1.tr hs75
       have hz8 := hs75.size
       refine LR.z1 (Z.apnd ow nw75.rd rfl inf104 rfl rfl (by simp only [List.length_singleton]; omega) (by simp only [List.length_singleton]; omega)) fun v76 H76 r76 => ?_
       obtain ⟨k76, ow, hk76, hs76⟩ := r76
       replace hk76 : Nx ko H75.size k76 := hk76
       replace hs76 := hs76.md
       have df21 := DF.app (f1) (bf_hxa.mono (by omega)) hk76
       have dj23 : Dj k74 k76 := Dj.app (dj8.symm) nd.le hk76
       have nx26 : Nx 0 H13.size k76 := Nx.tr (nx5) hk76 hlm1.size
       replace hxa := fun x hxa_ => (hxa x hxa_).upL hs76 (DFL.o f1)
       replace nd := nd.upL hs76 (DL.o dj8.symm)
       replace hlm1 := hlm1.tq hs76 (MIL.o (MI.q nx5))
       have hz9 := hs76.size
       have hle_ow := ow.le
       refine LR.a1 (LR.nil (hK27 _ _ ?_))
       refine CW.region ?_
       refine LR.m1 ?_
       refine LR.m1 ?_
       refine LR.v1 (Y.addi rfl rfl rfl (by omega)) ?_
       refine LR.v1 (Y.addi rfl rfl rfl (by omega)) ?_
       refine LR.v1 (Y.cast (v2 := .int .i64 ((a + (13 + (((b.drop a).drop 12).take (big (b.drop a))).length) : Nat) : Int)) (Y.addi rfl rfl rfl (by omega)) (ivv (by omega))) ?_
       refine LR.a1 (LR.nil (hK12 _ _ ?_))
       refine QN.sub (hN11 (a + (13 + (((b.drop a).drop 12).take (big (b.drop a))).length), v76, k76, l ++ [(s74, ((b.drop a).drop 12).take (big (b.drop a)))], fun c => G c ∨ c + 1 = k74) _ ?_ ?_) ⟨rfl, rfl, (iv (by omega)), trivial⟩
       · exact ⟨by unfold recs; rw [List.map_append]; exact hps.step hyes, ow, snocP (α := Unit) (fb := fun _ => (s74, [])) hxa (fun c e => .inl e) (nd.rd.imp (fun c _ e => .inr e)), BF.or1 (bf_hxa.mono (by omega)) nd.le, DF.or1 (df21) (dj23.symm), fun c e => by rcases e with e | e; exact hG c e; exact (by have h9 := (nx11); unfold Nx at h9; omega), nx26, hlm1⟩
       · show b.length - (a + (13 + _)) < b.length - a; omega
end Go.Proofs.YtfjmpninmdjcaaaGreatDoor.WalC

namespace Go.Proofs.YtfjmpninmdjcaaaGreatDoor.SimQ
open E Go.RowKit SimA SimB SimC SimD SimE SimF SimG SimH SimI SimJ SimK
set_option maxRecDepth 20000
def Fsb (n : Nat) (x : Fdt) : Prop := x.now.length ≤ n ∧ x.stays.length ≤ n ∧ x.w.length ≤ n ∧ (∀ y ∈ x.w, y.d.length ≤ n) ∧ ∀ j, (onAll (x.w.take j) x.stays).length ≤ n
theorem Fsb.mono {n m : Nat} {x : Fdt} (h : Fsb n x) (hm : n ≤ m) : Fsb m x := ⟨Nat.le_trans h.1 hm, Nat.le_trans h.2.1 hm, Nat.le_trans h.2.2.1 hm, fun y hy => Nat.le_trans (h.2.2.2.1 y hy) hm, fun j => Nat.le_trans (h.2.2.2.2 j) hm⟩
theorem Fsb.nil (n : Nat) : Fsb n ⟨[], [], []⟩ := ⟨Nat.zero_le _, Nat.zero_le _, Nat.zero_le _, nofun, fun j => by simp [onAll]⟩
theorem Fsb.flat {n : Nat} {l : List UInt8} (h : l.length ≤ n) : Fsb n ⟨l, l, []⟩ := ⟨h, h, Nat.zero_le _, nofun, fun j => by simpa [onAll] using h⟩
def Inn (U : List Pth) (l : Nms) : Prop := ∀ q, (mget l q).isSome = true → q ∈ U
structure Bs (n : Nat) (D : Dk) : Prop where
 an : Asc D.now
 ast : Asc D.stays
 lg : D.log.length ≤ n
 op : D.ops ≤ n
 fl : D.fs.length ≤ n
 f : ∀ i, Fsb n (fget D.fs i)
 un : ∃ U : List Pth, U.length ≤ n ∧ Inn U D.now ∧ Inn U D.stays ∧ ∀ c ∈ D.log, ∀ i, c.f = some i → c.n ∈ U
 ld : ∀ c ∈ D.log, ∀ i, c.f = some i → dirP c.n = c.dir
theorem Bs.mono {n m : Nat} {D : Dk} (h : Bs n D) (hm : n ≤ m) : Bs m D := ⟨h.an, h.ast, Nat.le_trans h.lg hm, Nat.le_trans h.op hm, Nat.le_trans h.fl hm, fun i => (h.f i).mono hm, by obtain ⟨U, h1, h2⟩ := h.un; exact ⟨U, Nat.le_trans h1 hm, h2⟩, h.ld⟩
theorem usedL_le {fs : List Fdt} {n : Nat} (h : ∀ i, (fget fs i).now.length ≤ n) : ∀ l : Nms, usedL fs l ≤ l.length * n
 | [] => by simp [usedL]
 | x :: l => by
   have h1 := usedL_le h l
   have h2 := h x.2
   unfold usedL at h1 ⊢
   rw [List.map_cons, List.sum_cons, List.length_cons, Nat.add_mul]
   omega
theorem inn_len {U : List Pth} {l : Nms} (hA : Asc l) (h : Inn U l) : l.length ≤ U.length := by
 have := nodup_le hA.nodup (fun k hk => h k (isSome_iff_key.2 hk))
 rwa [List.length_map] at this
theorem Bs.bd {n : Nat} {D : Dk} (h : Bs n D) (hn : n ≤ 1073741824) : Bd 274877906944 D := by
 obtain ⟨U, h1, h2, h3, h4⟩ := h.un
 have e1 := inn_len h.an h2
 have e2 := inn_len h.ast h3
 have e3 := usedL_le (fun i => (h.f i).1) D.now
 have e4 : D.now.length * n ≤ 1073741824 * 1073741824 := Nat.mul_le_mul (by omega) hn
 exact ⟨h.an, h.ast, by unfold Dk.used; omega, by have := h.lg; omega, by have := h.op; omega, fun i => by have := (h.f i).1; omega, fun i => by have := (h.f i).2.1; omega, fun i => by have := (h.f i).2.2.1; omega, fun i y hy => by have := (h.f i).2.2.2.1 y hy; omega, by omega, by omega, by have := h.fl; omega, fun i j => by have := (h.f i).2.2.2.2 j; omega, h.ld⟩
theorem Bs.empty (cap most : Nat) : Bs 0 (Dk.empty cap most) :=
 ⟨List.Pairwise.nil, List.Pairwise.nil, Nat.le_refl _, Nat.le_refl _, Nat.le_refl _, fun i => by show Fsb 0 (List.getD [] i _); simpa using Fsb.nil 0, ⟨[], Nat.le_refl _, nofun, nofun, nofun⟩, nofun⟩
theorem Bs.begin {n : Nat} {D : Dk} (h : Bs n D) : Bs (n + 1) D.begin.2 := by
 obtain ⟨e1, e2, e3, e4, e5, e6, e7⟩ := begin_same D
 have h := h.mono (Nat.le_succ n)
 exact ⟨by rw [e4]; exact h.an, by rw [e5]; exact h.ast, by rw [e6]; exact h.lg, by have := Bs.op ‹Bs n D›; omega, by rw [e3]; exact h.fl, by rw [e3]; exact h.f, by rw [e4, e5, e6]; exact h.un, by rw [e6]; exact h.ld⟩
theorem inn_ap {U : List Pth} {l : Nms} {c : Chg} (h : Inn U l) (hc : ∀ i, c.f = some i → c.n ∈ U) : Inn U (c.ap l) := fun q hq => by
 rw [mget_ap] at hq
 unfold Chg.at at hq
 cases hf : c.f with
 | none =>
   rw [hf] at hq
   simp only at hq
   split at hq
   · cases hq
   · exact h q hq
 | some i =>
   rw [hf] at hq
   simp only at hq
   split at hq
   · rename_i e; rw [e]; exact hc i hf
   · split at hq
     · cases hq
     · exact h q hq
theorem Bs.put {n : Nat} {D : Dk} (h : Bs n D) (i : Nat) {x : Fdt} (hx : Fsb n x) : Bs n (D.putF i x) :=
 ⟨h.an, h.ast, h.lg, h.op, by rw [fl_put]; exact h.fl, fun j => by
  by_cases hi : i < D.fs.length
  · by_cases e : j = i
    · subst e; rw [fget_put hi]; exact hx
    · show Fsb n ((D.fs.set i x).getD j _)
      rw [List.getD_eq_getElem?_getD, List.getElem?_set_ne (Ne.symm e), ← List.getD_eq_getElem?_getD]; exact h.f j
  · show Fsb n ((D.fs.set i x).getD j _)
    rw [List.set_eq_of_length_le (by omega)]; exact h.f j, h.un, h.ld⟩
theorem Bs.change {n : Nat} {D : Dk} (h : Bs n D) (c : Chg) (hd : ∀ i, c.f = some i → dirP c.n = c.dir) : Bs (n + 1) (D.change c) := by
 obtain ⟨U, h1, h2, h3, h4⟩ := h.un
 refine ⟨asc_ap h.an c, h.ast, by show (D.log ++ [c]).length ≤ _; have := h.lg; simp; omega, Nat.le_succ_of_le h.op, Nat.le_succ_of_le h.fl, fun i => (h.f i).mono (Nat.le_succ _), ⟨c.n :: U, by simp; omega, inn_ap (fun q hq => List.mem_cons_of_mem _ (h2 q hq)) (fun _ _ => List.mem_cons_self), fun q hq => List.mem_cons_of_mem _ (h3 q hq), fun d hd2 i hi => ?_⟩, fun d hd2 i hi => ?_⟩
 · rcases List.mem_append.1 hd2 with hd2 | hd2
   · exact List.mem_cons_of_mem _ (h4 d hd2 i hi)
   · rw [List.mem_singleton.1 hd2]; exact List.mem_cons_self
 · rcases List.mem_append.1 hd2 with hd2 | hd2
   · exact h.ld d hd2 i hi
   · rw [List.mem_singleton.1 hd2] at hi ⊢; exact hd i hi
theorem Bs.addf {n : Nat} {D : Dk} (h : Bs n D) : Bs (n + 1) ({ D with fs := D.fs ++ [⟨[], [], []⟩] } : Dk) :=
 ⟨h.an, h.ast, Nat.le_succ_of_le h.lg, Nat.le_succ_of_le h.op, by have := h.fl; simp; omega, fun i => by
  show Fsb (n + 1) ((D.fs ++ [(⟨[], [], []⟩ : Fdt)]).getD i ⟨[], [], []⟩)
  rw [List.getD_eq_getElem?_getD, List.getElem?_append]
  split
  · rw [← List.getD_eq_getElem?_getD]; exact (h.f i).mono (Nat.le_succ _)
  · by_cases e : i - D.fs.length = 0
    · rw [e]; exact Fsb.nil _
    · rw [List.getElem?_eq_none (by simp; omega)]; exact Fsb.nil _, (h.mono (Nat.le_succ _)).un, h.ld⟩
theorem Bs.make {n : Nat} {D : Dk} (h : Bs n D) (p : Pth) : Bs (n + 2) (D.make p).1 := by
 unfold Dk.make
 split
 · exact h.mono (by omega)
 · refine h.addf.change _ (fun i _ => ?_)
   simp [Chg.dir]
theorem Fsb.laid {n : Nat} {x : Fdt} (h : Fsb n x) (w : Wr) : Fsb (n + w.d.length + 1) ⟨w.on x.now w.d.length, x.stays, x.w ++ [w]⟩ := by
 obtain ⟨h1, h2, h3, h4, h5⟩ := h
 have h6 := on_le w x.now w.d.length
 refine ⟨by show (w.on x.now w.d.length).length ≤ _; omega, by show x.stays.length ≤ _; omega, by show (x.w ++ [w]).length ≤ _; simp; omega, fun y hy => ?_, fun j => ?_⟩
 · rcases List.mem_append.1 hy with hy | hy
   · have := h4 y hy; omega
   · rw [List.mem_singleton.1 hy]; omega
 · show (onAll ((x.w ++ [w]).take j) x.stays).length ≤ _
   rw [List.take_append]
   by_cases hj : j ≤ x.w.length
   · rw [show j - x.w.length = 0 by omega, List.take_zero, List.append_nil]; have := h5 j; omega
   · obtain ⟨k, hk⟩ : ∃ k, j - x.w.length = k + 1 := ⟨j - x.w.length - 1, by omega⟩
     rw [hk]
     have e : onAll (x.w.take j ++ [w].take (k + 1)) x.stays = w.on (onAll (x.w.take j) x.stays) w.d.length := by
      unfold onAll; rw [List.foldl_append, List.take_succ_cons, List.take_nil]; rfl
     rw [e]
     have := on_le w (onAll (x.w.take j) x.stays) w.d.length
     have := h5 j
     omega
theorem Bs.write {n : Nat} {D : Dk} (h : Bs n D) (p : Pth) (w : Wr) : Bs (n + w.d.length + 3) (D.write p w) := by
 unfold Dk.write
 have h1 := h.make p
 exact (h1.mono (by omega)).put _ (((h1.f _).laid w).mono (by omega))
theorem Bs.lay {n : Nat} {D : Dk} (h : Bs n D) (p : Pth) (w : Wr) : Bs (n + w.d.length + 4) (D.lay p w).2 := by
 unfold Dk.lay
 have h1 := h.begin
 simp only
 split
 · exact h1.mono (by omega)
 · simp only; split
   · exact (h1.write p w).mono (by omega)
   · exact h1.mono (by omega)
theorem Bs.sync {n : Nat} {D : Dk} (h : Bs n D) (p : Pth) : Bs (n + 1) (D.sync p).2 := by
 unfold Dk.sync
 have h1 := h.begin
 simp only
 split
 · exact h1
 · simp only; split
   · exact h1.put _ (Fsb.flat (h1.f _).1)
   · exact h1
theorem Bs.rename {n : Nat} {D : Dk} (h : Bs n D) (a b : Pth) : Bs (n + 2) (D.rename a b).2 := by
 unfold Dk.rename
 have h1 := h.begin
 simp only
 split
 · exact h1.mono (by omega)
 · simp only; split
   · rename_i h2
     refine h1.change _ (fun i _ => ?_)
     have h3 : nameB a = true ∧ dirP a = dirP b := by
      have := h2.1
      unfold Dk.renE at this
      split at this
      · cases this
      · rename_i h4; split at this
        · cases this
        · rename_i h5; exact ⟨by cases hn : nameB a with
           | true => rfl
           | false => exact absurd (.inl hn) h4, by simpa using h5⟩
     unfold Chg.dir
     rw [if_neg (name_ne h3.1)]; exact h3.2.symm
   · exact h1.mono (by omega)
theorem Bs.syncDir {n : Nat} {D : Dk} (h : Bs n D) (p : Pth) : Bs (n + 1) (D.syncDir p).2 := by
 unfold Dk.syncDir
 have h1 := h.begin
 simp only
 split
 · exact h1
 · simp only; split
   · obtain ⟨U, e1, e2, e3, e4⟩ := h1.un
     refine ⟨h1.an, asc_merge h1.ast _, Nat.le_trans (List.length_filter_le _ _) h1.lg, h1.op, h1.fl, h1.f, ⟨U, e1, e2, fun q hq => ?_, fun c hc => e4 c (List.mem_filter.1 hc).1⟩, fun c hc => h1.ld c (List.mem_filter.1 hc).1⟩
     have hq : (mget (merge D.begin.2.now D.begin.2.stays p) q).isSome = true := hq
     rw [mget_merge h1.an] at hq
     split at hq
     · exact e2 q hq
     · exact e3 q hq
   · exact h1
end Go.Proofs.YtfjmpninmdjcaaaGreatDoor.SimQ

namespace Go.Proofs.YtfjmpninmdjcaaaGreatDoor.SimR
open E Go.RowKit SimA SimB SimC SimD SimE SimF SimG SimH SimI SimJ SimK SimQ
set_option maxRecDepth 20000
theorem mx_of {W : World} (h : W.ShapedOpen Tryz.prog) : ∃ m, MX m W.heap ∧ BF (fun b => b = 0) W.heap.size := by
 obtain ⟨m, hm⟩ := cell_of_shapedOpen_int (g := 0) (t := 3) (zero := #[.int .i64 0]) h (by decide) (by kernel_rfl) rfl (by kernel_rfl) (by kernel_rfl) Tryz.underlying3
 have hc : E.cell W.heap ⟨0, 0, none⟩ = some (.int .i64 m) := by rw [← (At.cell (w0 := W) ⟨rfl, rfl, rfl, rfl, Nat.le_refl _⟩ _)]; exact hm
 refine ⟨m, ⟨⟨rfl, fun j c hj => ?_⟩, rfl⟩, fun b hb => ?_⟩
 · cases j with
   | zero => cases hj; exact hc
   | succ j => cases hj
 · have := World.block_lt_of_cell? W _ hm; simp only at hb; omega
section
variable {P : Program} {w0 : World} {n : Nat} {l : FL} {H : Heap} {o : Oper}
end
theorem DFL.of {k : Nat} {K : List Nat} (d : DL k K) : DFL (fun b => b + 1 = k) K := fun j hj => DF.of (d j hj)
def wiN (a : Int) (n : Nat) : Nat := (a % (n : Int)).toNat
theorem wiN_lt {a : Int} {n : Nat} (h : 0 < n) : wiN a n < n := by
 unfold wiN
 have := Int.emod_lt_of_pos a (show (0 : Int) < n by omega)
 have := Int.emod_nonneg a (show (n : Int) ≠ 0 by omega)
 omega
theorem wiN_neg {a : Int} {n : Nat} (h : 0 < n) (h2 : a.tmod n < 0) : ((wiN a n : Nat) : Int) = a.tmod n + n := by
 unfold wiN
 have h3 := Int.emod_nonneg a (show (n : Int) ≠ 0 by omega)
 rw [Int.toNat_of_nonneg h3]
 rw [Int.tmod_eq_emod] at h2 ⊢
 split at h2
 · omega
 · rename_i h4; rw [if_neg h4]; simp
theorem wiN_pos {a : Int} {n : Nat} (h : 0 < n) (h2 : ¬ a.tmod n < 0) : ((wiN a n : Nat) : Int) = a.tmod n := by
 unfold wiN
 have h3 := Int.emod_nonneg a (show (n : Int) ≠ 0 by omega)
 have h5 := Int.emod_lt_of_pos a (show (0 : Int) < n by omega)
 rw [Int.toNat_of_nonneg h3]
 rw [Int.tmod_eq_emod] at h2 ⊢
 split at h2
 · rename_i h4; rw [if_pos h4]; simp
 · rename_i h4
   simp only [Int.natAbs_natCast] at h2
   omega
end Go.Proofs.YtfjmpninmdjcaaaGreatDoor.SimR

namespace Go.Proofs.YtfjmpninmdjcaaaGreatDoor.WalD
open E Go.RowKit SimA SimB SimC SimD SimE SimF SimG SimH SimI SimQ SimR WalA WalB WalC
set_option maxRecDepth 20000
set_option maxRecDepth 100000 in
theorem inf57 : Inf Tryz.prog 57 5 1 1 := ⟨Tryz.underlying57, _, _, rfl, rfl, rfl, rfl, rfl⟩
section
variable {P : Program} {w0 : World} {n : Nat} {l : FL} {H H1 : Heap} {o : Oper}
theorem Y.fieldAddrX {x : Operand} {s : TypeId} {k off sz2 : Nat} {ad : Addr} {cs : List Value} {fs : Array Field} {fd : Field} (h : Pt H1 ad cs) (ho : o.op = .fieldAddr s x k) (hu : ∀ w, (underlying s).run P w = .ok (.struct fs) w) (hk : fs[k]? = some fd) (hof : fd.offset = off)
 (hsz : ∀ w, (sizeOf fd.type).run P w = .ok sz2 w) (hz : sz2 ≠ 0) (hx : opv l x = some (.pointer (some ad))) : Y P w0 n l H o (.pointer (some (ad.add off))) := by
 intro ac w hf ha
 simp [execOp, ho, hf.eval hx, Instr.fieldAt, Instr.sureAddr, fieldPlace, hu, hk, hof, hsz, hz]
end
def newP (p : Pth) : Pth := p ++ [46, 110, 101, 119]
abbrev Stp := Dk → Nat × Dk
def runD : List Stp → Dk → Nat × Dk
 | [], D => (0, D)
 | f :: fs, D => if (f D).1 = 0 then runD fs (f D).2 else f D
def stp (Fs : List Stp) (i : Nat) : Stp := Fs.getD i (fun D => (0, D))
theorem runD_app : ∀ (a b : List Stp) (D : Dk), runD (a ++ b) D = if (runD a D).1 = 0 then runD b (runD a D).2 else runD a D
 | [], b, D => by simp [runD]
 | f :: a, b, D => by
   rw [List.cons_append, runD, runD]
   by_cases h : (f D).1 = 0
   · rw [if_pos h, if_pos h, runD_app a b]
   · rw [if_neg h, if_neg h, if_neg h]
theorem runD_one (f : Stp) (D : Dk) : runD [f] D = f D := by
 unfold runD runD
 split
 · rename_i h; exact Prod.ext h.symm rfl
 · rfl
theorem runD_take {Fs : List Stp} {i : Nat} {D : Dk} (h : i < Fs.length) (h0 : (runD (Fs.take i) D).1 = 0) : runD (Fs.take (i + 1)) D = stp Fs i (runD (Fs.take i) D).2 := by
 rw [List.take_succ_eq_append_getElem h, runD_app, if_pos h0, runD_one]
 unfold stp; rw [List.getD_eq_getElem?_getD, List.getElem?_eq_getElem h]; rfl
theorem runD_stop {Fs : List Stp} {i : Nat} {D : Dk} (h : (runD (Fs.take i) D).1 ≠ 0) : runD Fs D = runD (Fs.take i) D := by
 conv => lhs; rw [← List.take_append_drop i Fs]
 rw [runD_app, if_neg h]
theorem bs_run {k : Nat} : ∀ {fs : List Stp} {N : Nat} {D : Dk}, (∀ f ∈ fs, ∀ N D, Bs N D → Bs (N + k) (f D).2) → Bs N D → Bs (N + k * fs.length) (runD fs D).2
 | [], N, D, _, h => by simpa [runD] using h
 | f :: fs, N, D, hf, h => by
   have h1 := hf f List.mem_cons_self N D h
   unfold runD
   split
   · have := bs_run (fs := fs) (fun g hg => hf g (List.mem_cons_of_mem _ hg)) h1
     rw [List.length_cons]
     exact this.mono (by rw [Nat.mul_add]; omega)
   · rw [List.length_cons]; exact h1.mono (by rw [Nat.mul_add]; omega)
theorem bs_runT {k : Nat} {fs : List Stp} {N : Nat} {D : Dk} (i : Nat) (hf : ∀ f ∈ fs, ∀ N D, Bs N D → Bs (N + k) (f D).2) (h : Bs N D) : Bs (N + k * fs.length) (runD (fs.take i) D).2 := by
 have := bs_run (fs := fs.take i) (fun f hm => hf f (List.mem_of_mem_take hm)) h
 exact this.mono (Nat.add_le_add_left (Nat.mul_le_mul_left _ (by rw [List.length_take]; omega)) _)
def frS (p : Pth) (l : List Rec) : List Stp := [fun D => D.lay (newP p) ⟨false, encW l⟩, fun D => D.sync (newP p), fun D => D.rename (newP p) p, fun D => D.syncDir (dirP p)]
def apS (p : Pth) (n : Nat) (r : Rec) : List Stp := [fun D => D.lay p ⟨true, layW n r⟩, fun D => D.sync p, fun D => D.lay p ⟨true, [67]⟩, fun D => D.sync p]
theorem frS_bs (p : Pth) (l : List Rec) : ∀ f ∈ frS p l, ∀ N D, Bs N D → Bs (N + ((encW l).length + 20)) (f D).2 := by
 intro f hf N D h
 simp only [frS, List.mem_cons, List.not_mem_nil, or_false] at hf
 rcases hf with rfl | rfl | rfl | rfl
 · exact (h.lay (newP p) ⟨false, encW l⟩).mono (by simp only; omega)
 · exact (h.sync _).mono (by omega)
 · exact (h.rename _ _).mono (by omega)
 · exact (h.syncDir _).mono (by omega)
theorem apS_bs (p : Pth) (n : Nat) (r : Rec) : ∀ f ∈ apS p n r, ∀ N D, Bs N D → Bs (N + (r.length + 20)) (f D).2 := by
 intro f hf N D h
 simp only [apS, List.mem_cons, List.not_mem_nil, or_false] at hf
 rcases hf with rfl | rfl | rfl | rfl
 · exact (h.lay p ⟨true, layW n r⟩).mono (by simp only [layW_len]; omega)
 · exact (h.sync _).mono (by omega)
 · exact (h.lay p ⟨true, [67]⟩).mono (by simp only [List.length_singleton]; omega)
 · exact (h.sync _).mono (by omega)
def freshD (D : Dk) (p : Pth) (l : List Rec) : Nat × Dk := runD (frS p l) D
theorem bs_fresh {N : Nat} {D : Dk} (h : Bs N D) (p : Pth) (l : List Rec) : Bs (N + 4 * ((encW l).length + 20)) (freshD D p l).2 := (bs_run (frS_bs p l) h).mono (by simp [frS]; omega)
theorem dirP_le (p : Pth) : (dirP p).length ≤ p.length := by
 unfold dirP headP; split
 · exact List.length_take_le' _ _
 · exact Nat.zero_le _
theorem newP_len (p : Pth) : (newP p).length = p.length + 4 := by simp [newP]
abbrev FnV := Nat × List Value
abbrev fFn (x : FnV) : List Value := [.func (.func x.1) #[] x.2.toArray]
theorem fFn_len (x : FnV) : (fFn x).length = 1 := rfl
theorem fFn_one (x : FnV) : ∀ u ∈ fFn x, u.oneCell' = true := by intro u hu; simp only [List.mem_singleton] at hu; subst hu; rfl
def CloD (w0 : World) (b : Nat) (f : Stp) (v : Value) (K : List Nat) (H : Heap) (D : Dk) : Prop :=
 Clo Tryz.prog w0 v [] H (fun r H2 => ∃ (K2 : List Nat) (g2 : Gh), r = .int .i64 ((f D).1 : Int) ∧ PDk K2 g2 H2 b (f D).2 ∧ NxK K H.size K2 ∧ Mo (Ms K) H H2)
theorem first_ct (K : List Nat) (g : Gh) (b : Nat) (D : Dk) (v : Value) (l : List FnV) (Fs : List Stp) (F : Nat → Prop) (w0 : World) (H0 : Heap)
 (hf : PDk K g H0 b D) (hl : Rd F H0 fFn 1 v l) (bf_hl : BF F H0.size) (dfl : DFL F K) (hll : l.length = Fs.length) (hst : ∀ (i : Nat) (h : i < l.length) (K' : List Nat) (g' : Gh) (H' : Heap), PDk K' g' H' b (runD (Fs.take i) D).2 → NxK K H0.size K' → Mo (Ms K) H0 H' → CloD w0 b (stp Fs i) (.func (.func l[i].1) #[] l[i].2.toArray) K' H' (runD (Fs.take i) D).2) :
 Ct Tryz.prog w0 108 #[v] H0 (fun r H2 => ∃ K2 : List Nat, ∃ g2 : Gh, r = .int .i64 ((runD Fs D).1 : Int) ∧ (PDk K2 g2 H2 b (runD Fs D).2) ∧ (NxK K H0.size K2) ∧ Mo (Ms K) H0 H2) := by
 refine Ct.enter (args := [v]) Tryz.func108 rfl rfl rfl ?_
 intro Q0 hret
 have hm0 : Mo (Ms K) H0 H0 := Mo.refl _ _
 have nx_hm0_hf := NxK.refl K H0.size
 have hbk_hf := hf.bk
 have hlm := hl.len
 refine CW.s1 (fun hK1 => CW.region ?_)
 refine LR.a1 (LR.nil (hK1 _ _ ?_))
 refine CW.seq (fun K2 hK2 hE2 => CW.s1 (fun hK3 => CW.region ?_))
 refine LR.m1 ?_
 refine LR.v1 (Y.len hl rfl u'291 rfl) ?_
 refine LR.m1 (LR.nil (hK3 _ _ ?_))
 refine CW.block (fun _ _ hX4 hE4 => ?_)
 refine CW.loop (fun (s_ : (Nat) × (List Nat) × (Gh)) => match s_ with | (i, Ki, gi) => [(6, v), (7, .int .i64 (l.length : Int)), (8, .int .i64 (i : Int))])
  (fun (s_ : (Nat) × (List Nat) × (Gh)) (H : Heap) => match s_ with | (i, Ki, gi) => (PDk Ki gi H b (runD (Fs.take i) D).2) ∧ (i ≤ l.length) ∧ ((runD (Fs.take i) D).1 = 0) ∧ (NxK K H0.size Ki) ∧ Mo (Ms K) H0 H)
  (fun (s_ : (Nat) × (List Nat) × (Gh)) => match s_ with | (i, Ki, gi) => l.length - i) (0, K, g) ⟨rfl, rfl, rfl, trivial⟩ ?_ ?_
 ·
  exact ⟨hf, (by omega), rfl, NxK.refl _ _, Mo.refl _ _⟩
 rintro ⟨i, Ki, gi⟩ HL1 hI1 K5 hN5 hE5
 obtain ⟨hf, hi, h0, nxl_hf, hlm1⟩ := hI1
 have nx2 : NxK K H0.size Ki := NxK.tr (nx_hm0_hf) nxl_hf hm0.size
 replace hl := hl.upL hlm1 (dfl)
 replace hm0 := hm0.trL hlm1 (MIL.ofK (nx_hm0_hf) (by intro k hk; simp [hk]))
 have hz1 := hlm1.size
 have hbk_hf := hf.bk
 have nx3 := nxl_hf
 refine CW.s1 (fun hK6 => CW.region ?_)
 refine LR.v1 (Y.lss rfl rfl rfl) (LR.nil (hK6 _ _ ?_))
 refine CW.s2 (fun hK7 hE7 => ?_)
 refine CW.condp rfl (fun c9 => ?_) (fun c9 => ?_)
 ·
  have hil : i < l.length := by omega
  have htk := runD_take (Fs := Fs) (D := D) (i := i) (by omega) h0
  refine CW.skip (hK7 _ _ (CW.s2 (fun hK8 hE8 => CW.block (fun _ hK9 _ hE9 => CW.s1 (fun hK10 => CW.region ?_)))))
  refine LR.e1 (g := fun ad => .pointer (some ad)) (Y.iF hl (i) rfl u'291 s'230 rfl rfl) fun ad10 pt10 => ?_
  refine LR.v1 (Y.load1 pt10.pt rfl a'230 rfl) ?_
  refine LR.a1 (LR.nil (hK10 _ _ ?_))
  refine CW.s1 (fun hK11 => CW.region ?_)
  refine LR.m1 ?_
  refine LR.calld rfl rfl rfl (Wd.u rfl) rfl rfl (hst i hil Ki gi _ hf (nx2) hm0) (fun v13 H13 r13 => ?_)
  obtain ⟨K13, g13, rfl, hf, hkd13, hs13⟩ := r13
  have nx6 : NxK K H0.size K13 := NxK.tr (nx2) hkd13 hm0.size
  have nx7 : NxK K H0.size K13 := NxK.tr (nx3) hkd13 hlm1.size
  replace hm0 := hm0.trL hs13 (MIL.ofK (nx2) (by intro k hk; simp [hk]))
  replace hlm1 := hlm1.trL hs13 (MIL.ofK (nx3) (by intro k hk; simp [hk]))
  have hz2 := hs13.size
  have hbk_hf := hf.bk
  refine LR.a1 (LR.nil (hK11 _ _ ?_))
  refine CW.s1 (fun hK12 => CW.region ?_)
  refine LR.m1 ?_
  refine LR.v1 (Y.neq rfl rfl rfl) (LR.nil (hK12 _ _ ?_))
  refine CW.condp rfl (fun c15 => ?_) (fun c15 => ?_)
  ·
   have hne : (runD (Fs.take (i + 1)) D).1 ≠ 0 := by rw [htk]; omega
   have hst2 := runD_stop hne
   rw [htk] at hst2
   refine CW.seq (fun K13 hK13 _ => CW.region ?_)
   refine LR.m1 ?_
   refine LR.a1 (LR.nil (hK13 _ _ ?_))
   refine CW.ret (hE9 .ret nofun (by simp) _ _ (hE8 .ret nofun _ _ (hE5 .ret nofun _ _ (hE4 .ret nofun (by simp) _ _ (hE2 .ret nofun _ _ (hret .ret (.inr rfl) _ _ _ (res1 rfl rfl) ?_))))))
   exact ⟨_, _, by rw [hst2], by rw [hst2]; exact hf, nx6, hm0⟩
  ·
   refine CW.skip (hK9 _ _ (hK8 _ _ (CW.region ?_)))
   refine LR.v1 (Y.addi rfl rfl rfl (by omega)) ?_
   refine LR.m1 (LR.nil ?_)
   refine QN.sub (hN5 (i + 1, K13, g13) _ ?_ ?_) ⟨rfl, (iv (by omega)), (iv (by omega)), trivial⟩
   · exact ⟨by rw [htk]; exact hf, (by omega), by rw [htk]; omega, nx7, hlm1⟩
   · first | omega | (simp only; omega) | (simp; omega)
 ·
  refine CW.exit (hE7 (.exit 0) nofun _ _ (hE5 (.exit 0) nofun _ _ (hX4 _ _ ?_)))
  refine hK2 _ _ (CW.s1 (fun hK14 => CW.region ?_))
  refine LR.a1 (LR.nil (hK14 _ _ ?_))
  refine CW.ret (hret .ret (.inr rfl) _ _ _ (res1 rfl rfl) ?_)
  have hil : i = Fs.length := by omega
  rw [hil, List.take_length] at hf h0
  exact ⟨_, _, by rw [h0]; rfl, hf, nx2, hm0⟩
structure LgS (K : List Nat) (H : Heap) (mx_ : Int) (b c lb : Nat) (p : Pth) (n : Nat) (br : Bool) : Prop where
 mx : MX mx_ H
 bmx : BF (fun b => b = 0) H.size
 dmx : DFL (fun b => b = 0) K
 cv : Var 103 H c [ptr lb]
 lg : Var 206 H lb [ptr b, Str p, .int .i64 (n : Int), .bool br]
 dc : DL (c + 1) K
 dl : DL (lb + 1) K
theorem LgS.up {K K2 : List Nat} {H H2 : Heap} {mx_ : Int} {b c lb n : Nat} {p : Pth} {br : Bool} (h : LgS K H mx_ b c lb p n br) (s : Mo (Ms K) H H2) (x : NxK K H.size K2) : LgS K2 H2 mx_ b c lb p n br :=
 ⟨h.mx.upL s h.dmx, fun b hb => by have := h.bmx b hb; have := s.size; omega, DFL.appK h.dmx h.bmx x, h.cv.upL s h.dc, h.lg.upL s h.dl, DL.appK h.dc h.cv.lt x, DL.appK h.dl h.lg.lt x⟩
structure RwS {α : Type} (K : List Nat) (F : Nat → Prop) (H : Heap) (f : α → List Value) (v : Value) (l : List α) : Prop where
 rd : Rd F H f 1 v l
 bf : BF F H.size
 df : DFL F K
theorem RwS.up {α : Type} {K K2 : List Nat} {F : Nat → Prop} {H H2 : Heap} {f : α → List Value} {v : Value} {l : List α} (h : RwS K F H f v l) (s : Mo (Ms K) H H2) (x : NxK K H.size K2) : RwS K2 F H2 f v l :=
 ⟨h.rd.upL s h.df, fun b hb => by have := h.bf b hb; have := s.size; omega, DFL.appK h.df h.bf x⟩
structure VaS (K : List Nat) (H : Heap) (e : TypeId) (c : Nat) (cs : List Value) : Prop where
 v : Var e H c cs
 d : DL (c + 1) K
theorem VaS.up {K K2 : List Nat} {H H2 : Heap} {e : TypeId} {c : Nat} {cs : List Value} (h : VaS K H e c cs) (s : Mo (Ms K) H H2) (x : NxK K H.size K2) : VaS K2 H2 e c cs := ⟨h.v.upL s h.d, DL.appK h.d h.v.lt x⟩
set_option maxHeartbeats 2000000 in
theorem async_ct (mx_ : Int) (K : List Nat) (g : Gh) (b : Nat) (D : Dk) (c lb : Nat) (p : Pth) (n : Nat) (br : Bool) (w0 : World) (H0 : Heap)
 (hf : PDk K g H0 b D) (mx : MX mx_ H0) (bf_mx : BF (fun b => b = 0) H0.size) (dmx : DFL (fun b => b = 0) K) (hc : Var 103 H0 c [ptr lb]) (hlg : Var 206 H0 lb [ptr b, Str p, .int .i64 (n : Int), .bool br]) (dc : DL (c + 1) K) (dl : DL (lb + 1) K) (hl : p.length ≤ 4294967280) (hB : Bd 274877906944 D) :
 Ct Tryz.prog w0 106 #[ptr c] H0 (fun r H2 => ∃ K2 : List Nat, ∃ g2 : Gh, r = .int .i64 ((D.sync p).1 : Int) ∧ (PDk K2 g2 H2 b (D.sync p).2) ∧ (NxK K H0.size K2) ∧ Mo (Ms K) H0 H2) := by
 refine Ct.enter (args := [ptr c]) Tryz.func106 rfl rfl rfl ?_
 intro Q0 hret
 have hm0 : Mo (Ms K) H0 H0 := Mo.refl _ _
 have nx_hm0_hf := NxK.refl K H0.size
 have hbk_hf := hf.bk
 have hlt_hc := hc.lt
 have hlt_hlg := hlg.lt
 refine CW.s1 (fun hK1 => CW.region ?_)
 refine LR.a1 (LR.nil (hK1 _ _ ?_))
 refine CW.seq (fun K2 hK2 _ => ?_)
 refine CW.region_tail 8 rfl (by kernel_rfl) (fun T1 hT1 => ?_)
 refine LR.v1 (Y.load1 hc.pt rfl a'103 rfl) ?_
 refine LR.v1 (Y.nilCheck rfl rfl) ?_
 refine LR.v1 (Y.FA hlg.pt rfl u'206 rfl s'34) ?_
 refine LR.v1 (Y.load1 hlg.pt rfl a'34 rfl) ?_
 refine LR.v1 (Y.load1 hc.pt rfl a'103 rfl) ?_
 refine LR.v1 (Y.nilCheck rfl rfl) ?_
 refine LR.v1 (Y.FA hlg.pt rfl u'206 rfl s'9) ?_
 refine LR.v1 (Y.load1 (hlg.pt.drop 1) rfl a'9 rfl) ?_
 refine LR.nil (hT1 _ ?_)
 refine LR.call rfl c'107 rfl (Wd.u rfl) rfl rfl (sync_ct mx_ K g b D p w0 _ hf mx (bf_mx.mono (by omega)) (dmx) hl hB) (fun v10 H10 r10 => ?_)
 obtain ⟨K10, g10, rfl, hf, hkd10, hs10⟩ := r10
 have nx7 : NxK K H0.size K10 := NxK.tr (nx_hm0_hf) hkd10 hm0.size
 replace hm0 := hm0.trL hs10 (MIL.ofK (nx_hm0_hf) (by intro k hk; simp [hk]))
 refine LR.a1 (LR.nil (hK2 _ _ ?_))
 refine CW.ret (hret .ret (.inr rfl) _ _ _ (res1 rfl rfl) ?_)
 exact ⟨_, _, rfl, hf, nx7, hm0⟩
set_option maxHeartbeats 2000000 in
theorem alay_ct (mx_ : Int) (K : List Nat) (g : Gh) (b : Nat) (D : Dk) (c lb : Nat) (p : Pth) (n : Nat) (br : Bool) (c3 : Nat) (s : SV) (rc : List UInt8) (F : Nat → Prop) (w0 : World) (H0 : Heap)
 (hf : PDk K g H0 b D) (mx : MX mx_ H0) (bf_mx : BF (fun b => b = 0) H0.size) (dmx : DFL (fun b => b = 0) K) (hc : Var 103 H0 c [ptr lb]) (hlg : Var 206 H0 lb [ptr b, Str p, .int .i64 (n : Int), .bool br]) (dc : DL (c + 1) K) (dl : DL (lb + 1) K) (hc3 : Var 57 H0 c3 [s.v]) (d3 : DL (c3 + 1) K) (hr : Rd F H0 fB 1 s.v rc) (bf_hr : BF F H0.size) (dfr : DFL F K) (hrl : rc.length ≤ 4294967000) (hl : p.length ≤ 4294967280) (hB : Bd 274877906944 D) :
 Ct Tryz.prog w0 109 #[ptr c, ptr c3] H0 (fun r H2 => ∃ K2 : List Nat, ∃ g2 : Gh, r = .int .i64 ((D.lay p ⟨true, layW n rc⟩).1 : Int) ∧ (PDk K2 g2 H2 b (D.lay p ⟨true, layW n rc⟩).2) ∧ (NxK K H0.size K2) ∧ Mo (Ms K) H0 H2) := by
 refine Ct.enter (args := [ptr c, ptr c3]) Tryz.func109 rfl rfl rfl ?_
 intro Q0 hret
 have hm0 : Mo (Ms K) H0 H0 := Mo.refl _ _
 have nx_hm0_hf := NxK.refl K H0.size
 have hbk_hf := hf.bk
 have hlt_hc := hc.lt
 have hlt_hlg := hlg.lt
 have hlt_hc3 := hc3.lt
 refine CW.s1 (fun hK1 => CW.region ?_)
 refine LR.a1 (LR.nil (hK1 _ _ ?_))
 refine CW.seq (fun K2 hK2 _ => ?_)
 refine CW.region_any (fun Hq => Mo (Ms K) H0 Hq) [] rfl ?_
 have hq1 : Mo (Ms K) H0 H0 := Mo.refl _ _
 have nx1 := NxK.refl K H0.size
 refine LH.t1 0 rfl (fun Hq hq => Y.load1 (hc.upL hq (dc)).pt rfl a'103 rfl) hq1 ?_
 refine LH.t1 1 rfl (fun Hq hq => Y.nilCheck rfl rfl) hq1 ?_
 refine LH.t1 2 rfl (fun Hq hq => Y.fieldAddr (hlg.upL hq (dl)).pt rfl u'206 rfl rfl s'34 (by decide) rfl) hq1 ?_
 refine LH.t1 3 rfl (fun Hq hq => Y.load1 (hlg.upL hq (dl)).pt rfl a'34 rfl) hq1 ?_
 refine LH.t1 4 rfl (fun Hq hq => Y.load1 (hc.upL hq (dc)).pt rfl a'103 rfl) hq1 ?_
 refine LH.t1 5 rfl (fun Hq hq => Y.nilCheck rfl rfl) hq1 ?_
 refine LH.t1 6 rfl (fun Hq hq => Y.fieldAddr (hlg.upL hq (dl)).pt rfl u'206 rfl rfl s'9 (by decide) rfl) hq1 ?_
 refine LH.t1 7 rfl (fun Hq hq => Y.load1 ((hlg.upL hq (dl)).pt.drop 1) rfl a'9 rfl) hq1 ?_
 refine LH.t1 8 rfl (fun Hq hq => Y.load1 (hc.upL hq (dc)).pt rfl a'103 rfl) hq1 ?_
 refine LH.t1 9 rfl (fun Hq hq => Y.nilCheck rfl rfl) hq1 ?_
 refine LH.t1 10 rfl (fun Hq hq => Y.fieldAddr (hlg.upL hq (dl)).pt rfl u'206 rfl rfl s'3 (by decide) rfl) hq1 ?_
 refine LH.t1 11 rfl (fun Hq hq => Y.load1 ((hlg.upL hq (dl)).pt.drop 2) rfl a'3 rfl) hq1 ?_
 refine LH.t1 12 rfl (fun Hq hq => Y.load1 (hc3.upL hq (d3)).pt rfl a'57 rfl) hq1 ?_
 refine LH.o1 13 ?_
 refine LO.call rfl rfl c'111 rfl (Wd.u rfl) rfl rfl (wlay_ct n s rc w0 _ hr.any hrl) (fun v16 H16 r16 => ?_)
 obtain ⟨t16, k16, rfl, ow16, hk16, hs16⟩ := r16
 have dj2 : DL k16 K := DL.app2 (DL.zK) hf.bk hk16
 have nx9 : Nx 0 H0.size k16 := Nx.tr (Nx.refl 0 _) hk16 hq1.size
 replace hf := hf.nw hs16
 replace mx := mx.nw hs16
 replace hm0 := hm0.trN hs16
 replace hq1 := hq1.trN hs16
 have hz1 := hs16.size
 have hle_ow16 := ow16.le
 refine ⟨.inr hq1, LH.narrow (SH2 := fun Hq => Mo (Ms (K ++ [k16])) H16 Hq) (fun Hq hq => hq1.trL hq (MIL.app (MIL.ofK (nx1) (by intro k hk; simp [hk])) (MIL.o (MI.q nx9)))) ?_⟩
 have hq1 : Mo (Ms (K ++ [k16])) H16 H16 := Mo.refl _ _
 have nx10 := NxK.refl K H16.size
 have nx11 := Nx.refl k16 H16.size
 refine LH.o1 14 ?_
 refine LO.call rfl rfl c'110 rfl (Wd.u rfl) rfl rfl (append_ct mx_ K g b D p t16 (layW n rc) _ w0 _ hf mx (bf_mx.mono (by omega)) (dmx) ow16.rd (BF.of ow16.le) (DFL.of (dj2)) hl hB (by rw [layW_len]; omega)) (fun v17 H17 r17 => ?_)
 obtain ⟨K17, g17, rfl, hf, hkd17, hs17⟩ := r17
 have nx23 : NxK K H0.size K17 := NxK.tr (nx_hm0_hf) hkd17 hm0.size
 have nx24 : NxK K H16.size K17 := NxK.tr (nx10) hkd17 hq1.size
 replace hm0 := hm0.trL hs17 (MIL.ofK (nx_hm0_hf) (by intro k hk; simp [hk]))
 replace hq1 := hq1.trL hs17 (MIL.ofK (nx10) (by intro k hk; simp [hk]))
 refine ⟨.inr hq1, LH.narrow (SH2 := fun Hq => Mo (Ms (K17 ++ [k16])) H17 Hq) (fun Hq hq => hq1.trL hq (MIL.app (MIL.ofK (nx24) (by intro k hk; simp [hk])) (MIL.o (MI.r nx11)))) ?_⟩
 have hq1 : Mo (Ms (K17 ++ [k16])) H17 H17 := Mo.refl _ _
 refine LH.t1 15 rfl (fun Hq hq => Y.assign rfl rfl) hq1 ?_
 refine LH.done (by kernel_rfl) ?_
 refine hK2 _ _ ?_
 refine CW.ret (hret .ret (.inr rfl) _ _ _ (res1 rfl rfl) ?_)
 exact ⟨_, _, rfl, hf, nx23, hm0⟩
set_option maxHeartbeats 2000000 in
theorem amark_ct (mx_ : Int) (K : List Nat) (g : Gh) (b : Nat) (D : Dk) (c lb : Nat) (p : Pth) (n : Nat) (br : Bool) (w0 : World) (H0 : Heap)
 (hf : PDk K g H0 b D) (mx : MX mx_ H0) (bf_mx : BF (fun b => b = 0) H0.size) (dmx : DFL (fun b => b = 0) K) (hc : Var 103 H0 c [ptr lb]) (hlg : Var 206 H0 lb [ptr b, Str p, .int .i64 (n : Int), .bool br]) (dc : DL (c + 1) K) (dl : DL (lb + 1) K) (hl : p.length ≤ 4294967280) (hB : Bd 274877906944 D) :
 Ct Tryz.prog w0 112 #[ptr c] H0 (fun r H2 => ∃ K2 : List Nat, ∃ g2 : Gh, r = .int .i64 ((D.lay p ⟨true, [67]⟩).1 : Int) ∧ (PDk K2 g2 H2 b (D.lay p ⟨true, [67]⟩).2) ∧ (NxK K H0.size K2) ∧ Mo (Ms K) H0 H2) := by
 refine Ct.enter (args := [ptr c]) Tryz.func112 rfl rfl rfl ?_
 intro Q0 hret
 have hm0 : Mo (Ms K) H0 H0 := Mo.refl _ _
 have nx_hm0_hf := NxK.refl K H0.size
 have hbk_hf := hf.bk
 have hlt_hc := hc.lt
 have hlt_hlg := hlg.lt
 refine CW.s1 (fun hK1 => CW.region ?_)
 refine LR.a1 (LR.nil (hK1 _ _ ?_))
 refine CW.seq (fun K2 hK2 _ => ?_)
 refine CW.region_any (fun Hq => Mo (Ms K) H0 Hq) [] rfl ?_
 have hq1 : Mo (Ms K) H0 H0 := Mo.refl _ _
 have nx1 := NxK.refl K H0.size
 refine LH.t1 0 rfl (fun Hq hq => Y.load1 (hc.upL hq (dc)).pt rfl a'103 rfl) hq1 ?_
 refine LH.t1 1 rfl (fun Hq hq => Y.nilCheck rfl rfl) hq1 ?_
 refine LH.t1 2 rfl (fun Hq hq => Y.fieldAddr (hlg.upL hq (dl)).pt rfl u'206 rfl rfl s'34 (by decide) rfl) hq1 ?_
 refine LH.t1 3 rfl (fun Hq hq => Y.load1 (hlg.upL hq (dl)).pt rfl a'34 rfl) hq1 ?_
 refine LH.t1 4 rfl (fun Hq hq => Y.load1 (hc.upL hq (dc)).pt rfl a'103 rfl) hq1 ?_
 refine LH.t1 5 rfl (fun Hq hq => Y.nilCheck rfl rfl) hq1 ?_
 refine LH.t1 6 rfl (fun Hq hq => Y.fieldAddr (hlg.upL hq (dl)).pt rfl u'206 rfl rfl s'9 (by decide) rfl) hq1 ?_
 refine LH.t1 7 rfl (fun Hq hq => Y.load1 ((hlg.upL hq (dl)).pt.drop 1) rfl a'9 rfl) hq1 ?_
 refine LH.o1 8 ?_
 refine LO.z rfl (Z.litw _ ([(67 : UInt8)]) rfl inf57 rfl rfl rfl (by decide) (by decide) fB_len fB_one (rfl)) (Wd.u rfl) rfl rfl (fun v10 H10 r10 => ?_)
 obtain ⟨ow10, hs10, ob10, hH10⟩ := r10
 have hzs10 : H10.size = H0.size + 1 := by rw [hH10]; simp
 have dj2 : DL (H0.size + 1) K := DL.newK hf.bk
 have nx7 : Nx 0 H0.size (H0.size + 1) := Nx.new hq1.size
 replace hf := hf.nw hs10
 replace mx := mx.nw hs10
 replace hm0 := hm0.trN hs10
 replace hq1 := hq1.trN hs10
 have hz1 := hs10.size
 obtain ⟨s10, rfl⟩ : ∃ s : SV, v10 = s.v := ⟨toSV v10, ow10.sv.symm⟩
 refine ⟨.inr hq1, LH.narrow (SH2 := fun Hq => Mo (Ms (K ++ [(H0.size + 1)])) H10 Hq) (fun Hq hq => hq1.trL hq (MIL.app (MIL.ofK (nx1) (by intro k hk; simp [hk])) (MIL.o (MI.q nx7)))) ?_⟩
 have hq1 : Mo (Ms (K ++ [(H0.size + 1)])) H10 H10 := Mo.refl _ _
 have nx8 := NxK.refl K H10.size
 have nx9 := Nx.refl (H0.size + 1) H10.size
 refine LH.o1 9 ?_
 refine LO.call rfl rfl c'110 rfl (Wd.u rfl) rfl rfl (append_ct mx_ K g b D p s10 [67] _ w0 _ hf mx (bf_mx.mono (by omega)) (dmx) ow10.rd (BF.of ow10.le) (DFL.of (dj2)) hl hB (by decide)) (fun v11 H11 r11 => ?_)
 obtain ⟨K11, g11, rfl, hf, hkd11, hs11⟩ := r11
 have nx18 : NxK K H0.size K11 := NxK.tr (nx_hm0_hf) hkd11 hm0.size
 have nx19 : NxK K H10.size K11 := NxK.tr (nx8) hkd11 hq1.size
 replace hm0 := hm0.trL hs11 (MIL.ofK (nx_hm0_hf) (by intro k hk; simp [hk]))
 replace hq1 := hq1.trL hs11 (MIL.ofK (nx8) (by intro k hk; simp [hk]))
 refine ⟨.inr hq1, LH.narrow (SH2 := fun Hq => Mo (Ms (K11 ++ [(H0.size + 1)])) H11 Hq) (fun Hq hq => hq1.trL hq (MIL.app (MIL.ofK (nx19) (by intro k hk; simp [hk])) (MIL.o (MI.r nx9)))) ?_⟩
 have hq1 : Mo (Ms (K11 ++ [(H0.size + 1)])) H11 H11 := Mo.refl _ _
 refine LH.t1 10 rfl (fun Hq hq => Y.assign rfl rfl) hq1 ?_
 refine LH.done (by kernel_rfl) ?_
 refine hK2 _ _ ?_
 refine CW.ret (hret .ret (.inr rfl) _ _ _ (res1 rfl rfl) ?_)
 exact ⟨_, _, rfl, hf, nx18, hm0⟩
set_option maxHeartbeats 2000000 in
theorem cwrite_ct (mx_ : Int) (K : List Nat) (g : Gh) (b : Nat) (D : Dk) (c lb : Nat) (p : Pth) (n : Nat) (br : Bool) (c7 : Nat) (c3 : Nat) (s : SV) (l : List (SV × Rec)) (F : Nat → Prop) (w0 : World) (H0 : Heap)
 (hf : PDk K g H0 b D) (mx : MX mx_ H0) (bf_mx : BF (fun b => b = 0) H0.size) (dmx : DFL (fun b => b = 0) K) (hc : Var 103 H0 c [ptr lb]) (hlg : Var 206 H0 lb [ptr b, Str p, .int .i64 (n : Int), .bool br]) (dc : DL (c + 1) K) (dl : DL (lb + 1) K) (hc7 : Var 9 H0 c7 [Str (newP p)]) (d7 : DL (c7 + 1) K) (hc3 : Var 104 H0 c3 [s.v]) (d3 : DL (c3 + 1) K) (hr : Rd F H0 fP 1 s.v l) (bf_hr : BF F H0.size) (dfr : DFL F K) (hx : ∀ x ∈ l, Rd F H0 fB 1 x.1.v x.2) (bf_hx : BF F H0.size) (dfx : DFL F K) (hrl : ∀ x ∈ l, x.2.length ≤ 1048576) (hel : (encN 0 (recs l)).length ≤ 274877900000) (hl : p.length ≤ 4294960000) (hB : Bd 274877906944 D) :
 Ct Tryz.prog w0 169 #[ptr c, ptr c7, ptr c3] H0 (fun r H2 => ∃ K2 : List Nat, ∃ g2 : Gh, r = .int .i64 ((D.lay (newP p) ⟨false, encW (recs l)⟩).1 : Int) ∧ (PDk K2 g2 H2 b (D.lay (newP p) ⟨false, encW (recs l)⟩).2) ∧ (NxK K H0.size K2) ∧ Mo (Ms K) H0 H2) := by
 refine Ct.enter (args := [ptr c, ptr c7, ptr c3]) Tryz.func169 rfl rfl rfl ?_
 intro Q0 hret
 have hm0 : Mo (Ms K) H0 H0 := Mo.refl _ _
 have nx_hm0_hf := NxK.refl K H0.size
 have hbk_hf := hf.bk
 have hlt_hc := hc.lt
 have hlt_hlg := hlg.lt
 have hlt_hc7 := hc7.lt
 have hlt_hc3 := hc3.lt
 refine CW.s1 (fun hK1 => CW.region ?_)
 refine LR.a1 (LR.nil (hK1 _ _ ?_))
 refine CW.seq (fun K2 hK2 _ => ?_)
 refine CW.region_any (fun Hq => Mo (Ms K) H0 Hq) [] rfl ?_
 have hq1 : Mo (Ms K) H0 H0 := Mo.refl _ _
 have nx1 := NxK.refl K H0.size
 refine LH.t1 0 rfl (fun Hq hq => Y.load1 (hc.upL hq (dc)).pt rfl a'103 rfl) hq1 ?_
 refine LH.t1 1 rfl (fun Hq hq => Y.nilCheck rfl rfl) hq1 ?_
 refine LH.t1 2 rfl (fun Hq hq => Y.fieldAddr (hlg.upL hq (dl)).pt rfl u'206 rfl rfl s'34 (by decide) rfl) hq1 ?_
 refine LH.t1 3 rfl (fun Hq hq => Y.load1 (hlg.upL hq (dl)).pt rfl a'34 rfl) hq1 ?_
 refine LH.t1 4 rfl (fun Hq hq => Y.load1 (hc7.upL hq (d7)).pt rfl a'9 rfl) hq1 ?_
 refine LH.t1 5 rfl (fun Hq hq => Y.load1 (hc3.upL hq (d3)).pt rfl a'104 rfl) hq1 ?_
 refine LH.o1 6 ?_
 refine LO.call rfl rfl c'171 rfl (Wd.u rfl) rfl rfl (encode_ct s l w0 _ hr.any (fun x h => (hx x h).any) hrl (by omega)) (fun v10 H10 r10 => ?_)
 obtain ⟨t10, k10, rfl, ow10, hk10, hs10⟩ := r10
 have dj2 : DL k10 K := DL.app2 (DL.zK) hf.bk hk10
 have nx11 : Nx 0 H0.size k10 := Nx.tr (Nx.refl 0 _) hk10 hq1.size
 replace hf := hf.nw hs10
 replace mx := mx.nw hs10
 replace hm0 := hm0.trN hs10
 replace hq1 := hq1.trN hs10
 have hz1 := hs10.size
 have hle_ow10 := ow10.le
 refine ⟨.inr hq1, LH.narrow (SH2 := fun Hq => Mo (Ms (K ++ [k10])) H10 Hq) (fun Hq hq => hq1.trL hq (MIL.app (MIL.ofK (nx1) (by intro k hk; simp [hk])) (MIL.o (MI.q nx11)))) ?_⟩
 have hq1 : Mo (Ms (K ++ [k10])) H10 H10 := Mo.refl _ _
 have nx12 := NxK.refl K H10.size
 have nx13 := Nx.refl k10 H10.size
 refine LH.o1 7 ?_
 refine LO.call rfl rfl c'170 rfl (Wd.u rfl) rfl rfl (write_ct mx_ K g b D (newP p) t10 (encW (recs l)) _ w0 _ hf mx (bf_mx.mono (by omega)) (dmx) ow10.rd (BF.of ow10.le) (DFL.of (dj2)) (by rw [newP_len]; omega) hB (by unfold encW; rw [List.length_append]; have h8 : W8.length = 8 := rfl; omega)) (fun v11 H11 r11 => ?_)
 obtain ⟨K11, g11, rfl, hf, hkd11, hs11⟩ := r11
 have nx28 : NxK K H0.size K11 := NxK.tr (nx_hm0_hf) hkd11 hm0.size
 have nx29 : NxK K H10.size K11 := NxK.tr (nx12) hkd11 hq1.size
 replace hm0 := hm0.trL hs11 (MIL.ofK (nx_hm0_hf) (by intro k hk; simp [hk]))
 replace hq1 := hq1.trL hs11 (MIL.ofK (nx12) (by intro k hk; simp [hk]))
 refine ⟨.inr hq1, LH.narrow (SH2 := fun Hq => Mo (Ms (K11 ++ [k10])) H11 Hq) (fun Hq hq => hq1.trL hq (MIL.app (MIL.ofK (nx29) (by intro k hk; simp [hk])) (MIL.o (MI.r nx13)))) ?_⟩
 have hq1 : Mo (Ms (K11 ++ [k10])) H11 H11 := Mo.refl _ _
 refine LH.t1 8 rfl (fun Hq hq => Y.assign rfl rfl) hq1 ?_
 refine LH.done (by kernel_rfl) ?_
 refine hK2 _ _ ?_
 refine CW.ret (hret .ret (.inr rfl) _ _ _ (res1 rfl rfl) ?_)
 exact ⟨_, _, rfl, hf, nx28, hm0⟩
set_option maxHeartbeats 2000000 in
theorem csync_ct (mx_ : Int) (K : List Nat) (g : Gh) (b : Nat) (D : Dk) (c lb : Nat) (p : Pth) (n : Nat) (br : Bool) (c7 : Nat) (w0 : World) (H0 : Heap)
 (hf : PDk K g H0 b D) (mx : MX mx_ H0) (bf_mx : BF (fun b => b = 0) H0.size) (dmx : DFL (fun b => b = 0) K) (hc : Var 103 H0 c [ptr lb]) (hlg : Var 206 H0 lb [ptr b, Str p, .int .i64 (n : Int), .bool br]) (dc : DL (c + 1) K) (dl : DL (lb + 1) K) (hc7 : Var 9 H0 c7 [Str (newP p)]) (d7 : DL (c7 + 1) K) (hl : p.length ≤ 4294960000) (hB : Bd 274877906944 D) :
 Ct Tryz.prog w0 172 #[ptr c, ptr c7] H0 (fun r H2 => ∃ K2 : List Nat, ∃ g2 : Gh, r = .int .i64 ((D.sync (newP p)).1 : Int) ∧ (PDk K2 g2 H2 b (D.sync (newP p)).2) ∧ (NxK K H0.size K2) ∧ Mo (Ms K) H0 H2) := by
 refine Ct.enter (args := [ptr c, ptr c7]) Tryz.func172 rfl rfl rfl ?_
 intro Q0 hret
 have hm0 : Mo (Ms K) H0 H0 := Mo.refl _ _
 have nx_hm0_hf := NxK.refl K H0.size
 have hbk_hf := hf.bk
 have hlt_hc := hc.lt
 have hlt_hlg := hlg.lt
 have hlt_hc7 := hc7.lt
 refine CW.s1 (fun hK1 => CW.region ?_)
 refine LR.a1 (LR.nil (hK1 _ _ ?_))
 refine CW.seq (fun K2 hK2 _ => ?_)
 refine CW.region_tail 5 rfl (by kernel_rfl) (fun T1 hT1 => ?_)
 refine LR.v1 (Y.load1 hc.pt rfl a'103 rfl) ?_
 refine LR.v1 (Y.nilCheck rfl rfl) ?_
 refine LR.v1 (Y.FA hlg.pt rfl u'206 rfl s'34) ?_
 refine LR.v1 (Y.load1 hlg.pt rfl a'34 rfl) ?_
 refine LR.v1 (Y.load1 hc7.pt rfl a'9 rfl) ?_
 refine LR.nil (hT1 _ ?_)
 refine LR.call rfl c'107 rfl (Wd.u rfl) rfl rfl (sync_ct mx_ K g b D (newP p) w0 _ hf mx (bf_mx.mono (by omega)) (dmx) (by rw [newP_len]; omega) hB) (fun v8 H8 r8 => ?_)
 obtain ⟨K8, g8, rfl, hf, hkd8, hs8⟩ := r8
 have nx9 : NxK K H0.size K8 := NxK.tr (nx_hm0_hf) hkd8 hm0.size
 replace hm0 := hm0.trL hs8 (MIL.ofK (nx_hm0_hf) (by intro k hk; simp [hk]))
 refine LR.a1 (LR.nil (hK2 _ _ ?_))
 refine CW.ret (hret .ret (.inr rfl) _ _ _ (res1 rfl rfl) ?_)
 exact ⟨_, _, rfl, hf, nx9, hm0⟩
set_option maxHeartbeats 2000000 in
theorem cren_ct (mx_ : Int) (K : List Nat) (g : Gh) (b : Nat) (D : Dk) (c lb : Nat) (p : Pth) (n : Nat) (br : Bool) (c7 : Nat) (w0 : World) (H0 : Heap)
 (hf : PDk K g H0 b D) (mx : MX mx_ H0) (bf_mx : BF (fun b => b = 0) H0.size) (dmx : DFL (fun b => b = 0) K) (hc : Var 103 H0 c [ptr lb]) (hlg : Var 206 H0 lb [ptr b, Str p, .int .i64 (n : Int), .bool br]) (dc : DL (c + 1) K) (dl : DL (lb + 1) K) (hc7 : Var 9 H0 c7 [Str (newP p)]) (d7 : DL (c7 + 1) K) (hl : p.length ≤ 4294960000) (hB : Bd 274877906944 D) :
 Ct Tryz.prog w0 173 #[ptr c, ptr c7] H0 (fun r H2 => ∃ K2 : List Nat, ∃ g2 : Gh, r = .int .i64 ((D.rename (newP p) p).1 : Int) ∧ (PDk K2 g2 H2 b (D.rename (newP p) p).2) ∧ (NxK K H0.size K2) ∧ Mo (Ms K) H0 H2) := by
 refine Ct.enter (args := [ptr c, ptr c7]) Tryz.func173 rfl rfl rfl ?_
 intro Q0 hret
 have hm0 : Mo (Ms K) H0 H0 := Mo.refl _ _
 have nx_hm0_hf := NxK.refl K H0.size
 have hbk_hf := hf.bk
 have hlt_hc := hc.lt
 have hlt_hlg := hlg.lt
 have hlt_hc7 := hc7.lt
 refine CW.s1 (fun hK1 => CW.region ?_)
 refine LR.a1 (LR.nil (hK1 _ _ ?_))
 refine CW.seq (fun K2 hK2 _ => ?_)
 refine CW.region_tail 9 rfl (by kernel_rfl) (fun T1 hT1 => ?_)
 refine LR.v1 (Y.load1 hc.pt rfl a'103 rfl) ?_
 refine LR.v1 (Y.nilCheck rfl rfl) ?_
 refine LR.v1 (Y.FA hlg.pt rfl u'206 rfl s'34) ?_
 refine LR.v1 (Y.load1 hlg.pt rfl a'34 rfl) ?_
 refine LR.v1 (Y.load1 hc7.pt rfl a'9 rfl) ?_
 refine LR.v1 (Y.load1 hc.pt rfl a'103 rfl) ?_
 refine LR.v1 (Y.nilCheck rfl rfl) ?_
 refine LR.v1 (Y.FA hlg.pt rfl u'206 rfl s'9) ?_
 refine LR.v1 (Y.load1 (hlg.pt.drop 1) rfl a'9 rfl) ?_
 refine LR.nil (hT1 _ ?_)
 refine LR.call rfl c'174 rfl (Wd.u rfl) rfl rfl (rename_ct mx_ K g b D (newP p) p w0 _ hf mx (bf_mx.mono (by omega)) (dmx) (by rw [newP_len]; omega) (by omega) hB) (fun v12 H12 r12 => ?_)
 obtain ⟨K12, g12, rfl, hf, hkd12, hs12⟩ := r12
 have nx9 : NxK K H0.size K12 := NxK.tr (nx_hm0_hf) hkd12 hm0.size
 replace hm0 := hm0.trL hs12 (MIL.ofK (nx_hm0_hf) (by intro k hk; simp [hk]))
 refine LR.a1 (LR.nil (hK2 _ _ ?_))
 refine CW.ret (hret .ret (.inr rfl) _ _ _ (res1 rfl rfl) ?_)
 exact ⟨_, _, rfl, hf, nx9, hm0⟩
set_option maxHeartbeats 2000000 in
theorem csd_ct (mx_ : Int) (K : List Nat) (g : Gh) (b : Nat) (D : Dk) (c lb : Nat) (p : Pth) (n : Nat) (br : Bool) (w0 : World) (H0 : Heap)
 (hf : PDk K g H0 b D) (mx : MX mx_ H0) (bf_mx : BF (fun b => b = 0) H0.size) (dmx : DFL (fun b => b = 0) K) (hc : Var 103 H0 c [ptr lb]) (hlg : Var 206 H0 lb [ptr b, Str p, .int .i64 (n : Int), .bool br]) (dc : DL (c + 1) K) (dl : DL (lb + 1) K) (hl : p.length ≤ 4294960000) (hB : Bd 274877906944 D) :
 Ct Tryz.prog w0 175 #[ptr c] H0 (fun r H2 => ∃ K2 : List Nat, ∃ g2 : Gh, r = .int .i64 ((D.syncDir (dirP p)).1 : Int) ∧ (PDk K2 g2 H2 b (D.syncDir (dirP p)).2) ∧ (NxK K H0.size K2) ∧ Mo (Ms K) H0 H2) := by
 refine Ct.enter (args := [ptr c]) Tryz.func175 rfl rfl rfl ?_
 intro Q0 hret
 have hm0 : Mo (Ms K) H0 H0 := Mo.refl _ _
 have nx_hm0_hf := NxK.refl K H0.size
 have hbk_hf := hf.bk
 have hlt_hc := hc.lt
 have hlt_hlg := hlg.lt
 refine CW.s1 (fun hK1 => CW.region ?_)
 refine LR.a1 (LR.nil (hK1 _ _ ?_))
 refine CW.seq (fun K2 hK2 _ => ?_)
 refine CW.region_any (fun Hq => Mo (Ms K) H0 Hq) [] rfl ?_
 have hq1 : Mo (Ms K) H0 H0 := Mo.refl _ _
 have nx1 := NxK.refl K H0.size
 refine LH.t1 0 rfl (fun Hq hq => Y.load1 (hc.upL hq (dc)).pt rfl a'103 rfl) hq1 ?_
 refine LH.t1 1 rfl (fun Hq hq => Y.nilCheck rfl rfl) hq1 ?_
 refine LH.t1 2 rfl (fun Hq hq => Y.fieldAddr (hlg.upL hq (dl)).pt rfl u'206 rfl rfl s'34 (by decide) rfl) hq1 ?_
 refine LH.t1 3 rfl (fun Hq hq => Y.load1 (hlg.upL hq (dl)).pt rfl a'34 rfl) hq1 ?_
 refine LH.t1 4 rfl (fun Hq hq => Y.load1 (hc.upL hq (dc)).pt rfl a'103 rfl) hq1 ?_
 refine LH.t1 5 rfl (fun Hq hq => Y.nilCheck rfl rfl) hq1 ?_
 refine LH.t1 6 rfl (fun Hq hq => Y.fieldAddr (hlg.upL hq (dl)).pt rfl u'206 rfl rfl s'9 (by decide) rfl) hq1 ?_
 refine LH.t1 7 rfl (fun Hq hq => Y.load1 ((hlg.upL hq (dl)).pt.drop 1) rfl a'9 rfl) hq1 ?_
 refine LH.o1 8 ?_
 refine LO.call rfl rfl c'177 rfl (Wd.u rfl) rfl rfl (dir_ct mx_ p w0 _ mx (bf_mx.mono (by omega)) (by omega)) (fun v10 H10 r10 => ?_)
 obtain ⟨rfl, hs10⟩ := r10
 replace hf := hf.nw hs10
 replace mx := mx.nw hs10
 replace hm0 := hm0.trN hs10
 replace hq1 := hq1.trN hs10
 have hz1 := hs10.size
 refine ⟨.inr hq1, LH.narrow (SH2 := fun Hq => Mo (Ms K) H10 Hq) (fun Hq hq => hq1.trL hq (MIL.ofK (nx1) (by intro k hk; simp [hk]))) ?_⟩
 have hq1 : Mo (Ms K) H10 H10 := Mo.refl _ _
 have nx2 := NxK.refl K H10.size
 refine LH.o1 9 ?_
 refine LO.call rfl rfl c'176 rfl (Wd.u rfl) rfl rfl (syncDir_ct mx_ K g b D (dirP p) w0 _ hf mx (bf_mx.mono (by omega)) (dmx) (by have := dirP_le p; omega) hB) (fun v11 H11 r11 => ?_)
 obtain ⟨K11, g11, rfl, hf, hkd11, hs11⟩ := r11
 have nx9 : NxK K H0.size K11 := NxK.tr (nx_hm0_hf) hkd11 hm0.size
 have nx10 : NxK K H10.size K11 := NxK.tr (nx2) hkd11 hq1.size
 replace hm0 := hm0.trL hs11 (MIL.ofK (nx_hm0_hf) (by intro k hk; simp [hk]))
 replace hq1 := hq1.trL hs11 (MIL.ofK (nx2) (by intro k hk; simp [hk]))
 refine ⟨.inr hq1, LH.narrow (SH2 := fun Hq => Mo (Ms K11) H11 Hq) (fun Hq hq => hq1.trL hq (MIL.ofK (nx10) (by intro k hk; simp [hk]))) ?_⟩
 have hq1 : Mo (Ms K11) H11 H11 := Mo.refl _ _
 refine LH.t1 10 rfl (fun Hq hq => Y.assign rfl rfl) hq1 ?_
 refine LH.done (by kernel_rfl) ?_
 refine hK2 _ _ ?_
 refine CW.ret (hret .ret (.inr rfl) _ _ _ (res1 rfl rfl) ?_)
 exact ⟨_, _, rfl, hf, nx9, hm0⟩
end Go.Proofs.YtfjmpninmdjcaaaGreatDoor.WalD
