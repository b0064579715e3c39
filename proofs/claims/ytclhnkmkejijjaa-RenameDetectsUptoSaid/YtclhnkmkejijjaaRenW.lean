/-
  Rows of pairs that are the same; a row's twin.
-/
import Derived.Test.YtclhnkmkejijjaaRenV
import Derived.Test.YtclhnkmkejijjaaRenP
namespace Go.Proofs.Ytclhnkmkejijjaa.RenW
open Go.Proofs.Ytclhnkmkejijjaa.E Go.RowKit Go.Proofs.Ytclhnkmkejijjaa.RenA Go.Proofs.Ytclhnkmkejijjaa.RenB Go.Proofs.Ytclhnkmkejijjaa.RenC Go.Proofs.Ytclhnkmkejijjaa.RenD Go.Proofs.Ytclhnkmkejijjaa.RenE Go.Proofs.Ytclhnkmkejijjaa.RenF Go.Proofs.Ytclhnkmkejijjaa.RenG Go.Proofs.Ytclhnkmkejijjaa.RenH Go.Proofs.Ytclhnkmkejijjaa.RenI Go.Proofs.Ytclhnkmkejijjaa.RenL Go.Proofs.Ytclhnkmkejijjaa.RenM Go.Proofs.Ytclhnkmkejijjaa.RenN Go.Proofs.Ytclhnkmkejijjaa.RenO Go.Proofs.Ytclhnkmkejijjaa.RenS Go.Proofs.Ytclhnkmkejijjaa.RenT Go.Proofs.Ytclhnkmkejijjaa.RenV
set_option maxRecDepth 20000
set_option linter.unusedVariables false
set_option linter.unusedSimpArgs false
set_option linter.unusedSectionVars false
set_option maxRecDepth 100000 in
theorem inf22 : Inf Try.prog 22 5 1 1 := ⟨Try.underlying22, _, _, rfl, rfl, rfl, rfl, rfl⟩
set_option maxRecDepth 100000 in
theorem inf26 : Inf Try.prog 26 35 3 48 := ⟨Try.underlying26, _, _, rfl, rfl, rfl, rfl, rfl⟩
theorem snocFl {G G2 : Nat → Prop} {H : Heap} {l : List Fl} {x : Fl} (h : ∀ y ∈ l, FlR G H y) (hg : ∀ b, G b → G2 b) (hx : FlR G2 H x) : ∀ y ∈ l ++ [x], FlR G2 H y := by
  intro y hy
  rcases List.mem_append.1 hy with hy | hy
  · exact (h y hy).imp (fun b _ e => hg b e)
  · rw [List.mem_singleton] at hy; rw [hy]; exact hx
theorem DF.or1 {G : Nat → Prop} {kB k : Nat} (h : DF G k) (hB : Dj k kB) : DF (fun b => G b ∨ b + 1 = kB) k := by
  rintro b (e | e) h2
  · exact h b e h2
  · exact hB b h2 e
theorem BF.or1 {G : Nat → Prop} {n kB : Nat} (h : BF G n) (h1 : kB ≤ n) : BF (fun b => G b ∨ b + 1 = kB) n := by
  rintro b (e | e)
  · exact h b e
  · omega

theorem same_ct (v1 v2 : Value) (l : List Pr) (w0 : World) (H0 : Heap)
    (ha : RdT H0 fPr 3 v1 l) (hb : RdT H0 fPr 3 v2 l) :
    Ct Try.prog w0 16 #[v1, v2] H0 (fun r H2 => r = .bool true ∧ Nw H0 H2) := by
  refine Ct.enter (args := [v1, v2]) Try.func16 rfl rfl rfl ?_
  intro Q0 hret
  have hm0 : Nw H0 H0 := Mo.refl _ _
  replace ha := ha.bnd
  have bf_ha := Rd.bf ha
  replace hb := hb.bnd
  have bf_hb := Rd.bf hb
  have hll := ha.len
  refine CW.seq (fun K1 hK1 hE1 => ?_)
  refine CW.region ?_
  refine LR.v (Y.assign rfl rfl) (Wd.u rfl) rfl rfl ?_
  refine LR.nil ?_
  refine hK1 _ _ ?_
  refine CW.seq (fun K2 hK2 hE2 => ?_)
  refine CW.seq (fun K3 hK3 hE3 => ?_)
  refine CW.region ?_
  refine LR.v (Y.move rfl rfl) (Wd.u rfl) rfl rfl ?_
  refine LR.v (Y.len ha rfl Try.runUnderlying31 rfl) (Wd.u rfl) rfl rfl ?_
  refine LR.v (Y.move rfl rfl) (Wd.u rfl) rfl rfl ?_
  refine LR.v (Y.len hb rfl Try.runUnderlying31 rfl) (Wd.u rfl) rfl rfl ?_
  refine LR.v ((Y.neq rfl rfl rfl).isF (fun h => h rfl)) (Wd.u rfl) rfl rfl ?_
  refine LR.nil ?_
  refine hK3 _ _ ?_
  refine CW.cond_f rfl ?_
  refine CW.skip ?_
  refine hK2 _ _ ?_
  refine CW.seq (fun K4 hK4 hE4 => ?_)
  refine CW.seq (fun K5 hK5 hE5 => ?_)
  refine CW.region ?_
  refine LR.v (Y.assign rfl rfl) (Wd.u rfl) rfl rfl ?_
  refine LR.nil ?_
  refine hK5 _ _ ?_
  refine CW.block (fun K6 hK6 hX6 hE6 => ?_)
  refine CW.loop (fun (i : (Nat)) => [(0, v1), (1, v2), (5, .int .i64 i)])
    (fun (i : (Nat)) (H : Heap) => (i ≤ l.length) ∧ Nw H0 H)
    (fun (i : (Nat)) => l.length - i) 0 ⟨rfl, rfl, rfl, trivial⟩ ?_ ?_
  ·
    exact ⟨(by omega), Mo.refl _ _⟩
  intro i HL1 hI1 K7 hN7 hE7
  obtain ⟨hi, hlm1⟩ := hI1
  replace ha := ha.nw hlm1
  replace hb := hb.nw hlm1
  replace hm0 := hm0.tr hlm1
  have hz1 := hlm1.size
  refine CW.seq (fun K8 hK8 hE8 => ?_)
  refine CW.seq (fun K9 hK9 hE9 => ?_)
  refine CW.region ?_
  refine LR.v (Y.move rfl rfl) (Wd.u rfl) rfl rfl ?_
  refine LR.v (Y.move rfl rfl) (Wd.u rfl) rfl rfl ?_
  refine LR.v (Y.len ha rfl Try.runUnderlying31 rfl) (Wd.u rfl) rfl rfl ?_
  refine LR.v (Y.lss rfl rfl rfl) (Wd.u rfl) rfl rfl ?_
  refine LR.nil ?_
  refine hK9 _ _ ?_
  refine CW.condp rfl (fun c14 => ?_) (fun c14 => ?_)
  ·
    refine CW.skip ?_
    refine hK8 _ _ ?_
    refine CW.seq (fun K10 hK10 hE10 => ?_)
    refine CW.block (fun K11 hK11 hX11 hE11 => ?_)
    refine CW.seq (fun K12 hK12 hE12 => ?_)
    refine CW.region_draw rfl (by kernel_rfl) ?_
    refine LR.v (Y.move rfl rfl) (Wd.u rfl) rfl rfl ?_
    refine LR.v (Y.move rfl rfl) (Wd.u rfl) rfl rfl ?_
    refine LR.e (g := fun ad => .pointer (some ad)) (Y.indexAddrF ha (i) rfl Try.runUnderlying31 Try.sizeOf38 rfl rfl (by first | rfl | omega) (by first | omega | (simp; omega) | (simp; done))) (Wd.u rfl) rfl rfl (fun ad19 pt19 => ?_)
    have bf_pt19 := bf_ha
    refine LR.v (Y.loadN pt19.pt rfl Try.isAgg38 Try.sizeOf38 (rfl) rfl) (Wd.u rfl) rfl rfl ?_
    refine LR.v (Y.move rfl rfl) (Wd.u rfl) rfl rfl ?_
    refine LR.v (Y.move rfl rfl) (Wd.u rfl) rfl rfl ?_
    refine LR.e (g := fun ad => .pointer (some ad)) (Y.indexAddrF hb (i) rfl Try.runUnderlying31 Try.sizeOf38 rfl rfl (by first | rfl | omega) (by first | omega | (simp; omega) | (simp; done))) (Wd.u rfl) rfl rfl (fun ad23 pt23 => ?_)
    have bf_pt23 := bf_hb
    refine LR.v (Y.loadN pt23.pt rfl Try.isAgg38 Try.sizeOf38 (rfl) rfl) (Wd.u rfl) rfl rfl ?_
    refine LR.v ((Y.aneq rfl Try.eqGuardType38 (fun w => eqPr _ _ 9998 w) rfl rfl).isF (fun h => h rfl)) (Wd.u rfl) rfl rfl ?_
    refine LR.nil ?_
    refine hK12 _ _ ?_
    refine CW.cond_f rfl ?_
    refine CW.skip ?_
    refine hK11 _ _ ?_
    refine hK10 _ _ ?_
    refine CW.region ?_
    refine LR.v (Y.move rfl rfl) (Wd.u rfl) rfl rfl ?_
    refine LR.v (Y.addi rfl rfl rfl (by omega)) (Wd.u rfl) rfl rfl ?_
    refine LR.v (Y.assign rfl rfl) (Wd.u rfl) rfl rfl ?_
    refine LR.nil ?_
    refine QN.sub (hN7 (i + 1) _ ?_ ?_) ⟨rfl, rfl, (iv (by omega)), trivial⟩
    · exact ⟨(by omega), hlm1⟩
    · first | omega | (simp only; omega) | (simp; omega)
  ·
    refine CW.exit (hE8 (.exit 0) nofun _ _ (hE7 (.exit 0) nofun _ _ (hX6 _ _ ?_)))
    refine hK4 _ _ ?_
    refine CW.seq (fun K13 hK13 hE13 => ?_)
    refine CW.region ?_
    refine LR.v (Y.assign rfl rfl) (Wd.u rfl) rfl rfl ?_
    refine LR.nil ?_
    refine hK13 _ _ ?_
    refine CW.ret (hret .ret (.inr rfl) _ _ _ (res1 rfl rfl) ?_)
    exact ⟨rfl, hm0⟩

set_option maxHeartbeats 8000000 in
theorem twin_ct (v : Value) (l : List Fl) (w0 : World) (H0 : Heap)
    (hl : RdT H0 fFl 3 v l) (hx : ∀ x ∈ l, FlR (fun _ => True) H0 x) (hll : l.length ≤ 100000) (hdd : ∀ x ∈ l, x.d.length ≤ 1048576) :
    Ct Try.prog w0 15 #[v] H0 (fun r H2 => ∃ vr : Value, ∃ kr : Nat, ∃ tl : List Fl, r = vr ∧ (Ow kr 35 H2 fFl 3 vr tl) ∧ (Nx 0 H0.size kr) ∧ (tl.map Fl.c = l.map Fl.c) ∧ (FlsR (fun _ => True) H2 tl) ∧ Nw H0 H2) := by
  refine Ct.enter (args := [v]) Try.func15 rfl rfl rfl ?_
  intro Q0 hret
  have hm0 : Nw H0 H0 := Mo.refl _ _
  replace hl := hl.bnd
  have bf_hl := Rd.bf hl
  replace hx := fun x hx0 => (hx x hx0).bnd
  have bf_hx : BF (fun b => True ∧ b < H0.size) H0.size := fun b h => h.2
  refine CW.seq (fun K1 hK1 hE1 => ?_)
  refine CW.region ?_
  refine LR.v (Y.assign rfl rfl) (Wd.u rfl) rfl rfl ?_
  refine LR.nil ?_
  refine hK1 _ _ ?_
  refine CW.seq (fun K2 hK2 hE2 => ?_)
  refine CW.region ?_
  refine LR.v (Y.assign rfl rfl) (Wd.u rfl) rfl rfl ?_
  refine LR.nil ?_
  refine hK2 _ _ ?_
  refine CW.seq (fun K3 hK3 hE3 => ?_)
  refine CW.seq (fun K4 hK4 hE4 => ?_)
  refine CW.region ?_
  refine LR.v (Y.assign rfl rfl) (Wd.u rfl) rfl rfl ?_
  refine LR.nil ?_
  refine hK4 _ _ ?_
  refine CW.block (fun K5 hK5 hX5 hE5 => ?_)
  refine CW.loop (fun (s_ : (Nat) × (Value) × (Nat) × (List Fl) × (Nat → Prop)) => match s_ with | (i, vo, ko, out, G) => [(0, v), (3, vo), (4, .int .i64 i)])
    (fun (s_ : (Nat) × (Value) × (Nat) × (List Fl) × (Nat → Prop)) (H : Heap) => match s_ with | (i, vo, ko, out, G) => (i ≤ l.length) ∧ (Ow ko 35 H fFl 3 vo out) ∧ (∀ x ∈ out, FlR G H x) ∧ (BF G H.size) ∧ (DF G ko) ∧ (out.map Fl.c = (l.take i).map Fl.c) ∧ (Nx 0 H0.size ko) ∧ Nw H0 H)
    (fun (s_ : (Nat) × (Value) × (Nat) × (List Fl) × (Nat → Prop)) => match s_ with | (i, vo, ko, out, G) => l.length - i) (0, .slice none 0 0, 0, [], fun _ => False) ⟨rfl, rfl, rfl, trivial⟩ ?_ ?_
  ·
    exact ⟨(by omega), Ow.nil fFl_len fFl_one, (fun x h => by cases h), (fun b e => e.elim), (fun b e => e.elim), rfl, Nx.refl _ _, Mo.refl _ _⟩
  rintro ⟨i, vo, ko, out, G⟩ HL1 hI1 K6 hN6 hE6
  obtain ⟨hi, ow, hxa, bf_hxa, f1, he, nxl_ow, hlm1⟩ := hI1
  have df1 := DF.app (DF.z) (bf_hl.mono hm0.size) nxl_ow
  have df2 := DF.app (DF.z) (bf_hx.mono hm0.size) nxl_ow
  have nx3 : Nx 0 H0.size ko := Nx.tr (Nx.refl 0 _) nxl_ow hm0.size
  replace hl := hl.nw hlm1
  replace hx := fun x hx0 => (hx x hx0).nw hlm1
  replace hm0 := hm0.tr hlm1
  have hz1 := hlm1.size
  have hle_ow := ow.le
  have nx4 := nxl_ow
  refine CW.seq (fun K7 hK7 hE7 => ?_)
  refine CW.seq (fun K8 hK8 hE8 => ?_)
  refine CW.region ?_
  refine LR.v (Y.move rfl rfl) (Wd.u rfl) rfl rfl ?_
  refine LR.v (Y.move rfl rfl) (Wd.u rfl) rfl rfl ?_
  refine LR.v (Y.len hl rfl Try.runUnderlying26 rfl) (Wd.u rfl) rfl rfl ?_
  refine LR.v (Y.lss rfl rfl rfl) (Wd.u rfl) rfl rfl ?_
  refine LR.nil ?_
  refine hK8 _ _ ?_
  refine CW.condp rfl (fun c8 => ?_) (fun c8 => ?_)
  ·
    refine CW.skip ?_
    refine hK7 _ _ ?_
    refine CW.seq (fun K9 hK9 hE9 => ?_)
    refine CW.block (fun K10 hK10 hX10 hE10 => ?_)
    refine CW.region_any (fun Hq => Mo (Ms [ko]) HL1 Hq) [] rfl ?_
    have hq5 : Mo (Ms [ko]) HL1 HL1 := Mo.refl _ _
    have nx5 := Nx.refl ko HL1.size
    refine LH.take 0 (by kernel_rfl) rfl (by kernel_rfl) (by kernel_rfl) (by kernel_rfl) (fun Hq hq => Y.move rfl rfl) (Wd.u rfl) rfl rfl hq5 ?_
    refine LH.take 1 (by kernel_rfl) rfl (by kernel_rfl) (by kernel_rfl) (by kernel_rfl) (fun Hq hq => Y.move rfl rfl) (Wd.u rfl) rfl rfl hq5 ?_
    refine LH.take 2 (by kernel_rfl) rfl (by kernel_rfl) (by kernel_rfl) (by kernel_rfl) (fun Hq hq => Y.move rfl rfl) (Wd.u rfl) rfl rfl hq5 ?_
    have hil : i < l.length := by omega
    have hmi := hx l[i] (List.getElem_mem hil)
    have hwi := hmi.w
    have hdl := hdd l[i] (List.getElem_mem hil)
    have hol : out.length = i := by have h9 := congrArg List.length he; simp at h9; omega
    refine LH.e (g := fun ad => .pointer (some ad)) 3 (by kernel_rfl) rfl (by kernel_rfl) (by kernel_rfl) (by kernel_rfl) (Y.indexAddrF hl (i) rfl Try.runUnderlying26 Try.sizeOf35 rfl rfl (by first | rfl | omega) (by first | omega | (simp; omega) | (simp; done))) (Wd.u rfl) rfl rfl hq5 (fun ad14 pt14 => ?_)
    have bf_pt14 := bf_hl
    refine LH.take 4 (by kernel_rfl) rfl (by kernel_rfl) (by kernel_rfl) (by kernel_rfl) (fun Hq hq => Y.fieldAddr (pt14.upL hq (DFL.cons df1 DFL.nil)).pt rfl Try.runUnderlying35 rfl rfl Try.sizeOf9 (by decide) rfl) (Wd.u rfl) rfl rfl hq5 ?_
    refine LH.take 5 (by kernel_rfl) rfl (by kernel_rfl) (by kernel_rfl) (by kernel_rfl) (fun Hq hq => Y.load1 ((pt14.upL hq (DFL.cons df1 DFL.nil)).pt.drop 0) rfl Try.isAgg9 rfl) (Wd.u rfl) rfl rfl hq5 ?_
    refine LH.take 6 (by kernel_rfl) rfl (by kernel_rfl) (by kernel_rfl) (by kernel_rfl) (fun Hq hq => Y.move rfl rfl) (Wd.u rfl) rfl rfl hq5 ?_
    refine LH.take 7 (by kernel_rfl) rfl (by kernel_rfl) (by kernel_rfl) (by kernel_rfl) (fun Hq hq => Y.move rfl rfl) (Wd.u rfl) rfl rfl hq5 ?_
    refine LH.e (g := fun ad => .pointer (some ad)) 8 (by kernel_rfl) rfl (by kernel_rfl) (by kernel_rfl) (by kernel_rfl) (Y.indexAddrF hl (i) rfl Try.runUnderlying26 Try.sizeOf35 rfl rfl (by first | rfl | omega) (by first | omega | (simp; omega) | (simp; done))) (Wd.u rfl) rfl rfl hq5 (fun ad19 pt19 => ?_)
    have bf_pt19 := bf_hl
    refine LH.take 9 (by kernel_rfl) rfl (by kernel_rfl) (by kernel_rfl) (by kernel_rfl) (fun Hq hq => Y.fieldAddr (pt19.upL hq (DFL.cons df1 DFL.nil)).pt rfl Try.runUnderlying35 rfl rfl Try.sizeOf3 (by decide) rfl) (Wd.u rfl) rfl rfl hq5 ?_
    refine LH.take 10 (by kernel_rfl) rfl (by kernel_rfl) (by kernel_rfl) (by kernel_rfl) (fun Hq hq => Y.load1 ((pt19.upL hq (DFL.cons df1 DFL.nil)).pt.drop 1) rfl Try.isAgg3 rfl) (Wd.u rfl) rfl rfl hq5 ?_
    refine LH.take 12 (by kernel_rfl) rfl (by kernel_rfl) (by kernel_rfl) (by kernel_rfl) (fun Hq hq => Y.move rfl rfl) (Wd.u rfl) rfl rfl hq5 ?_
    refine LH.take 13 (by kernel_rfl) rfl (by kernel_rfl) (by kernel_rfl) (by kernel_rfl) (fun Hq hq => Y.move rfl rfl) (Wd.u rfl) rfl rfl hq5 ?_
    refine LH.e (g := fun ad => .pointer (some ad)) 14 (by kernel_rfl) rfl (by kernel_rfl) (by kernel_rfl) (by kernel_rfl) (Y.indexAddrF hl (i) rfl Try.runUnderlying26 Try.sizeOf35 rfl rfl (by first | rfl | omega) (by first | omega | (simp; omega) | (simp; done))) (Wd.u rfl) rfl rfl hq5 (fun ad25 pt25 => ?_)
    have bf_pt25 := bf_hl
    refine LH.take 15 (by kernel_rfl) rfl (by kernel_rfl) (by kernel_rfl) (by kernel_rfl) (fun Hq hq => Y.fieldAddr (pt25.upL hq (DFL.cons df1 DFL.nil)).pt rfl Try.runUnderlying35 rfl rfl Try.sizeOf22 (by decide) rfl) (Wd.u rfl) rfl rfl hq5 ?_
    refine LH.take 16 (by kernel_rfl) rfl (by kernel_rfl) (by kernel_rfl) (by kernel_rfl) (fun Hq hq => Y.load1 ((pt25.upL hq (DFL.cons df1 DFL.nil)).pt.drop 2) rfl Try.isAgg22 rfl) (Wd.u rfl) rfl rfl hq5 ?_
    refine LH.one (i := 11) (by kernel_rfl) ?_
    refine LO.z rfl (Z.litw _ (([] : List UInt8)) rfl inf22 rfl rfl rfl (by decide) (by decide) fB_len fB_one (rfl)) (Wd.u rfl) rfl rfl (fun v22 H22 r22 => ?_)
    obtain ⟨nd, hs22, ob22, hH22⟩ := r22
    have hzs22 : H22.size = HL1.size + 1 := by rw [hH22]; simp
    have df6 := (DF.new (bf_hl.mono hm0.size) : DF _ (HL1.size + 1))
    have df7 := (DF.new (bf_hx.mono hm0.size) : DF _ (HL1.size + 1))
    have dj8 : Dj ko (HL1.size + 1) := Dj.new ow.le
    have df9 := (DF.new (bf_hxa.mono (by omega)) : DF _ (HL1.size + 1))
    have df10 := (DF.new (bf_pt14.mono hm0.size) : DF _ (HL1.size + 1))
    have df11 := (DF.new (bf_pt19.mono hm0.size) : DF _ (HL1.size + 1))
    have df12 := (DF.new (bf_pt25.mono hm0.size) : DF _ (HL1.size + 1))
    have nx13 : Nx 0 H0.size (HL1.size + 1) := Nx.new hm0.size
    have nx14 : Nx 0 H0.size (HL1.size + 1) := Nx.new hlm1.size
    have nx15 : Nx 0 HL1.size (HL1.size + 1) := Nx.new hq5.size
    replace hl := hl.nw hs22
    replace hx := fun x hx0 => (hx x hx0).nw hs22
    replace ow := ow.nw hs22
    replace hxa := fun x hxa_ => (hxa x hxa_).nw hs22
    replace pt14 := pt14.nw hs22
    replace pt19 := pt19.nw hs22
    replace pt25 := pt25.nw hs22
    replace hm0 := hm0.tr hs22
    replace hlm1 := hlm1.tr hs22
    replace hq5 := hq5.trN hs22
    have hz2 := hs22.size
    refine ⟨.inr hq5, LH.narrow (SH2 := fun Hq => Mo (Ms [ko, (HL1.size + 1)]) H22 Hq) (fun Hq hq => hq5.trL hq (MIL.cons (MI.app (MI.root (by simp)) (nx5) (Nat.le_refl _)) (MIL.cons (MI.app MI.z (nx15) (Nat.le_refl _)) MIL.nil))) ?_⟩
    have hq5 : Mo (Ms [ko, (HL1.size + 1)]) H22 H22 := Mo.refl _ _
    have nx16 := Nx.refl ko H22.size
    have nx17 := Nx.refl (HL1.size + 1) H22.size
    refine LH.one (i := 17) (by kernel_rfl) ?_
    refine LO.z rfl (Z.apnd nd (hx l[i] (List.getElem_mem hil)).d rfl inf22 rfl rfl (by simp only [List.length_nil]; omega) (by simp only [List.length_nil]; omega)) (Wd.u rfl) rfl rfl (fun v28 H28 r28 => ?_)
    obtain ⟨k28, nd, hk28, hs28⟩ := r28
    replace hk28 : Nx (HL1.size + 1) H22.size k28 := hk28
    replace hs28 := hs28.md
    have df18 := DF.app (df6) (bf_hl.mono hm0.size) hk28
    have df19 := DF.app (df7) (bf_hx.mono hm0.size) hk28
    have dj20 : Dj ko k28 := Dj.app (dj8) ow.le hk28
    have df21 := DF.app (df9) (bf_hxa.mono (by omega)) hk28
    have df22 := DF.app (df10) (bf_pt14.mono hm0.size) hk28
    have df23 := DF.app (df11) (bf_pt19.mono hm0.size) hk28
    have df24 := DF.app (df12) (bf_pt25.mono hm0.size) hk28
    have nx25 : Nx 0 H0.size k28 := Nx.tr (nx13) hk28 hm0.size
    have nx26 : Nx 0 H0.size k28 := Nx.tr (nx14) hk28 hlm1.size
    have nx27 : Nx (HL1.size + 1) H22.size k28 := Nx.tr (nx17) hk28 hq5.size
    replace hl := hl.upL hs28 (DFL.cons df6 DFL.nil)
    replace hx := fun x hx0 => (hx x hx0).upL hs28 (DFL.cons df7 DFL.nil)
    replace ow := ow.upL hs28 (DL.cons dj8 DL.nil)
    replace hxa := fun x hxa_ => (hxa x hxa_).upL hs28 (DFL.cons df9 DFL.nil)
    replace pt14 := pt14.upL hs28 (DFL.cons df10 DFL.nil)
    replace pt19 := pt19.upL hs28 (DFL.cons df11 DFL.nil)
    replace pt25 := pt25.upL hs28 (DFL.cons df12 DFL.nil)
    replace hm0 := (Mo.trL (ks := []) (hm0.mdn []) hs28 (MIL.cons (MI.app MI.z (nx13) (Nat.le_refl _)) MIL.nil)).nil
    replace hlm1 := (Mo.trL (ks := []) (hlm1.mdn []) hs28 (MIL.cons (MI.app MI.z (nx14) (Nat.le_refl _)) MIL.nil)).nil
    replace hq5 := hq5.trL hs28 (MIL.cons (MI.app (MI.root (by simp)) (nx17) (Nat.le_refl _)) MIL.nil)
    have hz3 := hs28.size
    have hle_nd := nd.le
    rw [List.nil_append] at nd
    obtain ⟨s28, rfl⟩ : ∃ s : SV, v28 = s.v := ⟨toSV v28, nd.sv.symm⟩
    refine ⟨.inr hq5, LH.narrow (SH2 := fun Hq => Mo (Ms [ko, k28]) H28 Hq) (fun Hq hq => hq5.trL hq (MIL.cons (MI.app (MI.root (by simp)) (nx16) (Nat.le_refl _)) (MIL.cons (MI.app (MI.root (by simp)) (nx27) (Nat.le_refl _)) MIL.nil))) ?_⟩
    have hq5 : Mo (Ms [ko, k28]) H28 H28 := Mo.refl _ _
    have nx28 := Nx.refl ko H28.size
    have nx29 := Nx.refl k28 H28.size
    refine LH.take 18 (by kernel_rfl) rfl (by kernel_rfl) (by kernel_rfl) (by kernel_rfl) (fun Hq hq => Y.build (v := .agg (fFl (⟨l[i].p, l[i].k, l[i].d, s28⟩ : Fl)).toArray) rfl rfl (by intro w; kernel_rfl)) (Wd.u rfl) rfl rfl hq5 ?_
    refine LH.one (i := 19) (by kernel_rfl) ?_
    refine LO.z rfl (Z.litw _ ([(⟨l[i].p, l[i].k, l[i].d, s28⟩ : Fl)]) rfl inf26 rfl rfl rfl (by decide) (by decide) fFl_len fFl_one (rfl)) (Wd.u rfl) rfl rfl (fun v30 H30 r30 => ?_)
    obtain ⟨nw30, hs30, ob30, hH30⟩ := r30
    have hzs30 : H30.size = H28.size + 1 := by rw [hH30]; simp
    have df30 := (DF.new (bf_hl.mono hm0.size) : DF _ (H28.size + 1))
    have df31 := (DF.new (bf_hx.mono hm0.size) : DF _ (H28.size + 1))
    have dj32 : Dj ko (H28.size + 1) := Dj.new ow.le
    have df33 := (DF.new (bf_hxa.mono (by omega)) : DF _ (H28.size + 1))
    have df34 := (DF.new (bf_pt14.mono hm0.size) : DF _ (H28.size + 1))
    have df35 := (DF.new (bf_pt19.mono hm0.size) : DF _ (H28.size + 1))
    have df36 := (DF.new (bf_pt25.mono hm0.size) : DF _ (H28.size + 1))
    have dj37 : Dj k28 (H28.size + 1) := Dj.new nd.le
    have nx38 : Nx 0 H0.size (H28.size + 1) := Nx.new hm0.size
    have nx39 : Nx 0 H0.size (H28.size + 1) := Nx.new hlm1.size
    have nx40 : Nx 0 H28.size (H28.size + 1) := Nx.new hq5.size
    replace hl := hl.nw hs30
    replace hx := fun x hx0 => (hx x hx0).nw hs30
    replace ow := ow.nw hs30
    replace hxa := fun x hxa_ => (hxa x hxa_).nw hs30
    replace pt14 := pt14.nw hs30
    replace pt19 := pt19.nw hs30
    replace pt25 := pt25.nw hs30
    replace nd := nd.nw hs30
    replace hm0 := hm0.tr hs30
    replace hlm1 := hlm1.tr hs30
    replace hq5 := hq5.trN hs30
    have hz4 := hs30.size
    refine ⟨.inr hq5, LH.narrow (SH2 := fun Hq => Mo (Ms [ko, k28, (H28.size + 1)]) H30 Hq) (fun Hq hq => hq5.trL hq (MIL.cons (MI.app (MI.root (by simp)) (nx28) (Nat.le_refl _)) (MIL.cons (MI.app (MI.root (by simp)) (nx29) (Nat.le_refl _)) (MIL.cons (MI.app MI.z (nx40) (Nat.le_refl _)) MIL.nil)))) ?_⟩
    have hq5 : Mo (Ms [ko, k28, (H28.size + 1)]) H30 H30 := Mo.refl _ _
    have nx41 := Nx.refl ko H30.size
    have nx42 := Nx.refl k28 H30.size
    have nx43 := Nx.refl (H28.size + 1) H30.size
    refine LH.one (i := 20) (by kernel_rfl) ?_
    refine LO.z rfl (Z.apnd ow nw30.rd rfl inf26 rfl rfl (by simp; omega) (by simp; omega)) (Wd.u rfl) rfl rfl (fun v31 H31 r31 => ?_)
    obtain ⟨k31, ow, hk31, hs31⟩ := r31
    replace hk31 : Nx ko H30.size k31 := hk31
    replace hs31 := hs31.md
    have df44 := DF.app (df1) (bf_hl.mono hm0.size) hk31
    have df45 := DF.app (df2) (bf_hx.mono hm0.size) hk31
    have df46 := DF.app (f1) (bf_hxa.mono (by omega)) hk31
    have df47 := DF.app (df1) (bf_pt14.mono hm0.size) hk31
    have df48 := DF.app (df1) (bf_pt19.mono hm0.size) hk31
    have df49 := DF.app (df1) (bf_pt25.mono hm0.size) hk31
    have dj50 : Dj k28 k31 := Dj.app (dj20.symm) nd.le hk31
    have dj51 : Dj (H28.size + 1) k31 := Dj.app (dj32.symm) nw30.le hk31
    have nx52 : Nx 0 H0.size k31 := Nx.tr (nx3) hk31 hm0.size
    have nx53 : Nx 0 H0.size k31 := Nx.tr (nx4) hk31 hlm1.size
    have nx54 : Nx ko H30.size k31 := Nx.tr (nx41) hk31 hq5.size
    replace hl := hl.upL hs31 (DFL.cons df1 DFL.nil)
    replace hx := fun x hx0 => (hx x hx0).upL hs31 (DFL.cons df2 DFL.nil)
    replace hxa := fun x hxa_ => (hxa x hxa_).upL hs31 (DFL.cons f1 DFL.nil)
    replace pt14 := pt14.upL hs31 (DFL.cons df1 DFL.nil)
    replace pt19 := pt19.upL hs31 (DFL.cons df1 DFL.nil)
    replace pt25 := pt25.upL hs31 (DFL.cons df1 DFL.nil)
    replace nd := nd.upL hs31 (DL.cons dj20.symm DL.nil)
    replace nw30 := nw30.upL hs31 (DL.cons dj32.symm DL.nil)
    replace hm0 := (Mo.trL (ks := []) (hm0.mdn []) hs31 (MIL.cons (MI.app MI.z (nx3) (Nat.le_refl _)) MIL.nil)).nil
    replace hlm1 := (Mo.trL (ks := []) (hlm1.mdn []) hs31 (MIL.cons (MI.app MI.z (nx4) (Nat.le_refl _)) MIL.nil)).nil
    replace hq5 := hq5.trL hs31 (MIL.cons (MI.app (MI.root (by simp)) (nx41) (Nat.le_refl _)) MIL.nil)
    have hz5 := hs31.size
    have hle_ow := ow.le
    refine ⟨.inr hq5, LH.narrow (SH2 := fun Hq => Mo (Ms [k31, k28, (H28.size + 1)]) H31 Hq) (fun Hq hq => hq5.trL hq (MIL.cons (MI.app (MI.root (by simp)) (nx54) (Nat.le_refl _)) (MIL.cons (MI.app (MI.root (by simp)) (nx42) (Nat.le_refl _)) (MIL.cons (MI.app (MI.root (by simp)) (nx43) (Nat.le_refl _)) MIL.nil)))) ?_⟩
    have hq5 : Mo (Ms [k31, k28, (H28.size + 1)]) H31 H31 := Mo.refl _ _
    have nx55 := Nx.refl k31 H31.size
    have nx56 := Nx.refl k28 H31.size
    have nx57 := Nx.refl (H28.size + 1) H31.size
    refine LH.take 21 (by kernel_rfl) rfl (by kernel_rfl) (by kernel_rfl) (by kernel_rfl) (fun Hq hq => Y.assign rfl rfl) (Wd.u rfl) rfl rfl hq5 ?_
    refine LH.done (by kernel_rfl) ?_
    refine hK10 _ _ ?_
    refine hK9 _ _ ?_
    refine CW.region ?_
    refine LR.v (Y.move rfl rfl) (Wd.u rfl) rfl rfl ?_
    refine LR.v (Y.addi rfl rfl rfl (by omega)) (Wd.u rfl) rfl rfl ?_
    refine LR.v (Y.assign rfl rfl) (Wd.u rfl) rfl rfl ?_
    refine LR.nil ?_
    refine QN.sub (hN6 (i + 1, v31, k31, out ++ [(⟨l[i].p, l[i].k, l[i].d, s28⟩ : Fl)], fun b => G b ∨ b + 1 = k28) _ ?_ ?_) ⟨rfl, rfl, (iv (by omega)), trivial⟩
    · exact ⟨(by omega), ow, snocFl hxa (fun b e => .inl e) ⟨nd.rd.imp (fun b _ e => .inr e), hwi⟩, BF.or1 (bf_hxa.mono (by omega)) nd.le, DF.or1 (df46) (dj50.symm), by rw [List.map_append, he, List.take_succ_eq_append_getElem hil, List.map_append]; rfl, nx53, hlm1⟩
    · first | omega | (simp only; omega) | (simp; omega)
  ·
    have hil : i = l.length := by omega
    rw [hil, List.take_length] at he
    refine CW.exit (hE7 (.exit 0) nofun _ _ (hE6 (.exit 0) nofun _ _ (hX5 _ _ ?_)))
    refine hK3 _ _ ?_
    refine CW.seq (fun K11 hK11 hE11 => ?_)
    refine CW.region ?_
    refine LR.v (Y.move rfl rfl) (Wd.u rfl) rfl rfl ?_
    refine LR.v (Y.assign rfl rfl) (Wd.u rfl) rfl rfl ?_
    refine LR.nil ?_
    refine hK11 _ _ ?_
    refine CW.ret (hret .ret (.inr rfl) _ _ _ (res1 rfl rfl) ?_)
    exact ⟨vo, ko, out, rfl, ow, nx3, he, ⟨fun x hx => (hxa x hx).any⟩, hm0⟩

end Go.Proofs.Ytclhnkmkejijjaa.RenW
