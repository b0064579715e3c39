/-
  A text with marks is taken to pieces.
-/
import Derived.Test.YtegfnfhdgbcjbaaMerL
import Derived.Test.YtegfnfhdgbcjbaaMerH
namespace Go.Proofs.Ytegfnfhdgbcjbaa.MerM
open Go.Proofs.Ytegfnfhdgbcjbaa.E Go.RowKit Go.Proofs.Ytegfnfhdgbcjbaa.LinM Go.Proofs.Ytegfnfhdgbcjbaa.LinC Go.Proofs.Ytegfnfhdgbcjbaa.LinL Go.Proofs.Ytegfnfhdgbcjbaa.LinN Go.Proofs.Ytegfnfhdgbcjbaa.MerA Go.Proofs.Ytegfnfhdgbcjbaa.MerB Go.Proofs.Ytegfnfhdgbcjbaa.MerC Go.Proofs.Ytegfnfhdgbcjbaa.MerD Go.Proofs.Ytegfnfhdgbcjbaa.MerE Go.Proofs.Ytegfnfhdgbcjbaa.MerF Go.Proofs.Ytegfnfhdgbcjbaa.MerH Go.Proofs.Ytegfnfhdgbcjbaa.MerL
set_option maxRecDepth 20000
set_option linter.unusedVariables false
set_option linter.unusedSimpArgs false
set_option linter.unusedSectionVars false
set_option maxRecDepth 100000 in
theorem inf32 : Inf Try.prog 32 9 1 16 := ⟨Try.underlying32, _, _, rfl, rfl, rfl, rfl, rfl⟩
set_option maxRecDepth 100000 in
theorem inf50 : Inf Try.prog 50 54 4 80 := ⟨Try.underlying50, _, _, rfl, rfl, rfl, rfl, rfl⟩

abbrev LL := List (List UInt8)
/-- what is read so far: chunks, the lines behind each mark, those behind none, which mark was last -/
abbrev PS := List Cn × LL × LL × LL × LL × Nat
/-- lines behind none -/
def plainC (l : LL) : List Cn := if l.length = 0 then [] else [(0, l, l, l)]
def psN (x : PS) (s : List UInt8) : PS :=
  if x.2.2.2.2.2 = 0 then (x.1, x.2.1 ++ [s], x.2.2.1, x.2.2.2.1, x.2.2.2.2.1, 0) else if x.2.2.2.2.2 = 1 then (x.1, x.2.1, x.2.2.1 ++ [s], x.2.2.2.1, x.2.2.2.2.1, 1)
  else if x.2.2.2.2.2 = 2 then (x.1, x.2.1, x.2.2.1, x.2.2.2.1 ++ [s], x.2.2.2.2.1, 2) else (x.1, x.2.1, x.2.2.1, x.2.2.2.1, x.2.2.2.2.1 ++ [s], x.2.2.2.2.2)
def psM (x : PS) (k : Nat) : PS :=
  if k = 0 then (x.1 ++ plainC x.2.2.2.2.1, x.2.1, x.2.2.1, x.2.2.2.1, [], 0) else if k = 3 then (x.1 ++ [(4, x.2.2.1, x.2.1, x.2.2.2.1)], [], [], [], [], 3) else (x.1, x.2.1, x.2.2.1, x.2.2.2.1, x.2.2.2.2.1, k)
def pstp (x : PS) (s : List UInt8) : Option PS :=
  if markL s < 0 then some (psN x s) else if markL s ≠ ((x.2.2.2.2.2 + 1) % 4 : Nat) ∨ sfx s [10] = false then none else some (psM x (markL s).toNat)
def prun (ls : LL) : Option PS := ls.foldl (fun o s => o.bind (fun x => pstp x s)) (some ([], [], [], [], [], 3))
def pend : Option PS → List Cn × Int
  | none => ([], 25)
  | some x => if x.2.2.2.2.2 ≠ 3 then ([], 25) else (x.1 ++ plainC x.2.2.2.2.1, 0)
/-- what is read of a text, and the code -/
def parseL (b : List UInt8) : List Cn × Int := pend (prun (splitL [] b))
theorem prun_snoc (ls : LL) (i : Nat) (h : i < ls.length) (x : PS) (hx : prun (ls.take i) = some x) : prun (ls.take (i + 1)) = pstp x ls[i] := by
  unfold prun at *
  rw [List.take_succ_eq_append_getElem h, List.foldl_append, hx]; rfl
theorem prun_none : ∀ (ls : LL), ls.foldl (fun o s => o.bind (fun x => pstp x s)) none = none
  | [] => rfl
  | x :: ls => by rw [List.foldl_cons]; exact prun_none ls
theorem prun_cut (ls : LL) (i : Nat) (h : prun (ls.take i) = none) : prun ls = none := by
  unfold prun at *
  conv => lhs; rw [← List.take_append_drop i ls]
  rw [List.foldl_append, h, prun_none]
theorem pstp_no {x : PS} {s : List UInt8} (h : markL s < 0) : pstp x s = some (psN x s) := by rw [pstp, if_pos h]
theorem pstp_bad {x : PS} {s : List UInt8} (h : ¬ markL s < 0) (h2 : markL s ≠ ((x.2.2.2.2.2 + 1) % 4 : Nat) ∨ sfx s [10] = false) : pstp x s = none := by rw [pstp, if_neg h, if_pos h2]
theorem pstp_go {x : PS} {s : List UInt8} {k : Nat} (h : markL s = k) (h2 : k = (x.2.2.2.2.2 + 1) % 4) (h3 : sfx s [10] = true) : pstp x s = some (psM x k) := by
  rw [pstp, if_neg (by omega), if_neg (by rw [h, h2, h3]; simp), h]; rfl
theorem snocR {G G2 : Nat → Prop} {H : Heap} {l : List Ck} {x : Ck} (h : ∀ y ∈ l, CkR G H y) (hg : ∀ b, G b → G2 b) (hx : CkR G2 H x) : ∀ y ∈ l ++ [x], CkR G2 H y := by
  intro y hy
  rcases List.mem_append.1 hy with hy | hy
  · exact (h y hy).imp (fun b _ e => hg b e)
  · rw [List.mem_singleton] at hy; subst hy; exact hx
theorem BF.four {G : Nat → Prop} {n kB kO kT : Nat} (h : BF G n) (h1 : kB ≤ n) (h2 : kO ≤ n) (h3 : kT ≤ n) : BF (fun b => G b ∨ b + 1 = kB ∨ b + 1 = kO ∨ b + 1 = kT) n := by
  rintro b (e | e | e | e)
  · exact h b e
  all_goals omega
theorem DF.endd {G G2 : Nat → Prop} {k k3 n : Nat} (hG : ∀ b, G2 b → G b ∨ b + 1 = k3 ∨ n ≤ b) (f : DF G k) (d : Dj k k3) (hk : k ≤ n) : DF G2 k := by
  intro b e h2
  rcases hG b e with e | e | e
  · exact f b e h2
  · exact d b h2 e
  · omega
theorem plain_len (l : LL) : (plainC l).length ≤ 1 := by unfold plainC; split <;> simp
theorem plain_some {l : LL} (h : l.length ≠ 0) : plainC l = [(0, l, l, l)] := by rw [plainC, if_neg h]
theorem plain_none {l : LL} (h : l.length = 0) : plainC l = [] := by rw [plainC, if_pos h]

set_option maxHeartbeats 4000000 in
theorem endP_ct (bs bo : Nat) (s0 s1 s2 s3 so : SV) (k3 ko : Nat) (S3 : LL) (l : List Ck) (G : Nat → Prop) (w0 : World) (H0 : Heap)
    (hS : Var 71 H0 bs [s0.v, s1.v, s2.v, s3.v]) (hO : Var 50 H0 bo [so.v]) (o3 : Ow k3 9 H0 fS 1 s3.v S3) (ow : Ow ko 54 H0 fK 4 so.v l) (hx : ∀ x ∈ l, CkR G H0 x) (bf_hx : BF G H0.size) (e1 : Dj (bs + 1) (bo + 1)) (e2 : Dj (bs + 1) k3) (e3 : Dj (bs + 1) ko) (e4 : Dj (bo + 1) k3) (e5 : Dj (bo + 1) ko) (e6 : Dj k3 ko) (f1 : DF G ko) (f2 : DF G (bs + 1)) (f3 : DF G (bo + 1)) (hll : l.length ≤ 4194304) (hsl : S3.length ≤ 1048576) :
    Ct Try.prog w0 37 #[.pointer (some ⟨bs, 0, none⟩), .pointer (some ⟨bo, 0, none⟩)] H0 (fun r H2 => ∃ so2 : SV, ∃ ko2 : Nat, ∃ l2 : List Ck, ∃ G2 : Nat → Prop, (Var 71 H2 bs [s0.v, s1.v, s2.v, .slice none 0 0]) ∧ (Var 50 H2 bo [so2.v]) ∧ (Ow ko2 54 H2 fK 4 so2.v l2) ∧ (Nx ko H0.size ko2) ∧ (∀ x ∈ l2, CkR G2 H2 x) ∧ (l2.map Ck.c = l.map Ck.c ++ plainC S3) ∧ (∀ b, G2 b → G b ∨ b + 1 = k3 ∨ H0.size ≤ b) ∧ (DF G2 ko2) ∧ (BF G2 H2.size) ∧ (DF G2 (bs + 1)) ∧ (DF G2 (bo + 1)) ∧ Mo (Ms [(bs + 1), (bo + 1), ko]) H0 H2) := by
  refine Ct.enter (args := [.pointer (some ⟨bs, 0, none⟩), .pointer (some ⟨bo, 0, none⟩)]) Try.func37 rfl rfl rfl ?_
  intro Q0 hret
  have hm0 : Mo (Ms [(bs + 1), (bo + 1), ko]) H0 H0 := Mo.refl _ _
  have nx_hm0_hS := Nx.refl (bs + 1) H0.size
  have hlt_hS := hS.lt
  have nx_hm0_hO := Nx.refl (bo + 1) H0.size
  have hlt_hO := hO.lt
  have nx_hm0_o3 := Nx.refl k3 H0.size
  have hle_o3 := o3.le
  have nx_hm0_ow := Nx.refl ko H0.size
  have hle_ow := ow.le
  refine CW.seq (fun K1 hK1 hE1 => ?_)
  refine CW.seq (fun K2 hK2 hE2 => ?_)
  refine CW.region ?_
  refine LR.v (Y.arrAddr hS.pt (3) rfl Try.runUnderlying71 Try.sizeOf32 rfl rfl (by first | rfl | omega) (by first | omega | (simp; omega) | (simp; done))) (Wd.u rfl) rfl rfl ?_
  refine LR.v (Y.load1 (hS.pt.drop 3) rfl Try.isAgg32 rfl) (Wd.u rfl) rfl rfl ?_
  refine LR.v (Y.assign rfl rfl) (Wd.u rfl) rfl rfl ?_
  refine LR.nil ?_
  refine hK2 _ _ ?_
  refine CW.seq (fun K3 hK3 hE3 => ?_)
  refine CW.region ?_
  refine LR.v (Y.move rfl rfl) (Wd.u rfl) rfl rfl ?_
  refine LR.v (Y.len o3.rd rfl Try.runUnderlying32 rfl) (Wd.u rfl) rfl rfl ?_
  refine LR.v (Y.gtr rfl rfl rfl) (Wd.u rfl) rfl rfl ?_
  refine LR.nil ?_
  refine hK3 _ _ ?_
  refine CW.condp rfl (fun c7 => ?_) (fun c7 => ?_)
  ·
    refine CW.region_any (fun Hq => Mo (Ms [ko]) H0 Hq) [9] rfl ?_
    have hq2 : Mo (Ms [ko]) H0 H0 := Mo.refl _ _
    have nx1 := Nx.refl ko H0.size
    refine LH.take 0 (by kernel_rfl) rfl (by kernel_rfl) (by kernel_rfl) (by kernel_rfl) (fun Hq hq => Y.load1 (hO.upL hq (DL.cons e5 DL.nil)).pt rfl Try.isAgg50 rfl) (Wd.u rfl) rfl rfl hq2 ?_
    refine LH.take 1 (by kernel_rfl) rfl (by kernel_rfl) (by kernel_rfl) (by kernel_rfl) (fun Hq hq => Y.move rfl rfl) (Wd.u rfl) rfl rfl hq2 ?_
    refine LH.take 2 (by kernel_rfl) rfl (by kernel_rfl) (by kernel_rfl) (by kernel_rfl) (fun Hq hq => Y.move rfl rfl) (Wd.u rfl) rfl rfl hq2 ?_
    refine LH.take 4 (by kernel_rfl) rfl (by kernel_rfl) (by kernel_rfl) (by kernel_rfl) (fun Hq hq => Y.move rfl rfl) (Wd.u rfl) rfl rfl hq2 ?_
    refine LH.one (i := 3) (by kernel_rfl) ?_
    -- call slices.Clone[[]string,string]
    refine LO.call rfl rfl Try.call38 rfl (Wd.u rfl) rfl rfl (sclone_ct _ S3 w0 _ o3.rd.any hsl) (fun v11 H11 r11 => ?_)
    obtain ⟨sc1, kc1, rfl, c1, hk11, hs11⟩ := r11
    have dj2 : Dj (bs + 1) kc1 := Dj.app (Dj.z) hS.lt hk11
    have dj3 : Dj (bo + 1) kc1 := Dj.app (Dj.z) hO.lt hk11
    have dj4 : Dj k3 kc1 := Dj.app (Dj.z) o3.le hk11
    have dj5 : Dj ko kc1 := Dj.app (Dj.z) ow.le hk11
    have df6 := DF.app (DF.z) (bf_hx.mono hm0.size) hk11
    have nx7 : Nx 0 H0.size kc1 := Nx.tr (Nx.refl 0 _) hk11 hm0.size
    have nx8 : Nx 0 H0.size kc1 := Nx.tr (Nx.refl 0 _) hk11 hq2.size
    replace hS := hS.nw hs11
    replace hO := hO.nw hs11
    replace o3 := o3.nw hs11
    replace ow := ow.nw hs11
    replace hx := fun x hx_ => (hx x hx_).nw hs11
    replace hm0 := hm0.trN hs11
    replace hq2 := hq2.trN hs11
    have hz1 := hs11.size
    have hle_c1 := c1.le
    refine ⟨.inr hq2, LH.narrow (SH2 := fun Hq => Mo (Ms [ko]) H11 Hq) (fun Hq hq => hq2.trL hq (MIL.cons (MI.app (MI.root (by simp)) (nx1) (Nat.le_refl _)) MIL.nil)) ?_⟩
    have hq2 : Mo (Ms [ko]) H11 H11 := Mo.refl _ _
    have nx9 := Nx.refl ko H11.size
    refine LH.one (i := 5) (by kernel_rfl) ?_
    -- call slices.Clone[[]string,string]
    refine LO.call rfl rfl Try.call38 rfl (Wd.u rfl) rfl rfl (sclone_ct _ S3 w0 _ o3.rd.any hsl) (fun v13 H13 r13 => ?_)
    obtain ⟨sc2, kc2, rfl, c2, hk13, hs13⟩ := r13
    have dj10 : Dj (bs + 1) kc2 := Dj.app (Dj.z) hS.lt hk13
    have dj11 : Dj (bo + 1) kc2 := Dj.app (Dj.z) hO.lt hk13
    have dj12 : Dj k3 kc2 := Dj.app (Dj.z) o3.le hk13
    have dj13 : Dj ko kc2 := Dj.app (Dj.z) ow.le hk13
    have df14 := DF.app (DF.z) (bf_hx.mono hm0.size) hk13
    have dj15 : Dj kc1 kc2 := Dj.app (Dj.z) c1.le hk13
    have nx16 : Nx 0 H0.size kc2 := Nx.tr (Nx.refl 0 _) hk13 hm0.size
    have nx17 : Nx 0 H11.size kc2 := Nx.tr (Nx.refl 0 _) hk13 hq2.size
    replace hS := hS.nw hs13
    replace hO := hO.nw hs13
    replace o3 := o3.nw hs13
    replace ow := ow.nw hs13
    replace hx := fun x hx_ => (hx x hx_).nw hs13
    replace c1 := c1.nw hs13
    replace hm0 := hm0.trN hs13
    replace hq2 := hq2.trN hs13
    have hz2 := hs13.size
    have hle_c2 := c2.le
    refine ⟨.inr hq2, LH.narrow (SH2 := fun Hq => Mo (Ms [ko]) H13 Hq) (fun Hq hq => hq2.trL hq (MIL.cons (MI.app (MI.root (by simp)) (nx9) (Nat.le_refl _)) MIL.nil)) ?_⟩
    have hq2 : Mo (Ms [ko]) H13 H13 := Mo.refl _ _
    have nx18 := Nx.refl ko H13.size
    refine LH.take 6 (by kernel_rfl) rfl (by kernel_rfl) (by kernel_rfl) (by kernel_rfl) (fun Hq hq => Y.build (v := .agg #[.int .i64 0, s3.v, sc1.v, sc2.v]) rfl rfl (by intro w; kernel_rfl)) (Wd.u rfl) rfl rfl hq2 ?_
    refine LH.one (i := 7) (by kernel_rfl) ?_
    refine LO.z rfl (Z.litw _ ([(⟨0, S3, S3, S3, s3, sc1, sc2⟩ : Ck)]) rfl inf50 rfl rfl rfl (by decide) (by decide) fK_len fK_one (rfl)) (Wd.u rfl) rfl rfl (fun v15 H15 r15 => ?_)
    obtain ⟨nw15, hs15, ob15, hH15⟩ := r15
    have hzs15 : H15.size = H13.size + 1 := by rw [hH15]; simp
    have dj19 : Dj (bs + 1) (H13.size + 1) := Dj.new hS.lt
    have dj20 : Dj (bo + 1) (H13.size + 1) := Dj.new hO.lt
    have dj21 : Dj k3 (H13.size + 1) := Dj.new o3.le
    have dj22 : Dj ko (H13.size + 1) := Dj.new ow.le
    have df23 := (DF.new (bf_hx.mono hm0.size) : DF _ (H13.size + 1))
    have dj24 : Dj kc1 (H13.size + 1) := Dj.new c1.le
    have dj25 : Dj kc2 (H13.size + 1) := Dj.new c2.le
    have nx26 : Nx 0 H0.size (H13.size + 1) := Nx.new hm0.size
    have nx27 : Nx 0 H13.size (H13.size + 1) := Nx.new hq2.size
    replace hS := hS.nw hs15
    replace hO := hO.nw hs15
    replace o3 := o3.nw hs15
    replace ow := ow.nw hs15
    replace hx := fun x hx_ => (hx x hx_).nw hs15
    replace c1 := c1.nw hs15
    replace c2 := c2.nw hs15
    replace hm0 := hm0.trN hs15
    replace hq2 := hq2.trN hs15
    have hz3 := hs15.size
    refine ⟨.inr hq2, LH.narrow (SH2 := fun Hq => Mo (Ms [ko, (H13.size + 1)]) H15 Hq) (fun Hq hq => hq2.trL hq (MIL.cons (MI.app (MI.root (by simp)) (nx18) (Nat.le_refl _)) (MIL.cons (MI.app MI.z (nx27) (Nat.le_refl _)) MIL.nil))) ?_⟩
    have hq2 : Mo (Ms [ko, (H13.size + 1)]) H15 H15 := Mo.refl _ _
    have nx28 := Nx.refl ko H15.size
    have nx29 := Nx.refl (H13.size + 1) H15.size
    refine LH.one (i := 8) (by kernel_rfl) ?_
    refine LO.z rfl (Z.apnd ow nw15.rd rfl inf50 rfl rfl (by simp; omega) (by simp; omega)) (Wd.u rfl) rfl rfl (fun v16 H16 r16 => ?_)
    obtain ⟨k16, ow, hk16, hs16⟩ := r16
    replace hk16 : Nx ko H15.size k16 := hk16
    replace hs16 := hs16.md
    have dj30 : Dj (bs + 1) k16 := Dj.app (e3) hS.lt hk16
    have dj31 : Dj (bo + 1) k16 := Dj.app (e5) hO.lt hk16
    have dj32 : Dj k3 k16 := Dj.app (e6) o3.le hk16
    have df33 := DF.app (f1) (bf_hx.mono hm0.size) hk16
    have dj34 : Dj kc1 k16 := Dj.app (dj5.symm) c1.le hk16
    have dj35 : Dj kc2 k16 := Dj.app (dj13.symm) c2.le hk16
    have dj36 : Dj (H13.size + 1) k16 := Dj.app (dj22.symm) nw15.le hk16
    have nx37 : Nx ko H0.size k16 := Nx.tr (nx_hm0_ow) hk16 hm0.size
    have nx38 : Nx ko H15.size k16 := Nx.tr (nx28) hk16 hq2.size
    replace hS := hS.upL hs16 (DL.cons e3 DL.nil)
    replace hO := hO.upL hs16 (DL.cons e5 DL.nil)
    replace o3 := o3.upL hs16 (DL.cons e6 DL.nil)
    replace hx := fun x hx_ => (hx x hx_).upL hs16 (DFL.cons f1 DFL.nil)
    replace c1 := c1.upL hs16 (DL.cons dj5.symm DL.nil)
    replace c2 := c2.upL hs16 (DL.cons dj13.symm DL.nil)
    replace nw15 := nw15.upL hs16 (DL.cons dj22.symm DL.nil)
    replace hm0 := hm0.trL hs16 (MIL.cons (MI.app (MI.root (by simp)) (nx_hm0_ow) (Nat.le_refl _)) MIL.nil)
    replace hq2 := hq2.trL hs16 (MIL.cons (MI.app (MI.root (by simp)) (nx28) (Nat.le_refl _)) MIL.nil)
    have hz4 := hs16.size
    have hle_ow := ow.le
    obtain ⟨s16, rfl⟩ : ∃ s : SV, v16 = s.v := ⟨toSV v16, ow.sv.symm⟩
    refine ⟨.inr hq2, LH.narrow (SH2 := fun Hq => Mo (Ms [k16, (H13.size + 1)]) H16 Hq) (fun Hq hq => hq2.trL hq (MIL.cons (MI.app (MI.root (by simp)) (nx38) (Nat.le_refl _)) (MIL.cons (MI.app (MI.root (by simp)) (nx29) (Nat.le_refl _)) MIL.nil))) ?_⟩
    have hq2 : Mo (Ms [k16, (H13.size + 1)]) H16 H16 := Mo.refl _ _
    have nx39 := Nx.refl k16 H16.size
    have nx40 := Nx.refl (H13.size + 1) H16.size
    refine LH.one (i := 9) (by kernel_rfl) ?_
    refine LO.s rfl (S.var1 hO 0 ([s16.v]) rfl rfl rfl (rfl) Try.sizeOf50 (by simp) (rfl)) (Wd.u rfl) rfl (fun H2_9 r2_9 => ?_)
    obtain ⟨hO, hs2_9⟩ := r2_9
    replace hs2_9 := hs2_9.md1
    replace hS := hS.upL hs2_9 (DL.cons e1 DL.nil)
    replace o3 := o3.upL hs2_9 (DL.cons e4.symm DL.nil)
    replace ow := ow.upL hs2_9 (DL.cons dj31.symm DL.nil)
    replace hx := fun x hx_ => (hx x hx_).upL hs2_9 (DFL.cons f3 DFL.nil)
    replace c1 := c1.upL hs2_9 (DL.cons dj3.symm DL.nil)
    replace c2 := c2.upL hs2_9 (DL.cons dj11.symm DL.nil)
    replace nw15 := nw15.upL hs2_9 (DL.cons dj20.symm DL.nil)
    replace hm0 := hm0.trL hs2_9 (MIL.cons (MI.app (MI.root (by simp)) (nx_hm0_hO) (Nat.le_refl _)) MIL.nil)
    -- LOST hq2
    have hz5 := hs2_9.size
    refine ⟨.inl rfl, ?_⟩
    refine LH.done (by kernel_rfl) ?_
    refine hK1 _ _ ?_
    refine CW.region ?_
    refine LR.v (Y.arrAddr hS.pt (3) rfl Try.runUnderlying71 Try.sizeOf32 rfl rfl (by first | rfl | omega) (by first | omega | (simp; omega) | (simp; done))) (Wd.u rfl) rfl rfl ?_
    refine LR.s (S.var1 hS 3 ([s0.v, s1.v, s2.v, .slice none 0 0]) rfl rfl rfl (rfl) Try.sizeOf32 (by simp) (rfl)) (Wd.u rfl) rfl (fun H3_1 r3_1 => ?_)
    obtain ⟨hS, hs3_1⟩ := r3_1
    replace hs3_1 := hs3_1.md1
    replace hO := hO.upL hs3_1 (DL.cons e1.symm DL.nil)
    replace o3 := o3.upL hs3_1 (DL.cons e2.symm DL.nil)
    replace ow := ow.upL hs3_1 (DL.cons dj30.symm DL.nil)
    replace hx := fun x hx_ => (hx x hx_).upL hs3_1 (DFL.cons f2 DFL.nil)
    replace c1 := c1.upL hs3_1 (DL.cons dj2.symm DL.nil)
    replace c2 := c2.upL hs3_1 (DL.cons dj10.symm DL.nil)
    replace hm0 := hm0.trL hs3_1 (MIL.cons (MI.app (MI.root (by simp)) (nx_hm0_hS) (Nat.le_refl _)) MIL.nil)
    have hz6 := hs3_1.size
    refine LR.nil ?_
    refine hret .normal (.inl rfl) _ _ _ (res0 rfl) ?_
    exact ⟨s16, k16, l ++ [⟨0, S3, S3, S3, s3, sc1, sc2⟩], (fun b => G b ∨ b + 1 = k3 ∨ b + 1 = kc1 ∨ b + 1 = kc2), hS, hO, ow, (nx37), snocR hx (fun b e => .inl e) ⟨o3.rd.imp (fun b _ e => .inr (.inl e)), c1.rd.imp (fun b _ e => .inr (.inr (.inl e))), c2.rd.imp (fun b _ e => .inr (.inr (.inr e)))⟩, by rw [plain_some (by omega)]; simp, (by rintro b (e | e | e | e); exact .inl e; exact .inr (.inl e); exact .inr (.inr (by have := (nx7); unfold Nx at this; omega)); exact .inr (.inr (by have := (nx16); unfold Nx at this; omega))), DF.four (df33) (dj32.symm) (dj34.symm) (dj35.symm), BF.four (bf_hx.mono hm0.size) o3.le c1.le c2.le, DF.four (f2) (e2) (dj2) (dj10), DF.four (f3) (e4) (dj3) (dj11), hm0⟩
  ·
    refine CW.skip ?_
    refine hK1 _ _ ?_
    refine CW.region ?_
    refine LR.v (Y.arrAddr hS.pt (3) rfl Try.runUnderlying71 Try.sizeOf32 rfl rfl (by first | rfl | omega) (by first | omega | (simp; omega) | (simp; done))) (Wd.u rfl) rfl rfl ?_
    refine LR.s (S.var1 hS 3 ([s0.v, s1.v, s2.v, .slice none 0 0]) rfl rfl rfl (rfl) Try.sizeOf32 (by simp) (rfl)) (Wd.u rfl) rfl (fun H3_1 r3_1 => ?_)
    obtain ⟨hS, hs3_1⟩ := r3_1
    replace hs3_1 := hs3_1.md1
    replace hO := hO.upL hs3_1 (DL.cons e1.symm DL.nil)
    replace o3 := o3.upL hs3_1 (DL.cons e2.symm DL.nil)
    replace ow := ow.upL hs3_1 (DL.cons e3.symm DL.nil)
    replace hx := fun x hx_ => (hx x hx_).upL hs3_1 (DFL.cons f2 DFL.nil)
    replace hm0 := hm0.trL hs3_1 (MIL.cons (MI.app (MI.root (by simp)) (nx_hm0_hS) (Nat.le_refl _)) MIL.nil)
    have hz7 := hs3_1.size
    refine LR.nil ?_
    refine hret .normal (.inl rfl) _ _ _ (res0 rfl) ?_
    exact ⟨so, ko, l, G, hS, hO, ow, Nx.refl _ _, hx, by rw [plain_none (by omega), List.append_nil], (fun b e => .inl e), f1, bf_hx.mono hm0.size, f2, f3, hm0⟩

set_option maxHeartbeats 8000000 in
theorem parse_ct (v1 : Value) (b : List UInt8) (w0 : World) (H0 : Heap)
    (hb : RdT H0 fB 1 v1 b) (hbl : b.length ≤ 1048576) :
    Ct Try.prog w0 21 #[v1] H0 (fun r H2 => ∃ v : Value, ∃ l : List Ck, ∃ e : Int, r = .tuple #[v, .int .i64 e] ∧ ((l.map Ck.c, e) = parseL b) ∧ (Rd (fun b => H0.size ≤ b) H2 fK 4 v l) ∧ (∀ x ∈ l, CkR (fun b => H0.size ≤ b) H2 x) ∧ Nw H0 H2) := by
  refine Ct.enter (args := [v1]) Try.func21 rfl rfl rfl ?_
  intro Q0 hret
  have hm0 : Nw H0 H0 := Mo.refl _ _
  replace hb := hb.bnd
  have bf_hb := Rd.bf hb
  refine CW.seq (fun K1 hK1 hE1 => ?_)
  refine CW.region ?_
  refine LR.v (Y.assign rfl rfl) (Wd.u rfl) rfl rfl ?_
  refine LR.v (Y.assign rfl rfl) (Wd.u rfl) rfl rfl ?_
  refine LR.nil ?_
  refine hK1 _ _ ?_
  refine CW.scope (fun K2 hK2 hE2 => ?_)
  refine CW.seq (fun K3 hK3 hE3 => ?_)
  refine CW.region ?_
  refine LR.z (Z.allocv rfl Try.zeroValue50) (Wd.u rfl) rfl rfl (fun v4 H4 r4 => ?_)
  obtain ⟨rfl, hO, hs4, ob4, hH4⟩ := r4
  have hzs4 : H4.size = H0.size + 1 := by rw [hH4]; simp
  have df1 := (DF.new (bf_hb.mono hm0.size) : DF _ (H0.size + 1))
  have nx2 : Nx 0 H0.size (H0.size + 1) := Nx.new hm0.size
  replace hb := hb.nw hs4
  replace hm0 := hm0.tr hs4
  have hz1 := hs4.size
  replace hO : Var 50 H4 H0.size ([(⟨none, 0, 0⟩ : SV).v]) := hO
  refine LR.nil ?_
  refine hK3 _ _ ?_
  refine CW.seq (fun K4 hK4 hE4 => ?_)
  refine CW.region ?_
  refine LR.z (Z.allocv rfl Try.zeroValue71) (Wd.u rfl) rfl rfl (fun v5 H5 r5 => ?_)
  obtain ⟨rfl, hS, hs5, ob5, hH5⟩ := r5
  have hzs5 : H5.size = H4.size + 1 := by rw [hH5]; simp
  have df3 := (DF.new (bf_hb.mono hm0.size) : DF _ (H4.size + 1))
  have dj4 : Dj (H0.size + 1) (H4.size + 1) := Dj.new hO.lt
  have nx5 : Nx 0 H0.size (H4.size + 1) := Nx.new hm0.size
  replace hb := hb.nw hs5
  replace hO := hO.nw hs5
  replace hm0 := hm0.tr hs5
  have hz2 := hs5.size
  replace hS : Var 71 H5 H4.size ([(⟨none, 0, 0⟩ : SV).v, (⟨none, 0, 0⟩ : SV).v, (⟨none, 0, 0⟩ : SV).v, (⟨none, 0, 0⟩ : SV).v]) := hS
  refine LR.nil ?_
  refine hK4 _ _ ?_
  refine CW.seq (fun K5 hK5 hE5 => ?_)
  refine CW.region ?_
  refine LR.v (Y.assign rfl rfl) (Wd.u rfl) rfl rfl ?_
  refine LR.nil ?_
  refine hK5 _ _ ?_
  refine CW.seq (fun K6 hK6 hE6 => ?_)
  refine CW.region ?_
  refine LR.v (Y.makeFunc rfl rfl) (Wd.u rfl) rfl rfl ?_
  refine LR.v (Y.assign rfl rfl) (Wd.u rfl) rfl rfl ?_
  refine LR.nil ?_
  refine hK6 _ _ ?_
  refine CW.seq (fun K7 hK7 hE7 => ?_)
  refine CW.label ?_
  refine hK7 _ _ ?_
  refine CW.seq (fun K8 hK8 hE8 => ?_)
  refine CW.seq (fun K9 hK9 hE9 => ?_)
  refine CW.region ?_
  refine LR.v (Y.move rfl rfl) (Wd.u rfl) rfl rfl ?_
  -- call selvage/lines.Split
  refine LR.call rfl Try.call39 rfl (Wd.u rfl) rfl rfl (split3 _ b w0 _ hb.any hbl) (fun v13 H13 r13 => ?_)
  obtain ⟨v13, kl, rfl, ol, hk13, hs13⟩ := r13
  have df6 := DF.app (DF.z) (bf_hb.mono hm0.size) hk13
  have dj7 : Dj (H0.size + 1) kl := Dj.app (Dj.z) hO.lt hk13
  have dj8 : Dj (H4.size + 1) kl := Dj.app (Dj.z) hS.lt hk13
  have nx9 : Nx 0 H0.size kl := Nx.tr (Nx.refl 0 _) hk13 hm0.size
  replace hb := hb.nw hs13
  replace hO := hO.nw hs13
  replace hS := hS.nw hs13
  replace hm0 := hm0.tr hs13
  have hz3 := hs13.size
  have hle_ol := ol.le
  have hsm := split_mem (b := b)
  have hsl := splitL_len b []
  simp only [List.length_nil] at hsl
  obtain ⟨ls, hls⟩ : ∃ l, splitL [] b = l := ⟨_, rfl⟩
  rw [hls] at ol hsm hsl
  have hll := ol.len
  refine LR.v (Y.len ol.rd rfl Try.runUnderlying32 rfl) (Wd.u rfl) rfl rfl ?_
  refine LR.v (Y.move rfl rfl) (Wd.u rfl) rfl rfl ?_
  refine LR.nil ?_
  refine hK9 _ _ ?_
  refine CW.block (fun K10 hK10 hX10 hE10 => ?_)
  refine CW.loop (fun (s_ : (Nat) × (SV) × (Nat) × (LL) × (SV) × (Nat) × (LL) × (SV) × (Nat) × (LL) × (SV) × (Nat) × (LL) × (SV) × (Nat) × (List Ck) × (Nat → Prop) × (Nat)) => match s_ with | (i, s0, k0, S0, s1, k1, S1, s2, k2, S2, s3, k3, S3, so, ko, l, G, at_) => [(4, .pointer (some ⟨H0.size, 0, none⟩)), (5, .pointer (some ⟨H4.size, 0, none⟩)), (6, .int .i64 at_), (7, .func (.func 37) #[] #[.pointer (some ⟨H4.size, 0, none⟩), .pointer (some ⟨H0.size, 0, none⟩)]), (13, v13), (14, .int .i64 ls.length), (15, .int .i64 i)])
    (fun (s_ : (Nat) × (SV) × (Nat) × (LL) × (SV) × (Nat) × (LL) × (SV) × (Nat) × (LL) × (SV) × (Nat) × (LL) × (SV) × (Nat) × (List Ck) × (Nat → Prop) × (Nat)) (H : Heap) => match s_ with | (i, s0, k0, S0, s1, k1, S1, s2, k2, S2, s3, k3, S3, so, ko, l, G, at_) => (i ≤ ls.length) ∧ (Var 71 H H4.size [s0.v, s1.v, s2.v, s3.v]) ∧ (Var 50 H H0.size [so.v]) ∧ (Ow k0 9 H fS 1 s0.v S0) ∧ (Ow k1 9 H fS 1 s1.v S1) ∧ (Ow k2 9 H fS 1 s2.v S2) ∧ (Ow k3 9 H fS 1 s3.v S3) ∧ (Ow ko 54 H fK 4 so.v l) ∧ (∀ x ∈ l, CkR G H x) ∧ (BF G H.size) ∧ (DF G k0) ∧ (DF G k1) ∧ (DF G k2) ∧ (DF G k3) ∧ (DF G ko) ∧ (DF G (H4.size + 1)) ∧ (DF G (H0.size + 1)) ∧ (∀ b, G b → H0.size ≤ b) ∧ (prun (ls.take i) = some (l.map Ck.c, S0, S1, S2, S3, at_)) ∧ (S0.length ≤ i ∧ S1.length ≤ i ∧ S2.length ≤ i ∧ S3.length ≤ i ∧ l.length ≤ 2 * i ∧ at_ ≤ 3) ∧ (Nx 0 H13.size k0) ∧ (Nx 0 H13.size k1) ∧ (Nx 0 H13.size k2) ∧ (Nx 0 H13.size k3) ∧ (Nx 0 H13.size ko) ∧ (Dj (H4.size + 1) k0) ∧ (Dj (H0.size + 1) k0) ∧ (Dj (H4.size + 1) k1) ∧ (Dj (H0.size + 1) k1) ∧ (Dj k0 k1) ∧ (Dj (H4.size + 1) k2) ∧ (Dj (H0.size + 1) k2) ∧ (Dj k0 k2) ∧ (Dj k1 k2) ∧ (Dj (H4.size + 1) k3) ∧ (Dj (H0.size + 1) k3) ∧ (Dj k0 k3) ∧ (Dj k1 k3) ∧ (Dj k2 k3) ∧ (Dj (H4.size + 1) ko) ∧ (Dj (H0.size + 1) ko) ∧ (Dj k0 ko) ∧ (Dj k1 ko) ∧ (Dj k2 ko) ∧ (Dj k3 ko) ∧ Mo (Ms [(H4.size + 1), (H0.size + 1)]) H13 H)
    (fun (s_ : (Nat) × (SV) × (Nat) × (LL) × (SV) × (Nat) × (LL) × (SV) × (Nat) × (LL) × (SV) × (Nat) × (LL) × (SV) × (Nat) × (List Ck) × (Nat → Prop) × (Nat)) => match s_ with | (i, s0, k0, S0, s1, k1, S1, s2, k2, S2, s3, k3, S3, so, ko, l, G, at_) => ls.length - i) (0, ⟨none, 0, 0⟩, 0, [], ⟨none, 0, 0⟩, 0, [], ⟨none, 0, 0⟩, 0, [], ⟨none, 0, 0⟩, 0, [], ⟨none, 0, 0⟩, 0, [], fun _ => False, 3) ⟨rfl, rfl, rfl, rfl, rfl, rfl, rfl, trivial⟩ ?_ ?_
  ·
    exact ⟨(by omega), hS, hO, Ow.nil fS_len fS_one, Ow.nil fS_len fS_one, Ow.nil fS_len fS_one, Ow.nil fS_len fS_one, Ow.nil fK_len fK_one, (fun x h => by cases h), (fun b e => e.elim), (fun b e => e.elim), (fun b e => e.elim), (fun b e => e.elim), (fun b e => e.elim), (fun b e => e.elim), (fun b e => e.elim), (fun b e => e.elim), (fun b e => e.elim), rfl, (by simp), Nx.refl _ _, Nx.refl _ _, Nx.refl _ _, Nx.refl _ _, Nx.refl _ _, Dj.z, Dj.z, Dj.z, Dj.z, Dj.z, Dj.z, Dj.z, Dj.z, Dj.z, Dj.z, Dj.z, Dj.z, Dj.z, Dj.z, Dj.z, Dj.z, Dj.z, Dj.z, Dj.z, Dj.z, Mo.refl _ _⟩
  rintro ⟨i, s0, k0, S0, s1, k1, S1, s2, k2, S2, s3, k3, S3, so, ko, l, G, at_⟩ HL1 hI1 K11 hN11 hE11
  obtain ⟨hi, hS, hO, o0, o1, o2, o3, ow, hx, bf_hx, fg0, fg1, fg2, fg3, fgw, fgS, fgO, hGm, hp, hsz, nxl_o0, nxl_o1, nxl_o2, nxl_o3, nxl_ow, dj_hS_o0, dj_hO_o0, dj_hS_o1, dj_hO_o1, dj_o0_o1, dj_hS_o2, dj_hO_o2, dj_o0_o2, dj_o1_o2, dj_hS_o3, dj_hO_o3, dj_o0_o3, dj_o1_o3, dj_o2_o3, dj_hS_ow, dj_hO_ow, dj_o0_ow, dj_o1_ow, dj_o2_ow, dj_o3_ow, hlm1⟩ := hI1
  have df10 := DF.app (DF.z) (bf_hb.mono hm0.size) nxl_o0
  have dj11 : Dj kl k0 := Dj.app (Dj.z) ol.le nxl_o0
  have nx12 : Nx 0 H0.size k0 := Nx.tr (Nx.refl 0 _) nxl_o0 hm0.size
  have df13 := DF.app (DF.z) (bf_hb.mono hm0.size) nxl_o1
  have dj14 : Dj kl k1 := Dj.app (Dj.z) ol.le nxl_o1
  have nx15 : Nx 0 H0.size k1 := Nx.tr (Nx.refl 0 _) nxl_o1 hm0.size
  have df16 := DF.app (DF.z) (bf_hb.mono hm0.size) nxl_o2
  have dj17 : Dj kl k2 := Dj.app (Dj.z) ol.le nxl_o2
  have nx18 : Nx 0 H0.size k2 := Nx.tr (Nx.refl 0 _) nxl_o2 hm0.size
  have df19 := DF.app (DF.z) (bf_hb.mono hm0.size) nxl_o3
  have dj20 : Dj kl k3 := Dj.app (Dj.z) ol.le nxl_o3
  have nx21 : Nx 0 H0.size k3 := Nx.tr (Nx.refl 0 _) nxl_o3 hm0.size
  have df22 := DF.app (DF.z) (bf_hb.mono hm0.size) nxl_ow
  have dj23 : Dj kl ko := Dj.app (Dj.z) ol.le nxl_ow
  have nx24 : Nx 0 H0.size ko := Nx.tr (Nx.refl 0 _) nxl_ow hm0.size
  replace hb := hb.upL hlm1 (DFL.cons df3 (DFL.cons df1 DFL.nil))
  replace ol := ol.upL hlm1 (DL.cons dj8.symm (DL.cons dj7.symm DL.nil))
  replace hm0 := (Mo.trL (ks := []) (hm0.mdn []) hlm1 (MIL.cons (MI.app MI.z (nx5) (Nat.le_refl _)) (MIL.cons (MI.app MI.z (nx2) (Nat.le_refl _)) MIL.nil))).nil
  have hz4 := hlm1.size
  have hle_o0 := o0.le
  have hle_o1 := o1.le
  have hle_o2 := o2.le
  have hle_o3 := o3.le
  have hle_ow := ow.le
  have dj25 := dj_hS_o0
  have dj26 := dj_hO_o0
  have dj27 := dj_hS_o1
  have dj28 := dj_hO_o1
  have dj29 := dj_o0_o1
  have dj30 := dj_hS_o2
  have dj31 := dj_hO_o2
  have dj32 := dj_o0_o2
  have dj33 := dj_o1_o2
  have dj34 := dj_hS_o3
  have dj35 := dj_hO_o3
  have dj36 := dj_o0_o3
  have dj37 := dj_o1_o3
  have dj38 := dj_o2_o3
  have dj39 := dj_hS_ow
  have dj40 := dj_hO_ow
  have dj41 := dj_o0_ow
  have dj42 := dj_o1_ow
  have dj43 := dj_o2_ow
  have dj44 := dj_o3_ow
  have nx_hlm1_hS := Nx.refl (H4.size + 1) H13.size
  have nx_hlm1_hO := Nx.refl (H0.size + 1) H13.size
  have nx45 := nxl_o0
  have nx46 := nxl_o1
  have nx47 := nxl_o2
  have nx48 := nxl_o3
  have nx49 := nxl_ow
  refine CW.seq (fun K12 hK12 hE12 => ?_)
  refine CW.region ?_
  refine LR.v (Y.lss rfl rfl rfl) (Wd.u rfl) rfl rfl ?_
  refine LR.nil ?_
  refine hK12 _ _ ?_
  refine CW.seq (fun K13 hK13 hE13 => ?_)
  refine CW.condp rfl (fun c16 => ?_) (fun c16 => ?_)
  ·
    refine CW.skip ?_
    refine hK13 _ _ ?_
    refine CW.seq (fun K14 hK14 hE14 => ?_)
    refine CW.block (fun K15 hK15 hX15 hE15 => ?_)
    refine CW.seq (fun K16 hK16 hE16 => ?_)
    refine CW.region ?_
    obtain ⟨z0, z1, z2, z3, zl, hat⟩ := hsz
    refine LR.v (Y.owAddr ol (i) rfl Try.runUnderlying32 Try.sizeOf9 rfl rfl (by first | rfl | omega) (by first | omega | (simp; omega) | (simp; done))) (Wd.u rfl) rfl rfl ?_
    refine LR.v (Y.load1 (ol.pt (j := i) (by first | omega | (simp; omega) | (simp; done))) rfl Try.isAgg9 rfl) (Wd.u rfl) rfl rfl ?_
    refine LR.v (Y.assign rfl rfl) (Wd.u rfl) rfl rfl ?_
    refine LR.nil ?_
    refine hK16 _ _ ?_
    refine CW.seq (fun K17 hK17 hE17 => ?_)
    refine CW.region ?_
    refine LR.v (Y.move rfl rfl) (Wd.u rfl) rfl rfl ?_
    -- call selvage/merge3.mark
    refine LR.call rfl Try.call40 rfl (Wd.u rfl) rfl rfl (markP_ct ls[i] w0 _ (by have := hsm ls[i] (List.getElem_mem (by omega)); omega)) (fun v20 H20 r20 => ?_)
    obtain ⟨rfl, hs20⟩ := r20
    replace hb := hb.nw hs20
    replace ol := ol.nw hs20
    replace hS := hS.nw hs20
    replace hO := hO.nw hs20
    replace o0 := o0.nw hs20
    replace o1 := o1.nw hs20
    replace o2 := o2.nw hs20
    replace o3 := o3.nw hs20
    replace ow := ow.nw hs20
    replace hx := fun x hx_ => (hx x hx_).nw hs20
    replace hm0 := hm0.tr hs20
    replace hlm1 := hlm1.trN hs20
    have hz5 := hs20.size
    have hmb := mark_bd ls[i]
    refine LR.v (Y.assign rfl rfl) (Wd.u rfl) rfl rfl ?_
    refine LR.nil ?_
    refine hK17 _ _ ?_
    refine CW.seq (fun K18 hK18 hE18 => ?_)
    refine CW.seq (fun K19 hK19 hE19 => ?_)
    refine CW.region ?_
    refine LR.v (Y.move rfl rfl) (Wd.u rfl) rfl rfl ?_
    refine LR.v (Y.lss rfl rfl rfl) (Wd.u rfl) rfl rfl ?_
    refine LR.nil ?_
    refine hK19 _ _ ?_
    refine CW.condp rfl (fun c22 => ?_) (fun c22 => ?_)
    ·
      rcases (show at_ = 0 ∨ at_ = 1 ∨ at_ = 2 ∨ at_ = 3 by omega) with rfl | rfl | rfl | rfl
      ·
        refine CW.seq (fun K20 hK20 hE20 => ?_)
        refine CW.region ?_
        refine LR.v (Y.move rfl rfl) (Wd.u rfl) rfl rfl ?_
        refine LR.v (Y.cast (v2 := .int .i64 0) (Y.move rfl rfl) (rfl)) (Wd.u rfl) rfl rfl ?_
        refine LR.v (Y.arrAddr hS.pt (0) rfl Try.runUnderlying71 Try.sizeOf32 rfl rfl (by first | rfl | omega) (by first | omega | (simp; omega) | (simp; done))) (Wd.u rfl) rfl rfl ?_
        refine LR.v (Y.load1 (hS.pt.at (0) (rfl)) rfl Try.isAgg32 rfl) (Wd.u rfl) rfl rfl ?_
        refine LR.v (Y.move rfl rfl) (Wd.u rfl) rfl rfl ?_
        refine LR.z (Z.litw _ ([ls[i]]) rfl inf32 rfl rfl rfl (by decide) (by decide) fS_len fS_one (rfl)) (Wd.u rfl) rfl rfl (fun v28 H28 r28 => ?_)
        obtain ⟨ow28, hs28, ob28, hH28⟩ := r28
        have hzs28 : H28.size = H20.size + 1 := by rw [hH28]; simp
        have df50 := (DF.new (bf_hb.mono hm0.size) : DF _ (H20.size + 1))
        have dj51 : Dj kl (H20.size + 1) := Dj.new ol.le
        have dj52 : Dj (H4.size + 1) (H20.size + 1) := Dj.new hS.lt
        have dj53 : Dj (H0.size + 1) (H20.size + 1) := Dj.new hO.lt
        have dj54 : Dj k0 (H20.size + 1) := Dj.new o0.le
        have dj55 : Dj k1 (H20.size + 1) := Dj.new o1.le
        have dj56 : Dj k2 (H20.size + 1) := Dj.new o2.le
        have dj57 : Dj k3 (H20.size + 1) := Dj.new o3.le
        have dj58 : Dj ko (H20.size + 1) := Dj.new ow.le
        have df59 := (DF.new (bf_hx.mono (by omega)) : DF _ (H20.size + 1))
        have nx60 : Nx 0 H0.size (H20.size + 1) := Nx.new hm0.size
        have nx61 : Nx 0 H13.size (H20.size + 1) := Nx.new hlm1.size
        replace hb := hb.nw hs28
        replace ol := ol.nw hs28
        replace hS := hS.nw hs28
        replace hO := hO.nw hs28
        replace o0 := o0.nw hs28
        replace o1 := o1.nw hs28
        replace o2 := o2.nw hs28
        replace o3 := o3.nw hs28
        replace ow := ow.nw hs28
        replace hx := fun x hx_ => (hx x hx_).nw hs28
        replace hm0 := hm0.tr hs28
        replace hlm1 := hlm1.trN hs28
        have hz6 := hs28.size
        refine LR.z (Z.apnd o0 ow28.rd rfl inf32 rfl rfl (by simp; omega) (by simp; omega)) (Wd.u rfl) rfl rfl (fun v29 H29 r29 => ?_)
        obtain ⟨k29, o0, hk29, hs29⟩ := r29
        replace hk29 : Nx k0 H28.size k29 := hk29
        replace hs29 := hs29.md
        have df62 := DF.app (df10) (bf_hb.mono hm0.size) hk29
        have dj63 : Dj kl k29 := Dj.app (dj11) ol.le hk29
        have dj64 : Dj (H4.size + 1) k29 := Dj.app (dj25) hS.lt hk29
        have dj65 : Dj (H0.size + 1) k29 := Dj.app (dj26) hO.lt hk29
        have dj66 : Dj k1 k29 := Dj.app (dj29.symm) o1.le hk29
        have dj67 : Dj k2 k29 := Dj.app (dj32.symm) o2.le hk29
        have dj68 : Dj k3 k29 := Dj.app (dj36.symm) o3.le hk29
        have dj69 : Dj ko k29 := Dj.app (dj41.symm) ow.le hk29
        have df70 := DF.app (fg0) (bf_hx.mono (by omega)) hk29
        have dj71 : Dj (H20.size + 1) k29 := Dj.app (dj54.symm) ow28.le hk29
        have nx72 : Nx 0 H0.size k29 := Nx.tr (nx12) hk29 hm0.size
        have nx73 : Nx 0 H13.size k29 := Nx.tr (nx45) hk29 hlm1.size
        replace hb := hb.upL hs29 (DFL.cons df10 DFL.nil)
        replace ol := ol.upL hs29 (DL.cons dj11 DL.nil)
        replace hS := hS.upL hs29 (DL.cons dj25 DL.nil)
        replace hO := hO.upL hs29 (DL.cons dj26 DL.nil)
        replace o1 := o1.upL hs29 (DL.cons dj29.symm DL.nil)
        replace o2 := o2.upL hs29 (DL.cons dj32.symm DL.nil)
        replace o3 := o3.upL hs29 (DL.cons dj36.symm DL.nil)
        replace ow := ow.upL hs29 (DL.cons dj41.symm DL.nil)
        replace hx := fun x hx_ => (hx x hx_).upL hs29 (DFL.cons fg0 DFL.nil)
        replace ow28 := ow28.upL hs29 (DL.cons dj54.symm DL.nil)
        replace hm0 := (Mo.trL (ks := []) (hm0.mdn []) hs29 (MIL.cons (MI.app MI.z (nx12) (Nat.le_refl _)) MIL.nil)).nil
        replace hlm1 := hlm1.trL hs29 (MIL.cons (MI.app MI.z (nx45) (Nat.le_refl _)) MIL.nil)
        have hz7 := hs29.size
        have hle_o0 := o0.le
        obtain ⟨s29, rfl⟩ : ∃ s : SV, v29 = s.v := ⟨toSV v29, o0.sv.symm⟩
        refine LR.v (Y.arrAddr hS.pt (0) rfl Try.runUnderlying71 Try.sizeOf32 rfl rfl (by first | rfl | omega) (by first | omega | (simp; omega) | (simp; done))) (Wd.u rfl) rfl rfl ?_
        refine LR.s (S.var1 hS (0 + (0)) ([s29.v, s1.v, s2.v, s3.v]) rfl rfl rfl (rfl) Try.sizeOf32 (by simp) (rfl)) (Wd.u rfl) rfl (fun H10_8 r10_8 => ?_)
        obtain ⟨hS, hs10_8⟩ := r10_8
        replace hs10_8 := hs10_8.md1
        replace hb := hb.upL hs10_8 (DFL.cons df3 DFL.nil)
        replace ol := ol.upL hs10_8 (DL.cons dj8.symm DL.nil)
        replace hO := hO.upL hs10_8 (DL.cons dj4 DL.nil)
        replace o0 := o0.upL hs10_8 (DL.cons dj64.symm DL.nil)
        replace o1 := o1.upL hs10_8 (DL.cons dj27.symm DL.nil)
        replace o2 := o2.upL hs10_8 (DL.cons dj30.symm DL.nil)
        replace o3 := o3.upL hs10_8 (DL.cons dj34.symm DL.nil)
        replace ow := ow.upL hs10_8 (DL.cons dj39.symm DL.nil)
        replace hx := fun x hx_ => (hx x hx_).upL hs10_8 (DFL.cons fgS DFL.nil)
        replace ow28 := ow28.upL hs10_8 (DL.cons dj52.symm DL.nil)
        replace hm0 := (Mo.trL (ks := []) (hm0.mdn []) hs10_8 (MIL.cons (MI.app MI.z (nx5) (Nat.le_refl _)) MIL.nil)).nil
        replace hlm1 := hlm1.trL hs10_8 (MIL.cons (MI.app (MI.root (by simp)) (nx_hlm1_hS) (Nat.le_refl _)) MIL.nil)
        have hz8 := hs10_8.size
        refine LR.nil ?_
        refine hK20 _ _ ?_
        refine CW.exit (hE18 (.exit 1) nofun _ _ (hX15 _ _ ?_))
        refine hK14 _ _ ?_
        refine CW.region ?_
        refine LR.v (Y.addi rfl rfl rfl (by omega)) (Wd.u rfl) rfl rfl ?_
        refine LR.v (Y.move rfl rfl) (Wd.u rfl) rfl rfl ?_
        refine LR.nil ?_
        have hgo := (prun_snoc ls i (by omega) _ hp).trans (pstp_no (by omega))
        refine QN.sub (hN11 (i + 1, s29, k29, S0 ++ [ls[i]], s1, k1, S1, s2, k2, S2, s3, k3, S3, so, ko, l, G, 0) _ ?_ ?_) ⟨rfl, rfl, (iv (by omega)), rfl, rfl, (iv (by omega)), (iv (by omega)), trivial⟩
        · exact ⟨(by omega), hS, hO, o0, o1, o2, o3, ow, hx, (bf_hx.mono (by omega)), df70, fg1, fg2, fg3, fgw, fgS, fgO, (by omega), hgo, (by first | omega | (simp only [List.length_append, List.length_singleton]; omega)), nx73, nx46, nx47, nx48, nx49, dj64, dj65, dj27, dj28, dj66.symm, dj30, dj31, dj67.symm, dj33, dj34, dj35, dj68.symm, dj37, dj38, dj39, dj40, dj69.symm, dj42, dj43, dj44, hlm1⟩
        · first | omega | (simp only; omega) | (simp; omega)
      ·
        refine CW.seq (fun K21 hK21 hE21 => ?_)
        refine CW.region ?_
        refine LR.v (Y.move rfl rfl) (Wd.u rfl) rfl rfl ?_
        refine LR.v (Y.cast (v2 := .int .i64 1) (Y.move rfl rfl) (rfl)) (Wd.u rfl) rfl rfl ?_
        refine LR.v (Y.arrAddr hS.pt (1) rfl Try.runUnderlying71 Try.sizeOf32 rfl rfl (by first | rfl | omega) (by first | omega | (simp; omega) | (simp; done))) (Wd.u rfl) rfl rfl ?_
        refine LR.v (Y.load1 (hS.pt.at (1) (rfl)) rfl Try.isAgg32 rfl) (Wd.u rfl) rfl rfl ?_
        refine LR.v (Y.move rfl rfl) (Wd.u rfl) rfl rfl ?_
        refine LR.z (Z.litw _ ([ls[i]]) rfl inf32 rfl rfl rfl (by decide) (by decide) fS_len fS_one (rfl)) (Wd.u rfl) rfl rfl (fun v28 H28 r28 => ?_)
        obtain ⟨ow28, hs28, ob28, hH28⟩ := r28
        have hzs28 : H28.size = H20.size + 1 := by rw [hH28]; simp
        have df74 := (DF.new (bf_hb.mono hm0.size) : DF _ (H20.size + 1))
        have dj75 : Dj kl (H20.size + 1) := Dj.new ol.le
        have dj76 : Dj (H4.size + 1) (H20.size + 1) := Dj.new hS.lt
        have dj77 : Dj (H0.size + 1) (H20.size + 1) := Dj.new hO.lt
        have dj78 : Dj k0 (H20.size + 1) := Dj.new o0.le
        have dj79 : Dj k1 (H20.size + 1) := Dj.new o1.le
        have dj80 : Dj k2 (H20.size + 1) := Dj.new o2.le
        have dj81 : Dj k3 (H20.size + 1) := Dj.new o3.le
        have dj82 : Dj ko (H20.size + 1) := Dj.new ow.le
        have df83 := (DF.new (bf_hx.mono (by omega)) : DF _ (H20.size + 1))
        have nx84 : Nx 0 H0.size (H20.size + 1) := Nx.new hm0.size
        have nx85 : Nx 0 H13.size (H20.size + 1) := Nx.new hlm1.size
        replace hb := hb.nw hs28
        replace ol := ol.nw hs28
        replace hS := hS.nw hs28
        replace hO := hO.nw hs28
        replace o0 := o0.nw hs28
        replace o1 := o1.nw hs28
        replace o2 := o2.nw hs28
        replace o3 := o3.nw hs28
        replace ow := ow.nw hs28
        replace hx := fun x hx_ => (hx x hx_).nw hs28
        replace hm0 := hm0.tr hs28
        replace hlm1 := hlm1.trN hs28
        have hz9 := hs28.size
        refine LR.z (Z.apnd o1 ow28.rd rfl inf32 rfl rfl (by simp; omega) (by simp; omega)) (Wd.u rfl) rfl rfl (fun v29 H29 r29 => ?_)
        obtain ⟨k29, o1, hk29, hs29⟩ := r29
        replace hk29 : Nx k1 H28.size k29 := hk29
        replace hs29 := hs29.md
        have df86 := DF.app (df13) (bf_hb.mono hm0.size) hk29
        have dj87 : Dj kl k29 := Dj.app (dj14) ol.le hk29
        have dj88 : Dj (H4.size + 1) k29 := Dj.app (dj27) hS.lt hk29
        have dj89 : Dj (H0.size + 1) k29 := Dj.app (dj28) hO.lt hk29
        have dj90 : Dj k0 k29 := Dj.app (dj29) o0.le hk29
        have dj91 : Dj k2 k29 := Dj.app (dj33.symm) o2.le hk29
        have dj92 : Dj k3 k29 := Dj.app (dj37.symm) o3.le hk29
        have dj93 : Dj ko k29 := Dj.app (dj42.symm) ow.le hk29
        have df94 := DF.app (fg1) (bf_hx.mono (by omega)) hk29
        have dj95 : Dj (H20.size + 1) k29 := Dj.app (dj79.symm) ow28.le hk29
        have nx96 : Nx 0 H0.size k29 := Nx.tr (nx15) hk29 hm0.size
        have nx97 : Nx 0 H13.size k29 := Nx.tr (nx46) hk29 hlm1.size
        replace hb := hb.upL hs29 (DFL.cons df13 DFL.nil)
        replace ol := ol.upL hs29 (DL.cons dj14 DL.nil)
        replace hS := hS.upL hs29 (DL.cons dj27 DL.nil)
        replace hO := hO.upL hs29 (DL.cons dj28 DL.nil)
        replace o0 := o0.upL hs29 (DL.cons dj29 DL.nil)
        replace o2 := o2.upL hs29 (DL.cons dj33.symm DL.nil)
        replace o3 := o3.upL hs29 (DL.cons dj37.symm DL.nil)
        replace ow := ow.upL hs29 (DL.cons dj42.symm DL.nil)
        replace hx := fun x hx_ => (hx x hx_).upL hs29 (DFL.cons fg1 DFL.nil)
        replace ow28 := ow28.upL hs29 (DL.cons dj79.symm DL.nil)
        replace hm0 := (Mo.trL (ks := []) (hm0.mdn []) hs29 (MIL.cons (MI.app MI.z (nx15) (Nat.le_refl _)) MIL.nil)).nil
        replace hlm1 := hlm1.trL hs29 (MIL.cons (MI.app MI.z (nx46) (Nat.le_refl _)) MIL.nil)
        have hz10 := hs29.size
        have hle_o1 := o1.le
        obtain ⟨s29, rfl⟩ : ∃ s : SV, v29 = s.v := ⟨toSV v29, o1.sv.symm⟩
        refine LR.v (Y.arrAddr hS.pt (1) rfl Try.runUnderlying71 Try.sizeOf32 rfl rfl (by first | rfl | omega) (by first | omega | (simp; omega) | (simp; done))) (Wd.u rfl) rfl rfl ?_
        refine LR.s (S.var1 hS (0 + (1)) ([s0.v, s29.v, s2.v, s3.v]) rfl rfl rfl (rfl) Try.sizeOf32 (by simp) (rfl)) (Wd.u rfl) rfl (fun H10_8 r10_8 => ?_)
        obtain ⟨hS, hs10_8⟩ := r10_8
        replace hs10_8 := hs10_8.md1
        replace hb := hb.upL hs10_8 (DFL.cons df3 DFL.nil)
        replace ol := ol.upL hs10_8 (DL.cons dj8.symm DL.nil)
        replace hO := hO.upL hs10_8 (DL.cons dj4 DL.nil)
        replace o0 := o0.upL hs10_8 (DL.cons dj25.symm DL.nil)
        replace o1 := o1.upL hs10_8 (DL.cons dj88.symm DL.nil)
        replace o2 := o2.upL hs10_8 (DL.cons dj30.symm DL.nil)
        replace o3 := o3.upL hs10_8 (DL.cons dj34.symm DL.nil)
        replace ow := ow.upL hs10_8 (DL.cons dj39.symm DL.nil)
        replace hx := fun x hx_ => (hx x hx_).upL hs10_8 (DFL.cons fgS DFL.nil)
        replace ow28 := ow28.upL hs10_8 (DL.cons dj76.symm DL.nil)
        replace hm0 := (Mo.trL (ks := []) (hm0.mdn []) hs10_8 (MIL.cons (MI.app MI.z (nx5) (Nat.le_refl _)) MIL.nil)).nil
        replace hlm1 := hlm1.trL hs10_8 (MIL.cons (MI.app (MI.root (by simp)) (nx_hlm1_hS) (Nat.le_refl _)) MIL.nil)
        have hz11 := hs10_8.size
        refine LR.nil ?_
        refine hK21 _ _ ?_
        refine CW.exit (hE18 (.exit 1) nofun _ _ (hX15 _ _ ?_))
        refine hK14 _ _ ?_
        refine CW.region ?_
        refine LR.v (Y.addi rfl rfl rfl (by omega)) (Wd.u rfl) rfl rfl ?_
        refine LR.v (Y.move rfl rfl) (Wd.u rfl) rfl rfl ?_
        refine LR.nil ?_
        have hgo := (prun_snoc ls i (by omega) _ hp).trans (pstp_no (by omega))
        refine QN.sub (hN11 (i + 1, s0, k0, S0, s29, k29, S1 ++ [ls[i]], s2, k2, S2, s3, k3, S3, so, ko, l, G, 1) _ ?_ ?_) ⟨rfl, rfl, (iv (by omega)), rfl, rfl, (iv (by omega)), (iv (by omega)), trivial⟩
        · exact ⟨(by omega), hS, hO, o0, o1, o2, o3, ow, hx, (bf_hx.mono (by omega)), fg0, df94, fg2, fg3, fgw, fgS, fgO, (by omega), hgo, (by first | omega | (simp only [List.length_append, List.length_singleton]; omega)), nx45, nx97, nx47, nx48, nx49, dj25, dj26, dj88, dj89, dj90, dj30, dj31, dj32, dj91.symm, dj34, dj35, dj36, dj92.symm, dj38, dj39, dj40, dj41, dj93.symm, dj43, dj44, hlm1⟩
        · first | omega | (simp only; omega) | (simp; omega)
      ·
        refine CW.seq (fun K22 hK22 hE22 => ?_)
        refine CW.region ?_
        refine LR.v (Y.move rfl rfl) (Wd.u rfl) rfl rfl ?_
        refine LR.v (Y.cast (v2 := .int .i64 2) (Y.move rfl rfl) (rfl)) (Wd.u rfl) rfl rfl ?_
        refine LR.v (Y.arrAddr hS.pt (2) rfl Try.runUnderlying71 Try.sizeOf32 rfl rfl (by first | rfl | omega) (by first | omega | (simp; omega) | (simp; done))) (Wd.u rfl) rfl rfl ?_
        refine LR.v (Y.load1 (hS.pt.at (2) (rfl)) rfl Try.isAgg32 rfl) (Wd.u rfl) rfl rfl ?_
        refine LR.v (Y.move rfl rfl) (Wd.u rfl) rfl rfl ?_
        refine LR.z (Z.litw _ ([ls[i]]) rfl inf32 rfl rfl rfl (by decide) (by decide) fS_len fS_one (rfl)) (Wd.u rfl) rfl rfl (fun v28 H28 r28 => ?_)
        obtain ⟨ow28, hs28, ob28, hH28⟩ := r28
        have hzs28 : H28.size = H20.size + 1 := by rw [hH28]; simp
        have df98 := (DF.new (bf_hb.mono hm0.size) : DF _ (H20.size + 1))
        have dj99 : Dj kl (H20.size + 1) := Dj.new ol.le
        have dj100 : Dj (H4.size + 1) (H20.size + 1) := Dj.new hS.lt
        have dj101 : Dj (H0.size + 1) (H20.size + 1) := Dj.new hO.lt
        have dj102 : Dj k0 (H20.size + 1) := Dj.new o0.le
        have dj103 : Dj k1 (H20.size + 1) := Dj.new o1.le
        have dj104 : Dj k2 (H20.size + 1) := Dj.new o2.le
        have dj105 : Dj k3 (H20.size + 1) := Dj.new o3.le
        have dj106 : Dj ko (H20.size + 1) := Dj.new ow.le
        have df107 := (DF.new (bf_hx.mono (by omega)) : DF _ (H20.size + 1))
        have nx108 : Nx 0 H0.size (H20.size + 1) := Nx.new hm0.size
        have nx109 : Nx 0 H13.size (H20.size + 1) := Nx.new hlm1.size
        replace hb := hb.nw hs28
        replace ol := ol.nw hs28
        replace hS := hS.nw hs28
        replace hO := hO.nw hs28
        replace o0 := o0.nw hs28
        replace o1 := o1.nw hs28
        replace o2 := o2.nw hs28
        replace o3 := o3.nw hs28
        replace ow := ow.nw hs28
        replace hx := fun x hx_ => (hx x hx_).nw hs28
        replace hm0 := hm0.tr hs28
        replace hlm1 := hlm1.trN hs28
        have hz12 := hs28.size
        refine LR.z (Z.apnd o2 ow28.rd rfl inf32 rfl rfl (by simp; omega) (by simp; omega)) (Wd.u rfl) rfl rfl (fun v29 H29 r29 => ?_)
        obtain ⟨k29, o2, hk29, hs29⟩ := r29
        replace hk29 : Nx k2 H28.size k29 := hk29
        replace hs29 := hs29.md
        have df110 := DF.app (df16) (bf_hb.mono hm0.size) hk29
        have dj111 : Dj kl k29 := Dj.app (dj17) ol.le hk29
        have dj112 : Dj (H4.size + 1) k29 := Dj.app (dj30) hS.lt hk29
        have dj113 : Dj (H0.size + 1) k29 := Dj.app (dj31) hO.lt hk29
        have dj114 : Dj k0 k29 := Dj.app (dj32) o0.le hk29
        have dj115 : Dj k1 k29 := Dj.app (dj33) o1.le hk29
        have dj116 : Dj k3 k29 := Dj.app (dj38.symm) o3.le hk29
        have dj117 : Dj ko k29 := Dj.app (dj43.symm) ow.le hk29
        have df118 := DF.app (fg2) (bf_hx.mono (by omega)) hk29
        have dj119 : Dj (H20.size + 1) k29 := Dj.app (dj104.symm) ow28.le hk29
        have nx120 : Nx 0 H0.size k29 := Nx.tr (nx18) hk29 hm0.size
        have nx121 : Nx 0 H13.size k29 := Nx.tr (nx47) hk29 hlm1.size
        replace hb := hb.upL hs29 (DFL.cons df16 DFL.nil)
        replace ol := ol.upL hs29 (DL.cons dj17 DL.nil)
        replace hS := hS.upL hs29 (DL.cons dj30 DL.nil)
        replace hO := hO.upL hs29 (DL.cons dj31 DL.nil)
        replace o0 := o0.upL hs29 (DL.cons dj32 DL.nil)
        replace o1 := o1.upL hs29 (DL.cons dj33 DL.nil)
        replace o3 := o3.upL hs29 (DL.cons dj38.symm DL.nil)
        replace ow := ow.upL hs29 (DL.cons dj43.symm DL.nil)
        replace hx := fun x hx_ => (hx x hx_).upL hs29 (DFL.cons fg2 DFL.nil)
        replace ow28 := ow28.upL hs29 (DL.cons dj104.symm DL.nil)
        replace hm0 := (Mo.trL (ks := []) (hm0.mdn []) hs29 (MIL.cons (MI.app MI.z (nx18) (Nat.le_refl _)) MIL.nil)).nil
        replace hlm1 := hlm1.trL hs29 (MIL.cons (MI.app MI.z (nx47) (Nat.le_refl _)) MIL.nil)
        have hz13 := hs29.size
        have hle_o2 := o2.le
        obtain ⟨s29, rfl⟩ : ∃ s : SV, v29 = s.v := ⟨toSV v29, o2.sv.symm⟩
        refine LR.v (Y.arrAddr hS.pt (2) rfl Try.runUnderlying71 Try.sizeOf32 rfl rfl (by first | rfl | omega) (by first | omega | (simp; omega) | (simp; done))) (Wd.u rfl) rfl rfl ?_
        refine LR.s (S.var1 hS (0 + (2)) ([s0.v, s1.v, s29.v, s3.v]) rfl rfl rfl (rfl) Try.sizeOf32 (by simp) (rfl)) (Wd.u rfl) rfl (fun H10_8 r10_8 => ?_)
        obtain ⟨hS, hs10_8⟩ := r10_8
        replace hs10_8 := hs10_8.md1
        replace hb := hb.upL hs10_8 (DFL.cons df3 DFL.nil)
        replace ol := ol.upL hs10_8 (DL.cons dj8.symm DL.nil)
        replace hO := hO.upL hs10_8 (DL.cons dj4 DL.nil)
        replace o0 := o0.upL hs10_8 (DL.cons dj25.symm DL.nil)
        replace o1 := o1.upL hs10_8 (DL.cons dj27.symm DL.nil)
        replace o2 := o2.upL hs10_8 (DL.cons dj112.symm DL.nil)
        replace o3 := o3.upL hs10_8 (DL.cons dj34.symm DL.nil)
        replace ow := ow.upL hs10_8 (DL.cons dj39.symm DL.nil)
        replace hx := fun x hx_ => (hx x hx_).upL hs10_8 (DFL.cons fgS DFL.nil)
        replace ow28 := ow28.upL hs10_8 (DL.cons dj100.symm DL.nil)
        replace hm0 := (Mo.trL (ks := []) (hm0.mdn []) hs10_8 (MIL.cons (MI.app MI.z (nx5) (Nat.le_refl _)) MIL.nil)).nil
        replace hlm1 := hlm1.trL hs10_8 (MIL.cons (MI.app (MI.root (by simp)) (nx_hlm1_hS) (Nat.le_refl _)) MIL.nil)
        have hz14 := hs10_8.size
        refine LR.nil ?_
        refine hK22 _ _ ?_
        refine CW.exit (hE18 (.exit 1) nofun _ _ (hX15 _ _ ?_))
        refine hK14 _ _ ?_
        refine CW.region ?_
        refine LR.v (Y.addi rfl rfl rfl (by omega)) (Wd.u rfl) rfl rfl ?_
        refine LR.v (Y.move rfl rfl) (Wd.u rfl) rfl rfl ?_
        refine LR.nil ?_
        have hgo := (prun_snoc ls i (by omega) _ hp).trans (pstp_no (by omega))
        refine QN.sub (hN11 (i + 1, s0, k0, S0, s1, k1, S1, s29, k29, S2 ++ [ls[i]], s3, k3, S3, so, ko, l, G, 2) _ ?_ ?_) ⟨rfl, rfl, (iv (by omega)), rfl, rfl, (iv (by omega)), (iv (by omega)), trivial⟩
        · exact ⟨(by omega), hS, hO, o0, o1, o2, o3, ow, hx, (bf_hx.mono (by omega)), fg0, fg1, df118, fg3, fgw, fgS, fgO, (by omega), hgo, (by first | omega | (simp only [List.length_append, List.length_singleton]; omega)), nx45, nx46, nx121, nx48, nx49, dj25, dj26, dj27, dj28, dj29, dj112, dj113, dj114, dj115, dj34, dj35, dj36, dj37, dj116.symm, dj39, dj40, dj41, dj42, dj117.symm, dj44, hlm1⟩
        · first | omega | (simp only; omega) | (simp; omega)
      ·
        refine CW.seq (fun K23 hK23 hE23 => ?_)
        refine CW.region ?_
        refine LR.v (Y.move rfl rfl) (Wd.u rfl) rfl rfl ?_
        refine LR.v (Y.cast (v2 := .int .i64 3) (Y.move rfl rfl) (rfl)) (Wd.u rfl) rfl rfl ?_
        refine LR.v (Y.arrAddr hS.pt (3) rfl Try.runUnderlying71 Try.sizeOf32 rfl rfl (by first | rfl | omega) (by first | omega | (simp; omega) | (simp; done))) (Wd.u rfl) rfl rfl ?_
        refine LR.v (Y.load1 (hS.pt.at (3) (rfl)) rfl Try.isAgg32 rfl) (Wd.u rfl) rfl rfl ?_
        refine LR.v (Y.move rfl rfl) (Wd.u rfl) rfl rfl ?_
        refine LR.z (Z.litw _ ([ls[i]]) rfl inf32 rfl rfl rfl (by decide) (by decide) fS_len fS_one (rfl)) (Wd.u rfl) rfl rfl (fun v28 H28 r28 => ?_)
        obtain ⟨ow28, hs28, ob28, hH28⟩ := r28
        have hzs28 : H28.size = H20.size + 1 := by rw [hH28]; simp
        have df122 := (DF.new (bf_hb.mono hm0.size) : DF _ (H20.size + 1))
        have dj123 : Dj kl (H20.size + 1) := Dj.new ol.le
        have dj124 : Dj (H4.size + 1) (H20.size + 1) := Dj.new hS.lt
        have dj125 : Dj (H0.size + 1) (H20.size + 1) := Dj.new hO.lt
        have dj126 : Dj k0 (H20.size + 1) := Dj.new o0.le
        have dj127 : Dj k1 (H20.size + 1) := Dj.new o1.le
        have dj128 : Dj k2 (H20.size + 1) := Dj.new o2.le
        have dj129 : Dj k3 (H20.size + 1) := Dj.new o3.le
        have dj130 : Dj ko (H20.size + 1) := Dj.new ow.le
        have df131 := (DF.new (bf_hx.mono (by omega)) : DF _ (H20.size + 1))
        have nx132 : Nx 0 H0.size (H20.size + 1) := Nx.new hm0.size
        have nx133 : Nx 0 H13.size (H20.size + 1) := Nx.new hlm1.size
        replace hb := hb.nw hs28
        replace ol := ol.nw hs28
        replace hS := hS.nw hs28
        replace hO := hO.nw hs28
        replace o0 := o0.nw hs28
        replace o1 := o1.nw hs28
        replace o2 := o2.nw hs28
        replace o3 := o3.nw hs28
        replace ow := ow.nw hs28
        replace hx := fun x hx_ => (hx x hx_).nw hs28
        replace hm0 := hm0.tr hs28
        replace hlm1 := hlm1.trN hs28
        have hz15 := hs28.size
        refine LR.z (Z.apnd o3 ow28.rd rfl inf32 rfl rfl (by simp; omega) (by simp; omega)) (Wd.u rfl) rfl rfl (fun v29 H29 r29 => ?_)
        obtain ⟨k29, o3, hk29, hs29⟩ := r29
        replace hk29 : Nx k3 H28.size k29 := hk29
        replace hs29 := hs29.md
        have df134 := DF.app (df19) (bf_hb.mono hm0.size) hk29
        have dj135 : Dj kl k29 := Dj.app (dj20) ol.le hk29
        have dj136 : Dj (H4.size + 1) k29 := Dj.app (dj34) hS.lt hk29
        have dj137 : Dj (H0.size + 1) k29 := Dj.app (dj35) hO.lt hk29
        have dj138 : Dj k0 k29 := Dj.app (dj36) o0.le hk29
        have dj139 : Dj k1 k29 := Dj.app (dj37) o1.le hk29
        have dj140 : Dj k2 k29 := Dj.app (dj38) o2.le hk29
        have dj141 : Dj ko k29 := Dj.app (dj44.symm) ow.le hk29
        have df142 := DF.app (fg3) (bf_hx.mono (by omega)) hk29
        have dj143 : Dj (H20.size + 1) k29 := Dj.app (dj129.symm) ow28.le hk29
        have nx144 : Nx 0 H0.size k29 := Nx.tr (nx21) hk29 hm0.size
        have nx145 : Nx 0 H13.size k29 := Nx.tr (nx48) hk29 hlm1.size
        replace hb := hb.upL hs29 (DFL.cons df19 DFL.nil)
        replace ol := ol.upL hs29 (DL.cons dj20 DL.nil)
        replace hS := hS.upL hs29 (DL.cons dj34 DL.nil)
        replace hO := hO.upL hs29 (DL.cons dj35 DL.nil)
        replace o0 := o0.upL hs29 (DL.cons dj36 DL.nil)
        replace o1 := o1.upL hs29 (DL.cons dj37 DL.nil)
        replace o2 := o2.upL hs29 (DL.cons dj38 DL.nil)
        replace ow := ow.upL hs29 (DL.cons dj44.symm DL.nil)
        replace hx := fun x hx_ => (hx x hx_).upL hs29 (DFL.cons fg3 DFL.nil)
        replace ow28 := ow28.upL hs29 (DL.cons dj129.symm DL.nil)
        replace hm0 := (Mo.trL (ks := []) (hm0.mdn []) hs29 (MIL.cons (MI.app MI.z (nx21) (Nat.le_refl _)) MIL.nil)).nil
        replace hlm1 := hlm1.trL hs29 (MIL.cons (MI.app MI.z (nx48) (Nat.le_refl _)) MIL.nil)
        have hz16 := hs29.size
        have hle_o3 := o3.le
        obtain ⟨s29, rfl⟩ : ∃ s : SV, v29 = s.v := ⟨toSV v29, o3.sv.symm⟩
        refine LR.v (Y.arrAddr hS.pt (3) rfl Try.runUnderlying71 Try.sizeOf32 rfl rfl (by first | rfl | omega) (by first | omega | (simp; omega) | (simp; done))) (Wd.u rfl) rfl rfl ?_
        refine LR.s (S.var1 hS (0 + (3)) ([s0.v, s1.v, s2.v, s29.v]) rfl rfl rfl (rfl) Try.sizeOf32 (by simp) (rfl)) (Wd.u rfl) rfl (fun H10_8 r10_8 => ?_)
        obtain ⟨hS, hs10_8⟩ := r10_8
        replace hs10_8 := hs10_8.md1
        replace hb := hb.upL hs10_8 (DFL.cons df3 DFL.nil)
        replace ol := ol.upL hs10_8 (DL.cons dj8.symm DL.nil)
        replace hO := hO.upL hs10_8 (DL.cons dj4 DL.nil)
        replace o0 := o0.upL hs10_8 (DL.cons dj25.symm DL.nil)
        replace o1 := o1.upL hs10_8 (DL.cons dj27.symm DL.nil)
        replace o2 := o2.upL hs10_8 (DL.cons dj30.symm DL.nil)
        replace o3 := o3.upL hs10_8 (DL.cons dj136.symm DL.nil)
        replace ow := ow.upL hs10_8 (DL.cons dj39.symm DL.nil)
        replace hx := fun x hx_ => (hx x hx_).upL hs10_8 (DFL.cons fgS DFL.nil)
        replace ow28 := ow28.upL hs10_8 (DL.cons dj124.symm DL.nil)
        replace hm0 := (Mo.trL (ks := []) (hm0.mdn []) hs10_8 (MIL.cons (MI.app MI.z (nx5) (Nat.le_refl _)) MIL.nil)).nil
        replace hlm1 := hlm1.trL hs10_8 (MIL.cons (MI.app (MI.root (by simp)) (nx_hlm1_hS) (Nat.le_refl _)) MIL.nil)
        have hz17 := hs10_8.size
        refine LR.nil ?_
        refine hK23 _ _ ?_
        refine CW.exit (hE18 (.exit 1) nofun _ _ (hX15 _ _ ?_))
        refine hK14 _ _ ?_
        refine CW.region ?_
        refine LR.v (Y.addi rfl rfl rfl (by omega)) (Wd.u rfl) rfl rfl ?_
        refine LR.v (Y.move rfl rfl) (Wd.u rfl) rfl rfl ?_
        refine LR.nil ?_
        have hgo := (prun_snoc ls i (by omega) _ hp).trans (pstp_no (by omega))
        refine QN.sub (hN11 (i + 1, s0, k0, S0, s1, k1, S1, s2, k2, S2, s29, k29, S3 ++ [ls[i]], so, ko, l, G, 3) _ ?_ ?_) ⟨rfl, rfl, (iv (by omega)), rfl, rfl, (iv (by omega)), (iv (by omega)), trivial⟩
        · exact ⟨(by omega), hS, hO, o0, o1, o2, o3, ow, hx, (bf_hx.mono (by omega)), fg0, fg1, fg2, df142, fgw, fgS, fgO, (by omega), hgo, (by first | omega | (simp only [List.length_append, List.length_singleton]; omega)), nx45, nx46, nx47, nx145, nx49, dj25, dj26, dj27, dj28, dj29, dj30, dj31, dj32, dj33, dj136, dj137, dj138, dj139, dj140, dj39, dj40, dj41, dj42, dj43, dj141.symm, hlm1⟩
        · first | omega | (simp only; omega) | (simp; omega)
    ·
      refine CW.skip ?_
      refine hK18 _ _ ?_
      refine CW.seq (fun K24 hK24 hE24 => ?_)
      refine CW.seq (fun K25 hK25 hE25 => ?_)
      refine CW.region ?_
      refine LR.v (Y.move rfl rfl) (Wd.u rfl) rfl rfl ?_
      refine LR.v (Y.move rfl rfl) (Wd.u rfl) rfl rfl ?_
      refine LR.v (Y.addi rfl rfl rfl (by omega)) (Wd.u rfl) rfl rfl ?_
      refine LR.v (Y.remi rfl rfl rfl (by omega)) (Wd.u rfl) rfl rfl ?_
      refine LR.v (Y.neq rfl rfl rfl) (Wd.u rfl) rfl rfl ?_
      refine LR.v (Y.move rfl rfl) (Wd.u rfl) rfl rfl ?_
      refine LR.splitp (d := 36) rfl (fun g36 => ?_) (fun g36 => ?_)
      ·
        refine LR.gs rfl rfl rfl rfl rfl rfl ?_
        refine LR.gs rfl rfl rfl rfl rfl rfl ?_
        refine LR.gs rfl rfl rfl rfl rfl rfl ?_
        refine LR.v (Y.pick_t rfl rfl rfl) (Wd.u rfl) rfl rfl ?_
        refine LR.nil ?_
        refine hK25 _ _ ?_
        refine CW.cond_t rfl ?_
        refine CW.seq (fun K26 hK26 hE26 => ?_)
        refine CW.region ?_
        refine LR.v (Y.assign rfl rfl) (Wd.u rfl) rfl rfl ?_
        refine LR.v (Y.assign rfl rfl) (Wd.u rfl) rfl rfl ?_
        refine LR.nil ?_
        refine hK26 _ _ ?_
        refine CW.ret (hE24 .ret nofun _ _ (hE15 .ret nofun (by simp) _ _ (hE14 .ret nofun _ _ (hE11 .ret nofun _ _ (hE10 .ret nofun (by simp) _ _ (hE8 .ret nofun _ _ (hE2 .ret nofun nofun _ _ (hret .ret (.inr rfl) _ _ _ (res2 rfl rfl rfl) ?_))))))))
        exact ⟨.slice none 0 0, [], 25, rfl, by rw [parseL, hls, prun_cut ls (i + 1) ((prun_snoc ls i (by omega) _ hp).trans (pstp_bad (by omega) (by first | exact .inl (by simpa using (show markL ls[i] ≠ ((at_ + 1) % 4 : Nat) by omega)) | exact .inr (by simpa using c40) | exact .inr (by assumption))))]; rfl, Rd.nil _ _ _ _, (fun x e => by cases e), hm0⟩
      ·
        refine LR.v (Y.move rfl rfl) (Wd.g rfl rfl rfl) rfl rfl ?_
        -- call strings.HasSuffix
        refine LR.call rfl Try.call41 rfl (Wd.g rfl rfl rfl) rfl rfl (hasSuf_ct ls[i] [10] w0 _ (by have := hsm ls[i] (List.getElem_mem (by omega)); omega) (by decide)) (fun v38 H38 r38 => ?_)
        obtain ⟨rfl, hs38⟩ := r38
        replace hb := hb.nw hs38
        replace ol := ol.nw hs38
        replace hS := hS.nw hs38
        replace hO := hO.nw hs38
        replace o0 := o0.nw hs38
        replace o1 := o1.nw hs38
        replace o2 := o2.nw hs38
        replace o3 := o3.nw hs38
        replace ow := ow.nw hs38
        replace hx := fun x hx_ => (hx x hx_).nw hs38
        replace hm0 := hm0.tr hs38
        replace hlm1 := hlm1.trN hs38
        have hz18 := hs38.size
        refine LR.v (Y.not rfl rfl) (Wd.g rfl rfl rfl) rfl rfl ?_
        refine LR.v (Y.pick_f rfl rfl rfl) (Wd.u rfl) rfl rfl ?_
        refine LR.nil ?_
        refine hK25 _ _ ?_
        refine CW.cond rfl (fun c40 => ?_) (fun c40 => ?_)
        ·
          refine CW.seq (fun K27 hK27 hE27 => ?_)
          refine CW.region ?_
          refine LR.v (Y.assign rfl rfl) (Wd.u rfl) rfl rfl ?_
          refine LR.v (Y.assign rfl rfl) (Wd.u rfl) rfl rfl ?_
          refine LR.nil ?_
          refine hK27 _ _ ?_
          refine CW.ret (hE24 .ret nofun _ _ (hE15 .ret nofun (by simp) _ _ (hE14 .ret nofun _ _ (hE11 .ret nofun _ _ (hE10 .ret nofun (by simp) _ _ (hE8 .ret nofun _ _ (hE2 .ret nofun nofun _ _ (hret .ret (.inr rfl) _ _ _ (res2 rfl rfl rfl) ?_))))))))
          exact ⟨.slice none 0 0, [], 25, rfl, by rw [parseL, hls, prun_cut ls (i + 1) ((prun_snoc ls i (by omega) _ hp).trans (pstp_bad (by omega) (by first | exact .inl (by simpa using (show markL ls[i] ≠ ((at_ + 1) % 4 : Nat) by omega)) | exact .inr (by simpa using c40) | exact .inr (by assumption))))]; rfl, Rd.nil _ _ _ _, (fun x e => by cases e), hm0⟩
        ·
          refine CW.skip ?_
          refine hK24 _ _ ?_
          refine CW.seq (fun K28 hK28 hE28 => ?_)
          refine CW.seq (fun K29 hK29 hE29 => ?_)
          refine CW.region ?_
          refine LR.v (Y.move rfl rfl) (Wd.u rfl) rfl rfl ?_
          refine LR.v (Y.assign rfl rfl) (Wd.u rfl) rfl rfl ?_
          refine LR.nil ?_
          refine hK29 _ _ ?_
          refine CW.seq (fun K30 hK30 hE30 => ?_)
          refine CW.region ?_
          refine LR.v (Y.move rfl rfl) (Wd.u rfl) rfl rfl ?_
          refine LR.v (Y.eql rfl rfl rfl) (Wd.u rfl) rfl rfl ?_
          refine LR.nil ?_
          refine hK30 _ _ ?_
          refine CW.condp rfl (fun c43 => ?_) (fun c43 => ?_)
          ·
            refine CW.region ?_
            refine LR.v (Y.move rfl rfl) (Wd.u rfl) rfl rfl ?_
            refine LR.calld rfl rfl rfl (Wd.u rfl) rfl rfl (Clo.of (caps := [.pointer (some ⟨H4.size, 0, none⟩), .pointer (some ⟨H0.size, 0, none⟩)]) Try.call37 (endP_ct H4.size H0.size s0 s1 s2 s3 so k3 ko S3 l G w0 _ hS hO o3 ow hx (bf_hx.mono (by omega)) (dj4.symm) (dj34) (dj39) (dj35) (dj40) (dj44) (fgw) (fgS) (fgO) (by omega) (by omega))) (fun v45 H45 r45 => ?_)
            have ql146 := ol.le
            have ql147 := hS.lt
            have ql148 := hO.lt
            have ql149 := o0.le
            have ql150 := o1.le
            have ql151 := o2.le
            have ql152 := o3.le
            have ql153 := ow.le
            obtain ⟨so2, ko2, l2, G2, hS, hO, ow, hk45, hx, hl2, hG2, hdf2, hbf2, hf42, hf52, hs45⟩ := r45
            have df154 := DF.app (df22) (bf_hb.mono hm0.size) hk45
            have dj155 : Dj kl ko2 := Dj.app (dj23) ql146 hk45
            have dj156 : Dj (H4.size + 1) ko2 := Dj.app (dj39) ql147 hk45
            have dj157 : Dj (H0.size + 1) ko2 := Dj.app (dj40) ql148 hk45
            have dj158 : Dj k0 ko2 := Dj.app (dj41) ql149 hk45
            have dj159 : Dj k1 ko2 := Dj.app (dj42) ql150 hk45
            have dj160 : Dj k2 ko2 := Dj.app (dj43) ql151 hk45
            have dj161 : Dj k3 ko2 := Dj.app (dj44) ql152 hk45
            have df162 := DF.app (fgw) (bf_hx.mono (by omega)) hk45
            have nx163 : Nx 0 H0.size ko2 := Nx.tr (nx24) hk45 hm0.size
            have nx164 : Nx 0 H13.size ko2 := Nx.tr (nx49) hk45 hlm1.size
            replace hb := hb.upL hs45 (DFL.cons df3 (DFL.cons df1 (DFL.cons df22 DFL.nil)))
            replace ol := ol.upL hs45 (DL.cons dj8.symm (DL.cons dj7.symm (DL.cons dj23 DL.nil)))
            replace o0 := o0.upL hs45 (DL.cons dj25.symm (DL.cons dj26.symm (DL.cons dj41 DL.nil)))
            replace o1 := o1.upL hs45 (DL.cons dj27.symm (DL.cons dj28.symm (DL.cons dj42 DL.nil)))
            replace o2 := o2.upL hs45 (DL.cons dj30.symm (DL.cons dj31.symm (DL.cons dj43 DL.nil)))
            replace o3 := o3.upL hs45 (DL.cons dj34.symm (DL.cons dj35.symm (DL.cons dj44 DL.nil)))
            replace hm0 := (Mo.trL (ks := []) (hm0.mdn []) hs45 (MIL.cons (MI.app MI.z (nx5) (Nat.le_refl _)) (MIL.cons (MI.app MI.z (nx2) (Nat.le_refl _)) (MIL.cons (MI.app MI.z (nx24) (Nat.le_refl _)) MIL.nil)))).nil
            replace hlm1 := hlm1.trL hs45 (MIL.cons (MI.app (MI.root (by simp)) (nx_hlm1_hS) (Nat.le_refl _)) (MIL.cons (MI.app (MI.root (by simp)) (nx_hlm1_hO) (Nat.le_refl _)) (MIL.cons (MI.app MI.z (nx49) (Nat.le_refl _)) MIL.nil)))
            have hz19 := hs45.size
            have hle_ow := ow.le
            have df165 := hdf2
            have df166 := hf42
            have df167 := hf52
            have df168 := DF.endd hG2 fg0 (dj36) (Nat.le_trans hle_o0 (by omega))
            have df169 := DF.endd hG2 fg1 (dj37) (Nat.le_trans hle_o1 (by omega))
            have df170 := DF.endd hG2 fg2 (dj38) (Nat.le_trans hle_o2 (by omega))
            refine LR.nil ?_
            refine hK28 _ _ ?_
            refine CW.seq (fun K31 hK31 hE31 => ?_)
            refine CW.region ?_
            refine LR.v (Y.move rfl rfl) (Wd.u rfl) rfl rfl ?_
            refine LR.v (Y.eql rfl rfl rfl) (Wd.u rfl) rfl rfl ?_
            refine LR.nil ?_
            refine hK31 _ _ ?_
            refine CW.condp rfl (fun c47 => ?_) (fun c47 => ?_)
            ·
              first
              | exfalso; omega
              | skip
                refine CW.seq (fun K32 hK32 hE32 => ?_)
                refine CW.region ?_
                refine LR.v (Y.load1 hO.pt rfl Try.isAgg50 rfl) (Wd.u rfl) rfl rfl ?_
                refine LR.v (Y.arrAddr hS.pt (0) rfl Try.runUnderlying71 Try.sizeOf32 rfl rfl (by first | rfl | omega) (by first | omega | (simp; omega) | (simp; done))) (Wd.u rfl) rfl rfl ?_
                refine LR.v (Y.load1 hS.pt rfl Try.isAgg32 rfl) (Wd.u rfl) rfl rfl ?_
                refine LR.v (Y.arrAddr hS.pt (1) rfl Try.runUnderlying71 Try.sizeOf32 rfl rfl (by first | rfl | omega) (by first | omega | (simp; omega) | (simp; done))) (Wd.u rfl) rfl rfl ?_
                refine LR.v (Y.load1 (hS.pt.drop 1) rfl Try.isAgg32 rfl) (Wd.u rfl) rfl rfl ?_
                refine LR.v (Y.arrAddr hS.pt (2) rfl Try.runUnderlying71 Try.sizeOf32 rfl rfl (by first | rfl | omega) (by first | omega | (simp; omega) | (simp; done))) (Wd.u rfl) rfl rfl ?_
                refine LR.v (Y.load1 (hS.pt.drop 2) rfl Try.isAgg32 rfl) (Wd.u rfl) rfl rfl ?_
                refine LR.v (Y.build (v := .agg #[.int .i64 4, s1.v, s0.v, s2.v]) rfl rfl (by intro w; kernel_rfl)) (Wd.u rfl) rfl rfl ?_
                refine LR.z (Z.litw _ ([(⟨4, S1, S0, S2, s1, s0, s2⟩ : Ck)]) rfl inf50 rfl rfl rfl (by decide) (by decide) fK_len fK_one (rfl)) (Wd.u rfl) rfl rfl (fun v56 H56 r56 => ?_)
                obtain ⟨nw56, hs56, ob56, hH56⟩ := r56
                have hzs56 : H56.size = H45.size + 1 := by rw [hH56]; simp
                have df171 := (DF.new (bf_hb.mono hm0.size) : DF _ (H45.size + 1))
                have dj172 : Dj kl (H45.size + 1) := Dj.new ol.le
                have dj173 : Dj (H4.size + 1) (H45.size + 1) := Dj.new hS.lt
                have dj174 : Dj (H0.size + 1) (H45.size + 1) := Dj.new hO.lt
                have dj175 : Dj k0 (H45.size + 1) := Dj.new o0.le
                have dj176 : Dj k1 (H45.size + 1) := Dj.new o1.le
                have dj177 : Dj k2 (H45.size + 1) := Dj.new o2.le
                have dj178 : Dj k3 (H45.size + 1) := Dj.new o3.le
                have dj179 : Dj ko2 (H45.size + 1) := Dj.new ow.le
                have df180 := (DF.new (bf_hx.mono (by omega)) : DF _ (H45.size + 1))
                have nx181 : Nx 0 H0.size (H45.size + 1) := Nx.new hm0.size
                have nx182 : Nx 0 H13.size (H45.size + 1) := Nx.new hlm1.size
                replace hb := hb.nw hs56
                replace ol := ol.nw hs56
                replace hS := hS.nw hs56
                replace hO := hO.nw hs56
                replace o0 := o0.nw hs56
                replace o1 := o1.nw hs56
                replace o2 := o2.nw hs56
                replace o3 := o3.nw hs56
                replace ow := ow.nw hs56
                replace hx := fun x hx_ => (hx x hx_).nw hs56
                replace hm0 := hm0.tr hs56
                replace hlm1 := hlm1.trN hs56
                have hz20 := hs56.size
                refine LR.z (Z.apnd ow nw56.rd rfl inf50 rfl rfl (by simp; omega) (by simp; omega)) (Wd.u rfl) rfl rfl (fun v57 H57 r57 => ?_)
                obtain ⟨k57, ow, hk57, hs57⟩ := r57
                replace hk57 : Nx ko2 H56.size k57 := hk57
                replace hs57 := hs57.md
                have df183 := DF.app (df154) (bf_hb.mono hm0.size) hk57
                have dj184 : Dj kl k57 := Dj.app (dj155) ol.le hk57
                have dj185 : Dj (H4.size + 1) k57 := Dj.app (dj156) hS.lt hk57
                have dj186 : Dj (H0.size + 1) k57 := Dj.app (dj157) hO.lt hk57
                have dj187 : Dj k0 k57 := Dj.app (dj158) o0.le hk57
                have dj188 : Dj k1 k57 := Dj.app (dj159) o1.le hk57
                have dj189 : Dj k2 k57 := Dj.app (dj160) o2.le hk57
                have dj190 : Dj k3 k57 := Dj.app (dj161) o3.le hk57
                have df191 := DF.app (df165) (bf_hx.mono (by omega)) hk57
                have dj192 : Dj (H45.size + 1) k57 := Dj.app (dj179.symm) nw56.le hk57
                have nx193 : Nx 0 H0.size k57 := Nx.tr (nx163) hk57 hm0.size
                have nx194 : Nx 0 H13.size k57 := Nx.tr (nx164) hk57 hlm1.size
                replace hb := hb.upL hs57 (DFL.cons df154 DFL.nil)
                replace ol := ol.upL hs57 (DL.cons dj155 DL.nil)
                replace hS := hS.upL hs57 (DL.cons dj156 DL.nil)
                replace hO := hO.upL hs57 (DL.cons dj157 DL.nil)
                replace o0 := o0.upL hs57 (DL.cons dj158 DL.nil)
                replace o1 := o1.upL hs57 (DL.cons dj159 DL.nil)
                replace o2 := o2.upL hs57 (DL.cons dj160 DL.nil)
                replace o3 := o3.upL hs57 (DL.cons dj161 DL.nil)
                replace hx := fun x hx_ => (hx x hx_).upL hs57 (DFL.cons df165 DFL.nil)
                replace nw56 := nw56.upL hs57 (DL.cons dj179.symm DL.nil)
                replace hm0 := (Mo.trL (ks := []) (hm0.mdn []) hs57 (MIL.cons (MI.app MI.z (nx163) (Nat.le_refl _)) MIL.nil)).nil
                replace hlm1 := hlm1.trL hs57 (MIL.cons (MI.app MI.z (nx164) (Nat.le_refl _)) MIL.nil)
                have hz21 := hs57.size
                have hle_ow := ow.le
                obtain ⟨s57, rfl⟩ : ∃ s : SV, v57 = s.v := ⟨toSV v57, ow.sv.symm⟩
                refine LR.s (S.var1 hO 0 ([s57.v]) rfl rfl rfl (rfl) Try.sizeOf50 (by simp) (rfl)) (Wd.u rfl) rfl (fun H17_10 r17_10 => ?_)
                obtain ⟨hO, hs17_10⟩ := r17_10
                replace hs17_10 := hs17_10.md1
                replace hb := hb.upL hs17_10 (DFL.cons df1 DFL.nil)
                replace ol := ol.upL hs17_10 (DL.cons dj7.symm DL.nil)
                replace hS := hS.upL hs17_10 (DL.cons dj4.symm DL.nil)
                replace o0 := o0.upL hs17_10 (DL.cons dj26.symm DL.nil)
                replace o1 := o1.upL hs17_10 (DL.cons dj28.symm DL.nil)
                replace o2 := o2.upL hs17_10 (DL.cons dj31.symm DL.nil)
                replace o3 := o3.upL hs17_10 (DL.cons dj35.symm DL.nil)
                replace ow := ow.upL hs17_10 (DL.cons dj186.symm DL.nil)
                replace hx := fun x hx_ => (hx x hx_).upL hs17_10 (DFL.cons df167 DFL.nil)
                replace nw56 := nw56.upL hs17_10 (DL.cons dj174.symm DL.nil)
                replace hm0 := (Mo.trL (ks := []) (hm0.mdn []) hs17_10 (MIL.cons (MI.app MI.z (nx2) (Nat.le_refl _)) MIL.nil)).nil
                replace hlm1 := hlm1.trL hs17_10 (MIL.cons (MI.app (MI.root (by simp)) (nx_hlm1_hO) (Nat.le_refl _)) MIL.nil)
                have hz22 := hs17_10.size
                refine LR.nil ?_
                refine hK32 _ _ ?_
                refine CW.region ?_
                refine LR.v (Y.build (v := .agg #[.slice none 0 0, .slice none 0 0, .slice none 0 0, .slice none 0 0]) rfl rfl (by intro w; kernel_rfl)) (Wd.u rfl) rfl rfl ?_
                refine LR.s (S.var hS (_) ([(⟨none, 0, 0⟩ : SV).v, (⟨none, 0, 0⟩ : SV).v, (⟨none, 0, 0⟩ : SV).v, (⟨none, 0, 0⟩ : SV).v]) rfl rfl rfl rfl (by decide) Try.sizeOf71 (rfl) (Nat.le_of_ble_eq_true rfl) (rfl)) (Wd.u rfl) rfl (fun H18_1 r18_1 => ?_)
                obtain ⟨hS, hs18_1⟩ := r18_1
                replace hs18_1 := hs18_1.md1
                replace hb := hb.upL hs18_1 (DFL.cons df3 DFL.nil)
                replace ol := ol.upL hs18_1 (DL.cons dj8.symm DL.nil)
                replace hO := hO.upL hs18_1 (DL.cons dj4 DL.nil)
                replace o0 := o0.upL hs18_1 (DL.cons dj25.symm DL.nil)
                replace o1 := o1.upL hs18_1 (DL.cons dj27.symm DL.nil)
                replace o2 := o2.upL hs18_1 (DL.cons dj30.symm DL.nil)
                replace o3 := o3.upL hs18_1 (DL.cons dj34.symm DL.nil)
                replace ow := ow.upL hs18_1 (DL.cons dj185.symm DL.nil)
                replace hx := fun x hx_ => (hx x hx_).upL hs18_1 (DFL.cons df166 DFL.nil)
                replace hm0 := (Mo.trL (ks := []) (hm0.mdn []) hs18_1 (MIL.cons (MI.app MI.z (nx5) (Nat.le_refl _)) MIL.nil)).nil
                replace hlm1 := hlm1.trL hs18_1 (MIL.cons (MI.app (MI.root (by simp)) (nx_hlm1_hS) (Nat.le_refl _)) MIL.nil)
                have hz23 := hs18_1.size
                refine LR.nil ?_
                refine hK15 _ _ ?_
                refine hK14 _ _ ?_
                refine CW.region ?_
                refine LR.v (Y.addi rfl rfl rfl (by omega)) (Wd.u rfl) rfl rfl ?_
                refine LR.v (Y.move rfl rfl) (Wd.u rfl) rfl rfl ?_
                refine LR.nil ?_
                obtain rfl : at_ = 2 := by omega
                have hgo := (prun_snoc ls i (by omega) _ hp).trans (pstp_go (k := 3) (by omega) (by show 3 = (2 + 1) % 4; rfl) (by first | assumption | simpa using c40))
                refine QN.sub (hN11 (i + 1, ⟨none, 0, 0⟩, 0, [], ⟨none, 0, 0⟩, 0, [], ⟨none, 0, 0⟩, 0, [], ⟨none, 0, 0⟩, 0, [], s57, k57, l ++ [⟨4, S1, S0, S2, s1, s0, s2⟩], (fun b => G b ∨ b + 1 = k1 ∨ b + 1 = k0 ∨ b + 1 = k2), 3) _ ?_ ?_) ⟨rfl, rfl, (iv (by omega)), rfl, rfl, (iv (by omega)), (iv (by omega)), trivial⟩
                · exact ⟨(by omega), hS, hO, Ow.nil fS_len fS_one, Ow.nil fS_len fS_one, Ow.nil fS_len fS_one, Ow.nil fS_len fS_one, ow, snocR hx (fun b e => .inl e) ⟨o1.rd.imp (fun b _ e => .inr (.inl e)), o0.rd.imp (fun b _ e => .inr (.inr (.inl e))), o2.rd.imp (fun b _ e => .inr (.inr (.inr e)))⟩, BF.four (bf_hx.mono (by omega)) o1.le o0.le o2.le, DF.z, DF.z, DF.z, DF.z, DF.four (df191) (dj188.symm) (dj187.symm) (dj189.symm), DF.four (df166) (dj27) (dj25) (dj30), DF.four (df167) (dj28) (dj26) (dj31), (by rintro b (e | e | e | e); exact hGm b e; all_goals (unfold Nx at *; omega)), by rw [hgo]; simp [psM], (by simp only [List.length_append, List.length_singleton, List.length_nil]; omega), (.inl rfl), (.inl rfl), (.inl rfl), (.inl rfl), nx194, Dj.z, Dj.z, Dj.z, Dj.z, Dj.z, Dj.z, Dj.z, Dj.z, Dj.z, Dj.z, Dj.z, Dj.z, Dj.z, Dj.z, dj185, dj186, Dj.z2, Dj.z2, Dj.z2, Dj.z2, hlm1⟩
                · first | omega | (simp only; omega) | (simp; omega)
            ·
              first
              | exfalso; omega
              | skip
                refine CW.skip ?_
                refine hK15 _ _ ?_
                refine hK14 _ _ ?_
                refine CW.region ?_
                refine LR.v (Y.addi rfl rfl rfl (by omega)) (Wd.u rfl) rfl rfl ?_
                refine LR.v (Y.move rfl rfl) (Wd.u rfl) rfl rfl ?_
                refine LR.nil ?_
                obtain rfl : at_ = 3 := by omega
                have hgo := (prun_snoc ls i (by omega) _ hp).trans (pstp_go (k := 0) (by omega) (by show 0 = (3 + 1) % 4; rfl) (by first | assumption | simpa using c40))
                refine QN.sub (hN11 (i + 1, s0, k0, S0, s1, k1, S1, s2, k2, S2, ⟨none, 0, 0⟩, 0, [], so2, ko2, l2, G2, 0) _ ?_ ?_) ⟨rfl, rfl, (iv (by omega)), rfl, rfl, (iv (by omega)), (iv (by omega)), trivial⟩
                · exact ⟨(by omega), hS, hO, o0, o1, o2, Ow.nil fS_len fS_one, ow, hx, hbf2.mono (by omega), DF.endd hG2 fg0 (dj36) (Nat.le_trans hle_o0 (by omega)), DF.endd hG2 fg1 (dj37) (Nat.le_trans hle_o1 (by omega)), DF.endd hG2 fg2 (dj38) (Nat.le_trans hle_o2 (by omega)), DF.z, hdf2, hf42, hf52, (fun b e => by rcases hG2 b e with e | e | e; exact hGm b e; unfold Nx at *; omega; omega), by rw [hgo, hl2]; simp [psM], (by have h1 := congrArg List.length hl2; rw [List.length_append, List.length_map, List.length_map] at h1; have h2 := plain_len S3; simp only [List.length_nil]; omega), nx45, nx46, nx47, (.inl rfl), nx164, dj25, dj26, dj27, dj28, dj29, dj30, dj31, dj32, dj33, Dj.z, Dj.z, Dj.z, Dj.z, Dj.z, dj156, dj157, dj158, dj159, dj160, Dj.z2, hlm1⟩
                · first | omega | (simp only; omega) | (simp; omega)
          ·
            refine CW.skip ?_
            refine hK28 _ _ ?_
            refine CW.seq (fun K33 hK33 hE33 => ?_)
            refine CW.region ?_
            refine LR.v (Y.move rfl rfl) (Wd.u rfl) rfl rfl ?_
            refine LR.v (Y.eql rfl rfl rfl) (Wd.u rfl) rfl rfl ?_
            refine LR.nil ?_
            refine hK33 _ _ ?_
            refine CW.condp rfl (fun c47 => ?_) (fun c47 => ?_)
            ·
              first
              | exfalso; omega
              | skip
                refine CW.seq (fun K34 hK34 hE34 => ?_)
                refine CW.region ?_
                refine LR.v (Y.load1 hO.pt rfl Try.isAgg50 rfl) (Wd.u rfl) rfl rfl ?_
                refine LR.v (Y.arrAddr hS.pt (0) rfl Try.runUnderlying71 Try.sizeOf32 rfl rfl (by first | rfl | omega) (by first | omega | (simp; omega) | (simp; done))) (Wd.u rfl) rfl rfl ?_
                refine LR.v (Y.load1 hS.pt rfl Try.isAgg32 rfl) (Wd.u rfl) rfl rfl ?_
                refine LR.v (Y.arrAddr hS.pt (1) rfl Try.runUnderlying71 Try.sizeOf32 rfl rfl (by first | rfl | omega) (by first | omega | (simp; omega) | (simp; done))) (Wd.u rfl) rfl rfl ?_
                refine LR.v (Y.load1 (hS.pt.drop 1) rfl Try.isAgg32 rfl) (Wd.u rfl) rfl rfl ?_
                refine LR.v (Y.arrAddr hS.pt (2) rfl Try.runUnderlying71 Try.sizeOf32 rfl rfl (by first | rfl | omega) (by first | omega | (simp; omega) | (simp; done))) (Wd.u rfl) rfl rfl ?_
                refine LR.v (Y.load1 (hS.pt.drop 2) rfl Try.isAgg32 rfl) (Wd.u rfl) rfl rfl ?_
                refine LR.v (Y.build (v := .agg #[.int .i64 4, s1.v, s0.v, s2.v]) rfl rfl (by intro w; kernel_rfl)) (Wd.u rfl) rfl rfl ?_
                refine LR.z (Z.litw _ ([(⟨4, S1, S0, S2, s1, s0, s2⟩ : Ck)]) rfl inf50 rfl rfl rfl (by decide) (by decide) fK_len fK_one (rfl)) (Wd.u rfl) rfl rfl (fun v56 H56 r56 => ?_)
                obtain ⟨nw56, hs56, ob56, hH56⟩ := r56
                have hzs56 : H56.size = H38.size + 1 := by rw [hH56]; simp
                have df195 := (DF.new (bf_hb.mono hm0.size) : DF _ (H38.size + 1))
                have dj196 : Dj kl (H38.size + 1) := Dj.new ol.le
                have dj197 : Dj (H4.size + 1) (H38.size + 1) := Dj.new hS.lt
                have dj198 : Dj (H0.size + 1) (H38.size + 1) := Dj.new hO.lt
                have dj199 : Dj k0 (H38.size + 1) := Dj.new o0.le
                have dj200 : Dj k1 (H38.size + 1) := Dj.new o1.le
                have dj201 : Dj k2 (H38.size + 1) := Dj.new o2.le
                have dj202 : Dj k3 (H38.size + 1) := Dj.new o3.le
                have dj203 : Dj ko (H38.size + 1) := Dj.new ow.le
                have df204 := (DF.new (bf_hx.mono (by omega)) : DF _ (H38.size + 1))
                have nx205 : Nx 0 H0.size (H38.size + 1) := Nx.new hm0.size
                have nx206 : Nx 0 H13.size (H38.size + 1) := Nx.new hlm1.size
                replace hb := hb.nw hs56
                replace ol := ol.nw hs56
                replace hS := hS.nw hs56
                replace hO := hO.nw hs56
                replace o0 := o0.nw hs56
                replace o1 := o1.nw hs56
                replace o2 := o2.nw hs56
                replace o3 := o3.nw hs56
                replace ow := ow.nw hs56
                replace hx := fun x hx_ => (hx x hx_).nw hs56
                replace hm0 := hm0.tr hs56
                replace hlm1 := hlm1.trN hs56
                have hz24 := hs56.size
                refine LR.z (Z.apnd ow nw56.rd rfl inf50 rfl rfl (by simp; omega) (by simp; omega)) (Wd.u rfl) rfl rfl (fun v57 H57 r57 => ?_)
                obtain ⟨k57, ow, hk57, hs57⟩ := r57
                replace hk57 : Nx ko H56.size k57 := hk57
                replace hs57 := hs57.md
                have df207 := DF.app (df22) (bf_hb.mono hm0.size) hk57
                have dj208 : Dj kl k57 := Dj.app (dj23) ol.le hk57
                have dj209 : Dj (H4.size + 1) k57 := Dj.app (dj39) hS.lt hk57
                have dj210 : Dj (H0.size + 1) k57 := Dj.app (dj40) hO.lt hk57
                have dj211 : Dj k0 k57 := Dj.app (dj41) o0.le hk57
                have dj212 : Dj k1 k57 := Dj.app (dj42) o1.le hk57
                have dj213 : Dj k2 k57 := Dj.app (dj43) o2.le hk57
                have dj214 : Dj k3 k57 := Dj.app (dj44) o3.le hk57
                have df215 := DF.app (fgw) (bf_hx.mono (by omega)) hk57
                have dj216 : Dj (H38.size + 1) k57 := Dj.app (dj203.symm) nw56.le hk57
                have nx217 : Nx 0 H0.size k57 := Nx.tr (nx24) hk57 hm0.size
                have nx218 : Nx 0 H13.size k57 := Nx.tr (nx49) hk57 hlm1.size
                replace hb := hb.upL hs57 (DFL.cons df22 DFL.nil)
                replace ol := ol.upL hs57 (DL.cons dj23 DL.nil)
                replace hS := hS.upL hs57 (DL.cons dj39 DL.nil)
                replace hO := hO.upL hs57 (DL.cons dj40 DL.nil)
                replace o0 := o0.upL hs57 (DL.cons dj41 DL.nil)
                replace o1 := o1.upL hs57 (DL.cons dj42 DL.nil)
                replace o2 := o2.upL hs57 (DL.cons dj43 DL.nil)
                replace o3 := o3.upL hs57 (DL.cons dj44 DL.nil)
                replace hx := fun x hx_ => (hx x hx_).upL hs57 (DFL.cons fgw DFL.nil)
                replace nw56 := nw56.upL hs57 (DL.cons dj203.symm DL.nil)
                replace hm0 := (Mo.trL (ks := []) (hm0.mdn []) hs57 (MIL.cons (MI.app MI.z (nx24) (Nat.le_refl _)) MIL.nil)).nil
                replace hlm1 := hlm1.trL hs57 (MIL.cons (MI.app MI.z (nx49) (Nat.le_refl _)) MIL.nil)
                have hz25 := hs57.size
                have hle_ow := ow.le
                obtain ⟨s57, rfl⟩ : ∃ s : SV, v57 = s.v := ⟨toSV v57, ow.sv.symm⟩
                refine LR.s (S.var1 hO 0 ([s57.v]) rfl rfl rfl (rfl) Try.sizeOf50 (by simp) (rfl)) (Wd.u rfl) rfl (fun H17_10 r17_10 => ?_)
                obtain ⟨hO, hs17_10⟩ := r17_10
                replace hs17_10 := hs17_10.md1
                replace hb := hb.upL hs17_10 (DFL.cons df1 DFL.nil)
                replace ol := ol.upL hs17_10 (DL.cons dj7.symm DL.nil)
                replace hS := hS.upL hs17_10 (DL.cons dj4.symm DL.nil)
                replace o0 := o0.upL hs17_10 (DL.cons dj26.symm DL.nil)
                replace o1 := o1.upL hs17_10 (DL.cons dj28.symm DL.nil)
                replace o2 := o2.upL hs17_10 (DL.cons dj31.symm DL.nil)
                replace o3 := o3.upL hs17_10 (DL.cons dj35.symm DL.nil)
                replace ow := ow.upL hs17_10 (DL.cons dj210.symm DL.nil)
                replace hx := fun x hx_ => (hx x hx_).upL hs17_10 (DFL.cons fgO DFL.nil)
                replace nw56 := nw56.upL hs17_10 (DL.cons dj198.symm DL.nil)
                replace hm0 := (Mo.trL (ks := []) (hm0.mdn []) hs17_10 (MIL.cons (MI.app MI.z (nx2) (Nat.le_refl _)) MIL.nil)).nil
                replace hlm1 := hlm1.trL hs17_10 (MIL.cons (MI.app (MI.root (by simp)) (nx_hlm1_hO) (Nat.le_refl _)) MIL.nil)
                have hz26 := hs17_10.size
                refine LR.nil ?_
                refine hK34 _ _ ?_
                refine CW.region ?_
                refine LR.v (Y.build (v := .agg #[.slice none 0 0, .slice none 0 0, .slice none 0 0, .slice none 0 0]) rfl rfl (by intro w; kernel_rfl)) (Wd.u rfl) rfl rfl ?_
                refine LR.s (S.var hS (_) ([(⟨none, 0, 0⟩ : SV).v, (⟨none, 0, 0⟩ : SV).v, (⟨none, 0, 0⟩ : SV).v, (⟨none, 0, 0⟩ : SV).v]) rfl rfl rfl rfl (by decide) Try.sizeOf71 (rfl) (Nat.le_of_ble_eq_true rfl) (rfl)) (Wd.u rfl) rfl (fun H18_1 r18_1 => ?_)
                obtain ⟨hS, hs18_1⟩ := r18_1
                replace hs18_1 := hs18_1.md1
                replace hb := hb.upL hs18_1 (DFL.cons df3 DFL.nil)
                replace ol := ol.upL hs18_1 (DL.cons dj8.symm DL.nil)
                replace hO := hO.upL hs18_1 (DL.cons dj4 DL.nil)
                replace o0 := o0.upL hs18_1 (DL.cons dj25.symm DL.nil)
                replace o1 := o1.upL hs18_1 (DL.cons dj27.symm DL.nil)
                replace o2 := o2.upL hs18_1 (DL.cons dj30.symm DL.nil)
                replace o3 := o3.upL hs18_1 (DL.cons dj34.symm DL.nil)
                replace ow := ow.upL hs18_1 (DL.cons dj209.symm DL.nil)
                replace hx := fun x hx_ => (hx x hx_).upL hs18_1 (DFL.cons fgS DFL.nil)
                replace hm0 := (Mo.trL (ks := []) (hm0.mdn []) hs18_1 (MIL.cons (MI.app MI.z (nx5) (Nat.le_refl _)) MIL.nil)).nil
                replace hlm1 := hlm1.trL hs18_1 (MIL.cons (MI.app (MI.root (by simp)) (nx_hlm1_hS) (Nat.le_refl _)) MIL.nil)
                have hz27 := hs18_1.size
                refine LR.nil ?_
                refine hK15 _ _ ?_
                refine hK14 _ _ ?_
                refine CW.region ?_
                refine LR.v (Y.addi rfl rfl rfl (by omega)) (Wd.u rfl) rfl rfl ?_
                refine LR.v (Y.move rfl rfl) (Wd.u rfl) rfl rfl ?_
                refine LR.nil ?_
                obtain rfl : at_ = 2 := by omega
                have hgo := (prun_snoc ls i (by omega) _ hp).trans (pstp_go (k := 3) (by omega) (by show 3 = (2 + 1) % 4; rfl) (by first | assumption | simpa using c40))
                refine QN.sub (hN11 (i + 1, ⟨none, 0, 0⟩, 0, [], ⟨none, 0, 0⟩, 0, [], ⟨none, 0, 0⟩, 0, [], ⟨none, 0, 0⟩, 0, [], s57, k57, l ++ [⟨4, S1, S0, S2, s1, s0, s2⟩], (fun b => G b ∨ b + 1 = k1 ∨ b + 1 = k0 ∨ b + 1 = k2), 3) _ ?_ ?_) ⟨rfl, rfl, (iv (by omega)), rfl, rfl, (iv (by omega)), (iv (by omega)), trivial⟩
                · exact ⟨(by omega), hS, hO, Ow.nil fS_len fS_one, Ow.nil fS_len fS_one, Ow.nil fS_len fS_one, Ow.nil fS_len fS_one, ow, snocR hx (fun b e => .inl e) ⟨o1.rd.imp (fun b _ e => .inr (.inl e)), o0.rd.imp (fun b _ e => .inr (.inr (.inl e))), o2.rd.imp (fun b _ e => .inr (.inr (.inr e)))⟩, BF.four (bf_hx.mono (by omega)) o1.le o0.le o2.le, DF.z, DF.z, DF.z, DF.z, DF.four (df215) (dj212.symm) (dj211.symm) (dj213.symm), DF.four (fgS) (dj27) (dj25) (dj30), DF.four (fgO) (dj28) (dj26) (dj31), (by rintro b (e | e | e | e); exact hGm b e; all_goals (unfold Nx at *; omega)), by rw [hgo]; simp [psM], (by simp only [List.length_append, List.length_singleton, List.length_nil]; omega), (.inl rfl), (.inl rfl), (.inl rfl), (.inl rfl), nx218, Dj.z, Dj.z, Dj.z, Dj.z, Dj.z, Dj.z, Dj.z, Dj.z, Dj.z, Dj.z, Dj.z, Dj.z, Dj.z, Dj.z, dj209, dj210, Dj.z2, Dj.z2, Dj.z2, Dj.z2, hlm1⟩
                · first | omega | (simp only; omega) | (simp; omega)
            ·
              first
              | exfalso; omega
              | skip
                refine CW.skip ?_
                refine hK15 _ _ ?_
                refine hK14 _ _ ?_
                refine CW.region ?_
                refine LR.v (Y.addi rfl rfl rfl (by omega)) (Wd.u rfl) rfl rfl ?_
                refine LR.v (Y.move rfl rfl) (Wd.u rfl) rfl rfl ?_
                refine LR.nil ?_
                obtain ⟨k, hk1, hk2⟩ : ∃ k : Nat, markL ls[i] = k ∧ (k = 1 ∨ k = 2) := ⟨(markL ls[i]).toNat, by omega, by omega⟩
                have hgo := (prun_snoc ls i (by omega) _ hp).trans (pstp_go (k := k) hk1 (by show k = (at_ + 1) % 4; omega) (by first | assumption | simpa using c40))
                refine QN.sub (hN11 (i + 1, s0, k0, S0, s1, k1, S1, s2, k2, S2, s3, k3, S3, so, ko, l, G, (markL ls[i]).toNat) _ ?_ ?_) ⟨rfl, rfl, (iv (by omega)), rfl, rfl, (iv (by omega)), (iv (by omega)), trivial⟩
                · exact ⟨(by omega), hS, hO, o0, o1, o2, o3, ow, hx, (bf_hx.mono (by omega)), fg0, fg1, fg2, fg3, fgw, fgS, fgO, (by omega), by rw [hgo, hk1]; rcases hk2 with rfl | rfl <;> simp [psM], (by omega), nx45, nx46, nx47, nx48, nx49, dj25, dj26, dj27, dj28, dj29, dj30, dj31, dj32, dj33, dj34, dj35, dj36, dj37, dj38, dj39, dj40, dj41, dj42, dj43, dj44, hlm1⟩
                · first | omega | (simp only; omega) | (simp; omega)
  ·
    obtain rfl : i = ls.length := by omega
    rw [List.take_length] at hp
    obtain ⟨z0, z1, z2, z3, zl, hat⟩ := hsz
    have hpb : parseL b = pend (some (l.map Ck.c, S0, S1, S2, S3, at_)) := by rw [parseL, hls, hp]
    refine CW.exit (hE13 (.exit 0) nofun _ _ (hE11 (.exit 0) nofun _ _ (hX10 _ _ ?_)))
    refine hK8 _ _ ?_
    refine CW.seq (fun K35 hK35 hE35 => ?_)
    refine CW.seq (fun K36 hK36 hE36 => ?_)
    refine CW.region ?_
    refine LR.v (Y.move rfl rfl) (Wd.u rfl) rfl rfl ?_
    refine LR.v (Y.neq rfl rfl rfl) (Wd.u rfl) rfl rfl ?_
    refine LR.nil ?_
    refine hK36 _ _ ?_
    refine CW.condp rfl (fun c61 => ?_) (fun c61 => ?_)
    ·
      refine CW.seq (fun K37 hK37 hE37 => ?_)
      refine CW.region ?_
      refine LR.v (Y.assign rfl rfl) (Wd.u rfl) rfl rfl ?_
      refine LR.v (Y.assign rfl rfl) (Wd.u rfl) rfl rfl ?_
      refine LR.nil ?_
      refine hK37 _ _ ?_
      refine CW.ret (hE35 .ret nofun _ _ (hE2 .ret nofun nofun _ _ (hret .ret (.inr rfl) _ _ _ (res2 rfl rfl rfl) ?_)))
      exact ⟨.slice none 0 0, [], 25, rfl, by rw [hpb, pend, if_pos (show at_ ≠ 3 by omega)]; rfl, Rd.nil _ _ _ _, (fun x e => by cases e), hm0⟩
    ·
      refine CW.skip ?_
      refine hK35 _ _ ?_
      refine CW.seq (fun K38 hK38 hE38 => ?_)
      refine CW.region ?_
      refine LR.v (Y.move rfl rfl) (Wd.u rfl) rfl rfl ?_
      refine LR.calld rfl rfl rfl (Wd.u rfl) rfl rfl (Clo.of (caps := [.pointer (some ⟨H4.size, 0, none⟩), .pointer (some ⟨H0.size, 0, none⟩)]) Try.call37 (endP_ct H4.size H0.size s0 s1 s2 s3 so k3 ko S3 l G w0 _ hS hO o3 ow hx (bf_hx.mono (by omega)) (dj4.symm) (dj34) (dj39) (dj35) (dj40) (dj44) (fgw) (fgS) (fgO) (by omega) (by omega))) (fun v63 H63 r63 => ?_)
      have ql219 := ol.le
      have ql220 := hS.lt
      have ql221 := hO.lt
      have ql222 := o0.le
      have ql223 := o1.le
      have ql224 := o2.le
      have ql225 := o3.le
      have ql226 := ow.le
      obtain ⟨so2, ko2, l2, G2, hS, hO, ow, hk63, hx, hl2, hG2, hdf2, hbf2, hf42, hf52, hs63⟩ := r63
      have df227 := DF.app (df22) (bf_hb.mono hm0.size) hk63
      have dj228 : Dj kl ko2 := Dj.app (dj23) ql219 hk63
      have dj229 : Dj (H4.size + 1) ko2 := Dj.app (dj39) ql220 hk63
      have dj230 : Dj (H0.size + 1) ko2 := Dj.app (dj40) ql221 hk63
      have dj231 : Dj k0 ko2 := Dj.app (dj41) ql222 hk63
      have dj232 : Dj k1 ko2 := Dj.app (dj42) ql223 hk63
      have dj233 : Dj k2 ko2 := Dj.app (dj43) ql224 hk63
      have dj234 : Dj k3 ko2 := Dj.app (dj44) ql225 hk63
      have df235 := DF.app (fgw) (bf_hx.mono (by omega)) hk63
      have nx236 : Nx 0 H0.size ko2 := Nx.tr (nx24) hk63 hm0.size
      replace hb := hb.upL hs63 (DFL.cons df3 (DFL.cons df1 (DFL.cons df22 DFL.nil)))
      replace ol := ol.upL hs63 (DL.cons dj8.symm (DL.cons dj7.symm (DL.cons dj23 DL.nil)))
      replace o0 := o0.upL hs63 (DL.cons dj25.symm (DL.cons dj26.symm (DL.cons dj41 DL.nil)))
      replace o1 := o1.upL hs63 (DL.cons dj27.symm (DL.cons dj28.symm (DL.cons dj42 DL.nil)))
      replace o2 := o2.upL hs63 (DL.cons dj30.symm (DL.cons dj31.symm (DL.cons dj43 DL.nil)))
      replace o3 := o3.upL hs63 (DL.cons dj34.symm (DL.cons dj35.symm (DL.cons dj44 DL.nil)))
      replace hm0 := (Mo.trL (ks := []) (hm0.mdn []) hs63 (MIL.cons (MI.app MI.z (nx5) (Nat.le_refl _)) (MIL.cons (MI.app MI.z (nx2) (Nat.le_refl _)) (MIL.cons (MI.app MI.z (nx24) (Nat.le_refl _)) MIL.nil)))).nil
      have hz28 := hs63.size
      have hle_ow := ow.le
      have df237 := hdf2
      have df238 := hf42
      have df239 := hf52
      have df240 := DF.endd hG2 fg0 (dj36) (Nat.le_trans hle_o0 (by omega))
      have df241 := DF.endd hG2 fg1 (dj37) (Nat.le_trans hle_o1 (by omega))
      have df242 := DF.endd hG2 fg2 (dj38) (Nat.le_trans hle_o2 (by omega))
      refine LR.nil ?_
      refine hK38 _ _ ?_
      refine CW.seq (fun K39 hK39 hE39 => ?_)
      refine CW.region ?_
      refine LR.v (Y.load1 hO.pt rfl Try.isAgg50 rfl) (Wd.u rfl) rfl rfl ?_
      refine LR.v (Y.assign rfl rfl) (Wd.u rfl) rfl rfl ?_
      refine LR.v (Y.assign rfl rfl) (Wd.u rfl) rfl rfl ?_
      refine LR.nil ?_
      refine hK39 _ _ ?_
      refine CW.ret (hE2 .ret nofun nofun _ _ (hret .ret (.inr rfl) _ _ _ (res2 rfl rfl rfl) ?_))
      exact ⟨so2.v, l2, 0, rfl, by rw [hpb, hl2]; obtain rfl : at_ = 3 := (by omega); rfl, ow.rd.imp (fun b _ e => by have := (nx236); unfold Nx at this; omega), (fun x e => (hx x e).imp (fun b _ e => by rcases hG2 b e with e | e | e; exact hGm b e; unfold Nx at *; omega; omega)), hm0⟩

end Go.Proofs.Ytegfnfhdgbcjbaa.MerM
