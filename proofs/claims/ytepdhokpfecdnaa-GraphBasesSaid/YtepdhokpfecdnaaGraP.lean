/-
  Graphs without rounds out of any rows of numbers; commits by any numbers.
-/
import Derived.Test.YtepdhokpfecdnaaGraO
namespace Go.Proofs.Ytepdhokpfecdnaa.GraP
open Go.Proofs.Ytepdhokpfecdnaa.E Go.RowKit Go.Proofs.Ytepdhokpfecdnaa.GraA Go.Proofs.Ytepdhokpfecdnaa.GraB Go.Proofs.Ytepdhokpfecdnaa.GraC Go.Proofs.Ytepdhokpfecdnaa.GraD Go.Proofs.Ytepdhokpfecdnaa.GraE Go.Proofs.Ytepdhokpfecdnaa.GraF Go.Proofs.Ytepdhokpfecdnaa.GraG Go.Proofs.Ytepdhokpfecdnaa.GraH Go.Proofs.Ytepdhokpfecdnaa.GraI Go.Proofs.Ytepdhokpfecdnaa.GraJ Go.Proofs.Ytepdhokpfecdnaa.GraK Go.Proofs.Ytepdhokpfecdnaa.GraL Go.Proofs.Ytepdhokpfecdnaa.GraM Go.Proofs.Ytepdhokpfecdnaa.GraN Go.Proofs.Ytepdhokpfecdnaa.GraO
set_option maxRecDepth 20000
set_option linter.unusedVariables false
set_option linter.unusedSimpArgs false
set_option linter.unusedSectionVars false
set_option maxRecDepth 100000 in
theorem inf22 : Inf Try.prog 22 38 1 24 := ⟨Try.underlying22, _, _, rfl, rfl, rfl, rfl, rfl⟩
set_option maxRecDepth 100000 in
theorem inf28 : Inf Try.prog 28 30 32 32 := ⟨Try.underlying28, _, _, rfl, rfl, rfl, rfl, rfl⟩
set_option maxRecDepth 100000 in
theorem inf38 : Inf Try.prog 38 3 1 8 := ⟨Try.underlying38, _, _, rfl, rfl, rfl, rfl, rfl⟩

abbrev fPi (x : SV × List Int) : List Value := [x.1.v]
structure RwOk (out : List Rw) : Prop where
  le : out.length ≤ 40
  at_ : ∀ n (h : n < out.length), (out[n]).l.length ≤ 4 ∧ ∀ k ∈ (out[n]).l, k < n
theorem RwOk.g {out : List Rw} (h : RwOk out) : GOk (out.map (·.l)) := by
  refine ⟨by rw [List.length_map]; have := h.le; omega, fun n hn k hk => ?_, fun n hn => ?_⟩
  · rw [List.length_map] at hn
    rw [List.getElem_map] at hk
    exact (h.at_ n hn).2 k hk
  · rw [List.length_map] at hn
    rw [List.getElem_map]
    have := (h.at_ n hn).1; omega
theorem RwOk.ok {s : SV} {out : List Rw} (h : RwOk out) : (Sou.rows s out).ok := by
  refine ⟨by have := h.le; omega, fun x hx => ?_⟩
  obtain ⟨n, hn, rfl⟩ := List.getElem_of_mem hx
  have h1 := h.at_ n hn
  have := h.le
  exact ⟨by omega, fun k hk => by have := h1.2 k hk; omega⟩
theorem RwOk.nil : RwOk [] := ⟨by simp, fun n h => by simp at h⟩
theorem RwOk.snoc {out : List Rw} (h : RwOk out) {x : Rw} (hl : out.length < 40) (h1 : x.l.length ≤ 4) (h2 : ∀ k ∈ x.l, k < out.length) : RwOk (out ++ [x]) := by
  refine ⟨by rw [List.length_append, List.length_singleton]; omega, fun n hn => ?_⟩
  rw [List.length_append, List.length_singleton] at hn
  by_cases hlt : n < out.length
  · rw [List.getElem_append_left hlt]; exact h.at_ n hlt
  · obtain rfl : n = out.length := by omega
    rw [List.getElem_concat_length rfl]; exact ⟨h1, h2⟩
def i64b (a : Int) : Prop := -9223372036854775808 ≤ a ∧ a ≤ 9223372036854775807

theorem rows_ct (vl : Value) (li : List (SV × List Int)) (w0 : World) (H0 : Heap)
    (hl : RdT H0 fPi 1 vl li) (hlx : ∀ x ∈ li, RdT H0 fI 1 x.1.v x.2) (hi64 : ∀ x ∈ li, ∀ a ∈ x.2, i64b a) :
    Ct Try.prog w0 11 #[vl] H0 (fun r H2 => ∃ s : SV, ∃ out : List Rw, r = s.v ∧ (SRd (fun b => H0.size ≤ b) H2 (.rows s out)) ∧ (RwOk out) ∧ Nw H0 H2) := by
  refine Ct.enter (args := [vl]) Try.func11 rfl rfl rfl ?_
  intro Q0 hret
  have hm0 : Nw H0 H0 := Mo.refl _ _
  replace hl := hl.bnd
  have bf_hl := hl.bf
  replace hlx := fun x h_ => (hlx x h_).bnd
  have bf_hlx : BF (fun b => True ∧ b < H0.size) H0.size := fun b h => h.2
  refine CW.seq (fun K1 hK1 hE1 => ?_)
  refine CW.region ?_
  refine LR.v (Y.assign rfl rfl) (Wd.u rfl) rfl rfl ?_
  refine LR.nil ?_
  refine hK1 _ _ ?_
  refine CW.seq (fun K2 hK2 hE2 => ?_)
  refine CW.region ?_
  refine LR.v (Y.assign rfl rfl) (Wd.u rfl) rfl rfl ?_
  refine LR.nil ?_
  refine hK2 _ _ ?_
  refine CW.seq (fun K3 hK3 hE3 => ?_)
  refine CW.seq (fun K4 hK4 hE4 => ?_)
  refine CW.region ?_
  refine LR.v (Y.assign rfl rfl) (Wd.u rfl) rfl rfl ?_
  refine LR.nil ?_
  refine hK4 _ _ ?_
  refine CW.block (fun K5 hK5 hX5 hE5 => ?_)
  refine CW.loop (fun (s_ : (Nat) × (Value) × (Nat) × (List Rw) × (Nat → Prop)) => match s_ with | (n, vo, ko, out, G) => [(0, vl), (3, vo), (4, .int .i64 (n : Int))])
    (fun (s_ : (Nat) × (Value) × (Nat) × (List Rw) × (Nat → Prop)) (H : Heap) => match s_ with | (n, vo, ko, out, G) => (n ≤ li.length) ∧ (Ow ko 38 H fRw 1 vo out) ∧ (∀ x ∈ out, Rd G H fN 1 x.v.v x.l) ∧ (BF G H.size) ∧ (DF G ko) ∧ (∀ b, G b → H0.size ≤ b) ∧ (out.length = n) ∧ (RwOk out) ∧ (Nx 0 H0.size ko) ∧ Nw H0 H)
    (fun (s_ : (Nat) × (Value) × (Nat) × (List Rw) × (Nat → Prop)) => match s_ with | (n, vo, ko, out, G) => li.length - n) (0, .slice none 0 0, 0, [], fun _ => False) ⟨rfl, rfl, rfl, trivial⟩ ?_ ?_
  ·
    exact ⟨(by omega), Ow.nil fRw_len fRw_one, (fun x h => by cases h), (fun b e => e.elim), (fun b e => e.elim), (fun b e => e.elim), rfl, RwOk.nil, Nx.refl _ _, Mo.refl _ _⟩
  rintro ⟨n, vo, ko, out, G⟩ HL1 hI1 K6 hN6 hE6
  obtain ⟨hn, how, hx, bf_hx, fg, hG, hol, hok, nxl_how, hlm1⟩ := hI1
  have df1 := DF.app (DF.z) (bf_hl.mono hm0.size) nxl_how
  have df2 := DF.app (DF.z) (bf_hlx.mono hm0.size) nxl_how
  have nx3 : Nx 0 H0.size ko := Nx.tr (Nx.refl 0 _) nxl_how hm0.size
  replace hl := hl.nw hlm1
  replace hlx := fun x h_ => (hlx x h_).nw hlm1
  replace hm0 := hm0.tr hlm1
  have hz1 := hlm1.size
  have hle_how := how.le
  have nx4 := nxl_how
  refine CW.seq (fun K7 hK7 hE7 => ?_)
  refine CW.seq (fun K8 hK8 hE8 => ?_)
  refine CW.region ?_
  refine LR.v (Y.move rfl rfl) (Wd.u rfl) rfl rfl ?_
  refine LR.v (Y.move rfl rfl) (Wd.u rfl) rfl rfl ?_
  refine LR.v (Y.len hl rfl Try.runUnderlying22 rfl) (Wd.u rfl) rfl rfl ?_
  refine LR.v (Y.lss rfl rfl rfl) (Wd.u rfl) rfl rfl ?_
  refine LR.v (Y.move rfl rfl) (Wd.u rfl) rfl rfl ?_
  refine LR.splitp (d := 14) rfl (fun g14 => ?_) (fun g14 => ?_)
  ·
    refine LR.v (Y.move rfl rfl) (Wd.g rfl rfl rfl) rfl rfl ?_
    refine LR.v (Y.lss rfl rfl rfl) (Wd.g rfl rfl rfl) rfl rfl ?_
    refine LR.v (Y.pick_t rfl rfl rfl) (Wd.u rfl) rfl rfl ?_
    refine LR.nil ?_
    refine hK8 _ _ ?_
    refine CW.condp rfl (fun c17 => ?_) (fun c17 => ?_)
    ·
      refine CW.skip ?_
      refine hK7 _ _ ?_
      refine CW.seq (fun K9 hK9 hE9 => ?_)
      refine CW.block (fun K10 hK10 hX10 hE10 => ?_)
      refine CW.seq (fun K11 hK11 hE11 => ?_)
      refine CW.region ?_
      refine LR.v (Y.assign rfl rfl) (Wd.u rfl) rfl rfl ?_
      refine LR.nil ?_
      refine hK11 _ _ ?_
      refine CW.seq (fun K12 hK12 hE12 => ?_)
      refine CW.seq (fun K13 hK13 hE13 => ?_)
      refine CW.region ?_
      refine LR.v (Y.assign rfl rfl) (Wd.u rfl) rfl rfl ?_
      refine LR.nil ?_
      refine hK13 _ _ ?_
      refine CW.block (fun K14 hK14 hX14 hE14 => ?_)
      refine CW.loop (fun (s_ : (Nat) × (Value) × (Nat) × (List Nat)) => match s_ with | (k, vp, kp, p) => [(0, vl), (3, vo), (4, .int .i64 (n : Int)), (5, vp), (6, .int .i64 (k : Int))])
        (fun (s_ : (Nat) × (Value) × (Nat) × (List Nat)) (H : Heap) => match s_ with | (k, vp, kp, p) => (Ow kp 3 H fN 1 vp p) ∧ (p.length ≤ k ∧ p.length ≤ 4) ∧ (∀ a ∈ p, a < n) ∧ (Nx 0 HL1.size kp) ∧ Nw HL1 H)
        (fun (s_ : (Nat) × (Value) × (Nat) × (List Nat)) => match s_ with | (k, vp, kp, p) => (li[n]).2.length - k) (0, .slice none 0 0, 0, []) ⟨rfl, rfl, rfl, rfl, rfl, trivial⟩ ?_ ?_
      ·
        exact ⟨Ow.nil fN_len fN_one, ⟨by simp, by simp⟩, by simp, Nx.refl _ _, Mo.refl _ _⟩
      rintro ⟨k, vp, kp, p⟩ HL2 hI2 K15 hN15 hE15
      obtain ⟨op, hpl, hpn, nxl_op, hlm2⟩ := hI2
      have df5 := DF.app (DF.z) (bf_hl.mono hm0.size) nxl_op
      have df6 := DF.app (DF.z) (bf_hlx.mono hm0.size) nxl_op
      have dj7 : Dj ko kp := Dj.app (Dj.z) how.le nxl_op
      have df8 := DF.app (DF.z) (bf_hx.mono (by omega)) nxl_op
      have nx9 : Nx 0 H0.size kp := Nx.tr (Nx.refl 0 _) nxl_op hm0.size
      have nx10 : Nx 0 H0.size kp := Nx.tr (Nx.refl 0 _) nxl_op hlm1.size
      replace hl := hl.nw hlm2
      replace hlx := fun x h_ => (hlx x h_).nw hlm2
      replace how := how.nw hlm2
      replace hx := fun x h_ => (hx x h_).nw hlm2
      replace hm0 := hm0.tr hlm2
      replace hlm1 := hlm1.tr hlm2
      have hz2 := hlm2.size
      have hle_op := op.le
      have nx11 := nxl_op
      refine CW.seq (fun K16 hK16 hE16 => ?_)
      refine CW.seq (fun K17 hK17 hE17 => ?_)
      refine CW.region ?_
      refine LR.v (Y.move rfl rfl) (Wd.u rfl) rfl rfl ?_
      refine LR.v (Y.move rfl rfl) (Wd.u rfl) rfl rfl ?_
      refine LR.v (Y.move rfl rfl) (Wd.u rfl) rfl rfl ?_
      refine LR.e (g := fun ad => .pointer (some ad)) (Y.indexAddrF hl (n) rfl Try.runUnderlying22 Try.sizeOf38 rfl rfl (by first | rfl | omega) (by omega)) (Wd.u rfl) rfl rfl (fun ad23 pt23 => ?_)
      have bf_pt23 := bf_hl
      refine LR.v (Y.load1 pt23.pt rfl Try.isAgg38 rfl) (Wd.u rfl) rfl rfl ?_
      refine LR.v (Y.len (hlx _ (List.getElem_mem (by omega : n < li.length))) rfl Try.runUnderlying38 rfl) (Wd.u rfl) rfl rfl ?_
      refine LR.v (Y.lss rfl rfl rfl) (Wd.u rfl) rfl rfl ?_
      refine LR.v (Y.move rfl rfl) (Wd.u rfl) rfl rfl ?_
      refine LR.splitp (d := 27) rfl (fun g27 => ?_) (fun g27 => ?_)
      ·
        refine LR.v (Y.move rfl rfl) (Wd.g rfl rfl rfl) rfl rfl ?_
        refine LR.v (Y.lss rfl rfl rfl) (Wd.g rfl rfl rfl) rfl rfl ?_
        refine LR.v (Y.pick_t rfl rfl rfl) (Wd.u rfl) rfl rfl ?_
        refine LR.v (Y.move rfl rfl) (Wd.u rfl) rfl rfl ?_
        refine LR.splitp (d := 31) rfl (fun g31 => ?_) (fun g31 => ?_)
        ·
          refine LR.v (Y.move rfl rfl) (Wd.g rfl rfl rfl) rfl rfl ?_
          refine LR.v (Y.gtr rfl rfl rfl) (Wd.g rfl rfl rfl) rfl rfl ?_
          refine LR.v (Y.pick_t rfl rfl rfl) (Wd.u rfl) rfl rfl ?_
          refine LR.nil ?_
          refine hK17 _ _ ?_
          refine CW.condp rfl (fun c34 => ?_) (fun c34 => ?_)
          ·
            refine CW.skip ?_
            refine hK16 _ _ ?_
            refine CW.seq (fun K18 hK18 hE18 => ?_)
            refine CW.block (fun K19 hK19 hX19 hE19 => ?_)
            refine CW.seq (fun K20 hK20 hE20 => ?_)
            refine CW.region ?_
            refine LR.v (Y.move rfl rfl) (Wd.u rfl) rfl rfl ?_
            refine LR.v (Y.move rfl rfl) (Wd.u rfl) rfl rfl ?_
            refine LR.e (g := fun ad => .pointer (some ad)) (Y.indexAddrF hl (n) rfl Try.runUnderlying22 Try.sizeOf38 rfl rfl (by first | rfl | omega) (by omega)) (Wd.u rfl) rfl rfl (fun ad39 pt39 => ?_)
            have bf_pt39 := bf_hl
            refine LR.v (Y.load1 pt39.pt rfl Try.isAgg38 rfl) (Wd.u rfl) rfl rfl ?_
            refine LR.v (Y.move rfl rfl) (Wd.u rfl) rfl rfl ?_
            refine LR.e (g := fun ad => .pointer (some ad)) (Y.indexAddrF (hlx _ (List.getElem_mem (by omega : n < li.length))) (k) rfl Try.runUnderlying38 Try.sizeOf3 rfl rfl (by first | rfl | omega) (by omega)) (Wd.u rfl) rfl rfl (fun ad42 pt42 => ?_)
            have bf_pt42 := bf_hlx
            refine LR.v (Y.load1 pt42.pt rfl Try.isAgg3 rfl) (Wd.u rfl) rfl rfl ?_
            refine LR.v (Y.move rfl rfl) (Wd.u rfl) rfl rfl ?_
            -- call selvage/selvagelaw11.within
            refine LR.call rfl Try.call14 rfl (Wd.u rfl) rfl rfl (within_ct _ n w0 _ (by omega) (hi64 _ (List.getElem_mem (by omega : n < li.length)) _ (List.getElem_mem (by omega)))) (fun v45 H45 r45 => ?_)
            obtain ⟨q45, rfl, hq45, hs45⟩ := r45
            replace hl := hl.nw hs45
            replace hlx := fun x h_ => (hlx x h_).nw hs45
            replace how := how.nw hs45
            replace hx := fun x h_ => (hx x h_).nw hs45
            replace op := op.nw hs45
            replace pt39 := pt39.nw hs45
            replace pt42 := pt42.nw hs45
            replace hm0 := hm0.tr hs45
            replace hlm1 := hlm1.tr hs45
            replace hlm2 := hlm2.tr hs45
            have hz3 := hs45.size
            refine LR.v (Y.assign rfl rfl) (Wd.u rfl) rfl rfl ?_
            refine LR.nil ?_
            refine hK20 _ _ ?_
            refine CW.seq (fun K21 hK21 hE21 => ?_)
            refine CW.region ?_
            refine LR.v (Y.assign rfl rfl) (Wd.u rfl) rfl rfl ?_
            refine LR.nil ?_
            refine hK21 _ _ ?_
            refine CW.seq (fun K22 hK22 hE22 => ?_)
            refine CW.seq (fun K23 hK23 hE23 => ?_)
            refine CW.region ?_
            refine LR.v (Y.assign rfl rfl) (Wd.u rfl) rfl rfl ?_
            refine LR.nil ?_
            refine hK23 _ _ ?_
            refine CW.block (fun K24 hK24 hX24 hE24 => ?_)
            refine CW.loop (fun (s_ : (Nat) × (Bool)) => match s_ with | (j, th) => [(0, vl), (3, vo), (4, .int .i64 (n : Int)), (5, vp), (6, .int .i64 (k : Int)), (7, .int .i64 (q45 : Int)), (8, .bool th), (9, .int .i64 (j : Int))])
              (fun (s_ : (Nat) × (Bool)) (H : Heap) => match s_ with | (j, th) => (j ≤ p.length) ∧ Nw H45 H)
              (fun (s_ : (Nat) × (Bool)) => match s_ with | (j, th) => p.length - j) (0, false) ⟨rfl, rfl, rfl, rfl, rfl, rfl, rfl, rfl, trivial⟩ ?_ ?_
            ·
              exact ⟨(by omega), Mo.refl _ _⟩
            rintro ⟨j, th⟩ HL3 hI3 K25 hN25 hE25
            obtain ⟨hj, hlm3⟩ := hI3
            replace hl := hl.nw hlm3
            replace hlx := fun x h_ => (hlx x h_).nw hlm3
            replace how := how.nw hlm3
            replace hx := fun x h_ => (hx x h_).nw hlm3
            replace op := op.nw hlm3
            replace hm0 := hm0.tr hlm3
            replace hlm1 := hlm1.tr hlm3
            replace hlm2 := hlm2.tr hlm3
            have hz4 := hlm3.size
            refine CW.seq (fun K26 hK26 hE26 => ?_)
            refine CW.seq (fun K27 hK27 hE27 => ?_)
            refine CW.region ?_
            refine LR.v (Y.move rfl rfl) (Wd.u rfl) rfl rfl ?_
            refine LR.v (Y.move rfl rfl) (Wd.u rfl) rfl rfl ?_
            refine LR.v (Y.len op.rd rfl Try.runUnderlying38 rfl) (Wd.u rfl) rfl rfl ?_
            refine LR.v (Y.lss rfl rfl rfl) (Wd.u rfl) rfl rfl ?_
            refine LR.nil ?_
            refine hK27 _ _ ?_
            refine CW.condp rfl (fun c49 => ?_) (fun c49 => ?_)
            ·
              refine CW.skip ?_
              refine hK26 _ _ ?_
              refine CW.seq (fun K28 hK28 hE28 => ?_)
              refine CW.block (fun K29 hK29 hX29 hE29 => ?_)
              refine CW.region ?_
              refine LR.v (Y.move rfl rfl) (Wd.u rfl) rfl rfl ?_
              refine LR.v (Y.move rfl rfl) (Wd.u rfl) rfl rfl ?_
              refine LR.split (d := 53) rfl (fun g53 => ?_) (fun g53 => ?_)
              ·
                refine LR.gs rfl rfl rfl rfl rfl rfl ?_
                refine LR.gs rfl rfl rfl rfl rfl rfl ?_
                refine LR.gs rfl rfl rfl rfl rfl rfl ?_
                refine LR.gs rfl rfl rfl rfl rfl rfl ?_
                refine LR.gs rfl rfl rfl rfl rfl rfl ?_
                refine LR.gs rfl rfl rfl rfl rfl rfl ?_
                refine LR.v (Y.pick_t rfl rfl rfl) (Wd.u rfl) rfl rfl ?_
                refine LR.v (Y.assign rfl rfl) (Wd.u rfl) rfl rfl ?_
                refine LR.nil ?_
                refine hK29 _ _ ?_
                refine hK28 _ _ ?_
                refine CW.region ?_
                refine LR.v (Y.move rfl rfl) (Wd.u rfl) rfl rfl ?_
                refine LR.v (Y.addi rfl rfl rfl (by omega)) (Wd.u rfl) rfl rfl ?_
                refine LR.v (Y.assign rfl rfl) (Wd.u rfl) rfl rfl ?_
                refine LR.nil ?_
                refine QN.sub (hN25 (j + 1, _) _ ?_ ?_) ⟨rfl, rfl, (iv (by omega)), rfl, (iv (by omega)), (iv (by omega)), rfl, (iv (by omega)), trivial⟩
                · exact ⟨(by omega), hlm3⟩
                · first | omega | (simp only; omega) | (simp; omega)
              ·
                refine LR.v (Y.move rfl rfl) (Wd.g rfl rfl rfl) rfl rfl ?_
                refine LR.v (Y.move rfl rfl) (Wd.g rfl rfl rfl) rfl rfl ?_
                refine LR.v (Y.owAddr op (j) rfl Try.runUnderlying38 Try.sizeOf3 rfl rfl (by first | rfl | omega) (by omega)) (Wd.g rfl rfl rfl) rfl rfl ?_
                refine LR.v (Y.load1 (op.pt (j := j) (by omega)) rfl Try.isAgg3 rfl) (Wd.g rfl rfl rfl) rfl rfl ?_
                refine LR.v (Y.move rfl rfl) (Wd.g rfl rfl rfl) rfl rfl ?_
                refine LR.v (Y.eql rfl rfl rfl) (Wd.g rfl rfl rfl) rfl rfl ?_
                refine LR.v (Y.pick_f rfl rfl rfl) (Wd.u rfl) rfl rfl ?_
                refine LR.v (Y.assign rfl rfl) (Wd.u rfl) rfl rfl ?_
                refine LR.nil ?_
                refine hK29 _ _ ?_
                refine hK28 _ _ ?_
                refine CW.region ?_
                refine LR.v (Y.move rfl rfl) (Wd.u rfl) rfl rfl ?_
                refine LR.v (Y.addi rfl rfl rfl (by omega)) (Wd.u rfl) rfl rfl ?_
                refine LR.v (Y.assign rfl rfl) (Wd.u rfl) rfl rfl ?_
                refine LR.nil ?_
                refine QN.sub (hN25 (j + 1, _) _ ?_ ?_) ⟨rfl, rfl, (iv (by omega)), rfl, (iv (by omega)), (iv (by omega)), rfl, (iv (by omega)), trivial⟩
                · exact ⟨(by omega), hlm3⟩
                · first | omega | (simp only; omega) | (simp; omega)
            ·
              refine CW.exit (hE26 (.exit 4) nofun _ _ (hE25 (.exit 4) nofun _ _ (hX24 _ _ ?_)))
              refine hK22 _ _ ?_
              refine CW.seq (fun K30 hK30 hE30 => ?_)
              refine CW.region ?_
              refine LR.v (Y.move rfl rfl) (Wd.u rfl) rfl rfl ?_
              refine LR.v (Y.not rfl rfl) (Wd.u rfl) rfl rfl ?_
              refine LR.nil ?_
              refine hK30 _ _ ?_
              refine CW.cond rfl (fun c62 => ?_) (fun c62 => ?_)
              ·
                refine CW.region ?_
                refine LR.v (Y.move rfl rfl) (Wd.u rfl) rfl rfl ?_
                refine LR.v (Y.move rfl rfl) (Wd.u rfl) rfl rfl ?_
                refine LR.z (Z.litw _ ([q45]) rfl inf38 rfl rfl rfl (by decide) (by decide) fN_len fN_one (rfl)) (Wd.u rfl) rfl rfl (fun v65 H65 r65 => ?_)
                obtain ⟨ow65, hs65, ob65, hH65⟩ := r65
                have hzs65 : H65.size = HL3.size + 1 := by rw [hH65]; simp
                have df12 := (DF.new (bf_hl.mono hm0.size) : DF _ (HL3.size + 1))
                have df13 := (DF.new (bf_hlx.mono hm0.size) : DF _ (HL3.size + 1))
                have dj14 : Dj ko (HL3.size + 1) := Dj.new how.le
                have df15 := (DF.new (bf_hx.mono (by omega)) : DF _ (HL3.size + 1))
                have dj16 : Dj kp (HL3.size + 1) := Dj.new op.le
                have nx17 : Nx 0 H0.size (HL3.size + 1) := Nx.new hm0.size
                have nx18 : Nx 0 H0.size (HL3.size + 1) := Nx.new hlm1.size
                have nx19 : Nx 0 HL1.size (HL3.size + 1) := Nx.new hlm2.size
                replace hl := hl.nw hs65
                replace hlx := fun x h_ => (hlx x h_).nw hs65
                replace how := how.nw hs65
                replace hx := fun x h_ => (hx x h_).nw hs65
                replace op := op.nw hs65
                replace hm0 := hm0.tr hs65
                replace hlm1 := hlm1.tr hs65
                replace hlm2 := hlm2.tr hs65
                have hz5 := hs65.size
                refine LR.z (Z.apnd op ow65.rd rfl inf38 rfl rfl (by rw [List.length_singleton]; omega) (by rw [List.length_singleton]; omega)) (Wd.u rfl) rfl rfl (fun v66 H66 r66 => ?_)
                obtain ⟨k66, op, hk66, hs66⟩ := r66
                replace hk66 : Nx kp H65.size k66 := hk66
                replace hs66 := hs66.md
                have df20 := DF.app (df5) (bf_hl.mono hm0.size) hk66
                have df21 := DF.app (df6) (bf_hlx.mono hm0.size) hk66
                have dj22 : Dj ko k66 := Dj.app (dj7) how.le hk66
                have df23 := DF.app (df8) (bf_hx.mono (by omega)) hk66
                have dj24 : Dj (HL3.size + 1) k66 := Dj.app (dj16.symm) ow65.le hk66
                have nx25 : Nx 0 H0.size k66 := Nx.tr (nx9) hk66 hm0.size
                have nx26 : Nx 0 H0.size k66 := Nx.tr (nx10) hk66 hlm1.size
                have nx27 : Nx 0 HL1.size k66 := Nx.tr (nx11) hk66 hlm2.size
                replace hl := hl.upL hs66 (DFL.cons df5 DFL.nil)
                replace hlx := fun x h_ => (hlx x h_).upL hs66 (DFL.cons df6 DFL.nil)
                replace how := how.upL hs66 (DL.cons dj7 DL.nil)
                replace hx := fun x h_ => (hx x h_).upL hs66 (DFL.cons df8 DFL.nil)
                replace ow65 := ow65.upL hs66 (DL.cons dj16.symm DL.nil)
                replace hm0 := (Mo.trL (ks := []) (hm0.mdn []) hs66 (MIL.cons (MI.app MI.z (nx9) (Nat.le_refl _)) MIL.nil)).nil
                replace hlm1 := (Mo.trL (ks := []) (hlm1.mdn []) hs66 (MIL.cons (MI.app MI.z (nx10) (Nat.le_refl _)) MIL.nil)).nil
                replace hlm2 := (Mo.trL (ks := []) (hlm2.mdn []) hs66 (MIL.cons (MI.app MI.z (nx11) (Nat.le_refl _)) MIL.nil)).nil
                have hz6 := hs66.size
                have hle_op := op.le
                refine LR.v (Y.assign rfl rfl) (Wd.u rfl) rfl rfl ?_
                refine LR.nil ?_
                refine hK19 _ _ ?_
                refine hK18 _ _ ?_
                refine CW.region ?_
                refine LR.v (Y.move rfl rfl) (Wd.u rfl) rfl rfl ?_
                refine LR.v (Y.addi rfl rfl rfl (by omega)) (Wd.u rfl) rfl rfl ?_
                refine LR.v (Y.assign rfl rfl) (Wd.u rfl) rfl rfl ?_
                refine LR.nil ?_
                refine QN.sub (hN15 (k + 1, v66, k66, p ++ [q45]) _ ?_ ?_) ⟨rfl, rfl, (iv (by omega)), rfl, (iv (by omega)), trivial⟩
                · exact ⟨op, by simp only [List.length_append, List.length_singleton]; omega, fun a ha => by
                    rcases List.mem_append.1 ha with h | h
                    · exact hpn a h
                    · rw [List.mem_singleton.1 h]; exact hq45, nx27, hlm2⟩
                · first | omega | (simp only; omega) | (simp; omega)
              ·
                refine CW.skip ?_
                refine hK19 _ _ ?_
                refine hK18 _ _ ?_
                refine CW.region ?_
                refine LR.v (Y.move rfl rfl) (Wd.u rfl) rfl rfl ?_
                refine LR.v (Y.addi rfl rfl rfl (by omega)) (Wd.u rfl) rfl rfl ?_
                refine LR.v (Y.assign rfl rfl) (Wd.u rfl) rfl rfl ?_
                refine LR.nil ?_
                refine QN.sub (hN15 (k + 1, vp, kp, p) _ ?_ ?_) ⟨rfl, rfl, (iv (by omega)), rfl, (iv (by omega)), trivial⟩
                · exact ⟨op, by omega, (by omega), nx11, hlm2⟩
                · first | omega | (simp only; omega) | (simp; omega)
          ·
            refine CW.exit (hE16 (.exit 2) nofun _ _ (hE15 (.exit 2) nofun _ _ (hX14 _ _ ?_)))
            refine hK12 _ _ ?_
            refine CW.region ?_
            refine LR.v (Y.move rfl rfl) (Wd.u rfl) rfl rfl ?_
            obtain ⟨sp, hsp⟩ : ∃ s : SV, vp = s.v := ⟨toSV vp, op.sv.symm⟩
            rw [hsp] at op
            refine LR.v (Y.cast (v2 := sp.v) (Y.move rfl rfl) (hsp)) (Wd.u rfl) rfl rfl ?_
            refine LR.z (Z.litw _ ([⟨sp, p⟩]) rfl inf22 rfl rfl rfl (by decide) (by decide) fRw_len fRw_one (rfl)) (Wd.u rfl) rfl rfl (fun v69 H69 r69 => ?_)
            obtain ⟨ow69, hs69, ob69, hH69⟩ := r69
            have hzs69 : H69.size = HL2.size + 1 := by rw [hH69]; simp
            have df28 := (DF.new (bf_hl.mono hm0.size) : DF _ (HL2.size + 1))
            have df29 := (DF.new (bf_hlx.mono hm0.size) : DF _ (HL2.size + 1))
            have dj30 : Dj ko (HL2.size + 1) := Dj.new how.le
            have df31 := (DF.new (bf_hx.mono (by omega)) : DF _ (HL2.size + 1))
            have dj32 : Dj kp (HL2.size + 1) := Dj.new op.le
            have nx33 : Nx 0 H0.size (HL2.size + 1) := Nx.new hm0.size
            have nx34 : Nx 0 H0.size (HL2.size + 1) := Nx.new hlm1.size
            replace hl := hl.nw hs69
            replace hlx := fun x h_ => (hlx x h_).nw hs69
            replace how := how.nw hs69
            replace hx := fun x h_ => (hx x h_).nw hs69
            replace op := op.nw hs69
            replace hm0 := hm0.tr hs69
            replace hlm1 := hlm1.tr hs69
            have hz7 := hs69.size
            refine LR.z (Z.apnd how ow69.rd rfl inf22 rfl rfl (by rw [List.length_singleton]; omega) (by rw [List.length_singleton]; omega)) (Wd.u rfl) rfl rfl (fun v70 H70 r70 => ?_)
            obtain ⟨k70, how, hk70, hs70⟩ := r70
            replace hk70 : Nx ko H69.size k70 := hk70
            replace hs70 := hs70.md
            have df35 := DF.app (df1) (bf_hl.mono hm0.size) hk70
            have df36 := DF.app (df2) (bf_hlx.mono hm0.size) hk70
            have df37 := DF.app (fg) (bf_hx.mono (by omega)) hk70
            have dj38 : Dj kp k70 := Dj.app (dj7.symm) op.le hk70
            have dj39 : Dj (HL2.size + 1) k70 := Dj.app (dj30.symm) ow69.le hk70
            have nx40 : Nx 0 H0.size k70 := Nx.tr (nx3) hk70 hm0.size
            have nx41 : Nx 0 H0.size k70 := Nx.tr (nx4) hk70 hlm1.size
            replace hl := hl.upL hs70 (DFL.cons df1 DFL.nil)
            replace hlx := fun x h_ => (hlx x h_).upL hs70 (DFL.cons df2 DFL.nil)
            replace hx := fun x h_ => (hx x h_).upL hs70 (DFL.cons fg DFL.nil)
            replace op := op.upL hs70 (DL.cons dj7.symm DL.nil)
            replace ow69 := ow69.upL hs70 (DL.cons dj30.symm DL.nil)
            replace hm0 := (Mo.trL (ks := []) (hm0.mdn []) hs70 (MIL.cons (MI.app MI.z (nx3) (Nat.le_refl _)) MIL.nil)).nil
            replace hlm1 := (Mo.trL (ks := []) (hlm1.mdn []) hs70 (MIL.cons (MI.app MI.z (nx4) (Nat.le_refl _)) MIL.nil)).nil
            have hz8 := hs70.size
            have hle_how := how.le
            refine LR.v (Y.assign rfl rfl) (Wd.u rfl) rfl rfl ?_
            refine LR.nil ?_
            refine hK10 _ _ ?_
            refine hK9 _ _ ?_
            refine CW.region ?_
            refine LR.v (Y.move rfl rfl) (Wd.u rfl) rfl rfl ?_
            refine LR.v (Y.addi rfl rfl rfl (by omega)) (Wd.u rfl) rfl rfl ?_
            refine LR.v (Y.assign rfl rfl) (Wd.u rfl) rfl rfl ?_
            refine LR.nil ?_
            refine QN.sub (hN6 (n + 1, v70, k70, out ++ [⟨sp, p⟩], fun b => G b ∨ b + 1 = kp) _ ?_ ?_) ⟨rfl, rfl, (iv (by omega)), trivial⟩
            · exact ⟨(by omega), how, (fun x h => by
                rcases List.mem_append.1 h with h | h
                · exact (hx x h).imp (fun b _ e => .inl e)
                · rw [List.mem_singleton.1 h]; exact op.rd.imp (fun b _ e => .inr e)), BF.or1 (bf_hx.mono (by omega)) op.le, DF.or1 (df37) (dj38.symm), fun b e => e.elim (hG b) (fun e => by have := (nx9); unfold Nx at this; omega), by simp; omega, hok.snoc (by omega) (by simp only; omega) (fun k hk => by rw [hol]; exact hpn k hk), nx41, hlm1⟩
            · first | omega | (simp only; omega) | (simp; omega)
        ·
          refine LR.gs rfl rfl rfl rfl rfl rfl ?_
          refine LR.gs rfl rfl rfl rfl rfl rfl ?_
          refine LR.v (Y.pick_f rfl rfl rfl) (Wd.u rfl) rfl rfl ?_
          refine LR.nil ?_
          refine hK17 _ _ ?_
          refine CW.cond_f rfl ?_
          refine CW.exit (hE16 (.exit 2) nofun _ _ (hE15 (.exit 2) nofun _ _ (hX14 _ _ ?_)))
          refine hK12 _ _ ?_
          refine CW.region ?_
          refine LR.v (Y.move rfl rfl) (Wd.u rfl) rfl rfl ?_
          obtain ⟨sp, hsp⟩ : ∃ s : SV, vp = s.v := ⟨toSV vp, op.sv.symm⟩
          rw [hsp] at op
          refine LR.v (Y.cast (v2 := sp.v) (Y.move rfl rfl) (hsp)) (Wd.u rfl) rfl rfl ?_
          refine LR.z (Z.litw _ ([⟨sp, p⟩]) rfl inf22 rfl rfl rfl (by decide) (by decide) fRw_len fRw_one (rfl)) (Wd.u rfl) rfl rfl (fun v69 H69 r69 => ?_)
          obtain ⟨ow69, hs69, ob69, hH69⟩ := r69
          have hzs69 : H69.size = HL2.size + 1 := by rw [hH69]; simp
          have df42 := (DF.new (bf_hl.mono hm0.size) : DF _ (HL2.size + 1))
          have df43 := (DF.new (bf_hlx.mono hm0.size) : DF _ (HL2.size + 1))
          have dj44 : Dj ko (HL2.size + 1) := Dj.new how.le
          have df45 := (DF.new (bf_hx.mono (by omega)) : DF _ (HL2.size + 1))
          have dj46 : Dj kp (HL2.size + 1) := Dj.new op.le
          have nx47 : Nx 0 H0.size (HL2.size + 1) := Nx.new hm0.size
          have nx48 : Nx 0 H0.size (HL2.size + 1) := Nx.new hlm1.size
          replace hl := hl.nw hs69
          replace hlx := fun x h_ => (hlx x h_).nw hs69
          replace how := how.nw hs69
          replace hx := fun x h_ => (hx x h_).nw hs69
          replace op := op.nw hs69
          replace hm0 := hm0.tr hs69
          replace hlm1 := hlm1.tr hs69
          have hz9 := hs69.size
          refine LR.z (Z.apnd how ow69.rd rfl inf22 rfl rfl (by rw [List.length_singleton]; omega) (by rw [List.length_singleton]; omega)) (Wd.u rfl) rfl rfl (fun v70 H70 r70 => ?_)
          obtain ⟨k70, how, hk70, hs70⟩ := r70
          replace hk70 : Nx ko H69.size k70 := hk70
          replace hs70 := hs70.md
          have df49 := DF.app (df1) (bf_hl.mono hm0.size) hk70
          have df50 := DF.app (df2) (bf_hlx.mono hm0.size) hk70
          have df51 := DF.app (fg) (bf_hx.mono (by omega)) hk70
          have dj52 : Dj kp k70 := Dj.app (dj7.symm) op.le hk70
          have dj53 : Dj (HL2.size + 1) k70 := Dj.app (dj44.symm) ow69.le hk70
          have nx54 : Nx 0 H0.size k70 := Nx.tr (nx3) hk70 hm0.size
          have nx55 : Nx 0 H0.size k70 := Nx.tr (nx4) hk70 hlm1.size
          replace hl := hl.upL hs70 (DFL.cons df1 DFL.nil)
          replace hlx := fun x h_ => (hlx x h_).upL hs70 (DFL.cons df2 DFL.nil)
          replace hx := fun x h_ => (hx x h_).upL hs70 (DFL.cons fg DFL.nil)
          replace op := op.upL hs70 (DL.cons dj7.symm DL.nil)
          replace ow69 := ow69.upL hs70 (DL.cons dj44.symm DL.nil)
          replace hm0 := (Mo.trL (ks := []) (hm0.mdn []) hs70 (MIL.cons (MI.app MI.z (nx3) (Nat.le_refl _)) MIL.nil)).nil
          replace hlm1 := (Mo.trL (ks := []) (hlm1.mdn []) hs70 (MIL.cons (MI.app MI.z (nx4) (Nat.le_refl _)) MIL.nil)).nil
          have hz10 := hs70.size
          have hle_how := how.le
          refine LR.v (Y.assign rfl rfl) (Wd.u rfl) rfl rfl ?_
          refine LR.nil ?_
          refine hK10 _ _ ?_
          refine hK9 _ _ ?_
          refine CW.region ?_
          refine LR.v (Y.move rfl rfl) (Wd.u rfl) rfl rfl ?_
          refine LR.v (Y.addi rfl rfl rfl (by omega)) (Wd.u rfl) rfl rfl ?_
          refine LR.v (Y.assign rfl rfl) (Wd.u rfl) rfl rfl ?_
          refine LR.nil ?_
          refine QN.sub (hN6 (n + 1, v70, k70, out ++ [⟨sp, p⟩], fun b => G b ∨ b + 1 = kp) _ ?_ ?_) ⟨rfl, rfl, (iv (by omega)), trivial⟩
          · exact ⟨(by omega), how, (fun x h => by
              rcases List.mem_append.1 h with h | h
              · exact (hx x h).imp (fun b _ e => .inl e)
              · rw [List.mem_singleton.1 h]; exact op.rd.imp (fun b _ e => .inr e)), BF.or1 (bf_hx.mono (by omega)) op.le, DF.or1 (df51) (dj52.symm), fun b e => e.elim (hG b) (fun e => by have := (nx9); unfold Nx at this; omega), by simp; omega, hok.snoc (by omega) (by simp only; omega) (fun k hk => by rw [hol]; exact hpn k hk), nx55, hlm1⟩
          · first | omega | (simp only; omega) | (simp; omega)
      ·
        refine LR.gs rfl rfl rfl rfl rfl rfl ?_
        refine LR.gs rfl rfl rfl rfl rfl rfl ?_
        refine LR.v (Y.pick_f rfl rfl rfl) (Wd.u rfl) rfl rfl ?_
        refine LR.v (Y.move rfl rfl) (Wd.u rfl) rfl rfl ?_
        refine LR.gs rfl rfl rfl rfl rfl rfl ?_
        refine LR.gs rfl rfl rfl rfl rfl rfl ?_
        refine LR.v (Y.pick_f rfl rfl rfl) (Wd.u rfl) rfl rfl ?_
        refine LR.nil ?_
        refine hK17 _ _ ?_
        refine CW.cond_f rfl ?_
        refine CW.exit (hE16 (.exit 2) nofun _ _ (hE15 (.exit 2) nofun _ _ (hX14 _ _ ?_)))
        refine hK12 _ _ ?_
        refine CW.region ?_
        refine LR.v (Y.move rfl rfl) (Wd.u rfl) rfl rfl ?_
        obtain ⟨sp, hsp⟩ : ∃ s : SV, vp = s.v := ⟨toSV vp, op.sv.symm⟩
        rw [hsp] at op
        refine LR.v (Y.cast (v2 := sp.v) (Y.move rfl rfl) (hsp)) (Wd.u rfl) rfl rfl ?_
        refine LR.z (Z.litw _ ([⟨sp, p⟩]) rfl inf22 rfl rfl rfl (by decide) (by decide) fRw_len fRw_one (rfl)) (Wd.u rfl) rfl rfl (fun v69 H69 r69 => ?_)
        obtain ⟨ow69, hs69, ob69, hH69⟩ := r69
        have hzs69 : H69.size = HL2.size + 1 := by rw [hH69]; simp
        have df56 := (DF.new (bf_hl.mono hm0.size) : DF _ (HL2.size + 1))
        have df57 := (DF.new (bf_hlx.mono hm0.size) : DF _ (HL2.size + 1))
        have dj58 : Dj ko (HL2.size + 1) := Dj.new how.le
        have df59 := (DF.new (bf_hx.mono (by omega)) : DF _ (HL2.size + 1))
        have dj60 : Dj kp (HL2.size + 1) := Dj.new op.le
        have nx61 : Nx 0 H0.size (HL2.size + 1) := Nx.new hm0.size
        have nx62 : Nx 0 H0.size (HL2.size + 1) := Nx.new hlm1.size
        replace hl := hl.nw hs69
        replace hlx := fun x h_ => (hlx x h_).nw hs69
        replace how := how.nw hs69
        replace hx := fun x h_ => (hx x h_).nw hs69
        replace op := op.nw hs69
        replace hm0 := hm0.tr hs69
        replace hlm1 := hlm1.tr hs69
        have hz11 := hs69.size
        refine LR.z (Z.apnd how ow69.rd rfl inf22 rfl rfl (by rw [List.length_singleton]; omega) (by rw [List.length_singleton]; omega)) (Wd.u rfl) rfl rfl (fun v70 H70 r70 => ?_)
        obtain ⟨k70, how, hk70, hs70⟩ := r70
        replace hk70 : Nx ko H69.size k70 := hk70
        replace hs70 := hs70.md
        have df63 := DF.app (df1) (bf_hl.mono hm0.size) hk70
        have df64 := DF.app (df2) (bf_hlx.mono hm0.size) hk70
        have df65 := DF.app (fg) (bf_hx.mono (by omega)) hk70
        have dj66 : Dj kp k70 := Dj.app (dj7.symm) op.le hk70
        have dj67 : Dj (HL2.size + 1) k70 := Dj.app (dj58.symm) ow69.le hk70
        have nx68 : Nx 0 H0.size k70 := Nx.tr (nx3) hk70 hm0.size
        have nx69 : Nx 0 H0.size k70 := Nx.tr (nx4) hk70 hlm1.size
        replace hl := hl.upL hs70 (DFL.cons df1 DFL.nil)
        replace hlx := fun x h_ => (hlx x h_).upL hs70 (DFL.cons df2 DFL.nil)
        replace hx := fun x h_ => (hx x h_).upL hs70 (DFL.cons fg DFL.nil)
        replace op := op.upL hs70 (DL.cons dj7.symm DL.nil)
        replace ow69 := ow69.upL hs70 (DL.cons dj58.symm DL.nil)
        replace hm0 := (Mo.trL (ks := []) (hm0.mdn []) hs70 (MIL.cons (MI.app MI.z (nx3) (Nat.le_refl _)) MIL.nil)).nil
        replace hlm1 := (Mo.trL (ks := []) (hlm1.mdn []) hs70 (MIL.cons (MI.app MI.z (nx4) (Nat.le_refl _)) MIL.nil)).nil
        have hz12 := hs70.size
        have hle_how := how.le
        refine LR.v (Y.assign rfl rfl) (Wd.u rfl) rfl rfl ?_
        refine LR.nil ?_
        refine hK10 _ _ ?_
        refine hK9 _ _ ?_
        refine CW.region ?_
        refine LR.v (Y.move rfl rfl) (Wd.u rfl) rfl rfl ?_
        refine LR.v (Y.addi rfl rfl rfl (by omega)) (Wd.u rfl) rfl rfl ?_
        refine LR.v (Y.assign rfl rfl) (Wd.u rfl) rfl rfl ?_
        refine LR.nil ?_
        refine QN.sub (hN6 (n + 1, v70, k70, out ++ [⟨sp, p⟩], fun b => G b ∨ b + 1 = kp) _ ?_ ?_) ⟨rfl, rfl, (iv (by omega)), trivial⟩
        · exact ⟨(by omega), how, (fun x h => by
            rcases List.mem_append.1 h with h | h
            · exact (hx x h).imp (fun b _ e => .inl e)
            · rw [List.mem_singleton.1 h]; exact op.rd.imp (fun b _ e => .inr e)), BF.or1 (bf_hx.mono (by omega)) op.le, DF.or1 (df65) (dj66.symm), fun b e => e.elim (hG b) (fun e => by have := (nx9); unfold Nx at this; omega), by simp; omega, hok.snoc (by omega) (by simp only; omega) (fun k hk => by rw [hol]; exact hpn k hk), nx69, hlm1⟩
        · first | omega | (simp only; omega) | (simp; omega)
    ·
      refine CW.exit (hE7 (.exit 0) nofun _ _ (hE6 (.exit 0) nofun _ _ (hX5 _ _ ?_)))
      refine hK3 _ _ ?_
      refine CW.seq (fun K31 hK31 hE31 => ?_)
      refine CW.region ?_
      refine LR.v (Y.move rfl rfl) (Wd.u rfl) rfl rfl ?_
      refine LR.v (Y.assign rfl rfl) (Wd.u rfl) rfl rfl ?_
      refine LR.nil ?_
      refine hK31 _ _ ?_
      refine CW.ret (hret .ret (.inr rfl) _ _ _ (res1 rfl rfl) ?_)
      obtain ⟨s9, hs9⟩ : ∃ s : SV, vo = s.v := ⟨toSV vo, how.sv.symm⟩
      exact ⟨s9, out, hs9, srd_of (by rw [← hs9]; exact how.fre (nx3)) (fun x h => (hx x h).imp (fun b _ e => hG b e)), hok, hm0⟩
  ·
    refine LR.gs rfl rfl rfl rfl rfl rfl ?_
    refine LR.gs rfl rfl rfl rfl rfl rfl ?_
    refine LR.v (Y.pick_f rfl rfl rfl) (Wd.u rfl) rfl rfl ?_
    refine LR.nil ?_
    refine hK8 _ _ ?_
    refine CW.cond_f rfl ?_
    refine CW.exit (hE7 (.exit 0) nofun _ _ (hE6 (.exit 0) nofun _ _ (hX5 _ _ ?_)))
    refine hK3 _ _ ?_
    refine CW.seq (fun K32 hK32 hE32 => ?_)
    refine CW.region ?_
    refine LR.v (Y.move rfl rfl) (Wd.u rfl) rfl rfl ?_
    refine LR.v (Y.assign rfl rfl) (Wd.u rfl) rfl rfl ?_
    refine LR.nil ?_
    refine hK32 _ _ ?_
    refine CW.ret (hret .ret (.inr rfl) _ _ _ (res1 rfl rfl) ?_)
    obtain ⟨s9, hs9⟩ : ∃ s : SV, vo = s.v := ⟨toSV vo, how.sv.symm⟩
    exact ⟨s9, out, hs9, srd_of (by rw [← hs9]; exact how.fre (nx3)) (fun x h => (hx x h).imp (fun b _ e => hG b e)), hok, hm0⟩

end Go.Proofs.Ytepdhokpfecdnaa.GraP
