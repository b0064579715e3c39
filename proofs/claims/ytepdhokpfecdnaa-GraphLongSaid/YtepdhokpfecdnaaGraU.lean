/-
  errors.Is of two numbers; is an error that number; are two lists the same.
-/
import Derived.WalkKit
import Derived.LaidEql
import Derived.Stop.Asserts
import Derived.RowKitTokens
import Derived.Test.YtepdhokpfecdnaaGraT
namespace Go.Proofs.Ytepdhokpfecdnaa.GraU
open Go.Proofs.Ytepdhokpfecdnaa.E Go.RowKit Go.Proofs.Ytepdhokpfecdnaa.GraA Go.Proofs.Ytepdhokpfecdnaa.GraB Go.Proofs.Ytepdhokpfecdnaa.GraC Go.Proofs.Ytepdhokpfecdnaa.GraD Go.Proofs.Ytepdhokpfecdnaa.GraE Go.Proofs.Ytepdhokpfecdnaa.GraF Go.Proofs.Ytepdhokpfecdnaa.GraG Go.Proofs.Ytepdhokpfecdnaa.GraH Go.Proofs.Ytepdhokpfecdnaa.GraI Go.Proofs.Ytepdhokpfecdnaa.GraJ Go.Proofs.Ytepdhokpfecdnaa.GraK Go.Proofs.Ytepdhokpfecdnaa.GraL Go.Proofs.Ytepdhokpfecdnaa.GraM Go.Proofs.Ytepdhokpfecdnaa.GraN Go.Proofs.Ytepdhokpfecdnaa.GraO Go.Proofs.Ytepdhokpfecdnaa.GraP Go.Proofs.Ytepdhokpfecdnaa.GraQ Go.Proofs.Ytepdhokpfecdnaa.GraR Go.Proofs.Ytepdhokpfecdnaa.GraS Go.Proofs.Ytepdhokpfecdnaa.GraT
set_option maxRecDepth 20000
set_option linter.unusedVariables false
set_option linter.unusedSimpArgs false
set_option linter.unusedSectionVars false

section
open Go.Extern.Stop Go.Stop Go.Extern
theorem run_equalIn_iface_int {P : Program} (w : World) (d : Nat) {ti tp : TypeId} {ms : Array (String × TypeId)} {i : TypeInfo} (a b : Int) (hi : P.underlying ti = some (.interface ms)) (hp : P.underlying tp = some (.int .i64)) (hinfo : P.info? tp = some i) (hcomp : i.comparable = true) :
    (Op.equalIn (d + 2) ti (.iface tp (.int .i64 a)) (.iface tp (.int .i64 b))).run P w = .ok (decide (a = b)) w := by
  have e : (a == b) = decide (a = b) := by rw [Bool.eq_iff_iff]; simp
  simp [Op.equalIn, run_underlying hi, run_underlying hp, typeInfo, hinfo, hcomp, e]
theorem run_eql_iface_int {P : Program} (w : World) {ti tp : TypeId} {ms : Array (String × TypeId)} {i : TypeInfo} (a b : Int) (hi : P.underlying ti = some (.interface ms)) (hp : P.underlying tp = some (.int .i64)) (hinfo : P.info? tp = some i) (hcomp : i.comparable = true) :
    (binOp .eql ti (.iface tp (.int .i64 a)) (.iface tp (.int .i64 b))).run P w = .ok (.bool (decide (a = b))) w := by
  simp only [binOp]
  simp [Op.equal, Op.maxDepth, run_equalIn_iface_int w 9998 a b hi hp hinfo hcomp]
abbrev eT : TypeId := 76
theorem isTypeOf (v : Value) (w : World) : (Extern.ReflectliteType.typeOf #[.iface eT v]).run Try.prog w = .ok (.iface 112 (.agg #[.pointer (some ⟨1, eT, none⟩)])) w := by kernel_rfl
def cmpF : Array Value → Sem Value := Extern.ReflectliteType.method fun t => do Go.Extern.Rtype.noPackHeld "Comparable" t; pure (.bool (← typeInfo t).comparable)
theorem isComparable (w : World) : (cmpF #[.agg #[.pointer (some ⟨1, eT, none⟩)]]).run Try.prog w = .ok (.bool true) w := by kernel_rfl
theorem isMethodComparable (v : Value) (w : World) : (Go.method 276 112 v "Comparable").run Try.prog w = .ok (93, v) w := by kernel_rfl
theorem isComp : (Try.prog.info? eT).map (·.comparable) = some true := by kernel_rfl
theorem noIs (v : Value) (xT : TypeId) (w : World) : (Instr.typeAssert (.iface eT v) xT 114 true).run Try.prog w = .ok (.tuple #[.nilIface, .bool false]) w := run_typeAssert_lacksB Try.underlying114 (by kernel_rfl) (by kernel_rfl) v xT w
theorem noUnwrap (v : Value) (xT : TypeId) (w : World) : (Instr.typeAssert (.iface eT v) xT 117 true).run Try.prog w = .ok (.tuple #[.nilIface, .bool false]) w := run_typeAssert_lacksB Try.underlying117 (by kernel_rfl) (by kernel_rfl) v xT w
theorem noUnwraps (v : Value) (xT : TypeId) (w : World) : (Instr.typeAssert (.iface eT v) xT 119 true).run Try.prog w = .ok (.tuple #[.nilIface, .bool false]) w := run_typeAssert_lacksB Try.underlying119 (by kernel_rfl) (by kernel_rfl) v xT w
theorem errIs (a b : Int) (w : World) : Calls Try.prog 33 #[.iface eT (.int .i64 a), .iface eT (.int .i64 b)] w fun e w' => e = .returned (.bool (decide (a = b))) ∧ w' = w := by
  obtain ⟨i, hi, hcmp⟩ := Option.map_eq_some_iff.1 isComp
  have h8 := @run_callFunc_extern Try.prog 44 _ Extern.ReflectliteType.typeOf Try.func44 (by kernel_rfl) (by kernel_rfl) (by kernel_rfl) (by kernel_rfl)
  have h32 := @run_callFunc_extern Try.prog 93 _ cmpF Try.func93 (by kernel_rfl) (by kernel_rfl) (by kernel_rfl) (by kernel_rfl)
  have tT := isTypeOf
  have cT := isComparable
  have mR := isMethodComparable
  have nE := noIs
  have uE := noUnwrap
  have vE := noUnwraps
  have heq := run_eql_iface_int (P := Try.prog) w a b Try.underlying33 Try.underlying76 hi hcmp
  by_cases hab : a = b
  · subst hab
    rw [decide_eq_true rfl] at heq ⊢
    go_enter Try.func33, Try.ntmps33
    go_wp2
    refine wp_loop_rounds 1 ?_
    rw [rounds_succ]
    go_wp2
    go_ret
    exact ⟨rfl, rfl⟩
  · rw [decide_eq_false hab] at heq ⊢
    go_enter Try.func33, Try.ntmps33
    go_wp2
    refine wp_loop_rounds 1 ?_
    rw [rounds_succ]
    go_wp2
    go_ret
    exact ⟨rfl, rfl⟩
end
theorem is_ct0 (a b : Nat) (ha : a ≠ 0) (w0 : World) (H0 : Heap) : Ct Try.prog w0 33 #[eV a, .iface eT (.int .i64 (b : Int))] H0 (fun r H2 => r = .bool (decide (a = b)) ∧ Nw H0 H2) := by
  intro w hw
  rw [show eV a = .iface eT (.int .i64 (a : Int)) from if_neg ha]
  refine (errIs a b w).mono ?_
  rintro e w' ⟨rfl, rfl⟩
  exact ⟨_, H0, rfl, hw, by rw [show decide ((a : Int) = (b : Int)) = decide (a = b) from decide_eq_decide.2 (by omega)], Mo.refl _ _⟩

theorem is_ct (e n : Nat) (w0 : World) (H0 : Heap)
     :
    Ct Try.prog w0 20 #[eV e, .int .i64 (n : Int)] H0 (fun r H2 => r = .bool (decide (e = n)) ∧ Nw H0 H2) := by
  refine Ct.enter (args := [eV e, .int .i64 (n : Int)]) Try.func20 rfl rfl rfl ?_
  intro Q0 hret
  have hm0 : Nw H0 H0 := Mo.refl _ _
  refine CW.seq (fun K1 hK1 hE1 => ?_)
  refine CW.region ?_
  refine LR.v (Y.assign rfl rfl) (Wd.u rfl) rfl rfl ?_
  refine LR.nil ?_
  refine hK1 _ _ ?_
  refine CW.seq (fun K2 hK2 hE2 => ?_)
  refine CW.seq (fun K3 hK3 hE3 => ?_)
  refine CW.region ?_
  refine LR.v (Y.move rfl rfl) (Wd.u rfl) rfl rfl ?_
  refine LR.v (Y.eql rfl rfl rfl) (Wd.u rfl) rfl rfl ?_
  refine LR.nil ?_
  refine hK3 _ _ ?_
  refine CW.condp rfl (fun c6 => ?_) (fun c6 => ?_)
  ·
    refine CW.seq (fun K4 hK4 hE4 => ?_)
    refine CW.region ?_
    refine LR.v (Y.move rfl rfl) (Wd.u rfl) rfl rfl ?_
    refine LR.v (Y.eeq rfl Try.underlying33 rfl) (Wd.u rfl) rfl rfl ?_
    refine LR.v (Y.assign rfl rfl) (Wd.u rfl) rfl rfl ?_
    refine LR.nil ?_
    refine hK4 _ _ ?_
    refine CW.ret (hE2 .ret nofun _ _ (hret .ret (.inr rfl) _ _ _ (res1 rfl rfl) ?_))
    exact ⟨congrArg Value.bool (decide_eq_decide.2 (by omega)), hm0⟩
  ·
    refine CW.skip ?_
    refine hK2 _ _ ?_
    refine CW.seq (fun K5 hK5 hE5 => ?_)
    refine CW.region ?_
    refine LR.v (Y.move rfl rfl) (Wd.u rfl) rfl rfl ?_
    refine LR.v (Y.ene rfl Try.underlying33 rfl) (Wd.u rfl) rfl rfl ?_
    refine LR.v (Y.move rfl rfl) (Wd.u rfl) rfl rfl ?_
    refine LR.splitp (d := 11) rfl (fun g11 => ?_) (fun g11 => ?_)
    ·
      refine LR.v (Y.move rfl rfl) (Wd.g rfl rfl rfl) rfl rfl ?_
      refine LR.v (Y.move rfl rfl) (Wd.g rfl rfl rfl) rfl rfl ?_
      refine LR.v (Y.mki rfl Try.runUnderlying76 (by intro ms h; cases h) rfl) (Wd.g rfl rfl rfl) rfl rfl ?_
      -- call errors.Is
      refine LR.call rfl Try.call33 rfl (Wd.g rfl rfl rfl) rfl rfl (is_ct0 e n g11 w0 _) (fun v15 H15 r15 => ?_)
      obtain ⟨rfl, hs15⟩ := r15
      replace hm0 := hm0.tr hs15
      have hz1 := hs15.size
      refine LR.v (Y.pick_t rfl rfl rfl) (Wd.u rfl) rfl rfl ?_
      refine LR.v (Y.assign rfl rfl) (Wd.u rfl) rfl rfl ?_
      refine LR.nil ?_
      refine hK5 _ _ ?_
      refine CW.ret (hret .ret (.inr rfl) _ _ _ (res1 rfl rfl) ?_)
      exact ⟨rfl, hm0⟩
    ·
      refine LR.gs rfl rfl rfl rfl rfl rfl ?_
      refine LR.gs rfl rfl rfl rfl rfl rfl ?_
      refine LR.gs rfl rfl rfl rfl rfl rfl ?_
      refine LR.gs rfl rfl rfl rfl rfl rfl ?_
      refine LR.v (Y.pick_f rfl rfl rfl) (Wd.u rfl) rfl rfl ?_
      refine LR.v (Y.assign rfl rfl) (Wd.u rfl) rfl rfl ?_
      refine LR.nil ?_
      refine hK5 _ _ ?_
      refine CW.ret (hret .ret (.inr rfl) _ _ _ (res1 rfl rfl) ?_)
      exact ⟨congrArg Value.bool (decide_eq_false (by omega)).symm, hm0⟩

theorem isT_ct (e n : Nat) (h : e = n) (w0 : World) (H0 : Heap) : Ct Try.prog w0 20 #[eV e, .int .i64 (n : Int)] H0 (fun r H2 => r = .bool true ∧ Nw H0 H2) := by
  have := is_ct e n w0 H0
  rwa [decide_eq_true h] at this

end Go.Proofs.Ytepdhokpfecdnaa.GraU
