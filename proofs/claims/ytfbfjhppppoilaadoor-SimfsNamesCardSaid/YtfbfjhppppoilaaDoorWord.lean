/-
  Rules for words (numbers of fixed width, without sign), arrays, copies: no condition.
-/
import Derived.Test.YtfbfjhppppoilaaDoorExt
namespace Go.Proofs.YtfbfjhppppoilaaDoor.E
set_option linter.unusedVariables false
set_option linter.unusedSimpArgs false
set_option linter.unusedSectionVars false
section
variable {P : Program} {w0 : World} {n : Nat} {l : FL} {H : Heap} {o : Oper}

theorem wrap_u8 (n : Int) : IntKind.u8.wrap n = n % 256 := by
  have h1 : IntKind.u8.signed = false := rfl
  have h2 : (2 ^ IntKind.u8.bits : Int) = 256 := by decide
  simp only [IntKind.wrap, h1, h2, Bool.false_and, Bool.false_eq_true, if_false]
theorem wadd_u8 (x y : UInt8) : IntKind.u8.wrap ((x.toNat : Int) + y.toNat) = ((x + y).toNat : Int) := by
  rw [wrap_u8, UInt8.toNat_add]; omega
theorem wsub_u8 (x y : UInt8) : IntKind.u8.wrap ((x.toNat : Int) - y.toNat) = ((x - y).toNat : Int) := by
  have := x.toNat_lt; have := y.toNat_lt
  rw [wrap_u8, UInt8.toNat_sub]; omega
theorem wmul_u8 (x y : UInt8) : IntKind.u8.wrap ((x.toNat : Int) * y.toNat) = ((x * y).toNat : Int) := by
  rw [wrap_u8, UInt8.toNat_mul]; rfl
theorem wnat_u8 (a : Nat) : IntKind.u8.wrap (a : Int) = ((UInt8.ofNat a).toNat : Int) := by
  rw [wrap_u8, UInt8.toNat_ofNat']; omega
theorem wbv_u8 (x : UInt8) : BitVec.ofInt IntKind.u8.bits (x.toNat : Int) = x.toBitVec := by
  apply BitVec.eq_of_toNat_eq
  have := x.toNat_lt
  show (BitVec.ofInt 8 (x.toNat : Int)).toNat = x.toNat
  rw [BitVec.toNat_ofInt]; omega
theorem wback_u8 (x : UInt8) : IntKind.u8.wrap (x.toBitVec.toNat : Int) = (x.toNat : Int) := by
  have := x.toNat_lt
  rw [wrap_u8]
  show ((x.toNat : Nat) : Int) % _ = _
  omega
theorem Y.add_u8 {x y : Operand} {t u : TypeId} {a b : UInt8} (ho : o.op = .binOp .add t x y u) (hx : opv l x = some (.int .u8 a.toNat)) (hy : opv l y = some (.int .u8 b.toNat)) : Y P w0 n l H o (.int .u8 (a + b).toNat) := Y.addk ho hx hy (wadd_u8 a b)
theorem Y.sub_u8 {x y : Operand} {t u : TypeId} {a b : UInt8} (ho : o.op = .binOp .sub t x y u) (hx : opv l x = some (.int .u8 a.toNat)) (hy : opv l y = some (.int .u8 b.toNat)) : Y P w0 n l H o (.int .u8 (a - b).toNat) := Y.subk ho hx hy (wsub_u8 a b)
theorem Y.mul_u8 {x y : Operand} {t u : TypeId} {a b : UInt8} (ho : o.op = .binOp .mul t x y u) (hx : opv l x = some (.int .u8 a.toNat)) (hy : opv l y = some (.int .u8 b.toNat)) : Y P w0 n l H o (.int .u8 (a * b).toNat) := Y.mulk ho hx hy (wmul_u8 a b)
def shlw_u8 (x : UInt8) (j : Nat) : UInt8 := UInt8.ofNat (x.toNat * 2 ^ j)
def shrw_u8 (x : UInt8) (j : Nat) : UInt8 := UInt8.ofNat (x.toNat / 2 ^ j)
theorem shrw_u8_toNat (x : UInt8) (j : Nat) : (shrw_u8 x j).toNat = x.toNat / 2 ^ j := by
  have := x.toNat_lt
  rw [shrw_u8, UInt8.toNat_ofNat']
  exact Nat.mod_eq_of_lt (Nat.lt_of_le_of_lt (Nat.div_le_self _ _) this)
theorem Y.shl_u8 {x y : Operand} {t u : TypeId} {k2 : IntKind} {a : UInt8} {iv : Int} (j : Nat) (ho : o.op = .binOp .shl t x y u) (hx : opv l x = some (.int .u8 a.toNat)) (hy : opv l y = some (.int k2 iv)) (hj : iv = j) (hlt : j ≤ 8) : Y P w0 n l H o (.int .u8 (shlw_u8 a j).toNat) := by
  have h := Y.shl (P := P) (w0 := w0) (n := n) (H := H) ho hx hy (by omega)
  rw [hj, Int.toNat_natCast, show min j IntKind.u8.bits = j from Nat.min_eq_left hlt] at h
  rw [show IntKind.u8.wrap ((a.toNat : Int) * 2 ^ j) = ((shlw_u8 a j).toNat : Int) by rw [shlw_u8, ← wnat_u8]; congr 1] at h
  exact h
theorem Y.shr_u8 {x y : Operand} {t u : TypeId} {k2 : IntKind} {a : UInt8} {iv : Int} (j : Nat) (ho : o.op = .binOp .shr t x y u) (hx : opv l x = some (.int .u8 a.toNat)) (hy : opv l y = some (.int k2 iv)) (hj : iv = j) (hlt : j ≤ 8) : Y P w0 n l H o (.int .u8 (shrw_u8 a j).toNat) := by
  have h := Y.shr (P := P) (w0 := w0) (n := n) (H := H) ho hx hy (by omega)
  rw [hj, Int.toNat_natCast, show min j IntKind.u8.bits = j from Nat.min_eq_left hlt] at h
  rw [show (a.toNat : Int).fdiv (2 ^ j) = ((shrw_u8 a j).toNat : Int) by
    rw [shrw_u8_toNat, Int.fdiv_eq_ediv_of_nonneg _ (by exact Int.le_of_lt (Int.pow_pos (by decide)))]; simp] at h
  exact h
theorem Y.not_u8 {x : Operand} {t : TypeId} {a : UInt8} (ho : o.op = .unOp .xor t x) (hx : opv l x = some (.int .u8 a.toNat)) : Y P w0 n l H o (.int .u8 (~~~a).toNat) := by
  intro ac w hf ha
  have h1 : (if IntKind.u8.signed then (-1 : Int) else IntKind.u8.max) = ((UInt8.ofNat 255).toNat : Int) := by decide
  have h2 : (BitVec.ofInt IntKind.u8.bits (if IntKind.u8.signed then (-1 : Int) else IntKind.u8.max)) ^^^ (BitVec.ofInt IntKind.u8.bits (a.toNat : Int)) = (~~~a).toBitVec := by
    rw [h1, wbv_u8, wbv_u8]
    show BitVec.ofNat 8 255 ^^^ a.toBitVec = ~~~a.toBitVec
    rw [show BitVec.ofNat 8 255 = BitVec.allOnes 8 by decide, BitVec.allOnes_xor]
  simp only [execOp, ho, hf.eval hx, Op.unary, Op.intBits, h2, Sem.run_bind, Sem.run_pure, Result.andThen_ok]
  exact congrArg (fun v => Result.ok (Next.value (Value.int .u8 v)) w) (wback_u8 (~~~a))
theorem Y.and_u8 {x y : Operand} {t u : TypeId} {a b : UInt8} (ho : o.op = .binOp .and t x y u) (hx : opv l x = some (.int .u8 a.toNat)) (hy : opv l y = some (.int .u8 b.toNat)) : Y P w0 n l H o (.int .u8 (a &&& b).toNat) :=
  Y.bits .and _ ho hx hy (by simp) (fun w => by
    simp only [Op.intBits, wbv_u8]
    show (pure (Value.int .u8 (IntKind.u8.wrap ((a &&& b).toBitVec.toNat : Int))) : Sem Value).run P w = _
    rw [wback_u8]; rfl)
theorem Y.or_u8 {x y : Operand} {t u : TypeId} {a b : UInt8} (ho : o.op = .binOp .or t x y u) (hx : opv l x = some (.int .u8 a.toNat)) (hy : opv l y = some (.int .u8 b.toNat)) : Y P w0 n l H o (.int .u8 (a ||| b).toNat) :=
  Y.bits .or _ ho hx hy (by simp) (fun w => by
    simp only [Op.intBits, wbv_u8]
    show (pure (Value.int .u8 (IntKind.u8.wrap ((a ||| b).toBitVec.toNat : Int))) : Sem Value).run P w = _
    rw [wback_u8]; rfl)
theorem Y.xor_u8 {x y : Operand} {t u : TypeId} {a b : UInt8} (ho : o.op = .binOp .xor t x y u) (hx : opv l x = some (.int .u8 a.toNat)) (hy : opv l y = some (.int .u8 b.toNat)) : Y P w0 n l H o (.int .u8 (a ^^^ b).toNat) :=
  Y.bits .xor _ ho hx hy (by simp) (fun w => by
    simp only [Op.intBits, wbv_u8]
    show (pure (Value.int .u8 (IntKind.u8.wrap ((a ^^^ b).toBitVec.toNat : Int))) : Sem Value).run P w = _
    rw [wback_u8]; rfl)
theorem Y.conv_u8 {x : Operand} {s d : TypeId} {k : IntKind} {a : Nat} {ds : TypeDesc} (ho : o.op = .convert s d x) (hs : ∀ w, (underlying s).run P w = .ok ds w) (hd : ∀ w, (underlying d).run P w = .ok (.int .u8) w) (hx : opv l x = some (.int k a)) : Y P w0 n l H o (.int .u8 (UInt8.ofNat a).toNat) := by
  have h := Y.conv (P := P) (w0 := w0) (n := n) (H := H) ho hs hd hx
  rwa [wnat_u8] at h

theorem wrap_u16 (n : Int) : IntKind.u16.wrap n = n % 65536 := by
  have h1 : IntKind.u16.signed = false := rfl
  have h2 : (2 ^ IntKind.u16.bits : Int) = 65536 := by decide
  simp only [IntKind.wrap, h1, h2, Bool.false_and, Bool.false_eq_true, if_false]
theorem wadd_u16 (x y : UInt16) : IntKind.u16.wrap ((x.toNat : Int) + y.toNat) = ((x + y).toNat : Int) := by
  rw [wrap_u16, UInt16.toNat_add]; omega
theorem wsub_u16 (x y : UInt16) : IntKind.u16.wrap ((x.toNat : Int) - y.toNat) = ((x - y).toNat : Int) := by
  have := x.toNat_lt; have := y.toNat_lt
  rw [wrap_u16, UInt16.toNat_sub]; omega
theorem wmul_u16 (x y : UInt16) : IntKind.u16.wrap ((x.toNat : Int) * y.toNat) = ((x * y).toNat : Int) := by
  rw [wrap_u16, UInt16.toNat_mul]; rfl
theorem wnat_u16 (a : Nat) : IntKind.u16.wrap (a : Int) = ((UInt16.ofNat a).toNat : Int) := by
  rw [wrap_u16, UInt16.toNat_ofNat']; omega
theorem wbv_u16 (x : UInt16) : BitVec.ofInt IntKind.u16.bits (x.toNat : Int) = x.toBitVec := by
  apply BitVec.eq_of_toNat_eq
  have := x.toNat_lt
  show (BitVec.ofInt 16 (x.toNat : Int)).toNat = x.toNat
  rw [BitVec.toNat_ofInt]; omega
theorem wback_u16 (x : UInt16) : IntKind.u16.wrap (x.toBitVec.toNat : Int) = (x.toNat : Int) := by
  have := x.toNat_lt
  rw [wrap_u16]
  show ((x.toNat : Nat) : Int) % _ = _
  omega
theorem Y.add_u16 {x y : Operand} {t u : TypeId} {a b : UInt16} (ho : o.op = .binOp .add t x y u) (hx : opv l x = some (.int .u16 a.toNat)) (hy : opv l y = some (.int .u16 b.toNat)) : Y P w0 n l H o (.int .u16 (a + b).toNat) := Y.addk ho hx hy (wadd_u16 a b)
theorem Y.sub_u16 {x y : Operand} {t u : TypeId} {a b : UInt16} (ho : o.op = .binOp .sub t x y u) (hx : opv l x = some (.int .u16 a.toNat)) (hy : opv l y = some (.int .u16 b.toNat)) : Y P w0 n l H o (.int .u16 (a - b).toNat) := Y.subk ho hx hy (wsub_u16 a b)
theorem Y.mul_u16 {x y : Operand} {t u : TypeId} {a b : UInt16} (ho : o.op = .binOp .mul t x y u) (hx : opv l x = some (.int .u16 a.toNat)) (hy : opv l y = some (.int .u16 b.toNat)) : Y P w0 n l H o (.int .u16 (a * b).toNat) := Y.mulk ho hx hy (wmul_u16 a b)
def shlw_u16 (x : UInt16) (j : Nat) : UInt16 := UInt16.ofNat (x.toNat * 2 ^ j)
def shrw_u16 (x : UInt16) (j : Nat) : UInt16 := UInt16.ofNat (x.toNat / 2 ^ j)
theorem shrw_u16_toNat (x : UInt16) (j : Nat) : (shrw_u16 x j).toNat = x.toNat / 2 ^ j := by
  have := x.toNat_lt
  rw [shrw_u16, UInt16.toNat_ofNat']
  exact Nat.mod_eq_of_lt (Nat.lt_of_le_of_lt (Nat.div_le_self _ _) this)
theorem Y.shl_u16 {x y : Operand} {t u : TypeId} {k2 : IntKind} {a : UInt16} {iv : Int} (j : Nat) (ho : o.op = .binOp .shl t x y u) (hx : opv l x = some (.int .u16 a.toNat)) (hy : opv l y = some (.int k2 iv)) (hj : iv = j) (hlt : j ≤ 16) : Y P w0 n l H o (.int .u16 (shlw_u16 a j).toNat) := by
  have h := Y.shl (P := P) (w0 := w0) (n := n) (H := H) ho hx hy (by omega)
  rw [hj, Int.toNat_natCast, show min j IntKind.u16.bits = j from Nat.min_eq_left hlt] at h
  rw [show IntKind.u16.wrap ((a.toNat : Int) * 2 ^ j) = ((shlw_u16 a j).toNat : Int) by rw [shlw_u16, ← wnat_u16]; congr 1] at h
  exact h
theorem Y.shr_u16 {x y : Operand} {t u : TypeId} {k2 : IntKind} {a : UInt16} {iv : Int} (j : Nat) (ho : o.op = .binOp .shr t x y u) (hx : opv l x = some (.int .u16 a.toNat)) (hy : opv l y = some (.int k2 iv)) (hj : iv = j) (hlt : j ≤ 16) : Y P w0 n l H o (.int .u16 (shrw_u16 a j).toNat) := by
  have h := Y.shr (P := P) (w0 := w0) (n := n) (H := H) ho hx hy (by omega)
  rw [hj, Int.toNat_natCast, show min j IntKind.u16.bits = j from Nat.min_eq_left hlt] at h
  rw [show (a.toNat : Int).fdiv (2 ^ j) = ((shrw_u16 a j).toNat : Int) by
    rw [shrw_u16_toNat, Int.fdiv_eq_ediv_of_nonneg _ (by exact Int.le_of_lt (Int.pow_pos (by decide)))]; simp] at h
  exact h
theorem Y.not_u16 {x : Operand} {t : TypeId} {a : UInt16} (ho : o.op = .unOp .xor t x) (hx : opv l x = some (.int .u16 a.toNat)) : Y P w0 n l H o (.int .u16 (~~~a).toNat) := by
  intro ac w hf ha
  have h1 : (if IntKind.u16.signed then (-1 : Int) else IntKind.u16.max) = ((UInt16.ofNat 65535).toNat : Int) := by decide
  have h2 : (BitVec.ofInt IntKind.u16.bits (if IntKind.u16.signed then (-1 : Int) else IntKind.u16.max)) ^^^ (BitVec.ofInt IntKind.u16.bits (a.toNat : Int)) = (~~~a).toBitVec := by
    rw [h1, wbv_u16, wbv_u16]
    show BitVec.ofNat 16 65535 ^^^ a.toBitVec = ~~~a.toBitVec
    rw [show BitVec.ofNat 16 65535 = BitVec.allOnes 16 by decide, BitVec.allOnes_xor]
  simp only [execOp, ho, hf.eval hx, Op.unary, Op.intBits, h2, Sem.run_bind, Sem.run_pure, Result.andThen_ok]
  exact congrArg (fun v => Result.ok (Next.value (Value.int .u16 v)) w) (wback_u16 (~~~a))
theorem Y.and_u16 {x y : Operand} {t u : TypeId} {a b : UInt16} (ho : o.op = .binOp .and t x y u) (hx : opv l x = some (.int .u16 a.toNat)) (hy : opv l y = some (.int .u16 b.toNat)) : Y P w0 n l H o (.int .u16 (a &&& b).toNat) :=
  Y.bits .and _ ho hx hy (by simp) (fun w => by
    simp only [Op.intBits, wbv_u16]
    show (pure (Value.int .u16 (IntKind.u16.wrap ((a &&& b).toBitVec.toNat : Int))) : Sem Value).run P w = _
    rw [wback_u16]; rfl)
theorem Y.or_u16 {x y : Operand} {t u : TypeId} {a b : UInt16} (ho : o.op = .binOp .or t x y u) (hx : opv l x = some (.int .u16 a.toNat)) (hy : opv l y = some (.int .u16 b.toNat)) : Y P w0 n l H o (.int .u16 (a ||| b).toNat) :=
  Y.bits .or _ ho hx hy (by simp) (fun w => by
    simp only [Op.intBits, wbv_u16]
    show (pure (Value.int .u16 (IntKind.u16.wrap ((a ||| b).toBitVec.toNat : Int))) : Sem Value).run P w = _
    rw [wback_u16]; rfl)
theorem Y.xor_u16 {x y : Operand} {t u : TypeId} {a b : UInt16} (ho : o.op = .binOp .xor t x y u) (hx : opv l x = some (.int .u16 a.toNat)) (hy : opv l y = some (.int .u16 b.toNat)) : Y P w0 n l H o (.int .u16 (a ^^^ b).toNat) :=
  Y.bits .xor _ ho hx hy (by simp) (fun w => by
    simp only [Op.intBits, wbv_u16]
    show (pure (Value.int .u16 (IntKind.u16.wrap ((a ^^^ b).toBitVec.toNat : Int))) : Sem Value).run P w = _
    rw [wback_u16]; rfl)
theorem Y.conv_u16 {x : Operand} {s d : TypeId} {k : IntKind} {a : Nat} {ds : TypeDesc} (ho : o.op = .convert s d x) (hs : ∀ w, (underlying s).run P w = .ok ds w) (hd : ∀ w, (underlying d).run P w = .ok (.int .u16) w) (hx : opv l x = some (.int k a)) : Y P w0 n l H o (.int .u16 (UInt16.ofNat a).toNat) := by
  have h := Y.conv (P := P) (w0 := w0) (n := n) (H := H) ho hs hd hx
  rwa [wnat_u16] at h

theorem wrap_u32 (n : Int) : IntKind.u32.wrap n = n % 4294967296 := by
  have h1 : IntKind.u32.signed = false := rfl
  have h2 : (2 ^ IntKind.u32.bits : Int) = 4294967296 := by decide
  simp only [IntKind.wrap, h1, h2, Bool.false_and, Bool.false_eq_true, if_false]
theorem wadd_u32 (x y : UInt32) : IntKind.u32.wrap ((x.toNat : Int) + y.toNat) = ((x + y).toNat : Int) := by
  rw [wrap_u32, UInt32.toNat_add]; omega
theorem wsub_u32 (x y : UInt32) : IntKind.u32.wrap ((x.toNat : Int) - y.toNat) = ((x - y).toNat : Int) := by
  have := x.toNat_lt; have := y.toNat_lt
  rw [wrap_u32, UInt32.toNat_sub]; omega
theorem wmul_u32 (x y : UInt32) : IntKind.u32.wrap ((x.toNat : Int) * y.toNat) = ((x * y).toNat : Int) := by
  rw [wrap_u32, UInt32.toNat_mul]; rfl
theorem wnat_u32 (a : Nat) : IntKind.u32.wrap (a : Int) = ((UInt32.ofNat a).toNat : Int) := by
  rw [wrap_u32, UInt32.toNat_ofNat']; omega
theorem wbv_u32 (x : UInt32) : BitVec.ofInt IntKind.u32.bits (x.toNat : Int) = x.toBitVec := by
  apply BitVec.eq_of_toNat_eq
  have := x.toNat_lt
  show (BitVec.ofInt 32 (x.toNat : Int)).toNat = x.toNat
  rw [BitVec.toNat_ofInt]; omega
theorem wback_u32 (x : UInt32) : IntKind.u32.wrap (x.toBitVec.toNat : Int) = (x.toNat : Int) := by
  have := x.toNat_lt
  rw [wrap_u32]
  show ((x.toNat : Nat) : Int) % _ = _
  omega
theorem Y.add_u32 {x y : Operand} {t u : TypeId} {a b : UInt32} (ho : o.op = .binOp .add t x y u) (hx : opv l x = some (.int .u32 a.toNat)) (hy : opv l y = some (.int .u32 b.toNat)) : Y P w0 n l H o (.int .u32 (a + b).toNat) := Y.addk ho hx hy (wadd_u32 a b)
theorem Y.sub_u32 {x y : Operand} {t u : TypeId} {a b : UInt32} (ho : o.op = .binOp .sub t x y u) (hx : opv l x = some (.int .u32 a.toNat)) (hy : opv l y = some (.int .u32 b.toNat)) : Y P w0 n l H o (.int .u32 (a - b).toNat) := Y.subk ho hx hy (wsub_u32 a b)
theorem Y.mul_u32 {x y : Operand} {t u : TypeId} {a b : UInt32} (ho : o.op = .binOp .mul t x y u) (hx : opv l x = some (.int .u32 a.toNat)) (hy : opv l y = some (.int .u32 b.toNat)) : Y P w0 n l H o (.int .u32 (a * b).toNat) := Y.mulk ho hx hy (wmul_u32 a b)
def shlw_u32 (x : UInt32) (j : Nat) : UInt32 := UInt32.ofNat (x.toNat * 2 ^ j)
def shrw_u32 (x : UInt32) (j : Nat) : UInt32 := UInt32.ofNat (x.toNat / 2 ^ j)
theorem shrw_u32_toNat (x : UInt32) (j : Nat) : (shrw_u32 x j).toNat = x.toNat / 2 ^ j := by
  have := x.toNat_lt
  rw [shrw_u32, UInt32.toNat_ofNat']
  exact Nat.mod_eq_of_lt (Nat.lt_of_le_of_lt (Nat.div_le_self _ _) this)
theorem Y.shl_u32 {x y : Operand} {t u : TypeId} {k2 : IntKind} {a : UInt32} {iv : Int} (j : Nat) (ho : o.op = .binOp .shl t x y u) (hx : opv l x = some (.int .u32 a.toNat)) (hy : opv l y = some (.int k2 iv)) (hj : iv = j) (hlt : j ≤ 32) : Y P w0 n l H o (.int .u32 (shlw_u32 a j).toNat) := by
  have h := Y.shl (P := P) (w0 := w0) (n := n) (H := H) ho hx hy (by omega)
  rw [hj, Int.toNat_natCast, show min j IntKind.u32.bits = j from Nat.min_eq_left hlt] at h
  rw [show IntKind.u32.wrap ((a.toNat : Int) * 2 ^ j) = ((shlw_u32 a j).toNat : Int) by rw [shlw_u32, ← wnat_u32]; congr 1] at h
  exact h
theorem Y.shr_u32 {x y : Operand} {t u : TypeId} {k2 : IntKind} {a : UInt32} {iv : Int} (j : Nat) (ho : o.op = .binOp .shr t x y u) (hx : opv l x = some (.int .u32 a.toNat)) (hy : opv l y = some (.int k2 iv)) (hj : iv = j) (hlt : j ≤ 32) : Y P w0 n l H o (.int .u32 (shrw_u32 a j).toNat) := by
  have h := Y.shr (P := P) (w0 := w0) (n := n) (H := H) ho hx hy (by omega)
  rw [hj, Int.toNat_natCast, show min j IntKind.u32.bits = j from Nat.min_eq_left hlt] at h
  rw [show (a.toNat : Int).fdiv (2 ^ j) = ((shrw_u32 a j).toNat : Int) by
    rw [shrw_u32_toNat, Int.fdiv_eq_ediv_of_nonneg _ (by exact Int.le_of_lt (Int.pow_pos (by decide)))]; simp] at h
  exact h
theorem Y.not_u32 {x : Operand} {t : TypeId} {a : UInt32} (ho : o.op = .unOp .xor t x) (hx : opv l x = some (.int .u32 a.toNat)) : Y P w0 n l H o (.int .u32 (~~~a).toNat) := by
  intro ac w hf ha
  have h1 : (if IntKind.u32.signed then (-1 : Int) else IntKind.u32.max) = ((UInt32.ofNat 4294967295).toNat : Int) := by decide
  have h2 : (BitVec.ofInt IntKind.u32.bits (if IntKind.u32.signed then (-1 : Int) else IntKind.u32.max)) ^^^ (BitVec.ofInt IntKind.u32.bits (a.toNat : Int)) = (~~~a).toBitVec := by
    rw [h1, wbv_u32, wbv_u32]
    show BitVec.ofNat 32 4294967295 ^^^ a.toBitVec = ~~~a.toBitVec
    rw [show BitVec.ofNat 32 4294967295 = BitVec.allOnes 32 by decide, BitVec.allOnes_xor]
  simp only [execOp, ho, hf.eval hx, Op.unary, Op.intBits, h2, Sem.run_bind, Sem.run_pure, Result.andThen_ok]
  exact congrArg (fun v => Result.ok (Next.value (Value.int .u32 v)) w) (wback_u32 (~~~a))
theorem Y.and_u32 {x y : Operand} {t u : TypeId} {a b : UInt32} (ho : o.op = .binOp .and t x y u) (hx : opv l x = some (.int .u32 a.toNat)) (hy : opv l y = some (.int .u32 b.toNat)) : Y P w0 n l H o (.int .u32 (a &&& b).toNat) :=
  Y.bits .and _ ho hx hy (by simp) (fun w => by
    simp only [Op.intBits, wbv_u32]
    show (pure (Value.int .u32 (IntKind.u32.wrap ((a &&& b).toBitVec.toNat : Int))) : Sem Value).run P w = _
    rw [wback_u32]; rfl)
theorem Y.or_u32 {x y : Operand} {t u : TypeId} {a b : UInt32} (ho : o.op = .binOp .or t x y u) (hx : opv l x = some (.int .u32 a.toNat)) (hy : opv l y = some (.int .u32 b.toNat)) : Y P w0 n l H o (.int .u32 (a ||| b).toNat) :=
  Y.bits .or _ ho hx hy (by simp) (fun w => by
    simp only [Op.intBits, wbv_u32]
    show (pure (Value.int .u32 (IntKind.u32.wrap ((a ||| b).toBitVec.toNat : Int))) : Sem Value).run P w = _
    rw [wback_u32]; rfl)
theorem Y.xor_u32 {x y : Operand} {t u : TypeId} {a b : UInt32} (ho : o.op = .binOp .xor t x y u) (hx : opv l x = some (.int .u32 a.toNat)) (hy : opv l y = some (.int .u32 b.toNat)) : Y P w0 n l H o (.int .u32 (a ^^^ b).toNat) :=
  Y.bits .xor _ ho hx hy (by simp) (fun w => by
    simp only [Op.intBits, wbv_u32]
    show (pure (Value.int .u32 (IntKind.u32.wrap ((a ^^^ b).toBitVec.toNat : Int))) : Sem Value).run P w = _
    rw [wback_u32]; rfl)
theorem Y.conv_u32 {x : Operand} {s d : TypeId} {k : IntKind} {a : Nat} {ds : TypeDesc} (ho : o.op = .convert s d x) (hs : ∀ w, (underlying s).run P w = .ok ds w) (hd : ∀ w, (underlying d).run P w = .ok (.int .u32) w) (hx : opv l x = some (.int k a)) : Y P w0 n l H o (.int .u32 (UInt32.ofNat a).toNat) := by
  have h := Y.conv (P := P) (w0 := w0) (n := n) (H := H) ho hs hd hx
  rwa [wnat_u32] at h

theorem wrap_u64 (n : Int) : IntKind.u64.wrap n = n % 18446744073709551616 := by
  have h1 : IntKind.u64.signed = false := rfl
  have h2 : (2 ^ IntKind.u64.bits : Int) = 18446744073709551616 := by decide
  simp only [IntKind.wrap, h1, h2, Bool.false_and, Bool.false_eq_true, if_false]
theorem wadd_u64 (x y : UInt64) : IntKind.u64.wrap ((x.toNat : Int) + y.toNat) = ((x + y).toNat : Int) := by
  rw [wrap_u64, UInt64.toNat_add]; omega
theorem wsub_u64 (x y : UInt64) : IntKind.u64.wrap ((x.toNat : Int) - y.toNat) = ((x - y).toNat : Int) := by
  have := x.toNat_lt; have := y.toNat_lt
  rw [wrap_u64, UInt64.toNat_sub]; omega
theorem wmul_u64 (x y : UInt64) : IntKind.u64.wrap ((x.toNat : Int) * y.toNat) = ((x * y).toNat : Int) := by
  rw [wrap_u64, UInt64.toNat_mul]; rfl
theorem wnat_u64 (a : Nat) : IntKind.u64.wrap (a : Int) = ((UInt64.ofNat a).toNat : Int) := by
  rw [wrap_u64, UInt64.toNat_ofNat']; omega
theorem wbv_u64 (x : UInt64) : BitVec.ofInt IntKind.u64.bits (x.toNat : Int) = x.toBitVec := by
  apply BitVec.eq_of_toNat_eq
  have := x.toNat_lt
  show (BitVec.ofInt 64 (x.toNat : Int)).toNat = x.toNat
  rw [BitVec.toNat_ofInt]; omega
theorem wback_u64 (x : UInt64) : IntKind.u64.wrap (x.toBitVec.toNat : Int) = (x.toNat : Int) := by
  have := x.toNat_lt
  rw [wrap_u64]
  show ((x.toNat : Nat) : Int) % _ = _
  omega
theorem Y.add_u64 {x y : Operand} {t u : TypeId} {a b : UInt64} (ho : o.op = .binOp .add t x y u) (hx : opv l x = some (.int .u64 a.toNat)) (hy : opv l y = some (.int .u64 b.toNat)) : Y P w0 n l H o (.int .u64 (a + b).toNat) := Y.addk ho hx hy (wadd_u64 a b)
theorem Y.sub_u64 {x y : Operand} {t u : TypeId} {a b : UInt64} (ho : o.op = .binOp .sub t x y u) (hx : opv l x = some (.int .u64 a.toNat)) (hy : opv l y = some (.int .u64 b.toNat)) : Y P w0 n l H o (.int .u64 (a - b).toNat) := Y.subk ho hx hy (wsub_u64 a b)
theorem Y.mul_u64 {x y : Operand} {t u : TypeId} {a b : UInt64} (ho : o.op = .binOp .mul t x y u) (hx : opv l x = some (.int .u64 a.toNat)) (hy : opv l y = some (.int .u64 b.toNat)) : Y P w0 n l H o (.int .u64 (a * b).toNat) := Y.mulk ho hx hy (wmul_u64 a b)
def shlw_u64 (x : UInt64) (j : Nat) : UInt64 := UInt64.ofNat (x.toNat * 2 ^ j)
def shrw_u64 (x : UInt64) (j : Nat) : UInt64 := UInt64.ofNat (x.toNat / 2 ^ j)
theorem shrw_u64_toNat (x : UInt64) (j : Nat) : (shrw_u64 x j).toNat = x.toNat / 2 ^ j := by
  have := x.toNat_lt
  rw [shrw_u64, UInt64.toNat_ofNat']
  exact Nat.mod_eq_of_lt (Nat.lt_of_le_of_lt (Nat.div_le_self _ _) this)
theorem Y.shl_u64 {x y : Operand} {t u : TypeId} {k2 : IntKind} {a : UInt64} {iv : Int} (j : Nat) (ho : o.op = .binOp .shl t x y u) (hx : opv l x = some (.int .u64 a.toNat)) (hy : opv l y = some (.int k2 iv)) (hj : iv = j) (hlt : j ≤ 64) : Y P w0 n l H o (.int .u64 (shlw_u64 a j).toNat) := by
  have h := Y.shl (P := P) (w0 := w0) (n := n) (H := H) ho hx hy (by omega)
  rw [hj, Int.toNat_natCast, show min j IntKind.u64.bits = j from Nat.min_eq_left hlt] at h
  rw [show IntKind.u64.wrap ((a.toNat : Int) * 2 ^ j) = ((shlw_u64 a j).toNat : Int) by rw [shlw_u64, ← wnat_u64]; congr 1] at h
  exact h
theorem Y.shr_u64 {x y : Operand} {t u : TypeId} {k2 : IntKind} {a : UInt64} {iv : Int} (j : Nat) (ho : o.op = .binOp .shr t x y u) (hx : opv l x = some (.int .u64 a.toNat)) (hy : opv l y = some (.int k2 iv)) (hj : iv = j) (hlt : j ≤ 64) : Y P w0 n l H o (.int .u64 (shrw_u64 a j).toNat) := by
  have h := Y.shr (P := P) (w0 := w0) (n := n) (H := H) ho hx hy (by omega)
  rw [hj, Int.toNat_natCast, show min j IntKind.u64.bits = j from Nat.min_eq_left hlt] at h
  rw [show (a.toNat : Int).fdiv (2 ^ j) = ((shrw_u64 a j).toNat : Int) by
    rw [shrw_u64_toNat, Int.fdiv_eq_ediv_of_nonneg _ (by exact Int.le_of_lt (Int.pow_pos (by decide)))]; simp] at h
  exact h
theorem Y.not_u64 {x : Operand} {t : TypeId} {a : UInt64} (ho : o.op = .unOp .xor t x) (hx : opv l x = some (.int .u64 a.toNat)) : Y P w0 n l H o (.int .u64 (~~~a).toNat) := by
  intro ac w hf ha
  have h1 : (if IntKind.u64.signed then (-1 : Int) else IntKind.u64.max) = ((UInt64.ofNat 18446744073709551615).toNat : Int) := by decide
  have h2 : (BitVec.ofInt IntKind.u64.bits (if IntKind.u64.signed then (-1 : Int) else IntKind.u64.max)) ^^^ (BitVec.ofInt IntKind.u64.bits (a.toNat : Int)) = (~~~a).toBitVec := by
    rw [h1, wbv_u64, wbv_u64]
    show BitVec.ofNat 64 18446744073709551615 ^^^ a.toBitVec = ~~~a.toBitVec
    rw [show BitVec.ofNat 64 18446744073709551615 = BitVec.allOnes 64 by decide, BitVec.allOnes_xor]
  simp only [execOp, ho, hf.eval hx, Op.unary, Op.intBits, h2, Sem.run_bind, Sem.run_pure, Result.andThen_ok]
  exact congrArg (fun v => Result.ok (Next.value (Value.int .u64 v)) w) (wback_u64 (~~~a))
theorem Y.and_u64 {x y : Operand} {t u : TypeId} {a b : UInt64} (ho : o.op = .binOp .and t x y u) (hx : opv l x = some (.int .u64 a.toNat)) (hy : opv l y = some (.int .u64 b.toNat)) : Y P w0 n l H o (.int .u64 (a &&& b).toNat) :=
  Y.bits .and _ ho hx hy (by simp) (fun w => by
    simp only [Op.intBits, wbv_u64]
    show (pure (Value.int .u64 (IntKind.u64.wrap ((a &&& b).toBitVec.toNat : Int))) : Sem Value).run P w = _
    rw [wback_u64]; rfl)
theorem Y.or_u64 {x y : Operand} {t u : TypeId} {a b : UInt64} (ho : o.op = .binOp .or t x y u) (hx : opv l x = some (.int .u64 a.toNat)) (hy : opv l y = some (.int .u64 b.toNat)) : Y P w0 n l H o (.int .u64 (a ||| b).toNat) :=
  Y.bits .or _ ho hx hy (by simp) (fun w => by
    simp only [Op.intBits, wbv_u64]
    show (pure (Value.int .u64 (IntKind.u64.wrap ((a ||| b).toBitVec.toNat : Int))) : Sem Value).run P w = _
    rw [wback_u64]; rfl)
theorem Y.xor_u64 {x y : Operand} {t u : TypeId} {a b : UInt64} (ho : o.op = .binOp .xor t x y u) (hx : opv l x = some (.int .u64 a.toNat)) (hy : opv l y = some (.int .u64 b.toNat)) : Y P w0 n l H o (.int .u64 (a ^^^ b).toNat) :=
  Y.bits .xor _ ho hx hy (by simp) (fun w => by
    simp only [Op.intBits, wbv_u64]
    show (pure (Value.int .u64 (IntKind.u64.wrap ((a ^^^ b).toBitVec.toNat : Int))) : Sem Value).run P w = _
    rw [wback_u64]; rfl)
theorem Y.conv_u64 {x : Operand} {s d : TypeId} {k : IntKind} {a : Nat} {ds : TypeDesc} (ho : o.op = .convert s d x) (hs : ∀ w, (underlying s).run P w = .ok ds w) (hd : ∀ w, (underlying d).run P w = .ok (.int .u64) w) (hx : opv l x = some (.int k a)) : Y P w0 n l H o (.int .u64 (UInt64.ofNat a).toNat) := by
  have h := Y.conv (P := P) (w0 := w0) (n := n) (H := H) ho hs hd hx
  rwa [wnat_u64] at h

/-! arrays -/
theorem Pt.at {ad : Addr} {cs : List Value} {c : Value} (h : Pt H ad cs) (j : Nat) (hc : cs[j]? = some c) : Pt H ⟨ad.block, ad.off + j, none⟩ [c] :=
  ⟨rfl, fun i d hd => by
    match i, hd with
    | 0, hd => simp only [List.getElem?_cons_zero, Option.some.injEq] at hd; subst hd; exact h.cells j _ hc⟩
theorem Y.arrAddr {x i : Operand} {t e : TypeId} {len : Nat} {k : IntKind} {iv : Int} {ad : Addr} {cs : List Value} (h : Pt H ad cs) (j : Nat) (ho : o.op = .indexAddr t x i) (ht : ∀ w, (underlying t).run P w = .ok (.array len e) w) (hs : ∀ w, (sizeOf e).run P w = .ok 1 w)
    (hx : opv l x = some (.pointer (some ad))) (hi : opv l i = some (.int k iv)) (hj : iv = j) (hlt : j < len) : Y P w0 n l H o (.pointer (some ⟨ad.block, ad.off + j, none⟩)) := by
  subst hj
  intro ac w hf ha
  have := add_eq h.spot j
  simp [execOp, ho, hf.eval hx, hf.eval hi, Instr.indexAt, asIntOf, Instr.sureAddr, ht, hs, hlt, this]
theorem Y.arrIndex {x i : Operand} {t e : TypeId} {len : Nat} {k : IntKind} {iv : Int} {cs : Array Value} {c : Value} (j : Nat) (ho : o.op = .index t x i) (ht : ∀ w, (underlying t).run P w = .ok (.array len e) w) (hs : ∀ w, (sizeOf e).run P w = .ok 1 w) (hg : ∀ w, (isAgg e).run P w = .ok false w)
    (hx : opv l x = some (.agg cs)) (hi : opv l i = some (.int k iv)) (hj : iv = j) (hlt : j < len) (hc : cs[j]? = some c) : Y P w0 n l H o c := by
  subst hj
  intro ac w hf ha
  simp [execOp, ho, hf.eval hx, hf.eval hi, Instr.index, asIntOf, ht, hs, hg, hlt, part, hc]
/-- a slice of an array behind a pointer -/
theorem Y.sliceArr {α : Type} {F : Nat → Prop} {f : α → List Value} {x : Operand} {lo hi : Option Operand} {t e : TypeId} {len : Nat} {ad : Addr} {cs : List Value} {xs : List α} (h : Pt H ad cs) (hF : F ad.block) (hb : ad.block < H.size) (hxs : xs.length = len) (hcs : ∀ (i : Nat) (x : α), xs[i]? = some x → cs[i]? = (f x)[0]? ∧ (f x).length = 1) (i j : Nat)
    (ho : o.op = .slice t x lo hi none) (ht : ∀ w, (underlying t).run P w = .ok (.array len e) w ∨ ∃ t', (underlying t).run P w = .ok (.pointer t') w ∧ (underlying t').run P w = .ok (.array len e) w) (hs : ∀ w, (sizeOf e).run P w = .ok 1 w) (hx : opv l x = some (.pointer (some ad)))
    (hlo : lo = none ∧ i = 0 ∨ ∃ p k iv, lo = some p ∧ opv l p = some (.int k iv) ∧ iv = (i : Int)) (hhi : hi = none ∧ j = len ∨ ∃ p k iv, hi = some p ∧ opv l p = some (.int k iv) ∧ iv = (j : Int)) (hij : i ≤ j) (hj : j ≤ len) (hm : len ≤ maxLen) :
    (∀ H', Y P w0 n l H' o (.slice (some (if len = i then ad else ⟨ad.block, ad.off + i, none⟩)) (j - i) (len - i))) ∧ Rd F H f 1 (.slice (some (if len = i then ad else ⟨ad.block, ad.off + i, none⟩)) (j - i) (len - i)) ((xs.take j).drop i) := by
  constructor
  · intro H' ac w hf ha
    have e1 : ∀ w, (Instr.sliceBounds false len len (lo.map ac.eval) (hi.map ac.eval) none).run P w = .ok (i, j, len) w := by
      intro w
      rcases hlo with ⟨rfl, rfl⟩ | ⟨p, k, iv, rfl, h1, rfl⟩ <;> rcases hhi with ⟨rfl, rfl⟩ | ⟨p2, k2, iv2, rfl, h3, rfl⟩ <;>
        simp [Instr.sliceBounds, Instr.sliceBound, asIntOf, hf.eval, *]
    have hadd := add_eq h.spot i
    rcases ht w with ht | ⟨t', ht, ht'⟩
    · simp [execOp, ho, hf.eval hx, Instr.sliceAt, Instr.sureAddr, ht, hs, e1, hadd]
    · simp [execOp, ho, hf.eval hx, Instr.sliceAt, Instr.slice, asAddr, ht, ht', hs, e1, hadd]
  · have hlen : ((xs.take j).drop i).length = j - i := by simp; omega
    refine ⟨_, _, by rw [hlen], by rw [hlen]; omega, by omega, fun hne => ?_⟩
    have hji : i < j := by
      apply Decidable.byContradiction; intro hc
      exact hne (List.eq_nil_of_length_eq_zero (by rw [hlen]; omega))
    rw [if_neg (by omega)]
    refine ⟨_, rfl, rfl, hF, hb, fun q y hy => ⟨rfl, fun r c hr => ?_⟩⟩
    rw [List.getElem?_drop, List.getElem?_take] at hy
    split at hy
    · obtain ⟨h1, h2⟩ := hcs (i + q) y hy
      have hr0 : r = 0 := by have := (List.getElem?_eq_some_iff.1 hr).1; omega
      subst hr0
      have := h.cells (i + q) c (by rw [h1]; exact hr)
      simpa [Nat.add_assoc] using this
    · cases hy
theorem Y.sliceArrE {α : Type} {F : Nat → Prop} {f : α → List Value} {x : Operand} {lo hi : Option Operand} {t e : TypeId} {len : Nat} {ad : Addr} {cs : List Value} {xs : List α} (h : Pt H ad cs) (hF : F ad.block) (hb : ad.block < H.size) (hxs : xs.length = len) (hcs : ∀ (i : Nat) (x : α), xs[i]? = some x → cs[i]? = (f x)[0]? ∧ (f x).length = 1) (i j : Nat)
    (ho : o.op = .slice t x lo hi none) (ht : ∀ w, (underlying t).run P w = .ok (.array len e) w ∨ ∃ t', (underlying t).run P w = .ok (.pointer t') w ∧ (underlying t').run P w = .ok (.array len e) w) (hs : ∀ w, (sizeOf e).run P w = .ok 1 w) (hx : opv l x = some (.pointer (some ad)))
    (hlo : lo = none ∧ i = 0 ∨ ∃ p k iv, lo = some p ∧ opv l p = some (.int k iv) ∧ iv = (i : Int)) (hhi : hi = none ∧ j = len ∨ ∃ p k iv, hi = some p ∧ opv l p = some (.int k iv) ∧ iv = (j : Int)) (hij : i ≤ j) (hj : j ≤ len) (hm : len ≤ maxLen) :
    ∃ v', (∀ H', Y P w0 n l H' o v') ∧ Rd F H f 1 v' ((xs.take j).drop i) :=
  ⟨_, Y.sliceArr h hF hb hxs hcs i j ho ht hs hx hlo hhi hij hj hm⟩
/-- arrays of numbers held against one another -/
theorem run_equalIn_arr {P : Program} (d : Nat) {t e : TypeId} {len : Nat} {k : IntKind} {f : Nat → Int} {xs ys : List Int} (ht : P.underlying t = some (.array len e)) (he : P.underlying e = some (.int k)) (hs : ∀ w, (sizeOf e).run P w = .ok 1 w) (hg : ∀ w, (isAgg e).run P w = .ok false w) (hx : xs.length = len) (hy : ys.length = len) (w : World) :
    (Op.equalIn (d + 2) t (.agg (xs.map (Value.int k)).toArray) (.agg (ys.map (Value.int k)).toArray)).run P w = .ok (decide (xs = ys)) w := by
  have key : ∀ (m i : Nat), i + m = len → xs.take i = ys.take i → ∀ body : Nat → Option Bool × Unit → Sem (ForInStep (Option Bool × Unit)),
      (∀ j (h1 : j < xs.length) (h2 : j < ys.length) r, (body j r).run P w = .ok (if xs[j] = ys[j] then .yield (none, ()) else .done (some false, ())) w) →
      (forIn (List.range' i m) (none, ()) body).run P w = .ok (if xs = ys then (none, ()) else (some false, ())) w := by
    intro m
    induction m with
    | zero =>
      intro i hi htk body _
      rw [List.take_of_length_le (by omega), List.take_of_length_le (by omega)] at htk
      simp [htk]
    | succ m ih =>
      intro i hi htk body hb
      rw [List.range'_succ, List.forIn_cons, Sem.run_bind, hb i (by omega) (by omega)]
      by_cases h : xs[i]'(by omega) = ys[i]'(by omega)
      · simp only [h, if_true, Result.andThen_ok]
        exact ih (i + 1) (by omega) (by rw [List.take_succ_eq_append_getElem (show i < xs.length by omega), List.take_succ_eq_append_getElem (show i < ys.length by omega), htk, h]) body hb
      · have hne : xs ≠ ys := fun e => h (by subst e; rfl)
        simp only [h, if_false, Result.andThen_ok, hne]
        rfl
  unfold Op.equalIn
  simp only [Sem.run_bind, run_underlying ht, Result.andThen_ok, hs]
  rw [Std.Legacy.Range.forIn_eq_forIn_range']
  simp only [Std.Legacy.Range.size, Nat.sub_zero, Nat.add_sub_cancel, Nat.div_one]
  rw [key len 0 (by omega) rfl _ (fun j h1 h2 r => ?_)]
  · by_cases h : xs = ys <;> simp [h, Result.andThen]
  · have p1 : ∀ (zs : List Int) (h : j < zs.length), (part e (zs.map (Value.int k)).toArray (j * 1)).run P w = .ok (.int k zs[j]) w := fun zs h => by simp [part, hg, h]
    have q : (Op.equalIn (d + 1) e (.int k xs[j]) (.int k ys[j])).run P w = .ok (xs[j] == ys[j]) w := run_equalIn_int w d e k k _ _ he
    simp only [Sem.run_bind, p1 xs h1, p1 ys h2, Result.andThen_ok, q]
    by_cases h : xs[j] = ys[j] <;> simp [h]
/-- an Id -/
abbrev idV (l : List UInt8) : Value := .agg (l.map (fun b => Value.int .u8 b.toNat)).toArray
theorem run_equalIn_id {P : Program} (d : Nat) {t e : TypeId} {len : Nat} {xs ys : List UInt8} (ht : P.underlying t = some (.array len e)) (he : P.underlying e = some (.int .u8)) (hs : ∀ w, (sizeOf e).run P w = .ok 1 w) (hg : ∀ w, (isAgg e).run P w = .ok false w) (hx : xs.length = len) (hy : ys.length = len) (w : World) :
    (Op.equalIn (d + 2) t (idV xs) (idV ys)).run P w = .ok (decide (xs = ys)) w := by
  have h := run_equalIn_arr (P := P) d (k := .u8) (f := fun _ => 0) (xs := xs.map (fun b => (b.toNat : Int))) (ys := ys.map (fun b => (b.toNat : Int))) ht he hs hg (by simpa using hx) (by simpa using hy) w
  rw [List.map_map, List.map_map] at h
  have hi : (xs.map (fun b => (b.toNat : Int)) = ys.map (fun b => (b.toNat : Int))) ↔ xs = ys :=
    ⟨fun e => (List.map_inj_right (fun a b h => UInt8.toNat_inj.1 (by omega))).1 e, fun e => by rw [e]⟩
  rw [decide_eq_decide.2 hi] at h
  exact h
end
/-! copies -/
section
variable {P : Program} {w0 : World} {n : Nat} {l : FL} {H : Heap} {o : Oper}
theorem Z.copy {α : Type} {F : Nat → Prop} {f : α → List Value} {d x : Operand} {t t2 e e' : TypeId} {b off dlen dcap : Nat} {u : Value} {cs : List Value} {ys : List α} (hv : Var e H b cs) (hr : Rd F H f 1 u ys) (hf1 : ∀ x, (f x).length = 1) (ho1 : ∀ x, ∀ u ∈ f x, u.oneCell' = true) (ho : o.op = .call { callee := .builtin .copy, args := #[d, x], argTypes := #[t, t2] })
    (ht : P.underlying t = some (.slice e')) (hs : ∀ w, (sizeOf e').run P w = .ok 1 w) (hd : opv l d = some (.slice (some ⟨b, off, none⟩) dlen dcap)) (hx : opv l x = some u) (hfit : off + dlen ≤ cs.length) (k : Nat) (hk : k = min ys.length dlen) :
    Z P w0 n l H o (fun r H' => r = .int .i64 k ∧ Var e H' b (splice cs off ((ys.take k).flatMap f)) ∧ Mo (fun g => g = b) H H') := by
  intro a w hf ha
  obtain ⟨fz, hb1, hb2⟩ := id hv.row
  have hlen : ((ys.take k).flatMap f).length = k := by rw [length_flatMap hf1, Nat.mul_one, List.length_take]; omega
  have h1 : ∀ c ∈ (ys.take k).flatMap f, c.oneCell' = true := by
    intro c hc
    obtain ⟨y, _, hy⟩ := List.mem_flatMap.1 hc
    exact ho1 y c hy
  obtain ⟨ad, cap, rfl, _, _, h3⟩ := id hr.ex
  have hkk : Nat.min ys.length dlen = k := hk.symm
  have hfc : (Builtin.firstCells 1 k (.slice ad ys.length cap)).run P w = .ok ((ys.take k).flatMap f).toArray w := by
    cases ad with
    | none =>
      have hys : ys = [] := by
        apply Decidable.byContradiction; intro hne
        obtain ⟨ad, hn, _⟩ := h3 hne
        cases hn
      subst hys
      simp [Builtin.firstCells]
    | some ad =>
      have hp := hr.pts hf1 rfl ha
      exact run_firstCells_some (P := P) w 1 k ad ys.length cap _ (by rw [hlen, Nat.mul_one]) (fun j v hj => hp j v (by
        have hys : ys.flatMap f = (ys.take k).flatMap f ++ (ys.drop k).flatMap f := by rw [← List.flatMap_append, List.take_append_drop]
        rw [hys, List.getElem?_append_left (List.getElem?_eq_some_iff.1 hj).1]; exact hj))
  have hst := run_storeCells_soft P b off e fz ((ys.take k).flatMap f) 0 cs.toArray w (by rw [ha.heap]; exact hb1) hb2 (by rw [hlen]; simp; omega) h1
  simp only [Nat.add_zero] at hst
  refine ⟨_, _, w.setRow b (splice cs off ((ys.take k).flatMap f)).toArray, ?_, ha.row _ _, rfl, ⟨setRow_row ha hv.row (by simp [splice, hlen]; omega)⟩, setRow_mo ha _ _⟩
  simp [execOp, ho, hf.eval hd, hf.eval hx, resolve, invoke, builtin, Builtin.copy_, run_underlying ht, Builtin.lenOf, hs, hkk, hfc, hst, splice, goInt]
end
/-! results in variables -/
section
variable {P : Program} {w0 : World} {H : Heap} {n : Nat} {l : FL}
theorem run_loadPt {ty : TypeId} {ad : Addr} {cs : List Value} {k : Nat} {w : World} (ha : At w0 H w) (h : Pt H ad cs) (ht : ∀ w, (isAgg ty).run P w = .ok true w) (hs : ∀ w, (sizeOf ty).run P w = .ok k w) (hk : cs.length = k) : (loadVar ty ad).run P w = .ok (.agg cs.toArray) w := by
  have := run_loadCellsFrom (P := P) (w := w) h.spot k 0 cs #[] hk (fun j c e => by rw [ha.cell]; simpa using h.cells j c e)
  simp [loadVar, ht, hs, loadCells, this]
theorem resC {fn : Func} {p : Nat} {ty : TypeId} {ad : Addr} {cs : List Value} {k : Nat} (h : fn.results = #[.cell p ty]) (e : lk l p = some (.pointer (some ad))) (hp : Pt H ad cs) (ht : ∀ w, (isAgg ty).run P w = .ok true w) (hs : ∀ w, (sizeOf ty).run P w = .ok k w) (hk : cs.length = k) :
    ∀ a w, Fr n l a → At w0 H w → (results fn a.tmps).run P w = .ok (.agg cs.toArray) w := by
  intro a w hf ha
  have h1 := hf.get p _ e
  have h2 := run_loadPt (P := P) ha hp ht hs hk
  simp only [results, h]
  simp [h1, asAddr, h2]
theorem resCT {fn : Func} {p u : Nat} {ty : TypeId} {ad : Addr} {cs : List Value} {k : Nat} {v : Value} (h : fn.results = #[.cell p ty, .tmp u]) (e : lk l p = some (.pointer (some ad))) (hp : Pt H ad cs) (ht : ∀ w, (isAgg ty).run P w = .ok true w) (hs : ∀ w, (sizeOf ty).run P w = .ok k w) (hk : cs.length = k) (e2 : lk l u = some v) :
    ∀ a w, Fr n l a → At w0 H w → (results fn a.tmps).run P w = .ok (.tuple #[.agg cs.toArray, v]) w := by
  intro a w hf ha
  have h1 := hf.get p _ e
  have h3 := hf.get u _ e2
  have h2 := run_loadPt (P := P) ha hp ht hs hk
  simp only [results, h]
  simp [h1, h3, asAddr, h2]
end
end Go.Proofs.YtfbfjhppppoilaaDoor.E
