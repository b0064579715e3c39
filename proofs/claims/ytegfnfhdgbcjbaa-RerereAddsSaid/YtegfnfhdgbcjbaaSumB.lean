/-
  One block of the sum.
-/
import Derived.Test.YtegfnfhdgbcjbaaSumA
namespace Go.Proofs.Ytegfnfhdgbcjbaa.SumB
open Go.Proofs.Ytegfnfhdgbcjbaa.E Go.RowKit Go.Proofs.Ytegfnfhdgbcjbaa.SumA
set_option maxRecDepth 20000
set_option linter.unusedVariables false
set_option linter.unusedSimpArgs false
set_option linter.unusedSectionVars false

abbrev V32 (x : UInt32) : Value := .int .u32 x.toNat
abbrev V8 (x : UInt8) : Value := .int .u8 x.toNat
/-- eight words -/
structure S8 where
  a : UInt32
  b : UInt32
  c : UInt32
  d : UInt32
  e : UInt32
  f : UInt32
  g : UInt32
  h : UInt32
abbrev S8.list (s : S8) : List UInt32 := [s.a, s.b, s.c, s.d, s.e, s.f, s.g, s.h]
abbrev S8.cells (s : S8) : List Value := [V32 s.a, V32 s.b, V32 s.c, V32 s.d, V32 s.e, V32 s.f, V32 s.g, V32 s.h]
def one (s : S8) (k w : UInt32) : UInt32 := s.h + (rotr s.e 6 ^^^ rotr s.e 11 ^^^ rotr s.e 25) + (s.e &&& s.f ^^^ ~~~s.e &&& s.g) + k + w
def two (s : S8) : UInt32 := (rotr s.a 2 ^^^ rotr s.a 13 ^^^ rotr s.a 22) + (s.a &&& s.b ^^^ s.a &&& s.c ^^^ s.b &&& s.c)
def rnd (s : S8) (k w : UInt32) : S8 := ⟨one s k w + two s, s.a, s.b, s.c, s.d + one s k w, s.e, s.f, s.g⟩
def grow (w : List UInt32) : List UInt32 := w ++ [w.getD (w.length - 16) 0 + (rotr (w.getD (w.length - 15) 0) 7 ^^^ rotr (w.getD (w.length - 15) 0) 18 ^^^ shrw_u32 (w.getD (w.length - 15) 0) 3) + w.getD (w.length - 7) 0 + (rotr (w.getD (w.length - 2) 0) 17 ^^^ rotr (w.getD (w.length - 2) 0) 19 ^^^ shrw_u32 (w.getD (w.length - 2) 0) 10)]
def schedL (w0 : List UInt32) : Nat → List UInt32
  | 0 => w0
  | n + 1 => grow (schedL w0 n)
def first16 (b : List UInt8) (n : Nat) : List UInt32 := (List.range n).map (fun i => word4 (b.getD (4 * i) 0) (b.getD (4 * i + 1) 0) (b.getD (4 * i + 2) 0) (b.getD (4 * i + 3) 0))
def KS : List UInt32 := [0x428a2f98, 0x71374491, 0xb5c0fbcf, 0xe9b5dba5, 0x3956c25b, 0x59f111f1, 0x923f82a4, 0xab1c5ed5, 0xd807aa98, 0x12835b01, 0x243185be, 0x550c7dc3, 0x72be5d74, 0x80deb1fe, 0x9bdc06a7, 0xc19bf174, 0xe49b69c1, 0xefbe4786, 0xfc19dc6, 0x240ca1cc, 0x2de92c6f, 0x4a7484aa, 0x5cb0a9dc, 0x76f988da, 0x983e5152, 0xa831c66d, 0xb00327c8, 0xbf597fc7, 0xc6e00bf3, 0xd5a79147, 0x6ca6351, 0x14292967, 0x27b70a85, 0x2e1b2138, 0x4d2c6dfc, 0x53380d13, 0x650a7354, 0x766a0abb, 0x81c2c92e, 0x92722c85, 0xa2bfe8a1, 0xa81a664b, 0xc24b8b70, 0xc76c51a3, 0xd192e819, 0xd6990624, 0xf40e3585, 0x106aa070, 0x19a4c116, 0x1e376c08, 0x2748774c, 0x34b0bcb5, 0x391c0cb3, 0x4ed8aa4a, 0x5b9cca4f, 0x682e6ff3, 0x748f82ee, 0x78a5636f, 0x84c87814, 0x8cc70208, 0x90befffa, 0xa4506ceb, 0xbef9a3f7, 0xc67178f2]
def rndN (s : S8) (w : List UInt32) : Nat → S8
  | 0 => s
  | n + 1 => rnd (rndN s w n) (KS.getD n 0) (w.getD n 0)
def add8 (s t : S8) : S8 := ⟨s.a + t.a, s.b + t.b, s.c + t.c, s.d + t.d, s.e + t.e, s.f + t.f, s.g + t.g, s.h + t.h⟩
/-- a block of 64 bytes -/
def compress (s : S8) (b : List UInt8) : S8 := add8 s (rndN s (schedL (first16 b 16) 48) 64)

theorem rounds_ct  (w0 : World) (H0 : Heap)
     :
    Ct Try.prog w0 68 #[] H0 (fun r H2 => r = .agg (KS.map V32).toArray ∧ Nw H0 H2) := by
  refine Ct.enter (args := []) Try.func68 rfl rfl rfl ?_
  intro Q0 hret
  refine CW.seq (fun K1 hK1 hE1 => ?_)
  refine CW.region ?_
  refine LR.z (Z.allocv rfl Try.zeroValue86) (Wd.u rfl) rfl rfl (fun vz0 Hz0 rz0 => ?_)
  obtain ⟨rfl, vaz0, hsz0, obz0, hHz0⟩ := rz0
  replace vaz0 : Var 86 Hz0 H0.size (List.replicate 64 (V32 0)) := vaz0
  refine LR.nil ?_
  refine hK1 _ _ ?_
  refine CW.seq (fun K2 hK2 hE2 => ?_)
  refine CW.region ?_
  refine LR.v (Y.build (v := .agg (KS.map V32).toArray) rfl rfl (by intro w; kernel_rfl)) (Wd.u rfl) rfl rfl ?_
  refine LR.s (S.var vaz0 (KS.map V32) (KS.map V32) rfl rfl rfl rfl (by intro u hu; obtain ⟨x, _, rfl⟩ := List.mem_map.1 hu; rfl) Try.sizeOf86 (rfl) (Nat.le_of_ble_eq_true rfl) (by kernel_rfl)) (Wd.u rfl) rfl (fun H1_1 r1_1 => ?_)
  obtain ⟨vaz0, hst⟩ := r1_1
  refine LR.nil ?_
  refine hK2 _ _ ?_
  refine CW.ret (hret .ret (.inr rfl) _ _ _ (resC rfl rfl vaz0.pt Try.isAgg86 Try.sizeOf86 (by first | rfl | simp)) ?_)
  exact ⟨rfl, hsz0.trans hst (fun _ _ e => e) (fun b hb e => by omega)⟩

end Go.Proofs.Ytegfnfhdgbcjbaa.SumB
