/-
  Contracts of functions of the program, and plain laws: put together of several texts.
-/
import Derived.Test.YtfjmpninmdjcaaaGreatDoorGa
import Derived.Test.YtfjmpninmdjcaaaGreatDoorRows
import Derived.Lib.SplitLaws
import Derived.Test.YtfjmpninmdjcaaaGreatDoorShelf
import Derived.Test.YtfjmpninmdjcaaaGreatDoorMcl
import Derived.ProofKit
import Derived.OpenShut
import Derived.ShutString
import Derived.ChangeOld
import Derived.Below
import Derived.JoinedCond
import Derived.Deep.Slices
import Derived.ChangeSame
import Derived.Lib.AppendZerosOnto
set_option linter.unusedVariables false
set_option linter.unusedSimpArgs false
set_option linter.unusedSectionVars false
set_option linter.defProp false
set_option maxHeartbeats 8000000
set_option maxRecDepth 20000
namespace Go.Proofs.YtfjmpninmdjcaaaGreatDoor

namespace e7
open E Go.RowKit eM eP e1
theorem rO:∀(up s:List UInt8),(up++[47]).isPrefixOf s=decide (up.length<s.length∧s.take up.length=up∧(s.getD up.length 0).toNat=47)
 |[],[]=>by simp
 |[],c::s=>by
  have e:(47=c)↔(c.toNat=47):=⟨fun h=>by rw[←h];rfl,fun h=>by apply UInt8.toNat.inj;rw[h];rfl⟩;by_cases h:47=c
  ·rw[decide_eq_true]
   ·simp[List.isPrefixOf,h]
   ·exact⟨by simp,rfl,e.1 h⟩
  ·rw[decide_eq_false]
   ·simp[List.isPrefixOf,h]
   ·rintro⟨_,_,U⟩;exact h (e.2 (by simpa using U))
 |d::up,[]=>by simp
 |d::up,c::s=>by
  have ih:=rO up s;rw[List.cons_append,List.isPrefixOf,ih];by_cases h:d=c
  ·subst h;simp
  ·have U:¬c=d:=fun e=>h e.symm
   simp[h,U]
theorem AE{s up:List UInt8}(h:up.length<s.length)(U:s.take up.length=up):Value.bool (decide (((s[up.length]).toNat:Int)=47))= .bool ((up++[47]).isPrefixOf s):=by
 rw[rO];exact c1 ⟨fun e=>⟨h,U,by rw[iB h];omega⟩,fun e=>by have:=e.2.2;rw[iB h]at this;omega⟩
theorem uP{s up:List UInt8}(h:¬(up.length<s.length∧s.take up.length=up)):Value.bool false= .bool ((up++[47]).isPrefixOf s):=by
 rw[rO,decide_eq_false (fun e=>h ⟨e.1,e.2.1⟩)]
def i_(s J:List UInt8):Bool:=(s++[47]).isPrefixOf J||(J++[47]).isPrefixOf s
def base(s:List UInt8)(l:List (List UInt8)):Int:=if c6 s≠0 then c6 s else if s∈l then 8 else 0
def iH(s:List UInt8)(l:List (List UInt8)):Int:=if base s l≠0 then base s l else if l.any (i_ s)=true then 13 else 0
theorem xq{s:List UInt8}{l:List (List UInt8)}{j:Nat}(h:s∉l.take j)(d:j<l.length)(U:s≠l[j]):s∉l.take (j+1):=by
 rw[List.take_succ_eq_append_getElem d];simp only[List.mem_append,List.mem_singleton,not_or];exact⟨h,U⟩
theorem DP(v:Value)(x:List UInt8)(l:List (List UInt8))(w0:World)(I:Heap)
 (d:bx I gg 1 v l):
 aC Tryz.prog w0 230 #[v,aI x] I (fun r C=>∃n:Int,r= .int .i64 n∧((0≤n↔x∈l)∧ -1≤n∧n≤9223372036854775807)∧aj I C):=by
 refine aC.aK [v,aI x] Tryz.func230 ?_;intro af B;have k:aj I I:=W.refl _ _;replace d:=d.bw;have al:=d.len;refine G.L (fun N=>?_);refine o.ak ?_;refine N (G.t2 (fun O au=>G.L (fun am=>?_)));refine o.V ?_;refine o.v1 (bb d jE) ?_;refine o.V (o.nil (am ?_));refine G.aB (fun _ P ap=>?_)
 refine G.bg (fun(j:(Nat))=>[(0,v),(1,aI x),(7,.int .i64 l.length),(8,.int .i64 j)])
  (fun(j:(Nat)) (H:Heap)=>(j≤l.length)∧(x∉l.take j)∧aj I H)
  (fun(j:(Nat))=>l.length-j) 0 ⟨rfl,rfl,rfl,rfl,trivial⟩ ?_ ?_
 ·
  exact⟨(by omega),(fun h=>by simp at h),W.refl _ _⟩
 intro j ah Q ae R A;obtain⟨ak,t,i⟩:=Q;replace d:=d.M i;replace k:=k.L i;have ai:=i.size;refine G.L (fun S=>?_);refine o.v1 bJ (o.nil (S ?_));refine G.t2 (fun T V=>?_);refine aU (fun ab=>?_) (fun ab=>?_)
 ·
  refine G.skip (T (G.t2 (fun X Z=>G.aB (fun aa _ E=>G.L (fun F=>?_)))));refine o.aQ 2 ?_;refine F (G.L (fun ac=>?_));refine o.ax 3 ?_;refine o.bR (Y.bL d (j) rfl jE bP rfl rfl) fun ag K=>?_;refine o.v1 (ar K.N bN) ?_;refine o.v1 (Y.jz rfl rfl rfl) (o.nil (ac ?_));refine aU (fun q=>?_) (fun q=>?_)
  ·
   refine G.L (fun L=>?_);refine o.aQ 2 ?_;refine L ?_;refine G.ret (E (Z (A (ap (au (B ?_))))));exact⟨j,rfl,⟨⟨fun _=>by rw[q];exact List.getElem_mem _,fun _=>by omega⟩,by omega,by omega⟩,k⟩
  ·
   refine G.skip (aa (X (G.region ?_)));refine o.v1 bD ?_;refine o.V (o.nil ?_);refine aP.sub (R (j+1) _ ?_ ?_) ⟨rfl,rfl,(aD (by omega)),(aD (by omega)),trivial⟩
   ·exact⟨(by omega),xq t (by omega) (by simpa using q),i⟩
   ·first|omega|(simp only;omega)|(simp;omega)
 ·
  refine G.exit (V (A (P ?_)));refine O (G.L (fun M=>?_));refine o.ak ?_;refine M ?_;refine G.ret (B ?_);exact⟨-1,rfl,⟨⟨fun h=>by omega,fun h=>by rw[List.take_of_length_le (by omega)]at t;exact absurd h t⟩,by omega,by omega⟩,k⟩
theorem CD(v:Value)(x:List UInt8)(l:List (List UInt8))(w0:World)(I:Heap)
 (d:bx I gg 1 v l):
 aC Tryz.prog w0 194 #[v,aI x] I (fun r j=>r= .bool (decide (x∈l))∧aj I j):=by
 refine aC.aK [v,aI x] Tryz.func194 ?_;intro B t;have i:aj I I:=W.refl _ _;replace d:=d.bw;have C:=d.len;refine G.L (fun k=>?_);refine o.ak ?_;refine k (G.L (fun n=>?_));refine o.ax 2 ?_;refine aW BF (DP _ x l w0 _ d.any) ?_;rintro E A ⟨n7,rfl,q,ac⟩;replace i:=i.L ac;refine o.v1 dJ ?_;refine o.ak ?_;refine n ?_;refine G.ret (t ?_);exact⟨c1 q.1,i⟩
theorem Dw(c:UInt8)(w0:World)(I:Heap)
 :
 aC Tryz.prog w0 115 #[.int .u8 c.toNat] I (fun r B=>r= .bool (cv c)∧aj I B):=by
 refine aC.aK [.int .u8 c.toNat] Tryz.func115 ?_;intro E k;have j:aj I I:=W.refl _ _;refine G.L (fun C=>?_);refine o.ak ?_;refine C (G.L (fun i=>?_));refine o.V ?_;refine o.v1 dJ ?_;refine o.V ?_;refine o.bj (d:=5) rfl (fun g5=>?_) (fun g5=>?_)
 ·
  refine o.bU ?_;refine o.ao eK ?_;refine o.ax 2 ?_;refine o.bj (d:=9) rfl (fun g9=>?_) (fun g9=>?_)
  ·
   refine o.ax 3 ?_;refine gx ?_;refine gx ?_;refine o.ax 6 ?_;refine gx ?_;refine gx ?_;refine o.aQ 19 ?_;refine i ?_;refine G.ret (k ?_);exact⟨by first|exact dh (by omega)|exact ew (by omega)|(rw[cv];exact c1 (by omega)),j⟩
  ·
   refine o.bU ?_;refine o.ao dJ ?_;refine o.bU ?_;refine o.bj (d:=12) rfl (fun x=>?_) (fun x=>?_)
   ·
    refine o.bU ?_;refine o.ao eK ?_;refine o.ao eh ?_;refine o.ax 2 ?_;refine o.bj (d:=17) rfl (fun A=>?_) (fun A=>?_)
    ·
     refine o.ax 3 ?_;refine gx ?_;refine gx ?_;refine o.aQ 19 ?_;refine i ?_;refine G.ret (k ?_);exact⟨by first|exact dh (by omega)|exact ew (by omega)|(rw[cv];exact c1 (by omega)),j⟩
    ·
     refine o.bU ?_;refine o.ao dJ ?_;refine o.bU ?_;refine o.bj (d:=20) rfl (fun q=>?_) (fun q=>?_)
     ·
      refine o.bU ?_;refine o.ao eK ?_;refine o.ao eh ?_;refine o.ax 2 ?_;refine o.bj (d:=25) rfl (fun t=>?_) (fun t=>?_)
      ·
       refine o.aQ 16 ?_;refine i ?_;refine G.ret (k ?_);exact⟨by first|exact dh (by omega)|exact ew (by omega)|(rw[cv];exact c1 (by omega)),j⟩
      ·
       refine o.bU ?_;refine o.ao b9 ?_;refine o.ax 2 ?_;refine o.bj (d:=29) rfl (fun n=>?_) (fun n=>?_)
       ·
        refine o.aQ 12 ?_;refine i ?_;refine G.ret (k ?_);exact⟨by first|exact dh (by omega)|exact ew (by omega)|(rw[cv];exact c1 (by omega)),j⟩
       ·
        refine o.bU ?_;refine o.ao b9 ?_;refine o.ax 2 ?_;refine o.bj (d:=33) rfl (fun ac=>?_) (fun ac=>?_)
        ·
         refine o.aQ 8 ?_;refine i ?_;refine G.ret (k ?_);exact⟨by first|exact dh (by omega)|exact ew (by omega)|(rw[cv];exact c1 (by omega)),j⟩
        ·
         refine o.bU ?_;refine o.ao b9 ?_;refine o.ax 2 ?_;refine o.bj (d:=37) rfl (fun ad=>?_) (fun ad=>?_)
         ·
          refine o.aQ 4 ?_;refine i ?_;refine G.ret (k ?_);exact⟨by first|exact dh (by omega)|exact ew (by omega)|(rw[cv];exact c1 (by omega)),j⟩
         ·
          refine o.bU ?_;refine o.ao b9 ?_;refine o.aQ 2 ?_;refine i ?_;refine G.ret (k ?_);exact⟨by first|exact dh (by omega)|exact ew (by omega)|(rw[cv];exact c1 (by omega)),j⟩
     ·
      refine o.ax 2 ?_;refine o.ao dH ?_;refine o.ax 3 ?_;refine o.ao b9 ?_;refine o.ax 2 ?_;refine o.bj (d:=29) rfl (fun n=>?_) (fun n=>?_)
      ·
       refine o.aQ 12 ?_;refine i ?_;refine G.ret (k ?_);exact⟨by first|exact dh (by omega)|exact ew (by omega)|(rw[cv];exact c1 (by omega)),j⟩
      ·
       refine o.bU ?_;refine o.ao b9 ?_;refine o.ax 2 ?_;refine o.bj (d:=33) rfl (fun ac=>?_) (fun ac=>?_)
       ·
        refine o.aQ 8 ?_;refine i ?_;refine G.ret (k ?_);exact⟨by first|exact dh (by omega)|exact ew (by omega)|(rw[cv];exact c1 (by omega)),j⟩
       ·
        refine o.bU ?_;refine o.ao b9 ?_;refine o.ax 2 ?_;refine o.bj (d:=37) rfl (fun ad=>?_) (fun ad=>?_)
        ·
         refine o.aQ 4 ?_;refine i ?_;refine G.ret (k ?_);exact⟨by first|exact dh (by omega)|exact ew (by omega)|(rw[cv];exact c1 (by omega)),j⟩
        ·
         refine o.bU ?_;refine o.ao b9 ?_;refine o.aQ 2 ?_;refine i ?_;refine G.ret (k ?_);exact⟨by first|exact dh (by omega)|exact ew (by omega)|(rw[cv];exact c1 (by omega)),j⟩
   ·
    refine o.ax 2 ?_;refine o.ao dH ?_;refine o.ax 3 ?_;refine o.ao dJ ?_;refine o.bU ?_;refine o.bj (d:=20) rfl (fun q=>?_) (fun q=>?_)
    ·
     refine o.bU ?_;refine o.ao eK ?_;refine o.ao eh ?_;refine o.ax 2 ?_;refine o.bj (d:=25) rfl (fun t=>?_) (fun t=>?_)
     ·
      refine o.aQ 16 ?_;refine i ?_;refine G.ret (k ?_);exact⟨by first|exact dh (by omega)|exact ew (by omega)|(rw[cv];exact c1 (by omega)),j⟩
     ·
      refine o.bU ?_;refine o.ao b9 ?_;refine o.ax 2 ?_;refine o.bj (d:=29) rfl (fun n=>?_) (fun n=>?_)
      ·
       refine o.aQ 12 ?_;refine i ?_;refine G.ret (k ?_);exact⟨by first|exact dh (by omega)|exact ew (by omega)|(rw[cv];exact c1 (by omega)),j⟩
      ·
       refine o.bU ?_;refine o.ao b9 ?_;refine o.ax 2 ?_;refine o.bj (d:=33) rfl (fun ac=>?_) (fun ac=>?_)
       ·
        refine o.aQ 8 ?_;refine i ?_;refine G.ret (k ?_);exact⟨by first|exact dh (by omega)|exact ew (by omega)|(rw[cv];exact c1 (by omega)),j⟩
       ·
        refine o.bU ?_;refine o.ao b9 ?_;refine o.ax 2 ?_;refine o.bj (d:=37) rfl (fun ad=>?_) (fun ad=>?_)
        ·
         refine o.aQ 4 ?_;refine i ?_;refine G.ret (k ?_);exact⟨by first|exact dh (by omega)|exact ew (by omega)|(rw[cv];exact c1 (by omega)),j⟩
        ·
         refine o.bU ?_;refine o.ao b9 ?_;refine o.aQ 2 ?_;refine i ?_;refine G.ret (k ?_);exact⟨by first|exact dh (by omega)|exact ew (by omega)|(rw[cv];exact c1 (by omega)),j⟩
    ·
     refine o.ax 2 ?_;refine o.ao dH ?_;refine o.ax 3 ?_;refine o.ao b9 ?_;refine o.ax 2 ?_;refine o.bj (d:=29) rfl (fun n=>?_) (fun n=>?_)
     ·
      refine o.aQ 12 ?_;refine i ?_;refine G.ret (k ?_);exact⟨by first|exact dh (by omega)|exact ew (by omega)|(rw[cv];exact c1 (by omega)),j⟩
     ·
      refine o.bU ?_;refine o.ao b9 ?_;refine o.ax 2 ?_;refine o.bj (d:=33) rfl (fun ac=>?_) (fun ac=>?_)
      ·
       refine o.aQ 8 ?_;refine i ?_;refine G.ret (k ?_);exact⟨by first|exact dh (by omega)|exact ew (by omega)|(rw[cv];exact c1 (by omega)),j⟩
      ·
       refine o.bU ?_;refine o.ao b9 ?_;refine o.ax 2 ?_;refine o.bj (d:=37) rfl (fun ad=>?_) (fun ad=>?_)
       ·
        refine o.aQ 4 ?_;refine i ?_;refine G.ret (k ?_);exact⟨by first|exact dh (by omega)|exact ew (by omega)|(rw[cv];exact c1 (by omega)),j⟩
       ·
        refine o.bU ?_;refine o.ao b9 ?_;refine o.aQ 2 ?_;refine i ?_;refine G.ret (k ?_);exact⟨by first|exact dh (by omega)|exact ew (by omega)|(rw[cv];exact c1 (by omega)),j⟩
 ·
  refine o.ax 5 ?_;refine o.ao dJ ?_;refine o.bU ?_;refine o.bj (d:=12) rfl (fun x=>?_) (fun x=>?_)
  ·
   refine o.bU ?_;refine o.ao eK ?_;refine o.ao eh ?_;refine o.ax 2 ?_;refine o.bj (d:=17) rfl (fun A=>?_) (fun A=>?_)
   ·
    refine o.ax 3 ?_;refine gx ?_;refine gx ?_;refine o.aQ 19 ?_;refine i ?_;refine G.ret (k ?_);exact⟨by first|exact dh (by omega)|exact ew (by omega)|(rw[cv];exact c1 (by omega)),j⟩
   ·
    refine o.bU ?_;refine o.ao dJ ?_;refine o.bU ?_;refine o.bj (d:=20) rfl (fun q=>?_) (fun q=>?_)
    ·
     refine o.bU ?_;refine o.ao eK ?_;refine o.ao eh ?_;refine o.ax 2 ?_;refine o.bj (d:=25) rfl (fun t=>?_) (fun t=>?_)
     ·
      refine o.aQ 16 ?_;refine i ?_;refine G.ret (k ?_);exact⟨by first|exact dh (by omega)|exact ew (by omega)|(rw[cv];exact c1 (by omega)),j⟩
     ·
      refine o.bU ?_;refine o.ao b9 ?_;refine o.ax 2 ?_;refine o.bj (d:=29) rfl (fun n=>?_) (fun n=>?_)
      ·
       refine o.aQ 12 ?_;refine i ?_;refine G.ret (k ?_);exact⟨by first|exact dh (by omega)|exact ew (by omega)|(rw[cv];exact c1 (by omega)),j⟩
      ·
       refine o.bU ?_;refine o.ao b9 ?_;refine o.ax 2 ?_;refine o.bj (d:=33) rfl (fun ac=>?_) (fun ac=>?_)
       ·
        refine o.aQ 8 ?_;refine i ?_;refine G.ret (k ?_);exact⟨by first|exact dh (by omega)|exact ew (by omega)|(rw[cv];exact c1 (by omega)),j⟩
       ·
        refine o.bU ?_;refine o.ao b9 ?_;refine o.ax 2 ?_;refine o.bj (d:=37) rfl (fun ad=>?_) (fun ad=>?_)
        ·
         refine o.aQ 4 ?_;refine i ?_;refine G.ret (k ?_);exact⟨by first|exact dh (by omega)|exact ew (by omega)|(rw[cv];exact c1 (by omega)),j⟩
        ·
         refine o.bU ?_;refine o.ao b9 ?_;refine o.aQ 2 ?_;refine i ?_;refine G.ret (k ?_);exact⟨by first|exact dh (by omega)|exact ew (by omega)|(rw[cv];exact c1 (by omega)),j⟩
    ·
     refine o.ax 2 ?_;refine o.ao dH ?_;refine o.ax 3 ?_;refine o.ao b9 ?_;refine o.ax 2 ?_;refine o.bj (d:=29) rfl (fun n=>?_) (fun n=>?_)
     ·
      refine o.aQ 12 ?_;refine i ?_;refine G.ret (k ?_);exact⟨by first|exact dh (by omega)|exact ew (by omega)|(rw[cv];exact c1 (by omega)),j⟩
     ·
      refine o.bU ?_;refine o.ao b9 ?_;refine o.ax 2 ?_;refine o.bj (d:=33) rfl (fun ac=>?_) (fun ac=>?_)
      ·
       refine o.aQ 8 ?_;refine i ?_;refine G.ret (k ?_);exact⟨by first|exact dh (by omega)|exact ew (by omega)|(rw[cv];exact c1 (by omega)),j⟩
      ·
       refine o.bU ?_;refine o.ao b9 ?_;refine o.ax 2 ?_;refine o.bj (d:=37) rfl (fun ad=>?_) (fun ad=>?_)
       ·
        refine o.aQ 4 ?_;refine i ?_;refine G.ret (k ?_);exact⟨by first|exact dh (by omega)|exact ew (by omega)|(rw[cv];exact c1 (by omega)),j⟩
       ·
        refine o.bU ?_;refine o.ao b9 ?_;refine o.aQ 2 ?_;refine i ?_;refine G.ret (k ?_);exact⟨by first|exact dh (by omega)|exact ew (by omega)|(rw[cv];exact c1 (by omega)),j⟩
  ·
   refine o.ax 2 ?_;refine o.ao dH ?_;refine o.ax 3 ?_;refine o.ao dJ ?_;refine o.bU ?_;refine o.bj (d:=20) rfl (fun q=>?_) (fun q=>?_)
   ·
    refine o.bU ?_;refine o.ao eK ?_;refine o.ao eh ?_;refine o.ax 2 ?_;refine o.bj (d:=25) rfl (fun t=>?_) (fun t=>?_)
    ·
     refine o.aQ 16 ?_;refine i ?_;refine G.ret (k ?_);exact⟨by first|exact dh (by omega)|exact ew (by omega)|(rw[cv];exact c1 (by omega)),j⟩
    ·
     refine o.bU ?_;refine o.ao b9 ?_;refine o.ax 2 ?_;refine o.bj (d:=29) rfl (fun n=>?_) (fun n=>?_)
     ·
      refine o.aQ 12 ?_;refine i ?_;refine G.ret (k ?_);exact⟨by first|exact dh (by omega)|exact ew (by omega)|(rw[cv];exact c1 (by omega)),j⟩
     ·
      refine o.bU ?_;refine o.ao b9 ?_;refine o.ax 2 ?_;refine o.bj (d:=33) rfl (fun ac=>?_) (fun ac=>?_)
      ·
       refine o.aQ 8 ?_;refine i ?_;refine G.ret (k ?_);exact⟨by first|exact dh (by omega)|exact ew (by omega)|(rw[cv];exact c1 (by omega)),j⟩
      ·
       refine o.bU ?_;refine o.ao b9 ?_;refine o.ax 2 ?_;refine o.bj (d:=37) rfl (fun ad=>?_) (fun ad=>?_)
       ·
        refine o.aQ 4 ?_;refine i ?_;refine G.ret (k ?_);exact⟨by first|exact dh (by omega)|exact ew (by omega)|(rw[cv];exact c1 (by omega)),j⟩
       ·
        refine o.bU ?_;refine o.ao b9 ?_;refine o.aQ 2 ?_;refine i ?_;refine G.ret (k ?_);exact⟨by first|exact dh (by omega)|exact ew (by omega)|(rw[cv];exact c1 (by omega)),j⟩
   ·
    refine o.ax 2 ?_;refine o.ao dH ?_;refine o.ax 3 ?_;refine o.ao b9 ?_;refine o.ax 2 ?_;refine o.bj (d:=29) rfl (fun n=>?_) (fun n=>?_)
    ·
     refine o.aQ 12 ?_;refine i ?_;refine G.ret (k ?_);exact⟨by first|exact dh (by omega)|exact ew (by omega)|(rw[cv];exact c1 (by omega)),j⟩
    ·
     refine o.bU ?_;refine o.ao b9 ?_;refine o.ax 2 ?_;refine o.bj (d:=33) rfl (fun ac=>?_) (fun ac=>?_)
     ·
      refine o.aQ 8 ?_;refine i ?_;refine G.ret (k ?_);exact⟨by first|exact dh (by omega)|exact ew (by omega)|(rw[cv];exact c1 (by omega)),j⟩
     ·
      refine o.bU ?_;refine o.ao b9 ?_;refine o.ax 2 ?_;refine o.bj (d:=37) rfl (fun ad=>?_) (fun ad=>?_)
      ·
       refine o.aQ 4 ?_;refine i ?_;refine G.ret (k ?_);exact⟨by first|exact dh (by omega)|exact ew (by omega)|(rw[cv];exact c1 (by omega)),j⟩
      ·
       refine o.bU ?_;refine o.ao b9 ?_;refine o.aQ 2 ?_;refine i ?_;refine G.ret (k ?_);exact⟨by first|exact dh (by omega)|exact ew (by omega)|(rw[cv];exact c1 (by omega)),j⟩
theorem uQ(s up:List UInt8)(w0:World)(I:Heap)
 :
 aC Tryz.prog w0 188 #[aI s,aI up] I (fun r q=>r= .bool ((up++[47]).isPrefixOf s)∧aj I q):=by
 refine aC.aK [aI s,aI up] Tryz.func188 ?_;intro t n;have k:aj I I:=W.refl _ _;refine G.L (fun ac=>?_);refine o.ak ?_;refine ac (G.L (fun i=>?_));refine o.V ?_;refine o.v1 (fB dP) ?_;refine o.V ?_;refine o.v1 (fB dP) ?_;refine o.v1 eY ?_;refine o.V ?_;refine o.bj (d:=10) rfl (fun ad=>?_) (fun ad=>?_)
 ·
  refine o.ax 2 ?_;refine o.ao (fB dP) ?_;refine o.ao (Y.y4 (0) (up.length) rfl dP rfl (.inl ⟨rfl,rfl⟩) (.inr ⟨_,_,_,rfl,rfl,by first|rfl|omega⟩) (by omega) (by omega)) ?_;refine o.bU ?_;refine o.ao (Y.jz rfl rfl rfl) ?_;refine o.ax 2 ?_;refine o.bj (d:=18) rfl (fun j=>?_) (fun j=>?_)
  ·
   refine o.ax 2 ?_;refine o.ao (fB dP) ?_;refine o.ao (jo (up.length) dP) ?_;refine o.ao b9 ?_;refine o.aQ 2 ?_;refine i ?_;refine G.ret (n ?_);exact⟨AE (by omega) (by simpa using j),k⟩
  ·
   refine o.aQ 7 ?_;refine i ?_;refine G.ret (n ?_);exact⟨uP (fun h=>j (by simpa using h.2)),k⟩
 ·
  refine o.aQ 15 ?_;refine i ?_;refine G.ret (n ?_);exact⟨uP (fun h=>by omega),k⟩
theorem qV(s:List UInt8)(w0:World)(I:Heap)
 (al:s.length≤9223372036854775807):
 aC Tryz.prog w0 40 #[aI s] I (fun r aZ=>r= .int .i64 (c6 s)∧aj I aZ):=by
 refine aC.aK [aI s] Tryz.func40 ?_;intro bE q;have k:aj I I:=W.refl _ _;refine G.L (fun bT=>?_);refine o.ak ?_;refine bT (G.t2 (fun be aQ=>G.L (fun aR=>?_)));refine o.V ?_;refine o.v1 (fB dP) ?_;refine o.v1 bJ ?_;refine o.V ?_;refine o.bj (d:=9) rfl (fun g9=>?_) (fun g9=>?_)
 ·
  refine o.ax 4 ?_;refine o.nil (aR ?_);refine G.iz rfl ?_;refine G.L (fun bY=>?_);refine o.ak ?_;refine bY ?_;refine G.ret (aQ (q ?_));exact⟨by rw[Cx (by omega)],k⟩
 ·
  refine o.bU ?_;refine o.ao (fB dP) ?_;refine o.ao eY ?_;refine o.dF ?_;refine o.nil (aR ?_);refine aU (fun bm=>?_) (fun bm=>?_)
  ·
   refine G.L (fun bn=>?_);refine o.ak ?_;refine bn ?_;refine G.ret (aQ (q ?_));exact⟨by rw[Cw (by omega)],k⟩
  ·
   refine G.skip (be (G.t2 (fun bi A=>G.L (fun bo=>?_))));refine o.ak ?_;refine bo (G.aB (fun _ aB B=>?_))
   refine G.bg (fun(i:(Nat))=>[(0,aI s),(3,.int .i64 i)])
    (fun(i:(Nat)) (H:Heap)=>(i≤s.length)∧(∀j,j<i→nW s j)∧aj I H)
    (fun(i:(Nat))=>s.length-i) 0 ⟨rfl,rfl,trivial⟩ ?_ ?_
   ·
    exact⟨(by omega),(fun j h=>by omega),W.refl _ _⟩
   intro i aa bp bC bq t;obtain⟨bR,aX,n⟩:=bp;replace k:=k.L n;have bv:=n.size;refine G.t2 (fun a8 a_=>G.L (fun ba=>?_));refine o.ax 2 ?_;refine o.v1 (fB dP) ?_;refine o.v1 bJ (o.nil (ba ?_));refine aU (fun bs=>?_) (fun bs=>?_)
   ·
    have x:i<s.length:=by omega
    have ex:s.getD i 0=s[i]:=iB x;refine G.skip (a8 (G.t2 (fun bb au=>G.aB (fun a0 _ am=>?_))))
    refine G.cut (fun(fb:(Bool))=>[(0,aI s),(3,.int .i64 i),(4,.bool fb)])
     (fun(fb:(Bool)) (H:Heap)=>(fb=true↔oP s i)∧aj aa H) (fun _ aM _=>?_) ?_
    ·
     have aJ:aj aa aa:=W.refl _ _;refine G.region ?_;refine o.V ?_;refine o.v1 b9 ?_;refine o.V ?_;refine o.bj (d:=22) rfl (fun bt=>?_) (fun bt=>?_)
     ·
      refine o.aQ 7 ?_;refine aP.sub (aM true _ ?_) ⟨rfl,(aD (by omega)),rfl,trivial⟩;exact⟨⟨fun _=> .inl (by omega),fun _=>rfl⟩,aJ⟩
     ·
      refine o.ax 2 ?_;refine o.ao (Y.cast (v2:= .int .i64 ((i-1:Nat):Int)) fH (fM (by omega))) ?_;refine o.ao (jo (i-1) dP) ?_;refine o.ao b9 ?_;refine o.aQ 2 ?_;refine aP.sub (aM (decide (((s[i-1]'(by omega)).toNat:Int)=47)) _ ?_) ⟨rfl,(aD (by omega)),rfl,trivial⟩;exact⟨⟨fun h=> .inr (by rw[iB (by omega)];have:=of_decide_eq_true h;omega),fun h=>decide_eq_true (by rcases h with h|h;omega;rw[iB (by omega)]at h;omega)⟩,aJ⟩
    ·
     intro fb aq bj;obtain⟨aH,af⟩:=bj;replace k:=k.L af;replace n:=n.L af;have bO:=af.size
     refine G.cut (fun(aY:(Bool))=>[(0,aI s),(3,.int .i64 i),(4,.bool fb),(5,.bool aY)])
      (fun(aY:(Bool)) (H:Heap)=>(aY=true↔qB s i)∧aj aq H) (fun _ aN _=>?_) ?_
     ·
      have aK:aj aq aq:=W.refl _ _;refine G.region ?_;refine o.ax 2 ?_;refine o.v1 (fB dP) ?_;refine o.v1 (Y.cast (v2:= .int .i64 ((s.length-1:Nat):Int)) fH (fM (by omega))) ?_;refine o.v1 b9 ?_;refine o.V ?_;refine o.bj (d:=34) rfl (fun bu=>?_) (fun bu=>?_)
      ·
       refine o.aQ 7 ?_;refine aP.sub (aN true _ ?_) ⟨rfl,(aD (by omega)),rfl,rfl,trivial⟩;exact⟨⟨fun _=> .inl (by omega),fun _=>rfl⟩,aK⟩
      ·
       refine o.ax 2 ?_;refine o.ao (Y.cast (v2:= .int .i64 ((i+1:Nat):Int)) bD (fM (by omega))) ?_;refine o.ao (jo (i+1) dP) ?_;refine o.ao b9 ?_;refine o.aQ 2 ?_;refine aP.sub (aN (decide (((s[i+1]'(by omega)).toNat:Int)=47)) _ ?_) ⟨rfl,(aD (by omega)),rfl,rfl,trivial⟩;exact⟨⟨fun h=> .inr (by rw[iB (by omega)];have:=of_decide_eq_true h;omega),fun h=>decide_eq_true (by rcases h with h|h;omega;rw[iB (by omega)]at h;omega)⟩,aK⟩
     ·
      intro aY b2 bk;obtain⟨aT,ag⟩:=bk;replace k:=k.L ag;replace n:=n.L ag;have bP:=ag.size;refine G.aB (fun a2 _ E=>G.L (fun a3=>?_));refine o.ax 2 ?_;refine o.v1 (jo (i) dP) ?_;refine aW A1 (Dw s[i] w0 _) (fun bQ a4 bw=>?_);obtain⟨rfl,T⟩:=bw;replace k:=k.L T;replace n:=n.L T;have bG:=T.size;refine o.v1 eL ?_;refine o.ak ?_;refine a3 ?_;refine cK (fun F=>?_) (fun F=>?_)
      ·
       refine G.L (fun a5=>?_);refine o.ak ?_;refine a5 ?_;refine G.ret (E (am (au (t (B (A (q ?_)))))));exact⟨by rw[pc x (fun h=>by have:=h.1;rw[ex]at this;rw[this]at F;cases F)],k⟩
      ·
       refine G.cut (fun(P:(Bool))=>[(0,aI s),(3,.int .i64 i),(4,.bool fb),(5,.bool aY),(47,.bool P)])
        (fun(P:(Bool)) (H:Heap)=>(P=true↔((s.getD i 0).toNat=47∧(fb=true∨i+1=s.length)))∧aj a4 H) (fun _ V _=>?_) ?_
       ·
        have ap:aj a4 a4:=W.refl _ _;refine G.region ?_;refine o.ax 2 ?_;refine o.v1 (jo (i) dP) ?_;refine o.v1 b9 ?_;refine o.V ?_;refine o.bj (d:=52) rfl (fun br=>?_) (fun br=>?_)
        ·
         refine o.ax 2 ?_;refine o.split (d:=54) rfl (fun K=>?_) (fun K=>?_)
         ·
          refine o.ax 5 ?_;refine o.ao eh ?_;refine o.aQ 2 ?_;refine aP.sub (V true _ ?_) ⟨rfl,(aD (by omega)),rfl,rfl,rfl,trivial⟩;exact⟨⟨fun _=>⟨by rw[ex];omega,.inl K⟩,fun _=>rfl⟩,ap⟩
         ·
          refine o.ax 2 ?_;refine o.ao (fB dP) ?_;refine o.ao (Y.cast (v2:= .int .i64 ((s.length-1:Nat):Int)) fH (fM (by omega))) ?_;refine o.ao b9 ?_;refine o.ao dH ?_;refine o.aQ 2 ?_;refine aP.sub (V (decide ((i:Int)=((s.length-1:Nat):Int))) _ ?_) ⟨rfl,(aD (by omega)),rfl,rfl,rfl,trivial⟩;exact⟨⟨fun h=>⟨by rw[ex];omega,.inr (by have:=of_decide_eq_true h;omega)⟩,fun h=>decide_eq_true (by rcases h.2 with h|h;rw[h]at K;cases K;omega)⟩,ap⟩
        ·
         refine o.ax 2 ?_;refine gx ?_;refine gx ?_;refine gx ?_;refine gx ?_;refine gx ?_;refine o.aQ 3 ?_;refine aP.sub (V false _ ?_) ⟨rfl,(aD (by omega)),rfl,rfl,rfl,trivial⟩;exact⟨⟨fun h=>(by cases h),fun h=>by have:=h.1;rw[ex]at this;omega⟩,ap⟩
       ·
        intro P ah bd;obtain⟨aA,ab⟩:=bd;replace k:=k.L ab;replace n:=n.L ab;have bI:=ab.size;refine cK (fun L=>?_) (fun L=>?_)
        ·
         refine G.L (fun a1=>?_);refine o.ak ?_;refine a1 ?_;refine G.ret (E (am (au (t (B (A (q ?_)))))));exact⟨by rw[pc x (fun h=>h.2.1 ⟨(aA.1 L).1,(aA.1 L).2.imp aH.1 id⟩)],k⟩
        ·
         refine G.cut (fun(Q:(Bool))=>[(0,aI s),(3,.int .i64 i),(5,.bool aY),(62,.bool Q)])
          (fun(Q:(Bool)) (H:Heap)=>(Q=true↔(fb=true∧((s.getD i 0).toNat=46∨(s.getD i 0).toNat=45)))∧aj ah H) (fun _ X _=>?_) ?_
         ·
          have ar:aj ah ah:=W.refl _ _;refine G.region ?_;refine o.ax 2 ?_;refine o.split (d:=64) rfl (fun C=>?_) (fun C=>?_)
          ·
           refine o.ax 2 ?_;refine o.ao (jo (i) dP) ?_;refine o.ao b9 ?_;refine o.bU ?_;refine o.bj (d:=69) rfl (fun bx=>?_) (fun bx=>?_)
           ·
            refine o.ax 4 ?_;refine o.ao eh ?_;refine o.aQ 2 ?_;refine aP.sub (X true _ ?_) ⟨rfl,(aD (by omega)),rfl,rfl,trivial⟩;exact⟨⟨fun _=>⟨C,.inl (by rw[ex];omega)⟩,fun _=>rfl⟩,ar⟩
           ·
            refine o.ax 2 ?_;refine o.ao (jo (i) dP) ?_;refine o.ao b9 ?_;refine o.ao dH ?_;refine o.aQ 2 ?_;refine aP.sub (X (decide ((s[i].toNat:Int)=45)) _ ?_) ⟨rfl,(aD (by omega)),rfl,rfl,trivial⟩;exact⟨⟨fun h=>⟨C,.inr (by rw[ex];have:=of_decide_eq_true h;omega)⟩,fun h=>decide_eq_true (by have:=h.2;rw[ex]at this;omega)⟩,ar⟩
          ·
           refine o.ax 5 ?_;refine gx ?_;refine gx ?_;refine gx ?_;refine gx ?_;refine o.aQ 3 ?_;refine aP.sub (X false _ ?_) ⟨rfl,(aD (by omega)),rfl,rfl,trivial⟩;exact⟨⟨fun h=>(by cases h),fun h=>by rw[h.1]at C;cases C⟩,ar⟩
         ·
          intro Q ai bf;obtain⟨aE,ac⟩:=bf;replace k:=k.L ac;replace n:=n.L ac;have bK:=ac.size;refine cK (fun M=>?_) (fun M=>?_)
          ·
           refine G.L (fun a6=>?_);refine o.ak ?_;refine a6 ?_;refine G.ret (E (am (au (t (B (A (q ?_)))))));exact⟨by rw[pc x (fun h=>h.2.2.1 ⟨aH.1 (aE.1 M).1,(aE.1 M).2⟩)],k⟩
          ·
           refine G.cut (fun(R:(Bool))=>[(0,aI s),(3,.int .i64 i),(76,.bool R)])
            (fun(R:(Bool)) (H:Heap)=>(R=true↔(aY=true∧(s.getD i 0).toNat=46))∧aj ai H) (fun _ aO _=>?_) ?_
           ·
            have aL:aj ai ai:=W.refl _ _;refine G.region ?_;refine o.ax 2 ?_;refine o.split (d:=78) rfl (fun N=>?_) (fun N=>?_)
            ·
             refine o.ax 2 ?_;refine o.ao (jo (i) dP) ?_;refine o.ao b9 ?_;refine o.aQ 2 ?_;refine aP.sub (aO (decide ((s[i].toNat:Int)=46)) _ ?_) ⟨rfl,(aD (by omega)),rfl,trivial⟩;exact⟨⟨fun h=>⟨N,by rw[ex];have:=of_decide_eq_true h;omega⟩,fun h=>decide_eq_true (by have:=h.2;rw[ex]at this;omega)⟩,aL⟩
            ·
             refine o.aQ 6 ?_;refine aP.sub (aO false _ ?_) ⟨rfl,(aD (by omega)),rfl,trivial⟩;exact⟨⟨fun h=>(by cases h),fun h=>by rw[h.1]at N;cases N⟩,aL⟩
           ·
            intro R ak bg;obtain⟨aF,ad⟩:=bg;replace k:=k.L ad;replace n:=n.L ad;have bL:=ad.size;refine cK (fun O=>?_) (fun O=>?_)
            ·
             refine G.L (fun a7=>?_);refine o.ak ?_;refine a7 ?_;refine G.ret (E (am (au (t (B (A (q ?_)))))));exact⟨by rw[pc x (fun h=>h.2.2.2.1 ⟨aT.1 (aF.1 O).1,(aF.1 O).2⟩)],k⟩
            ·
             refine G.cut (fun(S:(Bool))=>[(0,aI s),(3,.int .i64 i),(84,.bool S)])
              (fun(S:(Bool)) (H:Heap)=>(S=true↔((s.getD i 0).toNat=46∧0<i∧(s.getD (i-1) 0).toNat=46))∧aj ak H) (fun _ Z _=>?_) ?_
             ·
              have ay:aj ak ak:=W.refl _ _;refine G.region ?_;refine o.ax 2 ?_;refine o.v1 (jo (i) dP) ?_;refine o.v1 b9 ?_;refine o.V ?_;refine o.bj (d:=89) rfl (fun bz=>?_) (fun bz=>?_)
              ·
               refine o.bU ?_;refine o.ao eY ?_;refine o.ax 2 ?_;refine o.bj (d:=93) rfl (fun bA=>?_) (fun bA=>?_)
               ·
                refine o.ax 2 ?_;refine o.ao (Y.cast (v2:= .int .i64 ((i-1:Nat):Int)) fH (fM (by omega))) ?_;refine o.ao (jo (i-1) dP) ?_;refine o.ao b9 ?_;refine o.aQ 2 ?_;refine aP.sub (Z (decide (((s[i-1]'(by omega)).toNat:Int)=46)) _ ?_) ⟨rfl,(aD (by omega)),rfl,trivial⟩;exact⟨⟨fun h=>⟨by rw[ex];omega,by omega,by rw[iB (by omega)];have:=of_decide_eq_true h;omega⟩,fun h=>decide_eq_true (by have:=h.2.2;rw[iB (by omega)]at this;omega)⟩,ay⟩
               ·
                refine o.aQ 7 ?_;refine aP.sub (Z false _ ?_) ⟨rfl,(aD (by omega)),rfl,trivial⟩;exact⟨⟨fun h=>(by cases h),fun h=>by have az:=h.1;have U:=h.2.1;rw[ex]at az;omega⟩,ay⟩
              ·
               refine o.aQ 11 ?_;refine aP.sub (Z false _ ?_) ⟨rfl,(aD (by omega)),rfl,trivial⟩;exact⟨⟨fun h=>(by cases h),fun h=>by have az:=h.1;have U:=h.2.1;rw[ex]at az;omega⟩,ay⟩
             ·
              intro S bF bh;obtain⟨aS,ae⟩:=bh;replace k:=k.L ae;replace n:=n.L ae;have bN:=ae.size;refine cK (fun a9=>?_) (fun a9=>?_)
              ·
               refine G.L (fun bc=>?_);refine o.ak ?_;refine bc ?_;refine G.ret (E (am (au (t (B (A (q ?_)))))));exact⟨by rw[pc x (fun h=>h.2.2.2.2 (aS.1 a9))],k⟩
              ·
               refine G.skip (a2 (a0 (bb (G.region ?_))));refine o.V ?_;refine o.v1 bD ?_;refine o.ak ?_;refine aP.sub (bq (i+1) _ ?_ ?_) ⟨rfl,(aD (by omega)),trivial⟩
               ·exact⟨(by omega),(fun j h=>by rcases Nat.lt_or_ge j i with U|U;exact aX j U;obtain rfl:j=i:=(by omega);exact Fx (by rw[ex];simpa using F) aH aT aA aE aF aS L M O a9),n⟩
               ·first|omega|(simp only;omega)|(simp;omega)
   ·
    refine G.exit (a_ (t (aB ?_)));refine bi (G.L (fun bl=>?_));refine o.ak ?_;refine bl ?_;refine G.ret (q ?_);exact⟨by rw[F3 (by omega) (by omega) (fun j bS=>aX j (by omega))],k⟩
theorem Dq(s:List UInt8)(v:Value)(l:List (List UInt8))(bk:Int)(w0:World)(I:Heap)
 (aL:dY bk I) (aX:bh (fun b=>b=0) I.size) (k:bx I gg 1 v l) (al:s.length≤140737488355328) (aY:∀x∈l,x.length≤140737488355328):
 aC Tryz.prog w0 132 #[aI s,v] I (fun r R=>r= .int .i64 (iH s l)∧aj I R):=by
 refine aC.aK [aI s,v] Tryz.func132 ?_;intro a1 t;have i:aj I I:=W.refl _ _;replace k:=k.bw;have bg:=k.len;refine G.L (fun Z=>?_);refine o.ak ?_;refine Z (G.t2 (fun aa ab=>G.L (fun ae=>?_)));refine o.V ?_;refine aW p0 (p4 s bk w0 _ aL aX (by omega)) ?_;rintro v9 aZ ⟨rfl,F⟩;replace k:=k.M F;replace i:=i.L F;have ba:=F.size;refine o.ak ?_;refine ae (G.L (fun af=>?_));refine o.V ?_;refine o.v1 cU (o.nil (af ?_));refine aU (fun ag=>?_) (fun ag=>?_)
 ·
  refine G.L (fun ah=>?_);refine o.aQ 2 ?_;refine ah ?_;refine G.ret (ab (t ?_));exact⟨by have av:c6 s≠0:=(by omega);have q:base s l=c6 s:=(by rw[base,if_pos av]);rw[iH,q,if_pos av],i⟩
 ·
  refine G.skip (aa (G.t2 (fun ai ak=>G.L (fun aq=>?_))));refine o.ax 2 ?_;refine aW BA (CD _ s l w0 _ k.any) (fun bc ay az=>?_);obtain⟨rfl,B⟩:=az;replace k:=k.M B;replace i:=i.L B;have a0:=B.size;refine o.nil (aq ?_);refine aU (fun A=>?_) (fun A=>?_)
  ·
   refine G.L (fun aA=>?_);refine o.ak ?_;refine aA ?_;refine G.ret (ak (t ?_));exact⟨by have q:base s l=8:=(by rw[base,if_neg (by omega),if_pos A]);rw[iH,q,if_pos (by decide)],i⟩
  ·
   refine G.skip (ai (G.t2 (fun aB M=>G.L (fun ap=>?_))));refine o.V ?_;refine o.v1 (bb k jE) ?_;refine o.V (o.nil (ap ?_));refine G.aB (fun _ aK N=>?_)
   refine G.bg (fun(j:(Nat))=>[(0,aI s),(16,v),(17,.int .i64 l.length),(18,.int .i64 j)])
    (fun(j:(Nat)) (H:Heap)=>(j≤l.length)∧((l.take j).any (i_ s)=false)∧aj ay H)
    (fun(j:(Nat))=>l.length-j) 0 ⟨rfl,rfl,rfl,rfl,trivial⟩ ?_ ?_
   ·
    exact⟨(by omega),rfl,W.refl _ _⟩
   intro j b2 aE a2 aM ac;obtain⟨bf,K,n⟩:=aE;replace k:=k.M n;replace i:=i.L n;have a3:=n.size;refine G.L (fun aN=>?_);refine o.v1 bJ (o.nil (aN ?_));refine G.t2 (fun aO aQ=>?_);refine aU (fun aF=>?_) (fun aF=>?_)
   ·
    refine G.skip (aO (G.t2 (fun aR O=>G.aB (fun aS _ P=>G.L (fun aT=>?_)))));have L:j<l.length:=by omega
    have bj:=aY l[j] (List.getElem_mem L);have q:base s l=0:=by rw[base,if_neg (by omega),if_neg A]
    refine o.bR (Y.bL k (j) rfl jE bP rfl rfl) fun a_ S=>?_;refine o.v1 (ar S.N bN) ?_;refine o.ak ?_;refine aT (G.L (fun Q=>?_));refine o.ax 2 ?_;refine o.v1 (Y.q2 rfl rfl rfl (by simp;omega)) ?_;refine aW vn (wU l[j] (s++[47]) w0 _) (fun a4 a5 aH=>?_);obtain⟨rfl,C⟩:=aH;replace i:=i.L C;replace n:=n.L C;have a6:=C.size;refine o.V ?_;refine o.split (d:=26) rfl (fun au=>?_) (fun au=>?_)
    ·
     refine o.ax 5 ?_;refine o.nil (Q ?_);refine G.iz rfl ?_;refine G.L (fun T=>?_);refine o.ak ?_;refine T ?_;refine G.ret (P (O (ac (N (M (t ?_))))));exact⟨by rw[iH,q,if_neg (by decide),if_pos (mE L (by unfold i_;first|(rw[au];rfl)|(rw[am,Bool.or_true])))],i⟩
    ·
     refine o.ax 2 ?_;refine o.ao (Y.q2 rfl rfl rfl (by simp;omega)) ?_;refine o.call rfl vn rfl bd rfl rfl (wU s (l[j]++[47]) w0 _) (fun a7 a8 aJ=>?_);obtain⟨rfl,E⟩:=aJ;replace i:=i.L E;replace n:=n.L E;have a9:=E.size;refine o.dF ?_;refine o.nil (Q ?_);refine cK (fun am=>?_) (fun am=>?_)
     ·
      refine G.L (fun V=>?_);refine o.ak ?_;refine V ?_;refine G.ret (P (O (ac (N (M (t ?_))))));exact⟨by rw[iH,q,if_neg (by decide),if_pos (mE L (by unfold i_;first|(rw[au];rfl)|(rw[am,Bool.or_true])))],i⟩
     ·
      refine G.skip (aS (aR (G.region ?_)));refine o.v1 bD ?_;refine o.V (o.nil ?_);refine aP.sub (aM (j+1) _ ?_ ?_) ⟨rfl,rfl,(aD (by omega)),(aD (by omega)),trivial⟩
      ·exact⟨(by omega),ow K (by omega) (by unfold i_;rw[Bool.or_eq_false_iff];exact⟨au,am⟩),n⟩
      ·first|omega|(simp only;omega)|(simp;omega)
   ·
    refine G.exit (aQ (ac (aK ?_)));refine aB (G.L (fun X=>?_));refine o.ak ?_;refine X ?_;refine G.ret (t ?_);exact⟨by have q:base s l=0:=(by rw[base,if_neg (by omega),if_neg A]);rw[List.take_of_length_le (by omega)]at K;rw[iH,q,if_neg (by decide),if_neg (by rw[K];decide)],i⟩
theorem Gu(s:List UInt8)(v:Value)(l:List (List UInt8))(w0:World)(I:Heap)
 (n:bx I gg 1 v l) (al:s.length≤140737488355328) (bt:∀x∈l,x.length≤140737488355328):
 aC Tryz.prog w0 116 #[aI s,v] I (fun r aE=>r= .int .i64 (iH s l)∧aj I aE):=by
 refine aC.aK [aI s,v] Tryz.func116 ?_;intro bf ba;have A:aj I I:=W.refl _ _;replace n:=n.bw;have bs:=n.len;refine G.L (fun aQ=>?_);refine o.ak ?_;refine aQ (G.L (fun aR=>?_));refine o.V ?_;refine aW pZ (qV s w0 _ (by omega)) ?_;rintro v9 C ⟨rfl,T⟩;replace n:=n.M T;replace A:=A.L T;have bg:=T.size;refine o.ak ?_;refine aR ?_
 refine G.cut (fun(e:(Int))=>[(0,aI s),(1,v),(5,.int .i64 e)])
  (fun(e:(Int)) (H:Heap)=>(e=base s l)∧aj C H) (fun _ Z _=>?_) ?_
 ·
  have F:aj C C:=W.refl _ _;refine G.L (fun aS=>?_);refine o.ak ?_;refine aS (G.aB (fun _ aa _=>?_))
  refine G.bg (fun(X:(Nat)×(Int))=>match X with|(i,e)=>[(0,aI s),(1,v),(5,.int .i64 e),(6,.int .i64 i)])
   (fun(i,e) (H:Heap)=>(i≤l.length)∧((e=0∧c6 s=0∧s∉l.take i)∨(e=8∧c6 s=0∧s∈l)∨(e=c6 s∧c6 s≠0))∧aj C H)
   (fun(i,e)=>l.length-i) (0,c6 s) ⟨rfl,rfl,rfl,rfl,trivial⟩ ?_ ?_
  ·
   exact⟨(by omega),(by by_cases h:c6 s=0;exact .inl ⟨h,h,fun h=>by simp at h⟩;exact .inr (.inr ⟨rfl,h⟩)),W.refl _ _⟩
  rintro⟨i,e⟩ bh aT bc ab ae;obtain⟨a_,L,B⟩:=aT;replace n:=n.M B;replace F:=F.L B;have a9:=B.size;refine G.t2 (fun aX af=>G.L (fun ag=>?_));refine o.ax 2 ?_;refine o.v1 (bb n jE) ?_;refine o.v1 bJ ?_;refine o.V ?_;refine o.bj (d:=14) rfl (fun aY=>?_) (fun aY=>?_)
  ·
   refine o.bU ?_;refine o.ao b9 ?_;refine o.N ?_;refine o.nil (ag ?_);refine aU (fun aZ=>?_) (fun aZ=>?_)
   ·
    refine G.skip (aX (G.t1 (fun ah=>G.aB (fun ap _ _=>G.L (fun aH=>?_)))));refine o.ax 2 ?_;refine o.bR (Y.bL n (i) rfl jE bP rfl rfl) fun bk aJ=>?_;refine o.v1 (ar aJ.N bN) ?_;refine o.V ?_;refine o.v1 (Y.jz rfl rfl rfl) (o.nil (aH ?_));refine aU (fun N=>?_) (fun N=>?_)
    ·
     refine G.region ?_;refine o.ak ?_;refine ap (ah (G.region ?_));refine o.V ?_;refine o.v1 bD ?_;refine o.ak ?_;refine aP.sub (ab (i+1,8) _ ?_ ?_) ⟨rfl,rfl,(aD (by omega)),(aD (by omega)),trivial⟩
     ·exact⟨(by omega),(.inr (.inl ⟨rfl,by omega,by rw[←N];exact List.getElem_mem _⟩)),B⟩
     ·first|omega|(simp only;omega)|(simp;omega)
    ·
     refine G.skip (ap (ah (G.region ?_)));refine o.V ?_;refine o.v1 bD ?_;refine o.ak ?_;refine aP.sub (ab (i+1,e) _ ?_ ?_) ⟨rfl,rfl,(aD (by omega)),(aD (by omega)),trivial⟩
     ·exact⟨(by omega),(.inl ⟨by omega,by omega,by rcases L with⟨j,U,k⟩|⟨j,U,k⟩|⟨j,U⟩;exact xq k (by omega) (fun e=>N e.symm);omega;omega⟩),B⟩
     ·first|omega|(simp only;omega)|(simp;omega)
   ·
    refine G.exit (af (ae (aa ?_)));refine aP.sub (Z e _ ?_) ⟨rfl,rfl,(aD (by omega)),trivial⟩;exact⟨(by unfold base;rcases L with⟨j,U,k⟩|⟨j,U,k⟩|⟨j,U⟩;omega;rw[if_neg (by omega),if_pos k];exact j;rw[if_pos U];exact j),F⟩
  ·
   refine o.ax 3 ?_;refine o.nil (ag ?_);refine dw ?_;refine G.exit (af (ae (aa ?_)));refine aP.sub (Z e _ ?_) ⟨rfl,rfl,(aD (by omega)),trivial⟩;exact⟨(by unfold base;rw[List.take_of_length_le (by omega)]at L;rcases L with⟨j,U,k⟩|⟨j,U,k⟩|⟨j,U⟩;rw[if_neg (by omega),if_neg k];exact j;rw[if_neg (by omega),if_pos k];exact j;rw[if_pos U];exact j),F⟩
 ·
  intro e ac a6;obtain⟨he,Q⟩:=a6;replace n:=n.M Q;replace A:=A.L Q;have bl:=Q.size
  refine G.cut (fun(K:(Int))=>[(5,.int .i64 K)])
   (fun(K:(Int)) (H:Heap)=>(K=iH s l)∧aj ac H) (fun _ ai _=>?_) ?_
  ·
   have E:aj ac ac:=W.refl _ _;refine G.L (fun aK=>?_);refine o.ak ?_;refine aK (G.aB (fun _ ak _=>?_))
   refine G.bg (fun(X:(Nat)×(Int))=>match X with|(i,t)=>[(0,aI s),(1,v),(5,.int .i64 t),(7,.int .i64 i)])
    (fun(i,t) (H:Heap)=>(i≤l.length)∧((t=0∧base s l=0∧(l.take i).any (i_ s)=false)∨(t=13∧base s l=0∧l.any (i_ s)=true)∨(t=base s l∧base s l≠0))∧aj ac H)
    (fun(i,t)=>l.length-i) (0,e) ⟨rfl,rfl,rfl,rfl,trivial⟩ ?_ ?_
   ·
    exact⟨(by omega),(by by_cases h:base s l=0;exact .inl ⟨by omega,h,rfl⟩;exact .inr (.inr ⟨he,h⟩)),W.refl _ _⟩
   rintro⟨i,t⟩ bm a0 bn R aq;obtain⟨a_,M,q⟩:=a0;replace n:=n.M q;replace E:=E.L q;have bo:=q.size;refine G.t2 (fun aL ay=>G.L (fun az=>?_));refine o.ax 2 ?_;refine o.v1 (bb n jE) ?_;refine o.v1 bJ ?_;refine o.V ?_;refine o.bj (d:=30) rfl (fun b2=>?_) (fun b2=>?_)
   ·
    refine o.bU ?_;refine o.ao b9 ?_;refine o.N ?_;refine o.nil (az ?_);refine aU (fun a2=>?_) (fun a2=>?_)
    ·
     refine G.skip (aL (G.t1 (fun S=>G.aB (fun au _ _=>G.L (fun aA=>?_)))));refine o.ax 3 ?_;have V:i<l.length:=by omega
     refine o.bR (Y.bL n (i) rfl jE bP rfl rfl) fun a3 aM=>?_;refine o.v1 (ar aM.N bN) ?_;refine aW vl (uQ s l[i] w0 _) (fun bT be a4=>?_);obtain⟨rfl,am⟩:=a4;replace n:=n.M am;replace q:=q.L am;have bY:=am.size;refine o.V ?_;refine o.split (d:=42) rfl (fun O=>?_) (fun O=>?_)
     ·
      refine o.ax 7 ?_;refine o.nil (aA ?_);refine G.iz rfl ?_;refine G.region ?_;refine o.ak ?_;refine au (S (G.region ?_));refine o.V ?_;refine o.v1 bD ?_;refine o.ak ?_;refine aP.sub (R (i+1,13) _ ?_ ?_) ⟨rfl,rfl,(aD (by omega)),(aD (by omega)),trivial⟩
      ·exact⟨(by omega),(.inr (.inl ⟨rfl,by omega,mE V (by unfold i_;rw[O,Bool.or_true])⟩)),q⟩
      ·first|omega|(simp only;omega)|(simp;omega)
     ·
      refine o.ax 2 ?_;refine o.e (g:=fun ad=> .pointer (some ad)) (Y.bL n (i) rfl jE bP rfl rfl) bd rfl rfl (fun a5 aN=>?_);refine o.ao (ar aN.N bN) ?_;refine o.bU ?_;refine o.call rfl vl rfl bd rfl rfl (uQ l[i] s w0 _) (fun bp bq aF=>?_);obtain⟨rfl,aB⟩:=aF;replace q:=q.L aB;have bi:=aB.size;refine o.dF ?_;refine o.nil (aA ?_);refine cK (fun P=>?_) (fun P=>?_)
      ·
       refine G.region ?_;refine o.ak ?_;refine au (S (G.region ?_));refine o.V ?_;refine o.v1 bD ?_;refine o.ak ?_;refine aP.sub (R (i+1,13) _ ?_ ?_) ⟨rfl,rfl,(aD (by omega)),(aD (by omega)),trivial⟩
       ·exact⟨(by omega),(.inr (.inl ⟨rfl,by omega,mE V (by unfold i_;rw[P];rfl)⟩)),q⟩
       ·first|omega|(simp only;omega)|(simp;omega)
      ·
       refine G.skip (au (S (G.region ?_)));refine o.V ?_;refine o.v1 bD ?_;refine o.ak ?_;refine aP.sub (R (i+1,t) _ ?_ ?_) ⟨rfl,rfl,(aD (by omega)),(aD (by omega)),trivial⟩
       ·exact⟨(by omega),(.inl ⟨by omega,by omega,by rcases M with⟨j,U,k⟩|⟨j,U,k⟩|⟨j,U⟩;exact ow k V (by unfold i_;rw[O,P];rfl);omega;omega⟩),q⟩
       ·first|omega|(simp only;omega)|(simp;omega)
    ·
     refine G.exit (ay (aq (ak ?_)));refine aP.sub (ai t _ ?_) ⟨(aD (by omega)),trivial⟩;exact⟨(by unfold iH;rcases M with⟨j,U,k⟩|⟨j,U,k⟩|⟨j,U⟩;omega;rw[if_neg (by omega),if_pos k];exact j;rw[if_pos U];exact j),E⟩
   ·
    refine o.ax 3 ?_;refine o.nil (az ?_);refine dw ?_;refine G.exit (ay (aq (ak ?_)));refine aP.sub (ai t _ ?_) ⟨(aD (by omega)),trivial⟩;exact⟨(by unfold iH;rw[List.take_of_length_le (by omega)]at M;rcases M with⟨j,U,k⟩|⟨j,U,k⟩|⟨j,U⟩;rw[if_neg (by omega),if_neg (by rw[k];decide)];exact j;rw[if_neg (by omega),if_pos k];exact j;rw[if_pos U];exact j),E⟩
  ·
   intro K bj a7;obtain⟨a8,a1⟩:=a7;replace A:=A.L a1;refine G.L (fun aO=>?_);refine o.aQ 2 ?_;refine aO ?_;refine G.ret (ba ?_);exact⟨by rw[a8],A⟩
end e7

namespace ev
open E Go.RowKit eM eP e1 e7
theorem l1:∀{k:List UInt8},k.length=32→∃d i E Q T V W X Y Z j n o q r t x A B C F G H I K L M N O P R S:UInt8,k=[d,i,E,Q,T,V,W,X,Y,Z,j,n,o,q,r,t,x,A,B,C,F,G,H,I,K,L,M,N,O,P,R,S]:=by
 intro k h
 match k,h with
 |[d,i,E,Q,T,V,W,X,Y,Z,j,n,o,q,r,t,x,A,B,C,F,G,H,I,K,L,M,N,O,P,R,S],_=>exact⟨d,i,E,Q,T,V,W,X,Y,Z,j,n,o,q,r,t,x,A,B,C,F,G,H,I,K,L,M,N,O,P,R,S,rfl⟩
theorem w4:nf Tryz.prog 26 bq:=D0 Tryz.underlying26 Tryz.underlying5 cN dS
theorem c9{a b:List Value}(h:a.length=b.length):ed a 0 b=b:=by simp[ed,h]
abbrev cM:aN:=⟨none,0,0⟩
structure fE where
 d:Int
 i:cY
def c2(x:fE):List Value:= .int .i64 x.d::b7 x.i
structure cZ where
 k:Int
 br:List UInt8
 bX:cY
 bm:cY
 cd:aN
 a6:List fE
 dn:Int
 md:Int
 st:Bool
def dX(x:cZ):List Value:= .int .i64 x.k::aI x.br::(b7 x.bX++(b7 x.bm++[x.cd.v,.int .i64 x.dn,.int .i64 x.md,.bool x.st]))
structure bF where
 n:List UInt8
 J:cY
 w:cY
 y:List UInt8
def du(x:bF):List Value:=aI x.n::(b7 x.J++(b7 x.w++[aI x.y]))
structure bA where
 k:cY
 v:aN
 d:List UInt8
def bO(x:bA):List Value:=b7 x.k++[x.v.v]
structure cA where
 n:List UInt8
 i:cY
def dB(x:cA):List Value:=aI x.n::b7 x.i
structure cE where
 J:cY
 w:cY
 y:List UInt8
def dt(x:cE):List Value:=b7 x.J++(b7 x.w++[aI x.y])
structure e8 where
 n:List UInt8
 v:aN
 l:List cE
def ek(x:e8):List Value:=[aI x.n,x.v.v]
structure b1 where
 bE:Bool
 an:List UInt8
 ei:aN
 ml:List bF
 al:Bool
 q:cZ
 ct:aN
 el:List bA
def c_(x:b1):List Value:= .bool x.bE::aI x.an::x.ei.v:: .bool x.al::(dX x.q++[x.ct.v])
structure cW where
 an:List UInt8
 en:aN
 ba:List cA
 cw:aN
 bW:List e8
 q:cZ
 ct:aN
 el:List bA
def bS(x:cW):List Value:=aI x.an::x.en.v::x.cw.v::(dX x.q++[x.ct.v])
theorem hX(x:fE):(c2 x).length=33:=by simp[c2,bB]
theorem ee(x:cZ):(dX x).length=70:=by simp[dX,bB]
theorem e4(x:bF):(du x).length=66:=by simp[du,bB]
theorem c0(x:bA):(bO x).length=33:=by simp[bO,bB]
theorem hW(x:cA):(dB x).length=33:=by simp[dB,bB]
theorem kN(x:cE):(dt x).length=65:=by simp[dt,bB]
theorem fL(x:e8):(ek x).length=2:=rfl
theorem dg(x:b1):(c_ x).length=75:=by simp[c_,ee]
theorem b4(x:cW):(bS x).length=74:=by simp[bS,ee]
abbrev hT(l:List Value):Prop:=∀u∈l,u.oneCell'=true
theorem hT.nil:hT []:=fun u h=>by cases h
theorem hT.cons{v:Value}{l:List Value}(h:v.oneCell'=true)(U:hT l):hT (v::l):=fun u hu=>by
 rcases List.mem_cons.1 hu with rfl|hu
 ·exact h
 ·exact U u hu
theorem hT.app{a b:List Value}(h:hT a)(U:hT b):hT (a++b):=fun u hu=>(List.mem_append.1 hu).elim (h u) (U u)
theorem mN(x:fE):hT (c2 x):= .cons rfl (jS _)
theorem ko(x:cZ):hT (dX x):= .cons rfl (.cons rfl (.app (jS _) (.app (jS _) (.cons rfl (.cons rfl (.cons rfl (.cons rfl .nil)))))))
theorem kO(x:bF):hT (du x):= .cons rfl (.app (jS _) (.app (jS _) (.cons rfl .nil)))
theorem gX(x:bA):hT (bO x):= .app (jS _) (.cons rfl .nil)
theorem lo(x:cA):hT (dB x):= .cons rfl (jS _)
theorem nA(x:cE):hT (dt x):= .app (jS _) (.app (jS _) (.cons rfl .nil))
theorem ju(x:e8):hT (ek x):= .cons rfl (.cons rfl .nil)
theorem lW(x:b1):hT (c_ x):= .cons rfl (.cons rfl (.cons rfl (.cons rfl (.app (ko _) (.cons rfl .nil)))))
theorem jT(x:cW):hT (bS x):= .cons rfl (.cons rfl (.cons rfl (.app (ko _) (.cons rfl .nil))))
abbrev er(x:cZ):Value:= .agg (dX x).toArray
abbrev j1(x:bF):Value:= .agg (du x).toArray
abbrev gZ(x:bA):Value:= .agg (bO x).toArray
abbrev dG(x:b1):Value:= .agg (c_ x).toArray
abbrev eg(x:cW):Value:= .agg (bS x).toArray
theorem lr{a b:List Value}{n:Nat}(h:a.length=n):(a++b).take n=a:=List.take_left' h
theorem ll{a b:List Value}{n:Nat}(h:a.length=n):(a++b).drop n=b:=List.drop_left' h
def jb(x:cZ):List Value:=[x.cd.v,.int .i64 x.dn,.int .i64 x.md,.bool x.st]
theorem hC(x:cZ):((dX x).drop 2).take 32=b7 x.bX:=lr (bB _)
theorem wz(x:cZ):(dX x).drop 34=b7 x.bm++jb x:=by
 rw[show(34:Nat)=2+32 from rfl,←List.drop_drop];exact ll (bB _)
theorem hB(x:cZ):((dX x).drop 34).take 32=b7 x.bm:=by rw[wz];exact lr (bB _)
theorem wA(x:cZ):(dX x).drop 66=jb x:=by
 rw[show(66:Nat)=34+32 from rfl,←List.drop_drop,wz];exact ll (bB _)
theorem gY(x:bF):((du x).drop 1).take 32=b7 x.J:=lr (bB _)
theorem sm(x:bF):(du x).drop 33=b7 x.w++[aI x.y]:=by
 rw[show(33:Nat)=1+32 from rfl,←List.drop_drop];exact ll (bB _)
theorem e5(x:bF):((du x).drop 33).take 32=b7 x.w:=by rw[sm];exact lr (bB _)
theorem Dg(x:bF):(du x).drop 65=[aI x.y]:=by
 rw[show(65:Nat)=33+32 from rfl,←List.drop_drop,sm];exact ll (bB _)
theorem eN(x:bA):((bO x).drop 0).take 32=b7 x.k:=lr (bB _)
theorem Df(x:bA):(bO x).drop 32=[x.v.v]:=ll (bB _)
theorem Dd(x:cE):((dt x).drop 0).take 32=b7 x.J:=lr (bB _)
theorem wv(x:cE):(dt x).drop 32=b7 x.w++[aI x.y]:=ll (bB _)
theorem De(x:cE):((dt x).drop 32).take 32=b7 x.w:=by rw[wv];exact lr (bB _)
theorem wx(x:cE):(dt x).drop 64=[aI x.y]:=by
 rw[show(64:Nat)=32+32 from rfl,←List.drop_drop,wv];exact ll (bB _)
theorem kP(x:fE):((c2 x).drop 1).take 32=b7 x.i:=List.take_of_length_le (by rw[show(c2 x).drop 1=b7 x.i from rfl,bB];exact Nat.le_refl _)
theorem qe(x:cA):((dB x).drop 1).take 32=b7 x.i:=List.take_of_length_le (by rw[show(dB x).drop 1=b7 x.i from rfl,bB];exact Nat.le_refl _)
theorem jc(x:b1):((c_ x).drop 4).take 70=dX x.q:=lr (ee _)
theorem Dh(x:b1):(c_ x).drop 74=[x.ct.v]:=by
 rw[show(74:Nat)=4+70 from rfl,←List.drop_drop];exact ll (ee _)
theorem jU(x:cW):((bS x).drop 3).take 70=dX x.q:=lr (ee _)
theorem wB(x:cW):(bS x).drop 73=[x.ct.v]:=by
 rw[show(73:Nat)=3+70 from rfl,←List.drop_drop];exact ll (ee _)
section
variable {H : Heap} {ad : Addr}
theorem _root_.Go.Proofs.YtfjmpninmdjcaaaGreatDoor.E.cg.fO{x:cZ}(h:cg H ad (dX x)):cg H (ad.add 66) (jb x):=by have:=h.drop 66;rwa[wA]at this
theorem _root_.Go.Proofs.YtfjmpninmdjcaaaGreatDoor.E.cg.iu{x:cZ}(h:cg H ad (dX x)):cg H (ad.add 67) [.int .i64 x.dn,.int .i64 x.md,.bool x.st]:=by
 have:=h.fO.drop 1;rwa[show(ad.add 66).add 1=ad.add 67 from by cases ad;rfl]at this
theorem _root_.Go.Proofs.YtfjmpninmdjcaaaGreatDoor.E.cg.jB{x:cZ}(h:cg H ad (dX x)):cg H (ad.add 68) [.int .i64 x.md,.bool x.st]:=by
 have:=h.fO.drop 2;rwa[show(ad.add 66).add 2=ad.add 68 from by cases ad;rfl]at this
theorem _root_.Go.Proofs.YtfjmpninmdjcaaaGreatDoor.E.cg.k4{x:cZ}(h:cg H ad (dX x)):cg H (ad.add 69) [.bool x.st]:=by
 have:=h.fO.drop 3;rwa[show(ad.add 66).add 3=ad.add 69 from by cases ad;rfl]at this
theorem _root_.Go.Proofs.YtfjmpninmdjcaaaGreatDoor.E.cg.mV{x:bF}(h:cg H ad (du x)):cg H (ad.add 65) [aI x.y]:=by have:=h.drop 65;rwa[Dg]at this
theorem _root_.Go.Proofs.YtfjmpninmdjcaaaGreatDoor.E.cg.ji{x:bA}(h:cg H ad (bO x)):cg H (ad.add 32) [x.v.v]:=by have:=h.drop 32;rwa[Df]at this
theorem _root_.Go.Proofs.YtfjmpninmdjcaaaGreatDoor.E.cg.En{x:cE}(h:cg H ad (dt x)):cg H (ad.add 64) [aI x.y]:=by have:=h.drop 64;rwa[wx]at this
theorem _root_.Go.Proofs.YtfjmpninmdjcaaaGreatDoor.E.cg.fX{x:b1}(h:cg H ad (c_ x)):cg H (ad.add 74) [x.ct.v]:=by have:=h.drop 74;rwa[Dh]at this
theorem _root_.Go.Proofs.YtfjmpninmdjcaaaGreatDoor.E.cg.hQ{x:cW}(h:cg H ad (bS x)):cg H (ad.add 73) [x.ct.v]:=by have:=h.drop 73;rwa[wB]at this
end
def hE:cZ:=⟨0,[],bz,bz,cM,[],0,0,false⟩
def rq:b1:=⟨false,[],cM,[],false,hE,cM,[]⟩
def la:cW:=⟨[],cM,[],cM,[],hE,cM,[]⟩
structure e2 (F:Nat→Prop) (H:Heap) (t:b1):Prop where
 m:Rd F H du 66 t.ei.v t.ml
 q:Rd F H c2 33 t.q.cd.v t.q.a6
 e:Rd F H bO 33 t.ct.v t.el
 d:∀y∈t.el,Rd F H a1 1 y.v.v y.d
structure eS (F:Nat→Prop) (H:Heap) (s:cW):Prop where
 r:Rd F H dB 33 s.en.v s.ba
 g:Rd F H ek 2 s.cw.v s.bW
 n:∀y∈s.bW,Rd F H dt 65 y.v.v y.l
 q:Rd F H c2 33 s.q.cd.v s.q.a6
 e:Rd F H bO 33 s.ct.v s.el
 d:∀y∈s.el,Rd F H a1 1 y.v.v y.d
section
variable {F aR : Nat → Prop} {H aa : Heap} {t : b1} {s : cW} {ks : List Nat} {h : Nat}
theorem e2.M(x:e2 F H t)(w:aj H aa):e2 F aa t:=⟨x.m.M w,x.q.M w,x.e.M w,fun y hy=>(x.d y hy).M w⟩
theorem e2.ab(x:e2 F H t)(w:W (aE ks) H aa)(d:az F ks):e2 F aa t:=⟨x.m.ab w d,x.q.ab w d,x.e.ab w d,fun y hy=>(x.d y hy).ab w d⟩
theorem e2.imp(x:e2 F H t)(d:∀b,b<H.size→F b→aR b):e2 aR H t:=⟨x.m.imp d,x.q.imp d,x.e.imp d,fun y hy=>(x.d y hy).imp d⟩
theorem e2.bw(x:e2 F H t):e2 (fun b=>F b∧b<H.size) H t:=x.imp (fun b aw h=>⟨h,aw⟩)
theorem e2.bY(x:e2 (fun b=>aR b∧b<h) H t):bh (fun b=>aR b∧b<h) h:=fun b e=>e.2
theorem eS.M(x:eS F H s)(w:aj H aa):eS F aa s:=⟨x.r.M w,x.g.M w,fun y hy=>(x.n y hy).M w,x.q.M w,x.e.M w,fun y hy=>(x.d y hy).M w⟩
theorem eS.ab(x:eS F H s)(w:W (aE ks) H aa)(d:az F ks):eS F aa s:=⟨x.r.ab w d,x.g.ab w d,fun y hy=>(x.n y hy).ab w d,x.q.ab w d,x.e.ab w d,fun y hy=>(x.d y hy).ab w d⟩
theorem eS.imp(x:eS F H s)(d:∀b,b<H.size→F b→aR b):eS aR H s:=⟨x.r.imp d,x.g.imp d,fun y hy=>(x.n y hy).imp d,x.q.imp d,x.e.imp d,fun y hy=>(x.d y hy).imp d⟩
theorem eS.bw(x:eS F H s):eS (fun b=>F b∧b<H.size) H s:=x.imp (fun b aw h=>⟨h,aw⟩)
theorem eS.bY(x:eS (fun b=>aR b∧b<h) H s):bh (fun b=>aR b∧b<h) h:=fun b e=>e.2
end
def dm(b:Bool)(e:Int):Int:=if b=true then 0 else e
def hY:List Int→Int
 |[]=>0
 |e::l=>if e≠0 then e else hY l
theorem Dm{l:List Int}{j:Nat}(h:∀x∈l.take j,x=0)(i:j<l.length)(d:l[j]≠0):hY l=l[j]:=by
 induction l generalizing j with
 |nil=>simp at i
 |cons e l ih=>
  cases j with
  |zero=>simp only[List.getElem_cons_zero]at d⊢;rw[hY,if_pos d]
  |succ j=>
   have he:e=0:=h e (by simp);rw[hY,if_neg (by simpa using he)];exact ih (fun x k=>h x (by simp[k])) (by simpa using i) (by simpa using d)
theorem wG:∀{l:List Int},(∀x∈l,x=0)→hY l=0
 |[],_=>rfl
 |e::l,h=>by rw[hY,if_neg (by simpa using h e (by simp)),wG (fun x d=>h x (by simp[d]))]
theorem Ip{l:List Int}{j:Nat}(h:∀x∈l.take j,x=0)(k:j<l.length)(i:l[j]=0):∀x∈l.take (j+1),x=0:=by
 intro x d;rw[List.take_succ_eq_append_getElem k]at d;rcases List.mem_append.1 d with d|d
 ·exact h x d
 ·rw[List.mem_singleton]at d;rw[d];exact i
theorem ts(b:Bool)(e:Int)(w0:World)(I:Heap)
 :
 aC Tryz.prog w0 46 #[.bool b,.int .i64 e] I (fun r j=>r= .int .i64 (dm b e)∧aj I j):=by
 refine aC.aK [.bool b,.int .i64 e] Tryz.func46 ?_;intro A i;have d:aj I I:=W.refl _ _;refine G.L (fun k=>?_);refine o.ak ?_;refine k (G.t2 (fun n ac=>G.L (fun ad=>?_)));refine o.V (o.nil (ad ?_));refine cK (fun x=>?_) (fun x=>?_)
 ·
  refine G.L (fun q=>?_);refine o.ak ?_;refine q ?_;refine G.ret (ac (i ?_));exact⟨by first|(rw[dm,if_pos (by assumption)])|(rw[dm,if_neg (by simp_all)]),d⟩
 ·
  refine G.skip (n (G.L (fun t=>?_)));refine o.aQ 2 ?_;refine t ?_;refine G.ret (i ?_);exact⟨by first|(rw[dm,if_pos (by assumption)])|(rw[dm,if_neg (by simp_all)]),d⟩
theorem kY(v:Value)(l:List Int)(w0:World)(I:Heap)
 (d:bx I qd 1 v l):
 aC Tryz.prog w0 47 #[v] I (fun r B=>r= .int .i64 (hY l)∧aj I B):=by
 refine aC.aK [v] Tryz.func47 ?_;intro ae A;have n:aj I I:=W.refl _ _;replace d:=d.bw;have ak:=d.len;refine G.L (fun L=>?_);refine o.ak ?_;refine L (G.t2 (fun M N=>G.L (fun au=>?_)));refine o.V ?_;refine o.v1 (bb d zu) ?_;refine o.V (o.nil (au ?_));refine G.aB (fun _ am O=>?_)
 refine G.bg (fun(j:(Nat))=>[(5,v),(6,.int .i64 l.length),(7,.int .i64 j)])
  (fun(j:(Nat)) (H:Heap)=>(j≤l.length)∧(∀x∈l.take j,x=0)∧aj I H)
  (fun(j:(Nat))=>l.length-j) 0 ⟨rfl,rfl,rfl,trivial⟩ ?_ ?_
 ·
  exact⟨(by omega),(fun x h=>by simp at h),W.refl _ _⟩
 intro j af ap ab P t;obtain⟨ai,k,i⟩:=ap;replace d:=d.M i;replace n:=n.L i;have ag:=i.size;refine G.L (fun Q=>?_);refine o.v1 bJ (o.nil (Q ?_));refine G.t2 (fun R S=>?_);refine aU (fun aa=>?_) (fun aa=>?_)
 ·
  refine G.skip (R (G.t2 (fun T V=>G.aB (fun X _ Z=>G.L (fun E=>?_)))));refine o.bR (Y.bL d (j) rfl zu q0 rfl rfl) fun ah C=>?_;refine o.v1 (ar C.N pL) ?_;refine o.ak ?_;refine E (G.L (fun ac=>?_));refine o.V ?_;refine o.v1 cU (o.nil (ac ?_));refine aU (fun q=>?_) (fun q=>?_)
  ·
   refine G.L (fun F=>?_);refine o.aQ 2 ?_;refine F ?_;refine G.ret (Z (V (t (O (N (A ?_))))));exact⟨by rw[Dm k (by omega) q],n⟩
  ·
   refine G.skip (X (T (G.region ?_)));refine o.v1 bD ?_;refine o.V (o.nil ?_);refine aP.sub (P (j+1) _ ?_ ?_) ⟨rfl,(aD (by omega)),(aD (by omega)),trivial⟩
   ·exact⟨(by omega),Ip k (by omega) (by simpa using q),i⟩
   ·first|omega|(simp only;omega)|(simp;omega)
 ·
  refine G.exit (S (t (am ?_)));refine M (G.L (fun K=>?_));refine o.ak ?_;refine K ?_;refine G.ret (A ?_);exact⟨by rw[List.take_of_length_le (by omega)]at k;rw[wG k],n⟩
theorem k0(i:cY)(w0:World)(I:Heap)
 :
 aC Tryz.prog w0 55 #[bq i] I (fun r j=>r= .bool (decide (i=bz))∧aj I j):=by
 refine aC.aK [bq i] Tryz.func55 ?_;intro t q;have d:aj I I:=W.refl _ _;refine G.L (fun k=>?_);refine o.aO cq ?_;rintro v1 H1 ⟨rfl,aw,n,ad,x⟩;replace d:=d.L n;replace aw:Var 26 H1 I.size (b7 i):=aw;refine o.ak ?_;refine k (G.L (fun ac=>?_));refine o.v1 (aT aw.N b_ a_ (bB _)) ?_;refine o.v1 (Y.build (v:=bq bz) rfl rfl (by intro w;kernel_rfl)) ?_;refine o.v1 (Y.ia rfl Tryz.eqGuardType26 (fun w=>fV 9998 Tryz.underlying26 Tryz.underlying5 cN dS (i.2) (bz.2) w) rfl rfl) ?_;refine o.ak ?_;refine ac ?_;refine G.ret (q ?_);exact⟨c1 ⟨fun h=>Subtype.ext h,fun h=>by rw[h]⟩,d⟩
end ev

namespace E
section
variable {F : Nat → Prop} {a k a8 h U m : Nat} {K It bp od ks : List Nat}
def ez(K ks:List Nat):Prop:=∀k∈K,ah k ks
def aZ(K:List Nat)(h:Nat)(bp:List Nat):Prop:=∀k∈bp,k=0∨k∈K∨h<k
def oa(K:List Nat)(h:Nat):Prop:=∀k∈K,k≤h
theorem ah.kb:ah 0 K:=fun k _=>af.z2
theorem ah.app(d:ah a K)(e:ah a ks):ah a (K++ks):=fun k i=>(List.mem_append.1 i).elim (d k) (e k)
theorem az.app(d:az F K)(e:az F ks):az F (K++ks):=fun k i=>(List.mem_append.1 i).elim (d k) (e k)
theorem ez.nil:ez K []:=fun k _=>ah.nil
theorem ez.cons(d:ah m K)(e:ez K ks):ez K (m::ks):=fun k i=>ah.cons (d k i).symm (e k i)
theorem ag.app{iK:List Nat}(d:ag ks h K)(e:ag ks h iK):ag ks h (K++iK):=fun k i=>(List.mem_append.1 i).elim (d k) (e k)
theorem ah.ho(b:oa K h):ah (h+1) K:=fun k d=>(af.new (b k d)).symm
theorem ah.hk(d:ah a K)(n:a≤h)(x:aZ K h bp):ah a bp:=fun k i=>by
 rcases x k i with e|e|e
 ·subst e;exact af.z
 ·exact d k e
 ·intro c j U;omega
theorem az.hk(d:az F K)(aw:bh F h)(x:aZ K h bp):az F bp:=fun k j b i he=>by
 have:=aw b i;rcases x k j with e|e|e
 ·omega
 ·exact d k e b i he
 ·omega
theorem ah.oy(d:ah k K)(b:oa K h)(x:T k h a8):ah a8 K:=fun j i=>by
 rcases x with e|e|e
 ·subst e;exact af.z2
 ·subst e;exact d j i
 ·have:=b j i;intro c n U;omega
theorem aZ.refl(K:List Nat)(h:Nat):aZ K h K:=fun k d=> .inr (.inl d)
theorem aZ.L(x:aZ K h bp)(y:aZ bp U od)(bE:h≤U):aZ K h od:=fun k d=>by
 rcases y k d with e|e|e
 ·exact .inl e
 ·exact x k e
 ·exact .inr (.inr (by omega))
theorem aZ.cons(d:T 0 h a)(x:aZ K h bp):aZ K h (a::bp):=fun k i=>by
 rcases List.mem_cons.1 i with e|e
 ·subst e;unfold T at d;omega
 ·exact x k e
def gM(K:List Nat)(k:Nat):Prop:=∀c,c+1=k→c+1∈K
theorem gM.of(h:k∈K):gM K k:=fun c e=>by rw[e];exact h
theorem gM.or(h:gM K k):k=0∨k∈K:=by
 cases k with
 |zero=>exact .inl rfl
 |succ c=>exact .inr (h c rfl)
theorem ah.at(d:ah a K)(m:gM K k):af a k:=by
 rcases m.or with e|e
 ·subst e;exact af.z
 ·exact d k e
theorem az.at(d:az F K)(m:gM K k):ay F k:=by
 rcases m.or with e|e
 ·subst e;exact ay.z
 ·exact d k e
theorem ag.at(d:ag ks h K)(m:gM K k):aq ks h k:=by
 rcases m.or with e|e
 ·subst e;exact aq.z
 ·exact d k e
theorem aZ.app{kR:Nat}(x:aZ K h bp)(hm:gM bp kR)(y:T kR U a)(bE:h≤U):aZ K h (a::bp):=fun k i=>by
 rcases List.mem_cons.1 i with e|e
 ·subst e
  rcases y with y|y|y
  ·exact .inl y
  ·rcases hm.or with d|d
   ·exact .inl (y.trans d)
   ·rw[y];exact x kR d
  ·exact .inr (.inr (by omega))
 ·exact x k e
theorem ah.qO(b:oa K h)(x:T 0 h a):ah a K:=fun k d=>by
 have:=b k d;intro c i U;unfold T at x;omega
theorem ag.cH(x:aZ K h bp)(i:∀k∈K,k∈ks):ag ks h bp:=fun k j b aw e=>by
 rcases x k j with d|d|d
 ·omega
 ·unfold aE;rw[e];exact i k d
 ·omega
theorem ag.ta(x:aZ [] h bp):ag ks h bp:=fun k i b aw e=>by
 rcases x k i with d|d|d
 ·omega
 ·cases d
 ·omega
theorem az.iy{n:Nat}(i:∀b,F b→n≤b)(j:oa K n):az F K:=fun k o b d e=>by have:=i b d;have:=j k o;omega
end
section
open Go.MapKept
variable {P : Program} {w0 : World} {n : Nat} {l : bZ} {H : Heap} {J : Oper} {κ β : Type} [DecidableEq κ] {a7 : κ → Value} {fv : β → Value} {b : Nat} {m : List (κ × β)} {d : TypeDesc}
theorem Z.p9{t u e6 T:TypeId}{x i:Operand}{k:κ}(h:df H a7 fv b m)(B:ld d a7)(Q:J.op= .call {callee:= .builtin .delete,args:= #[x,i],argTypes:= #[t,u]})(hm:∀w,(underlying t).run P w= .ok (.map e6 T) w)(C:P.underlying e6=some d)
 (R:aF l x=some (.map (some b))) (O:aF l i=some (a7 k)):Z P w0 n l H J (fun r aa=>r= .tuple #[]∧df aa a7 fv b (ea m k)∧W (fun c=>c=b) H aa):=by
 intro ac w A o;obtain⟨r,es,clock,ag,U,M,E,F⟩:=h.fo.ex;obtain rfl:=U;have q:w.heap[r]?=some (.map es clock):=by rw[o.heap];exact M
 have Y:=(Array.getElem?_eq_some_iff.1 M).1;have N:∀G,(H.setIfInBounds r G)[r]?=some G:=fun G=>by simp[Y]
 rcases qk (k:=k) B es.toList m 0 F with⟨S,I,K⟩|⟨j,L,af,S,I,K,ae,ah⟩
 ·refine⟨_,H.setIfInBounds r (.map es clock),{w with heap:=H.setIfInBounds r (.map es clock)},?_,o.set,rfl,⟨⟨r,_,_,rfl,rfl,N _,E,?_⟩⟩,kt _⟩
  ·simp[execOp,Q,A.eval R,A.eval O,resolve,invoke,builtin,Builtin.delete_,hm,MapKept.run_getObj_map q,MapKept.run_checkKey C (B.key k),MapKept.run_findKey C I,MapKept.run_setObj_map _ q,o.heap]
  ·rw[F]
   congr 1;unfold ea;exact(List.filter_eq_self.2 (fun p ab=>by simpa using xu S p ab)).symm
 ·have V:es[j]?=some L:=by simpa using K
  refine⟨_,H.setIfInBounds r (.map (es.eraseIdxIfInBounds j) clock),{w with heap:=H.setIfInBounds r (.map (es.eraseIdxIfInBounds j) clock)},?_,o.set,rfl,⟨⟨r,_,_,rfl,rfl,N _,stamped_erase E _,?_⟩⟩,kt _⟩
  ·simp[execOp,Q,A.eval R,A.eval O,resolve,invoke,builtin,Builtin.delete_,hm,MapKept.run_getObj_map q,MapKept.run_checkKey C (B.key k),MapKept.run_findKey C I,MapKept.run_setObj_map _ q,o.heap]
  ·have X:j<es.size:=(Array.getElem?_eq_some_iff.1 V).1
   rw[Array.eraseIdxIfInBounds,dif_pos X,Array.toList_eraseIdx];exact wo B.inj es.toList m j L F E.2.2 K ae
end
end E

namespace E
def jK(l d:bZ):Prop:=∀t v,cL l t=some v→cL d t=some v
theorem jK.c{l d:bZ}{s:Nat}{u:Value}(aA:cL l s=none)(h:jK l d):jK l ((s,u)::d):=fun t v e=>by
 simp only[cL]
 cases aw:Nat.beq s t with
 |true=>have:=Nat.eq_of_beq_eq_true aw;subst this;rw[aA]at e;cases e
 |false=>exact h t v e
theorem ae {l d : bZ} {s : Nat} {u : Value} (h : jK l d) (aA : cL l s=none := by exact rfl) : jK l ((s,u)::d) := jK.c aA h
theorem jK.b{l:bZ}{s:Nat}{u v:Value}(av:cL l s=some v)(d:u=v):jK l ((s,u)::l):=fun t w e=>by
 simp only[cL]
 cases aw:Nat.beq s t with
 |true=>have:=Nat.eq_of_beq_eq_true aw;subst this;rw[av]at e;subst d;exact e
 |false=>exact e
theorem bC {l : bZ} {s : Nat} {u v : Value} (d : u=v) (av : cL l s=some v := by exact rfl) : jK l ((s,u)::l) := jK.b av d
section
variable {P : Program} {w0 : World} {Q : Exit → Act → World → Prop} {n k : Nat} {dn : List Nat} {l : bZ} {H : Heap} {ops : Array Oper} {bV : Heap → Prop} {X : List Nat}
theorem O.join{d:Nat}{v:Value}(a8:Nat)(o:List Nat)(b:(∀j,cL j d=some v→jK l j→O P w0 ops Q bV X n a8 o j H)→O P w0 ops Q bV X n k dn l H)(h:O P w0 ops Q bV X n a8 o ((d,v)::l) H):O P w0 ops Q bV X n k dn l H:=
 b (fun j an al a w i q=>h a w ⟨i.defers,i.size,fun t u e=>by
  simp only[cL]at e
  cases aw:Nat.beq d t with
  |true=>have:=Nat.eq_of_beq_eq_true aw;subst this;simp only[aw]at e;exact i.get _ _ (by rw[an];exact e)
  |false=>simp only[aw]at e;exact i.get _ _ (al _ _ e)⟩ q)
end
section
variable {P : Program} {w0 : World} {Q : Exit → Act → World → Prop} {n : Nat} {l : bZ} {H : Heap} {ops : Array Oper} {rest : List Oper} {m : Bool}
theorem o.join{d:Nat}{v:Value}(k:Nat)(b:(∀j,cL j d=some v→jK l j→o m P w0 ops Q n j (rest.drop k) H)→o m P w0 ops Q n l rest H)(h:o m P w0 ops Q n ((d,v)::l) (rest.drop k) H):o m P w0 ops Q n l rest H:=
 b (fun j an al a w i q=>h a w ⟨i.defers,i.size,fun t u e=>by
  simp only[cL]at e
  cases aw:Nat.beq d t with
  |true=>have:=Nat.eq_of_beq_eq_true aw;subst this;simp only[aw]at e;exact i.get _ _ (by rw[an];exact e)
  |false=>simp only[aw]at e;exact i.get _ _ (al _ _ e)⟩ q)
end
end E

namespace eQ
open E Go.RowKit eM eP e1 e7 ev
set_option maxRecDepth 100000 in
theorem jW:c4 Tryz.prog 244 35 1 8:=⟨Tryz.underlying244,_,_,rfl,rfl,rfl,rfl,rfl⟩
def Io:cA:=⟨[],bz⟩
def Im:bA:=⟨bz,cM,[]⟩
def lF(l:List cA):List (List UInt8×cY):=l.foldl (fun m r=>fN m r.n r.i) []
theorem zc(l:List cA)(x:cA):lF (l++[x])=fN (lF l) x.n x.i:=by unfold lF;rw[List.foldl_append];rfl
def j0(m:List (List UInt8×cY))(x:bF):List (List UInt8×cY):=if x.w=bz then ea m x.n else fN m x.n x.w
def hV(x:cZ):Bool:=decide (¬x.bX=bz∧¬x.bm=bz∧0≤x.dn∧x.dn≤x.a6.length∧0≤x.md∧x.md≤x.dn∧¬(x.st=true∧x.dn=x.a6.length))
def hq(t:fE):Int:=if ¬(1≤t.d∧t.d≤3)then 3 else if t.i=bz then 1 else 0
def gT:List fE→Int
 |[]=>0
 |t::l=>if hq t≠0 then hq t else gT l
def gJ(x:cZ):Int:=if ¬(x.k=1∨x.k=2)then 3 else if c6 x.br≠0 then 7 else if hV x=false then 1 else if 100<x.a6.length then 4 else gT x.a6
theorem zn:∀(l:List fE) (t:fE),gT (l++[t])=if gT l≠0 then gT l else hq t
 |[],t=>by by_cases h:hq t=0<;>simp[gT,h]
 |a::l,t=>by
  rw[List.cons_append,gT,gT,zn l t];by_cases h:hq a≠0
  ·rw[if_pos h,if_pos h,if_pos h]
  ·rw[if_neg h,if_neg h]
theorem tW{l:List fE}{i:Nat}(d:i<l.length):gT (l.take (i+1))=if gT (l.take i)≠0 then gT (l.take i)else hq l[i]:=by
 rw[List.take_succ_eq_append_getElem d,zn]
theorem y8(e:Int)(t:fE):hY [e,dm (decide (1≤t.d∧t.d≤3)) 3,dm (decide (¬t.i=bz)) 1]=if e≠0 then e else hq t:=by
 unfold hq;simp only[hY,dm,decide_eq_true_eq];by_cases d:e≠0
 ·rw[if_pos d,if_pos d]
 ·rw[if_neg d,if_neg d]
  by_cases i:1≤t.d∧t.d≤3<;>by_cases U:t.i=bz<;>simp[i,U]
def lY(x:cZ):Int:=hY [dm (decide (x.k=1∨x.k=2)) 3,c6 x.br,dm (hV x) 1,dm (decide (x.a6.length≤100)) 4]
theorem GX(x:cZ):gJ x=if lY x≠0 then lY x else gT x.a6:=by
 unfold gJ lY;simp only[hY,dm,decide_eq_true_eq];rcases p5 x.br with av|av
 ·by_cases d:x.k=1∨x.k=2<;>cases U:hV x<;>by_cases i:x.a6.length≤100<;>simp[d,i,av]<;>omega
 ·by_cases d:x.k=1∨x.k=2<;>cases U:hV x<;>by_cases i:x.a6.length≤100<;>simp[d,i,av]
theorem h5{b:Bool}(q:Bool)(e:Int)(h:b=q)(w0:World)(I:Heap):aC Tryz.prog w0 46 #[.bool b,.int .i64 e] I (fun r d=>r= .int .i64 (dm q e)∧aj I d):=by subst h;exact ts b e w0 I
theorem uE{x:cZ}(i:¬x.bX=bz):decide (((((¬x.bm=bz∧0≤x.dn)∧x.dn≤x.a6.length)∧0≤x.md)∧x.md≤x.dn)∧¬(x.st=true∧x.dn=x.a6.length))=hV x:=
 decide_eq_decide.2 ⟨fun⟨⟨⟨⟨⟨a,b⟩,c⟩,d⟩,e⟩,f⟩=>⟨i,a,b,c,d,e,f⟩,fun⟨_,a,b,c,d,e,f⟩=>⟨⟨⟨⟨⟨a,b⟩,c⟩,d⟩,e⟩,f⟩⟩
theorem uG{x:cZ}(d:¬x.bX=bz)(U:¬x.bm=bz)(i:0≤x.dn)(j:x.dn≤x.a6.length)(k:0≤x.md)(n:x.md≤x.dn)(o:x.st=true):decide (¬x.dn=(x.a6.length:Int))=hV x:=
 decide_eq_decide.2 ⟨fun h=>⟨d,U,i,j,k,n,fun e=>h e.2⟩,fun h e=>h.2.2.2.2.2.2 ⟨o,e⟩⟩
theorem uF{x:cZ}(d:¬x.bX=bz)(U:¬x.bm=bz)(i:0≤x.dn)(j:x.dn≤x.a6.length)(k:0≤x.md)(n:x.md≤x.dn)(o:x.st=false):(!false)=hV x:=
 (decide_eq_true ⟨d,U,i,j,k,n,fun e=>by rw[o]at e;cases e.1⟩).symm
def gE(x:bA):Int:=if x.k=bz then 1 else if 65536<x.d.length then 5 else 0
def ie:List bA→Int
 |[]=>0
 |x::l=>if gE x≠0 then gE x else ie l
theorem sO:∀{l:List bA},(∀y∈l,gE y=0)→ie l=0
 |[],_=>rfl
 |x::l,h=>by rw[ie,if_neg (by simpa using h x List.mem_cons_self)];exact sO (fun y hy=>h y (List.mem_cons_of_mem _ hy))
theorem sN:∀{l:List bA} {j:Nat} (d:j<l.length),(∀y∈l.take j,gE y=0)→gE l[j]≠0→ie l=gE l[j]
 |x::l,0,_,_,h=>by
  simp only[List.getElem_cons_zero]at h⊢
  rw[ie,if_pos h]
 |x::l,j+1,d,h,U=>by
  rw[ie,if_neg (by simpa using h x (by simp))];exact sN (l:=l) (j:=j) (by simpa using d) (fun y hy=>h y (by simp[hy])) (by simpa using U)
theorem EH(y:bA):hY [dm (decide (¬y.k=bz)) 1,dm (decide (y.d.length≤65536)) 5]=gE y:=by
 unfold gE;simp only[hY,dm,decide_eq_true_eq];by_cases d:y.k=bz<;>by_cases U:y.d.length≤65536<;>simp[d,U]<;>omega
theorem zd(s:cW)(F:Nat→Prop)(w0:World)(I:Heap)
 (al:eS F I s) (aW:bh F I.size):
 aC Tryz.prog w0 53 #[eg s] I (fun r L=>∃bK:Nat,r= .map (some bK)∧(df L aI bq bK (lF s.ba))∧(T 0 I.size (bK+1))∧aj I L):=by
 refine aC.aK [eg s] Tryz.func53 ?_;intro aZ aX;have k:aj I I:=W.refl _ _;have bs:=al.r.len;refine G.L (fun aO=>?_);refine o.aO cq ?_;rintro v1 H1 ⟨rfl,q,K,bc,aQ⟩;have bn:H1.size=I.size+1:=by rw[aQ];simp
 replace al:=al.M K;replace k:=k.L K;have bd:=K.size;replace q:Var 47 H1 I.size (bS s):=q;refine o.ak ?_;refine aO (G.L (fun aR=>?_));refine o.aO (Z.nR aI bq rfl) ?_;rintro v6 A ⟨rfl,d,C,bf,aS⟩;have a1:A.size=H1.size+1:=by rw[aS];simp
 have P:=(ay.new (aW.mono k.size):ay _ (H1.size+1));have N:T 0 I.size (H1.size+1):=T.new k.size;replace al:=al.M C;replace q:=q.M C;replace k:=k.L C;have bg:=C.size;have bm:=d.lt;refine o.ak ?_;refine aR (G.t1 (fun Q=>G.L (fun R=>?_)));refine o.v1 (Y.ai q.N rfl ca rfl hb) ?_;refine o.v1 (ar (q.N.drop 1) ix) ?_;refine o.v1 (bb al.r gK) ?_;refine o.V (o.nil (R ?_));refine G.aB (fun _ V _=>?_)
 refine G.bg (fun(j:(Nat))=>[(3,.map (some H1.size)),(8,s.en.v),(9,.int .i64 (s.ba.length:Int)),(10,.int .i64 (j:Int))])
  (fun(j:(Nat)) (H:Heap)=>(df H aI bq H1.size (lF (s.ba.take j)))∧(j≤s.ba.length)∧W (aE [(H1.size+1)]) A H)
  (fun(j:(Nat))=>s.ba.length-j) 0 ⟨rfl,rfl,rfl,rfl,trivial⟩ ?_ ?_
 ·
  exact⟨d,(by omega),W.refl _ _⟩
 intro j E X aY aa ab;obtain⟨d,bo,i⟩:=X;replace al:=al.ab i (az.J P);replace k:=k.bo i (ag.J (aq.q N));have bj:=i.size;have ac:=T.refl (H1.size+1) A.size;refine G.L (fun ae=>?_);refine o.v1 bJ (o.nil (ae ?_));refine G.t2 (fun ai ak=>?_);refine aU (fun aA=>?_) (fun aA=>?_)
 ·
  have bp:j<s.ba.length:=by omega
  obtain⟨x,O⟩:∃x,x=s.ba[j]:=⟨_,rfl⟩;refine G.skip (ai (G.t1 (fun aB=>G.aB (fun aJ _ _=>G.L (fun aK=>?_)))));refine o.bR (Y.mS al.r (j) rfl gK hP rfl rfl (by first|rfl|omega) (by omega)) fun a6 au=>?_;refine o.v1 (Y.cast (v2:= .agg (dB x).toArray) (aT au.N np hP (hW _)) (by rw[O])) ?_;refine o.aO (cV Ik) ?_;rintro v5 M ⟨rfl,n,am,bk,aF⟩;have a7:M.size=E.size+1:=by rw[aF];simp
  have aH:af (H1.size+1) (E.size+1):=af.new d.lt;have aL:T 0 A.size (E.size+1):=T.new i.size;replace d:=d.M am;replace i:=i.bc am;have bl:=am.size;replace n:Var 71 M E.size (dB Io):=n;refine o.s1 (S.var n (_) (dB x) rfl rfl rfl rfl (lo _) hP (hW _) (by simp[hW]) ((c9 ((hW _).trans (hW _).symm)))) fun a8 ap=>?_;obtain⟨n,t⟩:=ap;replace t:=t.bs;replace d:=d.ab t (ah.J aH);replace i:=i.aJ t (ag.J (aq.q aL));have a0:=t.size;refine o.nil (aK (G.region ?_));refine o.V ?_;refine o.v1 (Y.ai n.N rfl mg rfl bP) ?_;refine o.v1 (ar n.N bN) ?_;refine o.v1 (Y.ai n.N rfl mg rfl a_) ?_;refine o.v1 (Y.cast (v2:=bq x.i) (aT ((n.N.drop 1).take 32) b_ a_ (by rw[qe];exact bB _)) (b6 (qe _))) ?_;refine o.s1 (S.l_ (x.i) d gv rfl k7 Tryz.underlying9 rfl rfl rfl) fun ba aM=>?_;obtain⟨d,B⟩:=aM;replace B:=B.bs;replace i:=i.aJ B (ag.J (aq.r ac));have b2:=B.size;refine o.nil (aJ (aB (G.region ?_)));refine o.v1 bD ?_;refine o.V (o.nil ?_);refine aP.sub (aa (j+1) _ ?_ ?_) ⟨rfl,rfl,(aD (by omega)),(aD (by omega)),trivial⟩
  ·exact⟨by rw[List.take_succ_eq_append_getElem (show j<s.ba.length by omega),zc,←O];exact d,(by omega),i⟩
  ·first|omega|(simp only;omega)|(simp;omega)
 ·
  refine G.exit (ak (ab (V ?_)));refine Q (G.L (fun aN=>?_));refine o.aQ 2 ?_;refine aN ?_;refine G.ret (aX ?_);obtain rfl:j=s.ba.length:=by omega
  rw[List.take_length]at d;exact⟨H1.size,rfl,d,N,k⟩
theorem xF(bK:Nat)(m:List (List UInt8×cY))(x:bF)(w0:World)(I:Heap)
 (i:df I aI bq bK m):
 aC Tryz.prog w0 54 #[.map (some bK),j1 x] I (fun r E=>r= .tuple #[]∧(df E aI bq bK (j0 m x))∧W (aE [(bK+1)]) I E):=by
 refine aC.enter (args:=[.map (some bK),j1 x]) Tryz.func54 rfl rfl rfl ?_;intro aF C;have j:W (aE [(bK+1)]) I I:=W.refl _ _;have q:=T.refl (bK+1) I.size;refine G.L (fun ay=>?_);refine o.aO cq ?_;rintro v3 N ⟨rfl,d,ap,aK,aL⟩;replace i:=i.M ap;replace j:=j.bc ap;replace d:Var 52 N I.size (du x):=d;refine o.nil (ay (G.aB (fun _ A _=>G.t2 (fun F az=>G.aB (fun aA O P=>G.aB (fun _ Q H=>G.t2 (fun R K=>G.aB (fun _ V L=>G.t2 (fun X M=>G.t2 (fun aa ab=>G.L (fun af=>?_)))))))))));refine o.v1 (Y.ai d.N rfl cC rfl a_) ?_;refine o.v1 (Y.cast (v2:=bq x.w) (aT ((d.N.drop 33).take 32) b_ a_ (by rw[e5];exact bB _)) (b6 (e5 _))) ?_;refine aW kK (k0 x.w w0 _) ?_;rintro aO aD ⟨rfl,B⟩;replace i:=i.M B;replace d:=d.M B;replace j:=j.bc B;refine o.ak ?_;refine af ?_;refine aU (fun n=>?_) (fun n=>?_)
 ·
  refine G.exit (ab (M (V ?_)));refine R (G.L (fun ah=>?_));refine o.V ?_;refine o.v1 (Y.ai d.N rfl cC rfl bP) ?_;refine o.v1 (ar d.N bN) ?_;refine o.rr (Z.p9 i gv rfl k7 Tryz.underlying9 rfl rfl) cQ rfl (fun aH aJ ai=>?_);obtain⟨rfl,i,ac⟩:=ai;replace ac:=ac.bs;replace j:=j.aJ ac (ag.J (aq.r q));refine o.nil (ah ?_);refine G.exit (H (P (az (A ?_))));refine C .normal (.inl rfl) _ _ _ (iR rfl) ?_;exact⟨rfl,by first|(unfold j0;rw[if_pos n];exact i)|(unfold j0;rw[if_neg n];exact i),j⟩
 ·
  refine G.skip (aa (G.L (fun ak=>?_)));refine o.v1 (Y.ai d.N rfl cC rfl a_) ?_;refine o.v1 (Y.cast (v2:=bq x.J) (aT ((d.N.drop 1).take 32) b_ a_ (by rw[gY];exact bB _)) (b6 (gY _))) ?_;refine aW kK (k0 x.J w0 _) (fun aM aN ae=>?_);obtain⟨rfl,ad⟩:=ae;replace i:=i.M ad;replace d:=d.M ad;replace j:=j.bc ad;refine o.ak ?_;refine ak ?_;refine aU (fun aB=>?_) (fun aB=>?_)
  ·
   refine G.exit (M (L (K (Q ?_))));refine aA (F (G.L (fun au=>?_)));refine o.V ?_;refine o.v1 (Y.ai d.N rfl cC rfl bP) ?_;refine o.v1 (ar d.N bN) ?_;refine o.v1 (Y.ai d.N rfl cC rfl a_) ?_;refine o.v1 (Y.cast (v2:=bq x.w) (aT ((d.N.drop 33).take 32) b_ a_ (by rw[e5];exact bB _)) (b6 (e5 _))) ?_;refine o.s1 (S.l_ (x.w) i gv rfl k7 Tryz.underlying9 rfl rfl rfl) fun am t=>?_;obtain⟨i,k⟩:=t;replace k:=k.bs;replace j:=j.aJ k (ag.J (aq.r q));refine o.nil (au ?_);refine G.exit (A ?_);refine C .normal (.inl rfl) _ _ _ (iR rfl) ?_;exact⟨rfl,by first|(unfold j0;rw[if_pos n];exact i)|(unfold j0;rw[if_neg n];exact i),j⟩
  ·
   refine G.skip (X ?_);refine G.exit (L (K (H (O ?_))));refine F (G.L (fun al=>?_));refine o.V ?_;refine o.v1 (Y.ai d.N rfl cC rfl bP) ?_;refine o.v1 (ar d.N bN) ?_;refine o.v1 (Y.ai d.N rfl cC rfl a_) ?_;refine o.v1 (Y.cast (v2:=bq x.w) (aT ((d.N.drop 33).take 32) b_ a_ (by rw[e5];exact bB _)) (b6 (e5 _))) ?_;refine o.s1 (S.l_ (x.w) i gv rfl k7 Tryz.underlying9 rfl rfl rfl) fun am t=>?_;obtain⟨i,k⟩:=t;replace k:=k.bs;replace j:=j.aJ k (ag.J (aq.r q));refine o.nil (al ?_);refine G.exit (A ?_);refine C .normal (.inl rfl) _ _ _ (iR rfl) ?_;exact⟨rfl,by first|(unfold j0;rw[if_pos n];exact i)|(unfold j0;rw[if_neg n];exact i),j⟩
theorem GZ(x:cZ)(bk:Int)(w0:World)(I:Heap)
 (aL:dY bk I) (cU:bh (fun b=>b=0) I.size) (E:bx I c2 33 x.cd.v x.a6) (aw:x.br.length≤9223372036854775807):
 aC Tryz.prog w0 50 #[er x] I (fun r b8=>r= .int .i64 (if x.k≠0 then gJ x else 0)∧aj I b8):=by
 refine aC.aK [er x] Tryz.func50 ?_;intro dz b7;have R:aj I I:=W.refl _ _;replace E:=E.bw;have ez:=E.len;refine G.L (fun cI=>?_);refine o.aO cq ?_;rintro v1 H1 ⟨rfl,A,aM,dN,cJ⟩;have dF:H1.size=I.size+1:=by rw[cJ];simp
 replace aL:=aL.M aM;replace E:=E.M aM;replace R:=R.L aM;have dO:=aM.size;replace A:Var 29 H1 I.size (dX x):=A;refine o.ak ?_;refine cI (G.t2 (fun cK cL=>G.L (fun cM=>?_)));refine o.v1 (Y.ai A.N rfl bt rfl b0) ?_;refine o.v1 (ar A.N cj) ?_;refine o.v1 b9 (o.nil (cM ?_));refine aU (fun bE=>?_) (fun bE=>?_)
 ·
  refine G.L (fun cN=>?_);refine o.ak ?_;refine cN ?_;refine G.ret (cL (b7 ?_));exact⟨by rw[if_neg (by simpa using bE)],R⟩
 ·
  refine G.skip (cK (G.L (fun cO=>?_)));refine o.v1 (Y.ai A.N rfl bt rfl ep) ?_;refine o.v1 (ar A.N.fO fi) ?_;refine o.v1 (bb E fq) ?_;refine o.ak ?_;refine cO ?_
  refine G.cut (fun(aE:(Int))=>[(1,.pointer (some ⟨I.size,0,none⟩)),(4,.int .i64 aE)])
   (fun(aE:(Int)) (H:Heap)=>(aE=lY x)∧aj H1 H) (fun _ bX _=>?_) ?_
  ·
   have C:aj H1 H1:=W.refl _ _;refine dx (fun k=>aj H1 k) [] ?_;have B:=aj.refl H1;refine O.t1 0 rfl (fun k j=>Y.ai (A.N.M j) rfl bt rfl b0) B ?_;refine O.t1 1 rfl (fun k j=>ar (A.N.M j) cj) B ?_;refine O.t1 2 rfl (fun k j=>b9) B ?_;refine O.V 3 rfl B ?_;refine O.join (d:=20) (v:= .bool (decide (x.k=1∨x.k=2))) 55 [7,6,5,4,3,2,1,0] (fun bK=>?_) ?_
   ·
    refine O.bj (d:=16) rfl (fun ah=>?_) (fun ah=>?_)
    ·
     refine O.g1 4 rfl rfl rfl rfl B ?_;refine O.g1 5 rfl rfl rfl rfl B ?_;refine O.g1 6 rfl rfl rfl rfl B ?_;refine O.t1 7 rfl (fun k j=>eh) B ?_;exact bK _ (congrArg (fun b=>some (Value.bool b)) (by simp[ah])) (ae (ae (ae (ae (bC (congrArg Value.bool (decide_eq_true ah).symm))))))
    ·
     refine O.bI 4 rfl (fun k j=>Y.ai (A.N.M j) rfl bt rfl b0) bd B ?_;refine O.bI 5 rfl (fun k j=>ar (A.N.M j) cj) bd B ?_;refine O.bI 6 rfl (fun k j=>b9) bd B ?_;refine O.t1 7 rfl (fun k j=>dH) B ?_;exact bK _ (congrArg (fun b=>some (Value.bool b)) (by simp[ah])) (ae (ae (ae (ae (bC (congrArg Value.bool (decide_eq_false ah).symm))))))
   refine O.t1 9 rfl (fun k j=>Y.ai (A.N.M j) rfl bt rfl bP) B ?_;refine O.t1 10 rfl (fun k j=>ar ((A.N.drop 1).M j) bN) B ?_;refine O.t1 12 rfl (fun k j=>Y.ai (A.N.M j) rfl bt rfl a_) B ?_;refine O.t1 13 rfl (fun k j=>Y.cast (v2:=bq x.bX) (aT (((A.N.drop 2).M j).take 32) b_ a_ (by rw[hC];exact bB _)) (b6 (hC _))) B ?_;refine O.V 57 rfl B ?_;refine O.t1 58 rfl (fun k j=>eK) B ?_;refine O.aX 8 ?_;refine dq.call rfl rfl hz rfl cQ rfl rfl (h5 (decide (x.k=1∨x.k=2)) 3 (by first|(exact(decide_eq_true (by omega)).symm)|(exact(decide_eq_false (by omega)).symm)|(exact decide_eq_decide.2 (by omega))) w0 _) (fun dP cC cP=>?_);obtain⟨rfl,aA⟩:=cP;replace aL:=aL.M aA;replace A:=A.M aA;replace C:=C.L aA;have dQ:=aA.size;have cb:=B.L aA;refine O.cc cb ?_;have cc:=aj.refl cC;refine O.aX 11 ?_;refine cf p0 (p4 x.br bk w0 _ aL (cU.mono (by omega)) aw) (fun dR cD ck=>?_);obtain⟨rfl,aF⟩:=ck;replace A:=A.M aF;replace C:=C.L aF;have dS:=aF.size;have a9:=cc.L aF;refine O.cc a9 ?_;have cg:=aj.refl cD;refine O.aX 14 ?_;refine cf kK (k0 x.bX w0 _) (fun dT cG cl=>?_);obtain⟨rfl,aH⟩:=cl;replace A:=A.M aH;replace C:=C.L aH;have dV:=aH.size;have cR:=cg.L aH;refine O.cc cR ?_;have q:=aj.refl cG;refine O.t1 15 rfl (fun k j=>Y.hp rfl rfl) q ?_;refine O.V 16 rfl q ?_;refine O.bj (d:=29) rfl (fun S=>?_) (fun S=>?_)
   ·
    refine O.bI 17 rfl (fun k j=>Y.ai (A.N.M j) rfl bt rfl a_) bd q ?_;refine O.bI 18 rfl (fun k j=>Y.cast (v2:=bq x.bm) (aT (((A.N.drop 34).M j).take 32) b_ a_ (by rw[hB];exact bB _)) (b6 (hB _))) bd q ?_;refine O.aX 19 ?_;refine dq.call rfl rfl kK rfl bd rfl rfl (k0 x.bm w0 _) (fun dW cH cm=>?_);obtain⟨rfl,aI⟩:=cm;replace A:=A.M aI;replace C:=C.L aI;have dZ:=aI.size;have cS:=q.L aI;refine O.cc cS ?_;have n:=aj.refl cH;refine O.bI 20 rfl (fun k j=>Y.hp rfl rfl) bd n ?_;refine O.t1 21 rfl (fun k j=>eh) n ?_;refine O.V 22 rfl n ?_;refine O.join (d:=39) (v:= .bool (decide (¬x.bm=bz∧0≤x.dn))) 34 [26,25,24,23,22,21,20,19,18,17,16,15,14,11,8,58,57,13,12,10,9,7,6,5,4,3,2,1,0] (fun bL=>?_) ?_
    ·
     refine O.bj (d:=35) rfl (fun K=>?_) (fun K=>?_)
     ·
      refine O.bI 23 rfl (fun k j=>Y.ai (A.N.M j) rfl bt rfl b0) bd n ?_;refine O.bI 24 rfl (fun k j=>ar (A.N.iu.M j) cj) bd n ?_;refine O.bI 25 rfl (fun k j=>dJ) bd n ?_;refine O.t1 26 rfl (fun k j=>eh) n ?_;exact bL _ (congrArg (fun b=>some (Value.bool b)) (by simp[K])) (ae (ae (ae (ae (bC (congrArg Value.bool (decide_eq_true K).symm))))))
     ·
      refine O.g1 23 rfl rfl rfl rfl n ?_;refine O.g1 24 rfl rfl rfl rfl n ?_;refine O.g1 25 rfl rfl rfl rfl n ?_;refine O.t1 26 rfl (fun k j=>dH) n ?_;exact bL _ (congrArg (fun b=>some (Value.bool b)) (by simp[K])) (ae (ae (ae (ae (bC (congrArg Value.bool (decide_eq_false K).symm))))))
    refine O.V 27 rfl n ?_;refine O.join (d:=45) (v:= .bool (decide ((¬x.bm=bz∧0≤x.dn)∧x.dn≤x.a6.length))) 28 [32,31,30,29,28,27,26,25,24,23,22,21,20,19,18,17,16,15,14,11,8,58,57,13,12,10,9,7,6,5,4,3,2,1,0] (fun bO=>?_) ?_
    ·
     refine O.bj (d:=40) rfl (fun L=>?_) (fun L=>?_)
     ·
      refine O.bI 28 rfl (fun k j=>Y.ai (A.N.M j) rfl bt rfl b0) bd n ?_;refine O.bI 29 rfl (fun k j=>ar (A.N.iu.M j) cj) bd n ?_;refine O.bI 30 rfl (fun k j=>fc) bd n ?_;refine O.bI 31 rfl (fun k j=>eK) bd n ?_;refine O.t1 32 rfl (fun k j=>eh) n ?_;exact bO _ (congrArg (fun b=>some (Value.bool b)) (by simp[L])) (ae (ae (ae (ae (ae (bC (congrArg Value.bool (decide_eq_true L).symm)))))))
     ·
      refine O.g1 28 rfl rfl rfl rfl n ?_;refine O.g1 29 rfl rfl rfl rfl n ?_;refine O.g1 30 rfl rfl rfl rfl n ?_;refine O.g1 31 rfl rfl rfl rfl n ?_;refine O.t1 32 rfl (fun k j=>dH) n ?_;exact bO _ (congrArg (fun b=>some (Value.bool b)) (by simp[L])) (ae (ae (ae (ae (ae (bC (congrArg Value.bool (decide_eq_false L).symm)))))))
    refine O.V 33 rfl n ?_;refine O.join (d:=50) (v:= .bool (decide (((¬x.bm=bz∧0≤x.dn)∧x.dn≤x.a6.length)∧0≤x.md))) 23 [37,36,35,34,33,32,31,30,29,28,27,26,25,24,23,22,21,20,19,18,17,16,15,14,11,8,58,57,13,12,10,9,7,6,5,4,3,2,1,0] (fun bQ=>?_) ?_
    ·
     refine O.bj (d:=46) rfl (fun M=>?_) (fun M=>?_)
     ·
      refine O.bI 34 rfl (fun k j=>Y.ai (A.N.M j) rfl bt rfl b0) bd n ?_;refine O.bI 35 rfl (fun k j=>ar (A.N.jB.M j) cj) bd n ?_;refine O.bI 36 rfl (fun k j=>dJ) bd n ?_;refine O.t1 37 rfl (fun k j=>eh) n ?_;exact bQ _ (congrArg (fun b=>some (Value.bool b)) (by simp[M])) (ae (ae (ae (ae (bC (congrArg Value.bool (decide_eq_true M).symm))))))
     ·
      refine O.g1 34 rfl rfl rfl rfl n ?_;refine O.g1 35 rfl rfl rfl rfl n ?_;refine O.g1 36 rfl rfl rfl rfl n ?_;refine O.t1 37 rfl (fun k j=>dH) n ?_;exact bQ _ (congrArg (fun b=>some (Value.bool b)) (by simp[M])) (ae (ae (ae (ae (bC (congrArg Value.bool (decide_eq_false M).symm))))))
    refine O.V 38 rfl n ?_;refine O.join (d:=57) (v:= .bool (decide ((((¬x.bm=bz∧0≤x.dn)∧x.dn≤x.a6.length)∧0≤x.md)∧x.md≤x.dn))) 16 [44,43,42,41,40,39,38,37,36,35,34,33,32,31,30,29,28,27,26,25,24,23,22,21,20,19,18,17,16,15,14,11,8,58,57,13,12,10,9,7,6,5,4,3,2,1,0] (fun bR=>?_) ?_
    ·
     refine O.bj (d:=51) rfl (fun N=>?_) (fun N=>?_)
     ·
      refine O.bI 39 rfl (fun k j=>Y.ai (A.N.M j) rfl bt rfl b0) bd n ?_;refine O.bI 40 rfl (fun k j=>ar (A.N.jB.M j) cj) bd n ?_;refine O.bI 41 rfl (fun k j=>Y.ai (A.N.M j) rfl bt rfl b0) bd n ?_;refine O.bI 42 rfl (fun k j=>ar (A.N.iu.M j) cj) bd n ?_;refine O.bI 43 rfl (fun k j=>eK) bd n ?_;refine O.t1 44 rfl (fun k j=>eh) n ?_;exact bR _ (congrArg (fun b=>some (Value.bool b)) (by simp[N])) (ae (ae (ae (ae (ae (ae (bC (congrArg Value.bool (decide_eq_true N).symm))))))))
     ·
      refine O.g1 39 rfl rfl rfl rfl n ?_;refine O.g1 40 rfl rfl rfl rfl n ?_;refine O.g1 41 rfl rfl rfl rfl n ?_;refine O.g1 42 rfl rfl rfl rfl n ?_;refine O.g1 43 rfl rfl rfl rfl n ?_;refine O.t1 44 rfl (fun k j=>dH) n ?_;exact bR _ (congrArg (fun b=>some (Value.bool b)) (by simp[N])) (ae (ae (ae (ae (ae (ae (bC (congrArg Value.bool (decide_eq_false N).symm))))))))
    refine O.V 45 rfl n ?_;refine O.join (d:=68) (v:= .bool (decide (((((¬x.bm=bz∧0≤x.dn)∧x.dn≤x.a6.length)∧0≤x.md)∧x.md≤x.dn)∧¬(x.st=true∧x.dn=x.a6.length)))) 5 [55,54,53,52,51,50,49,48,47,46,45,44,43,42,41,40,39,38,37,36,35,34,33,32,31,30,29,28,27,26,25,24,23,22,21,20,19,18,17,16,15,14,11,8,58,57,13,12,10,9,7,6,5,4,3,2,1,0] (fun bS=>?_) ?_
    ·
     refine O.bj (d:=58) rfl (fun P=>?_) (fun P=>?_)
     ·
      refine O.bI 46 rfl (fun k j=>Y.ai (A.N.M j) rfl bt rfl cX) bd n ?_;refine O.bI 47 rfl (fun k j=>ar (A.N.k4.M j) dA) bd n ?_;refine O.bI 48 rfl (fun k j=>fc) bd n ?_;refine O.join (d:=66) (v:= .bool (decide (x.st=true∧x.dn=x.a6.length))) 7 [53,52,51,50,49,48,47,46,45,44,43,42,41,40,39,38,37,36,35,34,33,32,31,30,29,28,27,26,25,24,23,22,21,20,19,18,17,16,15,14,11,8,58,57,13,12,10,9,7,6,5,4,3,2,1,0] (fun bU=>?_) ?_
      ·
       refine O.split (d:=61) rfl (fun Q=>?_) (fun Q=>?_)
       ·
        refine O.bI 49 rfl (fun k j=>Y.ai (A.N.M j) rfl bt rfl b0) bd n ?_;refine O.bI 50 rfl (fun k j=>ar (A.N.iu.M j) cj) bd n ?_;refine O.bI 51 rfl (fun k j=>fc) bd n ?_;refine O.bI 52 rfl (fun k j=>b9) bd n ?_;refine O.bI 53 rfl (fun k j=>eh) bd n ?_;exact bU _ (congrArg (fun b=>some (Value.bool b)) (by simp[Q])) (ae (ae (ae (ae (ae (bC (congrArg Value.bool Q.symm)))))))
       ·
        refine O.g1 49 rfl rfl rfl rfl n ?_;refine O.g1 50 rfl rfl rfl rfl n ?_;refine O.g1 51 rfl rfl rfl rfl n ?_;refine O.g1 52 rfl rfl rfl rfl n ?_;refine O.bI 53 rfl (fun k j=>dH) bd n ?_;exact bU _ (congrArg (fun b=>some (Value.bool b)) (by simp[Q])) (ae (ae (ae (ae (ae (bC (congrArg Value.bool Q.symm)))))))
      refine O.bI 54 rfl (fun k j=>Y.hp rfl rfl) bd n ?_;refine O.t1 55 rfl (fun k j=>eh) n ?_;exact bS _ (congrArg (fun b=>some (Value.bool b)) (by simp[P])) (ae (ae (ae (ae (ae (ae (bC (congrArg Value.bool (decide_eq_true P).symm))))))))
     ·
      refine O.g1 46 rfl rfl rfl rfl n ?_;refine O.g1 47 rfl rfl rfl rfl n ?_;refine O.g1 48 rfl rfl rfl rfl n ?_;refine O.iI 49 rfl rfl rfl rfl n ?_;refine O.iI 50 rfl rfl rfl rfl n ?_;refine O.iI 51 rfl rfl rfl rfl n ?_;refine O.iI 52 rfl rfl rfl rfl n ?_;refine O.g1 53 rfl rfl rfl rfl n ?_;refine O.g1 54 rfl rfl rfl rfl n ?_;refine O.t1 55 rfl (fun k j=>dH) n ?_;exact bS _ (congrArg (fun b=>some (Value.bool b)) (by simp[P])) (ae (ae (ae (ae (ae (ae (ae (ae (ae (ae (bC (congrArg Value.bool (decide_eq_false P).symm))))))))))))
    refine O.aX 56 ?_;refine dq.call rfl rfl hz rfl cQ rfl rfl (h5 (hV x) 1 (by first|exact uE S|exact uG S K L M N P Q|exact uF S K L M N P Q|exact(decide_eq_false (by rintro⟨bF,U,dk,dp,dt,du,dv⟩;first|(exact absurd bF (by assumption))|(exact absurd U (by assumption))|omega)).symm) w0 _) (fun cn bn bs=>?_);obtain⟨rfl,V⟩:=bs;replace C:=C.L V;have d_:=V.size;have a8:=n.L V;refine O.cc a8 ?_;have ba:=aj.refl bn;refine O.aX 59 ?_;refine dq.call rfl rfl hz rfl cQ rfl rfl (h5 (decide (x.a6.length≤100)) 4 (by first|(exact(decide_eq_true (by omega)).symm)|(exact(decide_eq_false (by omega)).symm)|(exact decide_eq_decide.2 (by omega))) w0 _) (fun cr ai bu=>?_);obtain⟨rfl,X⟩:=bu;replace C:=C.L X;have ea:=X.size;have bc:=ba.L X;refine O.cc bc ?_;have aN:=aj.refl ai;refine O.aX 60 ?_;refine et rfl (cT _ ([dm (decide (x.k=1∨x.k=2)) 3,c6 x.br,dm (hV x) 1,dm (decide (x.a6.length≤100)) 4]) jW km kn (rfl)) (fun ct ak bw=>?_);obtain⟨a0,au,c0,b2⟩:=bw;have bT:ak.size=ai.size+1:=by rw[b2];simp
    replace C:=C.L au;have eb:=au.size;have aO:=aN.L au;refine O.cc aO ?_;have aQ:=aj.refl ak;refine O.aX 61 ?_;refine cf kJ (kY _ [dm (decide (x.k=1∨x.k=2)) 3,c6 x.br,dm (hV x) 1,dm (decide (x.a6.length≤100)) 4] w0 _ a0.rd.any) (fun cu be bA=>?_);obtain⟨rfl,am⟩:=bA;replace C:=C.L am;have ec:=am.size;have aR:=aQ.L am;refine O.cc aR ?_;have al:=aj.refl be;refine O.t1 62 rfl (fun k j=>ej) al ?_;refine cx ?_;have bG:=al;refine aP.sub (bX (lY x) _ ?_) ⟨rfl,rfl,trivial⟩;exact⟨rfl,C⟩
   ·
    refine O.g1 17 rfl rfl rfl rfl q ?_;refine O.g1 18 rfl rfl rfl rfl q ?_;refine O.g1 19 rfl rfl rfl rfl q ?_;refine O.g1 20 rfl rfl rfl rfl q ?_;refine O.t1 21 rfl (fun k j=>dH) q ?_;refine O.V 22 rfl q ?_;refine O.g1 23 rfl rfl rfl rfl q ?_;refine O.g1 24 rfl rfl rfl rfl q ?_;refine O.g1 25 rfl rfl rfl rfl q ?_;refine O.t1 26 rfl (fun k j=>dH) q ?_;refine O.V 27 rfl q ?_;refine O.g1 28 rfl rfl rfl rfl q ?_;refine O.g1 29 rfl rfl rfl rfl q ?_;refine O.g1 30 rfl rfl rfl rfl q ?_;refine O.g1 31 rfl rfl rfl rfl q ?_;refine O.t1 32 rfl (fun k j=>dH) q ?_;refine O.V 33 rfl q ?_;refine O.g1 34 rfl rfl rfl rfl q ?_;refine O.g1 35 rfl rfl rfl rfl q ?_;refine O.g1 36 rfl rfl rfl rfl q ?_;refine O.t1 37 rfl (fun k j=>dH) q ?_;refine O.V 38 rfl q ?_;refine O.g1 39 rfl rfl rfl rfl q ?_;refine O.g1 40 rfl rfl rfl rfl q ?_;refine O.g1 41 rfl rfl rfl rfl q ?_;refine O.g1 42 rfl rfl rfl rfl q ?_;refine O.g1 43 rfl rfl rfl rfl q ?_;refine O.t1 44 rfl (fun k j=>dH) q ?_;refine O.V 45 rfl q ?_;refine O.g1 46 rfl rfl rfl rfl q ?_;refine O.g1 47 rfl rfl rfl rfl q ?_;refine O.g1 48 rfl rfl rfl rfl q ?_;refine O.iI 49 rfl rfl rfl rfl q ?_;refine O.iI 50 rfl rfl rfl rfl q ?_;refine O.iI 51 rfl rfl rfl rfl q ?_;refine O.iI 52 rfl rfl rfl rfl q ?_;refine O.g1 53 rfl rfl rfl rfl q ?_;refine O.g1 54 rfl rfl rfl rfl q ?_;refine O.t1 55 rfl (fun k j=>dH) q ?_;refine O.aX 56 ?_;refine dq.call rfl rfl hz rfl cQ rfl rfl (h5 (hV x) 1 (by first|exact uE S|exact uG S K L M N P Q|exact uF S K L M N P Q|exact(decide_eq_false (by rintro⟨bF,U,dk,dp,dt,du,dv⟩;first|(exact absurd bF (by assumption))|(exact absurd U (by assumption))|omega)).symm) w0 _) (fun cn bn bs=>?_);obtain⟨rfl,V⟩:=bs;replace C:=C.L V;have dC:=V.size;have a8:=q.L V;refine O.cc a8 ?_;have ba:=aj.refl bn;refine O.aX 59 ?_;refine dq.call rfl rfl hz rfl cQ rfl rfl (h5 (decide (x.a6.length≤100)) 4 (by first|(exact(decide_eq_true (by omega)).symm)|(exact(decide_eq_false (by omega)).symm)|(exact decide_eq_decide.2 (by omega))) w0 _) (fun cr ai bu=>?_);obtain⟨rfl,X⟩:=bu;replace C:=C.L X;have dD:=X.size;have bc:=ba.L X;refine O.cc bc ?_;have aN:=aj.refl ai;refine O.aX 60 ?_;refine et rfl (cT _ ([dm (decide (x.k=1∨x.k=2)) 3,c6 x.br,dm (hV x) 1,dm (decide (x.a6.length≤100)) 4]) jW km kn (rfl)) (fun ct ak bw=>?_);obtain⟨a0,au,c0,b2⟩:=bw;have bT:ak.size=ai.size+1:=by rw[b2];simp
    replace C:=C.L au;have dE:=au.size;have aO:=aN.L au;refine O.cc aO ?_;have aQ:=aj.refl ak;refine O.aX 61 ?_;refine cf kJ (kY _ [dm (decide (x.k=1∨x.k=2)) 3,c6 x.br,dm (hV x) 1,dm (decide (x.a6.length≤100)) 4] w0 _ a0.rd.any) (fun cu be bA=>?_);obtain⟨rfl,am⟩:=bA;replace C:=C.L am;have dG:=am.size;have aR:=aQ.L am;refine O.cc aR ?_;have al:=aj.refl be;refine O.t1 62 rfl (fun k j=>ej) al ?_;refine cx ?_;have bG:=al;refine aP.sub (bX (lY x) _ ?_) ⟨rfl,rfl,trivial⟩;exact⟨rfl,C⟩
  ·
   intro aE bV cd;obtain⟨dw,aJ⟩:=cd;replace E:=E.M aJ;replace A:=A.M aJ;replace R:=R.L aJ;have ef:=aJ.size;refine G.t1 (fun c_=>G.L (fun da=>?_));refine o.v1 (Y.ai A.N rfl bt rfl ep) ?_;refine o.v1 (ar A.N.fO fi) ?_;refine o.v1 (bb E fq) ?_;refine o.V (o.nil (da ?_));refine G.aB (fun _ db _=>?_)
   refine G.bg (fun(dy:(Nat)×(Int))=>match dy with|(i,e)=>[(4,.int .i64 e),(76,x.cd.v),(77,.int .i64 x.a6.length),(78,.int .i64 i)])
    (fun(i,e) (H:Heap)=>(i≤x.a6.length)∧(e=if lY x≠0 then lY x else gT (x.a6.take i))∧aj bV H)
    (fun(i,e)=>x.a6.length-i) (0,aE) ⟨rfl,rfl,rfl,rfl,trivial⟩ ?_ ?_
   ·
    exact⟨(by omega),(by rw[dw];split;rfl;rename_i h;simpa[gT]using h),W.refl _ _⟩
   rintro⟨i,e⟩ bZ ce ed bY c1;obtain⟨ey,he,ac⟩:=ce;replace E:=E.M ac;replace R:=R.L ac;have eg:=ac.size;refine G.L (fun bv=>?_);refine o.v1 bJ (o.nil (bv ?_));refine G.t2 (fun c3 c4=>?_);refine aU (fun dc=>?_) (fun dc=>?_)
   ·
    refine G.skip (c3 (G.t1 (fun b3=>G.aB (fun b4 _ _=>G.L (fun c8=>?_)))));have b5:i<x.a6.length:=by omega
    obtain⟨t,bI⟩:∃t,t=x.a6[i]:=⟨_,rfl⟩;refine o.bR (Y.bL E (i) rfl fq ha rfl rfl) fun dU cv=>?_;refine o.v1 (Y.cast (v2:= .agg (c2 t).toArray) (aT cv.N mB ha (hX _)) (by rw[bI])) ?_;refine o.aO (cV ue) ?_;rintro v6 ca ⟨rfl,F,b1,ee,ci⟩;have ei:ca.size=bZ.size+1:=by rw[ci];simp
    have cw:T 0 bV.size (bZ.size+1):=T.new ac.size;replace ac:=ac.L b1;have ek:=b1.size;refine o.s1 (dM F (_) (c2 t) (mN t) ha (hX _) ((c9 (hX _).symm))) fun bi cy=>?_;obtain⟨F,aK⟩:=cy;replace aK:=aK.bs;replace ac:=ac.bo aK (ag.J (aq.q cw));have en:=aK.size;refine o.nil (c8 ?_);refine dx (fun k=>aj bi k) [] ?_;have B:=aj.refl bi;refine O.V 0 rfl B ?_;refine O.t1 1 rfl (fun k j=>Y.ai (F.N.M j) rfl jC rfl b0) B ?_;refine O.t1 2 rfl (fun k j=>ar (F.N.M j) cj) B ?_;refine O.t1 3 rfl (fun k j=>dJ) B ?_;refine O.V 4 rfl B ?_;refine O.bj (d:=86) rfl (fun de=>?_) (fun de=>?_)
    ·
     refine O.bI 5 rfl (fun k j=>Y.ai (F.N.M j) rfl jC rfl b0) bd B ?_;refine O.bI 6 rfl (fun k j=>ar (F.N.M j) cj) bd B ?_;refine O.bI 7 rfl (fun k j=>eK) bd B ?_;refine O.t1 8 rfl (fun k j=>eh) B ?_;refine O.t1 10 rfl (fun k j=>Y.ai (F.N.M j) rfl jC rfl a_) B ?_;refine O.t1 11 rfl (fun k j=>Y.cast (v2:=bq t.i) (aT (((F.N.drop 1).M j).take 32) b_ a_ (by rw[kP];exact bB _)) (b6 (kP _))) B ?_;refine O.aX 9 ?_;refine dq.call rfl rfl hz rfl cQ rfl rfl (h5 (decide (1≤t.d∧t.d≤3)) 3 (by first|(exact(decide_eq_true (by omega)).symm)|(exact(decide_eq_false (by omega)).symm)|(exact decide_eq_decide.2 (by omega))) w0 _) (fun df bo bf=>?_);obtain⟨rfl,Z⟩:=bf;replace ac:=ac.L Z;have co:=Z.size;have aS:=B.L Z;refine O.cc aS ?_;have aW:=aj.refl bo;refine O.aX 12 ?_;refine cf kK (k0 t.i w0 _) (fun dg aB bg=>?_);obtain⟨rfl,ap⟩:=bg;replace ac:=ac.L ap;have eo:=ap.size;have aX:=aW.L ap;refine O.cc aX ?_;have ay:=aj.refl aB;refine O.t1 13 rfl (fun k j=>Y.hp rfl rfl) ay ?_;refine O.aX 14 ?_;refine cf hz (h5 (decide (¬t.i=bz)) 1 rfl w0 _) (fun dh a2 bj=>?_);obtain⟨rfl,aa⟩:=bj;replace ac:=ac.L aa;have cs:=aa.size;have aY:=ay.L aa;refine O.cc aY ?_;have aZ:=aj.refl a2;refine O.aX 15 ?_;refine et rfl (cT _ ([e,dm (decide (1≤t.d∧t.d≤3)) 3,dm (decide (¬t.i=bz)) 1]) jW km kn (rfl)) (fun di a3 bl=>?_);obtain⟨a4,ab,cz,a5⟩:=bl;have cW:a3.size=a2.size+1:=by rw[a5];simp
     replace ac:=ac.L ab;have dr:=ab.size;have a1:=aZ.L ab;refine O.cc a1 ?_;have a6:=aj.refl a3;refine O.aX 16 ?_;refine cf kJ (kY _ [e,dm (decide (1≤t.d∧t.d≤3)) 3,dm (decide (¬t.i=bz)) 1] w0 _ a4.rd.any) (fun dj bp bm=>?_);obtain⟨rfl,af⟩:=bm;replace ac:=ac.L af;have eu:=af.size;rw[y8];have a7:=a6.L af;refine O.cc a7 ?_;have az:=aj.refl bp;refine O.t1 17 rfl (fun k j=>ej) az ?_;refine cx ?_;have bG:=az;refine b4 (b3 (G.region ?_));refine o.v1 bD ?_;refine o.V (o.nil ?_);refine aP.sub (bY (i+1,if e≠0 then e else hq t) _ ?_ ?_) ⟨(aD (by omega)),rfl,(aD (by omega)),(aD (by omega)),trivial⟩
     ·exact⟨(by omega),(by rw[he,tW b5,←bI];split<;>simp_all),ac⟩
     ·first|omega|(simp only;omega)|(simp;omega)
    ·
     refine O.g1 5 rfl rfl rfl rfl B ?_;refine O.g1 6 rfl rfl rfl rfl B ?_;refine O.g1 7 rfl rfl rfl rfl B ?_;refine O.t1 8 rfl (fun k j=>dH) B ?_;refine O.t1 10 rfl (fun k j=>Y.ai (F.N.M j) rfl jC rfl a_) B ?_;refine O.t1 11 rfl (fun k j=>Y.cast (v2:=bq t.i) (aT (((F.N.drop 1).M j).take 32) b_ a_ (by rw[kP];exact bB _)) (b6 (kP _))) B ?_;refine O.aX 9 ?_;refine dq.call rfl rfl hz rfl cQ rfl rfl (h5 (decide (1≤t.d∧t.d≤3)) 3 (by first|(exact(decide_eq_true (by omega)).symm)|(exact(decide_eq_false (by omega)).symm)|(exact decide_eq_decide.2 (by omega))) w0 _) (fun df bo bf=>?_);obtain⟨rfl,Z⟩:=bf;replace ac:=ac.L Z;have ev:=Z.size;have aS:=B.L Z;refine O.cc aS ?_;have aW:=aj.refl bo;refine O.aX 12 ?_;refine cf kK (k0 t.i w0 _) (fun dg aB bg=>?_);obtain⟨rfl,ap⟩:=bg;replace ac:=ac.L ap;have ew:=ap.size;have aX:=aW.L ap;refine O.cc aX ?_;have ay:=aj.refl aB;refine O.t1 13 rfl (fun k j=>Y.hp rfl rfl) ay ?_;refine O.aX 14 ?_;refine cf hz (h5 (decide (¬t.i=bz)) 1 rfl w0 _) (fun dh a2 bj=>?_);obtain⟨rfl,aa⟩:=bj;replace ac:=ac.L aa;have dI:=aa.size;have aY:=ay.L aa;refine O.cc aY ?_;have aZ:=aj.refl a2;refine O.aX 15 ?_;refine et rfl (cT _ ([e,dm (decide (1≤t.d∧t.d≤3)) 3,dm (decide (¬t.i=bz)) 1]) jW km kn (rfl)) (fun di a3 bl=>?_);obtain⟨a4,ab,cz,a5⟩:=bl;have cW:a3.size=a2.size+1:=by rw[a5];simp
     replace ac:=ac.L ab;have dK:=ab.size;have a1:=aZ.L ab;refine O.cc a1 ?_;have a6:=aj.refl a3;refine O.aX 16 ?_;refine cf kJ (kY _ [e,dm (decide (1≤t.d∧t.d≤3)) 3,dm (decide (¬t.i=bz)) 1] w0 _ a4.rd.any) (fun dj bp bm=>?_);obtain⟨rfl,af⟩:=bm;replace ac:=ac.L af;have dL:=af.size;rw[y8];have a7:=a6.L af;refine O.cc a7 ?_;have az:=aj.refl bp;refine O.t1 17 rfl (fun k j=>ej) az ?_;refine cx ?_;have bG:=az;refine b4 (b3 (G.region ?_));refine o.v1 bD ?_;refine o.V (o.nil ?_);refine aP.sub (bY (i+1,if e≠0 then e else hq t) _ ?_ ?_) ⟨(aD (by omega)),rfl,(aD (by omega)),(aD (by omega)),trivial⟩
     ·exact⟨(by omega),(by rw[he,tW b5,←bI];split<;>simp_all),ac⟩
     ·first|omega|(simp only;omega)|(simp;omega)
   ·
    refine G.exit (c4 (c1 (db ?_)));refine c_ (G.L (fun cA=>?_));refine o.aQ 2 ?_;refine cA ?_;refine G.ret (b7 ?_);exact⟨by rw[if_pos bE,he,GX,List.take_of_length_le (by omega)],R⟩
end eQ

namespace E
abbrev aH:=List UInt8
def blt(a b:aH):Prop:=Op.bytesLess a b=true
instance (a b:aH):Decidable (blt a b):=inferInstanceAs (Decidable (_=_))
theorem mG(a:aH):¬blt a a:=by
 unfold blt
 induction a with
 |nil=>simp[Op.bytesLess]
 |cons x a ih=>simp only[Op.bytesLess];simpa using ih
theorem lT:∀{a b:aH},¬blt a b→¬blt b a→a=b
 |[],[],_,_=>rfl
 |[],_::_,h,_=>by simp[blt,Op.bytesLess]at h
 |_::_,[],_,h=>by simp[blt,Op.bytesLess]at h
 |x::a,y::b,d,U=>by
  simp only[blt,Op.bytesLess]at d U;by_cases aK:x<y
  ·simp[aK]at d
  ·by_cases i:y<x
   ·simp[i]at U
   ·have:x=y:=by apply UInt8.toNat.inj;rw[UInt8.lt_iff_toNat_lt]at aK i;omega
    subst this;rw[lT (a:=a) (b:=b) (by simpa[blt]using d) (by simpa[blt]using U)]
theorem nr:∀{a b c:aH},blt a b→blt b c→blt a c
 |[],[],_,h,_=>by simp[blt,Op.bytesLess]at h
 |_::_,[],_,h,_=>by simp[blt,Op.bytesLess]at h
 |_,_::_,[],_,h=>by simp[blt,Op.bytesLess]at h
 |[],_::_,_::_,_,_=>by simp[blt,Op.bytesLess]
 |x::a,y::b,z::c,d,U=>by
  simp only[blt,Op.bytesLess,Bool.or_eq_true,decide_eq_true_eq,Bool.and_eq_true,beq_iff_eq]at d U⊢;rcases d with d|⟨rfl,d⟩
  ·rcases U with U|⟨rfl,U⟩
   ·left;rw[UInt8.lt_iff_toNat_lt]at*;omega
   ·exact .inl d
  ·rcases U with U|⟨rfl,U⟩
   ·exact .inl U
   ·exact .inr ⟨rfl,nr d U⟩
theorem oB{a b:aH}(h:blt a b):¬blt b a:=fun U=>mG a (nr h U)
theorem mH{a b:aH}(h:blt a b):a≠b:=fun e=>by subst e;exact mG a h
def jJ(l:List aH):Prop:=l.Pairwise blt
theorem tr{l:List aH}(h:jJ l):l.Nodup:=by
 rw[List.nodup_iff_pairwise_ne];exact h.imp (fun h=>mH h)
abbrev dy:=List (aH×Nat)
def fe(l:dy):Prop:=l.Pairwise (fun x y=>blt x.1 y.1)
theorem fe.qW{l:dy}(h:fe l):jJ (l.map (·.1)):=by unfold jJ;rw[List.pairwise_map];exact h
theorem fe.nodup{l:dy}(h:fe l):(l.map (·.1)).Nodup:=tr h.qW
theorem fe.filter{l:dy}(h:fe l)(p:aH×Nat→Bool):fe (l.filter p):=List.Pairwise.filter _ h
def hO:dy→aH→Nat→dy
 |[],p,i=>[(p,i)]
 |x::l,p,i=>if blt x.1 p then x::hO l p i else if x.1=p then(p,i)::l else(p,i)::x::l
theorem qG(l:dy)(p:aH)(i:Nat)(q:aH):aM (hO l p i) q=if q=p then some i else aM l q:=by
 induction l with
 |nil=>simp[hO,aM]
 |cons x l ih=>
  unfold hO;split
  ·rename_i h
   simp only[aM,ih];by_cases d:q=x.1
   ·have:¬q=p:=fun e=>mH h (by rw[←d,e])
    rw[if_pos d,if_pos d,if_neg this]
   ·rw[if_neg d,if_neg d]
  ·split
   ·rename_i j U
    simp only[aM];by_cases d:q=p
    ·simp[d]
    ·rw[if_neg d,if_neg d,if_neg (fun e=>d (e.trans U))]
   ·simp only[aM]
theorem EI{l:dy}{p:aH}{i:Nat}{x:aH×Nat}(h:x∈hO l p i):x=(p,i)∨x∈l:=by
 induction l with
 |nil=>simp[hO]at h;exact .inl h
 |cons y l ih=>
  unfold hO at h;split at h
  ·rcases List.mem_cons.1 h with e|h
   ·exact .inr (by rw[e];exact List.mem_cons_self)
   ·rcases ih h with e|h
    ·exact .inl e
    ·exact .inr (List.mem_cons_of_mem _ h)
  ·split at h
   ·rcases List.mem_cons.1 h with e|h
    ·exact .inl e
    ·exact .inr (List.mem_cons_of_mem _ h)
   ·rcases List.mem_cons.1 h with e|h
    ·exact .inl e
    ·exact .inr h
theorem uH{l:dy}(h:fe l)(p:aH)(i:Nat):fe (hO l p i):=by
 induction l with
 |nil=>exact List.pairwise_singleton _ _
 |cons x l ih=>
  unfold fe at h⊢;rw[List.pairwise_cons]at h;unfold hO;split
  ·rename_i j
   rw[List.pairwise_cons];refine⟨fun y hy=>?_,ih h.2⟩;rcases EI hy with e|hy
   ·rw[e];exact j
   ·exact h.1 y hy
  ·rename_i j
   split
   ·rename_i U
    rw[List.pairwise_cons];exact⟨fun y hy=>by rw[←U];exact h.1 y hy,h.2⟩
   ·rename_i U
    have d:blt p x.1:=Classical.byContradiction (fun d=>U (lT j d));rw[List.pairwise_cons];refine⟨fun y hy=>?_,List.pairwise_cons.2 h⟩;rcases List.mem_cons.1 hy with e|hy
    ·rw[e];exact d
    ·exact nr d (h.1 y hy)
theorem Ay{l:dy}(h:fe l)(p:aH):fe (ea l p):=List.Pairwise.filter _ h
theorem sP{l:dy}{f:aH→Bool}(p:aH):aM (l.filter (fun x=>f x.1)) p=if f p=true then aM l p else none:=by
 induction l with
 |nil=>simp[aM]
 |cons x l ih=>
  by_cases i:f x.1=true
  ·rw[List.filter_cons_of_pos (by simpa using i)]
   simp only[aM,ih];by_cases d:p=x.1
   ·rw[if_pos d,if_pos d,d,if_pos i]
   ·rw[if_neg d,if_neg d]
  ·rw[List.filter_cons_of_neg (by simpa using i),ih]
   simp only[aM];by_cases d:p=x.1
   ·rw[d,if_neg i,if_neg i]
   ·rw[if_neg d]
def m1(c:UInt8):Bool:=(97≤c&&c≤122)||(48≤c&&c≤57)||c==46||c==95||c==45||c==47
def tE(p:aH):Bool:=(List.range p.length).all (fun i=> !(p.getD i 0==47&&(i==0||i==p.length-1||p.getD (i-1) 0==47)))
def cz(p:aH):Bool:=decide (1≤p.length)&&decide (p.length≤100)&&p.all m1&&tE p
def mQ(p:aH):aH:=p.take (p.length-1-(p.reverse.takeWhile (fun c=>c≠47)).length)
def cr(p:aH):aH:=if cz p=true then mQ p else[]
structure dN where
 g:aH
 n:aH
 f:Option Nat
 deriving DecidableEq
def dN.ap(c:dN)(l:dy):dy:=
 let d:=if c.g=[]then l else ea l c.g
 match c.f with
 |none=>d
 |some i=>hO d c.n i
def dN.dir(c:dN):aH:=cr (if c.g=[]then c.n else c.g)
def Ao(cs:List dN)(l:dy):dy:=cs.foldl (fun l c=>c.ap l) l
theorem Ax{l:dy}(h:fe l)(c:dN):fe (c.ap l):=by
 unfold dN.ap;have d:fe (if c.g=[]then l else ea l c.g):=by split;exact h;exact Ay h _
 cases c.f with
 |none=>exact d
 |some i=>exact uH d _ _
def dN.at(c:dN)(q:aH)(J:Option Nat):Option Nat:=
 match c.f with
 |none=>if c.g≠[]∧q=c.g then none else J
 |some i=>if q=c.n then some i else if c.g≠[]∧q=c.g then none else J
theorem qF(c:dN)(l:dy)(q:aH):aM (c.ap l) q=c.at q (aM l q):=by
 unfold dN.ap dN.at
 cases c.f with
 |none=>
  simp only;by_cases d:c.g=[]
  ·simp[d]
  ·rw[if_neg d,jg];simp[d]
 |some i=>
  simp only;rw[qG];by_cases d:c.g=[]
  ·simp[d]
  ·rw[if_neg d,jg];simp[d]
structure dZ where
 b:Bool
 d:List UInt8
 deriving DecidableEq,Inhabited
structure f_ where
 now:List UInt8
 stays:List UInt8
 w:List dZ
 deriving DecidableEq,Inhabited
def dZ.on(w:dZ)(b:List UInt8)(n:Nat):List UInt8:=(if w.b=true then b else[])++w.d.take n
def dZ.ways(w:dZ):Nat:=max 1 (2*w.d.length)
def dZ.part(w:dZ)(b:List UInt8)(d:Nat):List UInt8:=
 if d<w.d.length∨w.d.length=0 then w.on b (min (d+1) w.d.length)else w.on b (d-w.d.length)++List.replicate (w.d.length-(d-w.d.length)) 0
def H3(ws:List dZ):Nat:=1+(ws.map dZ.ways).sum
def zE:List dZ→List UInt8→Nat→List UInt8
 |[],b,_=>b
 |w::ws,b,k=>if k=0 then b else if k≤w.ways then w.part b (k-1)else zE ws (w.on b w.d.length) (k-w.ways)
def ly(ws:List dZ)(b:List UInt8):List UInt8:=ws.foldl (fun b w=>w.on b w.d.length) b
structure aG where
 cap:Nat
 most:Nat
 fs:List f_
 now:dy
 stays:dy
 log:List dN
 ops:Nat
 left:Nat
 dead:Bool
def b5(fs:List f_)(i:Nat):f_:=fs.getD i ⟨[],[],[]⟩
def aG.empty(cap most:Nat):aG:=⟨cap,most,[],[],[],[],0,0,false⟩
def aG.begin(d:aG):Bool×aG:=
 if d.dead=true then(false,d)
 else if d.left=1 then(false,{d with left:=0,dead:=true})
 else(true,{d with left:=d.left-1,ops:=d.ops+1})
def aG.look(d:aG)(p:aH):Nat:=if cz p=true then(if(aM d.now p).isSome then 0 else 2)else 7
def iD(fs:List f_)(l:dy):Nat:=(l.map (fun x=>(b5 fs x.2).now.length)).sum
def aG.used(d:aG):Nat:=iD d.fs d.now
def aG.hL(d:aG)(n:aH):List dN:=d.log.filter (fun c=>c.dir=n)
def aG.change(d:aG)(c:dN):aG:={d with now:=c.ap d.now,log:=d.log++[c]}
def aG.make(d:aG)(p:aH):aG×Nat:=match aM d.now p with
 |some i=>(d,i)
 |none=>(({d with fs:=d.fs++[⟨[],[],[]⟩]}:aG).change ⟨[],p,some d.fs.length⟩,d.fs.length)
def aG.dp(d:aG)(p:aH):List UInt8:=match aM d.now p with
 |some i=>(b5 d.fs i).now
 |none=>[]
def aG.fy(d:aG)(i:Nat)(x:f_):aG:={d with fs:=d.fs.set i x}
def aG.write(d:aG)(p:aH)(w:dZ):aG:=
 let(d2,i):=d.make p
 d2.fy i ⟨w.on (b5 d2.fs i).now w.d.length,(b5 d2.fs i).stays,(b5 d2.fs i).w++[w]⟩
def aG.hN(d:aG)(p:aH)(w:dZ):Nat:=
 if cz p=false then 7
 else if d.most<(w.on (d.dp p) w.d.length).length then 5
 else if d.cap+(d.dp p).length<d.used+(w.on (d.dp p) w.d.length).length then 12
 else 0
def aG.lay(d:aG)(p:aH)(w:dZ):Nat×aG:=
 let(g,d1):=d.begin
 if g=false then(11,d1)else(d1.hN p w,if d1.hN p w=0 then d1.write p w else d1)
def aG.tQ(d:aG)(i:Nat):aG:=d.fy i ⟨(b5 d.fs i).now,(b5 d.fs i).now,[]⟩
def aG.sync(d:aG)(p:aH):Nat×aG:=
 let(g,d1):=d.begin
 if g=false then(11,d1)else(d1.look p,if d1.look p=0 then d1.tQ ((aM d1.now p).getD 0)else d1)
def aG.j5(d:aG)(a b:aH):Nat:=
 if cz a=false∨cz b=false then 7 else if cr a≠cr b then 13 else d.look a
def aG.rename(d:aG)(a b:aH):Nat×aG:=
 let(g,d1):=d.begin
 if g=false then(11,d1)else(d1.j5 a b,if d1.j5 a b=0∧a≠b then d1.change ⟨a,b,some ((aM d1.now a).getD 0)⟩else d1)
def merge(now stays:dy)(n:aH):dy:=(now.filter (fun x=>cr x.1=n)).foldl (fun l x=>hO l x.1 x.2) (stays.filter (fun x=> !decide (cr x.1=n)))
def aG.m9(d:aG)(n:aH):aG:={d with stays:=merge d.now d.stays n,log:=d.log.filter (fun c=> !decide (c.dir=n))}
def ja(n:aH):Nat:=if n≠[]∧cz n=false then 7 else 0
def aG.iv(d:aG)(n:aH):Nat×aG:=
 let(g,d1):=d.begin
 if g=false then(11,d1)else(ja n,if ja n=0 then d1.m9 n else d1)
def aG.fz(d:aG)(p:aH):Nat:=if d.dead=true then 11 else d.look p
def aG.cB(d:aG)(p:aH):List UInt8:=if d.fz p=0 then d.dp p else[]
def ye(d:List Int)(at_ of:Nat):Nat:=if at_<d.length then(d.getD at_ 0%(of:Int)).toNat else 0
def CK(i:List Int)(d:aG)(s:dy×Nat)(n:aH):dy×Nat:=
 if d.hL n=[]then s else(Ao ((d.hL n).take (ye i s.2 ((d.hL n).length+1))) s.1,s.2+1)
def CL(d:List Int)(s:List f_×Nat)(x:aH×Nat):List f_×Nat:=
 let f:=b5 s.1 x.2
 if f.w=[]then s
 else
  let b:=zE f.w f.stays (ye d s.2 (H3 f.w))
  (s.1.set x.2 ⟨b,b,[]⟩,s.2+1)
def w2:List aH→aH→List aH
 |[],p=>[p]
 |x::l,p=>if blt x p then x::w2 l p else if x=p then x::l else p::x::l
def aG.CU(d:aG):List aH:=(d.log.map dN.dir).foldl w2 []
def aG.p8(d:aG)(i:List Int):dy×Nat:=d.CU.foldl (CK i d) (d.stays,0)
def aG.CJ(d:aG)(i:List Int):List f_×Nat:=(d.p8 i).1.foldl (CL i) (d.fs,(d.p8 i).2)
def aG.Iu(d:aG)(i:List Int):aG:=
 {d with fs:=(d.CJ i).1,now:=(d.p8 i).1,stays:=(d.p8 i).1,log:=[],left:=0,dead:=false}
theorem EP(l:dy):∀(m:dy) (q:aH),fe l→aM (l.foldl (fun l x=>hO l x.1 x.2) m) q=match aM l q with|some i=>some i|none=>aM m q:=by
 induction l with
 |nil=>intro m q _;rfl
 |cons x l ih=>
  intro m q h;unfold fe at h;rw[List.pairwise_cons]at h;rw[List.foldl_cons,ih _ _ h.2,qG];simp only[aM];by_cases d:q=x.1
  ·have:aM l q=none:=Option.not_isSome_iff_eq_none.1 (fun c=>by
    rw[gQ]at c;obtain⟨z,j,e⟩:=List.mem_map.1 c;exact mH (h.1 z j) (by rw[e,d]))
   rw[if_pos d,if_pos d,this]
  ·rw[if_neg d,if_neg d]
theorem xt{now stays:dy}(h:fe now)(n q:aH):aM (merge now stays n) q=if cr q=n then aM now q else aM stays q:=by
 unfold merge;rw[EP _ _ _ (h.filter _),sP (f:=fun p=>decide (cr p=n)),sP (f:=fun p=> !decide (cr p=n))];by_cases d:cr q=n
 ·simp only[d,decide_true,if_true,Bool.not_true,Bool.false_eq_true,if_false]
  cases aM now q<;>rfl
 ·simp[d]
theorem Az(l:dy):∀m:dy,fe m→fe (l.foldl (fun l x=>hO l x.1 x.2) m):=by
 induction l with
 |nil=>intro m h;exact h
 |cons x l ih=>intro m h;exact ih _ (uH h _ _)
theorem AA{now stays:dy}(h:fe stays)(n:aH):fe (merge now stays n):=Az _ _ (h.filter _)
end E

namespace rA
open E
section
variable {α : Type} [DecidableEq α]
def lcs:List α→List α→Nat
 |[],_=>0
 |_::_,[]=>0
 |x::xs,y::ys=>if x=y then lcs xs ys+1 else max (lcs xs (y::ys)) (lcs (x::xs) ys)
termination_by a b => a.length + b.length
def ch:List α→List α→List Int
 |[],[]=>[]
 |[],_::ys=>2::ch [] ys
 |_::xs,[]=>1::ch xs []
 |x::xs,y::ys=>if x=y then 0::ch xs ys else if lcs xs (y::ys)=lcs (x::xs) (y::ys)then 1::ch xs (y::ys)else 2::ch (x::xs) ys
termination_by a b => a.length + b.length
end
theorem sT{κ β:Type}[DecidableEq κ]{k s:κ}{b:β}:∀{m:List (κ×β)},aM (m++[(s,b)]) k=(aM m k).or (if k=s then some b else none)
 |[]=>by by_cases h:k=s<;>simp[aM,h]
 |(a,c)::m=>by
  simp only[List.cons_append,aM];split
  ·rfl
  ·exact sT
end rA

namespace eR
open E Go.RowKit eM eP e1 e7 ev eQ
section
variable {β : Type}
def de(l:List (aH×β)):Prop:=l.Pairwise (fun x y=>blt x.1 y.1)
theorem de.qW{l:List (aH×β)}(h:de l):jJ (l.map (·.1)):=by unfold jJ;rw[List.pairwise_map];exact h
theorem de.nodup{l:List (aH×β)}(h:de l):(l.map (·.1)).Nodup:=tr h.qW
theorem de.nil:de ([]:List (aH×β)):=List.Pairwise.nil
theorem de.tail{x:aH×β}{l:List (aH×β)}(h:de (x::l)):de l:=(List.pairwise_cons.1 h).2
def d_:List (aH×β)→aH→β→List (aH×β)
 |[],p,i=>[(p,i)]
 |x::l,p,i=>if x.1=p then(p,i)::l else if blt p x.1 then(p,i)::x::l else x::d_ l p i
theorem o1(l:List (aH×β))(p:aH)(i:β)(q:aH)(h:de l):aM (d_ l p i) q=if q=p then some i else aM l q:=by
 induction l with
 |nil=>simp[d_,aM]
 |cons x l ih=>
  unfold d_;split
  ·rename_i U
   simp only[aM];by_cases d:q=p
   ·simp[d]
   ·rw[if_neg d,if_neg d,if_neg (fun e=>d (e.trans U))]
  ·split
   ·simp only[aM]
   ·simp only[aM,ih h.tail]
    by_cases d:q=x.1
    ·rw[if_pos d,if_pos d,if_neg (fun e=>by rename_i j _;exact j (by rw[←d,e]))]
    ·rw[if_neg d,if_neg d]
theorem qD{l:List (aH×β)}{p:aH}{i:β}{x:aH×β}(h:x∈d_ l p i):x=(p,i)∨x∈l:=by
 induction l with
 |nil=>simp[d_]at h;exact .inl h
 |cons y l ih=>
  unfold d_ at h;split at h
  ·rcases List.mem_cons.1 h with e|h
   ·exact .inl e
   ·exact .inr (List.mem_cons_of_mem _ h)
  ·split at h
   ·rcases List.mem_cons.1 h with e|h
    ·exact .inl e
    ·exact .inr h
   ·rcases List.mem_cons.1 h with e|h
    ·exact .inr (by rw[e];exact List.mem_cons_self)
    ·rcases ih h with e|h
     ·exact .inl e
     ·exact .inr (List.mem_cons_of_mem _ h)
theorem nI{l:List (aH×β)}(h:de l)(p:aH)(i:β):de (d_ l p i):=by
 induction l with
 |nil=>exact List.pairwise_singleton _ _
 |cons x l ih=>
  have av:=List.pairwise_cons.1 h;unfold d_;split
  ·rename_i U
   exact List.pairwise_cons.2 ⟨fun y hy=>by rw[←U];exact av.1 y hy,av.2⟩
  ·split
   ·rename_i d U
    refine List.pairwise_cons.2 ⟨fun y hy=>?_,h⟩;rcases List.mem_cons.1 hy with e|hy
    ·rw[e];exact U
    ·exact nr U (av.1 y hy)
   ·rename_i d U
    refine List.pairwise_cons.2 ⟨fun y hy=>?_,ih av.2⟩;rcases qD hy with e|hy
    ·rw[e]
     refine Classical.byContradiction (fun j=>d ?_);exact lT j U
    ·exact av.1 y hy
theorem sv{l:List (aH×β)}(h:de l)(p:aH):de (ea l p):=List.Pairwise.filter _ h
theorem qC{l:List (aH×β)}{p:aH}{x:aH×β}(h:x∈ea l p):x∈l∧x.1≠p:=by
 have:=List.mem_filter.1 h;exact⟨this.1,by simpa using this.2⟩
theorem yj{α:Type}{R:α→α→Prop}(k:∀x,¬R x x)(pq:∀x y,R x y→¬R y x):∀{a b:List α},a.Pairwise R→b.Pairwise R→(∀x,x∈a↔x∈b)→a=b
 |[],[],_,_,_=>rfl
 |[],y::b,_,_,h=>by have:=(h y).2 List.mem_cons_self;cases this
 |x::a,[],_,_,h=>by have:=(h x).1 List.mem_cons_self;cases this
 |x::a,y::b,j,aw,h=>by
  rw[List.pairwise_cons]at j aw
  have e:x=y:=by
   rcases List.mem_cons.1 ((h x).1 List.mem_cons_self)with e|d
   ·exact e
   ·rcases List.mem_cons.1 ((h y).2 List.mem_cons_self)with e|U
    ·exact e.symm
    ·exact absurd (j.1 _ U) (pq _ _ (aw.1 _ d))
  subst e;congr 1;refine yj k pq j.2 aw.2 (fun z=>⟨fun i=>?_,fun i=>?_⟩)
  ·rcases List.mem_cons.1 ((h z).1 (List.mem_cons_of_mem _ i))with e|d
   ·subst e;exact absurd (j.1 _ i) (k _)
   ·exact d
  ·rcases List.mem_cons.1 ((h z).2 (List.mem_cons_of_mem _ i))with e|d
   ·subst e;exact absurd (aw.1 _ i) (k _)
   ·exact d
theorem sw{a b:List (aH×β)}(j:de a)(aw:de b)(h:∀q,aM a q=aM b q):a=b:=
 yj (R:=fun x y:aH×β=>blt x.1 y.1) (fun x=>mG _) (fun x y=>oB) j aw (fun x=>by
  have i:=h x.1;constructor
  ·intro d
   have U:=l5 j.nodup (show(x.1,x.2)∈a from d);rw[i]at U;exact E.o2 U
  ·intro d
   have U:=l5 aw.nodup (show(x.1,x.2)∈b from d);rw[←i]at U;exact E.o2 U)
theorem nV{α:Type}[DecidableEq α]:∀{a b:List α},a.Nodup→(∀k∈a,k∈b)→a.length≤b.length
 |[],b,_,_=>Nat.zero_le _
 |x::a,b,aA,al=>by
  rw[List.nodup_cons]at aA;have h:=nV (b:=b.erase x) aA.2 (fun k d=>(List.mem_erase_of_ne (fun e=>aA.1 (by rw[←e];exact d))).2 (al k (List.mem_cons_of_mem _ d)));have i:=al x List.mem_cons_self;rw[List.length_erase_of_mem i]at h;have:=List.length_pos_of_mem i;simp only[List.length_cons];omega
theorem sQ{a b:List (aH×β)}(j:(a.map (·.1)).Nodup)(aw:(b.map (·.1)).Nodup)(h:∀q,aM a q=aM b q):a.length=b.length:=by
 have i:=nV j (fun k d=>by rw[←gQ,←h,gQ];exact d);have U:=nV aw (fun k d=>by rw[←gQ,h,gQ];exact d);rw[List.length_map,List.length_map]at i U;omega
theorem wT(l:List (aH×β))(p:aH)(i:β):(d_ l p i).length≤l.length+1:=by
 induction l with
 |nil=>simp[d_]
 |cons x l ih=>unfold d_;split<;>(try split)<;>simp<;>omega
theorem Dx{l:List (aH×β)}{p:aH}{i:β}{k:Nat}(o:k<l.length)(n:∀j (h:j<l.length),j<k→blt l[j].1 p)(U:l[k].1=p):d_ l p i=l.set k (p,i):=by
 induction l generalizing k with
 |nil=>simp at o
 |cons x l ih=>
  cases k with
  |zero=>simp only[List.getElem_cons_zero]at U;rw[d_,if_pos U];rfl
  |succ k=>
   have d:=n 0 (by simp) (by omega);simp only[List.getElem_cons_zero]at d;rw[d_,if_neg (mH d),if_neg (oB d),List.set_cons_succ];congr 1;exact ih (by simpa using o) (fun j h q=>by have:=n (j+1) (by simp;omega) (by omega);simpa using this) (by simpa using U)
theorem sy{l:List (aH×β)}{p:aH}{i:β}{k:Nat}(o:k≤l.length)(n:∀j (h:j<l.length),j<k→blt l[j].1 p)(U:∀h:k<l.length,blt p l[k].1):d_ l p i=l.take k++(p,i)::l.drop k:=by
 induction l generalizing k with
 |nil=>simp[d_]
 |cons x l ih=>
  cases k with
  |zero=>
   have d:=U (by simp);simp only[List.getElem_cons_zero]at d
   rw[d_,if_neg (fun e=>mH d e.symm),if_pos d];rfl
  |succ k=>
   have d:=n 0 (by simp) (by omega);simp only[List.getElem_cons_zero]at d;rw[d_,if_neg (mH d),if_neg (oB d),List.take_succ_cons,List.drop_succ_cons,List.cons_append];congr 1;exact ih (by simpa using o) (fun j h q=>by have:=n (j+1) (by simp;omega) (by omega);simpa using this) (fun h=>by have:=U (by simp;omega);simpa using this)
end
def _root_.Go.Proofs.YtfjmpninmdjcaaaGreatDoor.ev.cZ.p(x:cZ):cZ:={x with cd:=cM}
abbrev dR:=List (aH×cY)
abbrev kc:=List (aH×List cE)
abbrev jH:=List (aH×List UInt8)
structure eA where
 an:List UInt8
 b8:dR
 dK:kc
 q:cZ
 gD:jH
def bG(l:List cA):dR:=l.map (fun x=>(x.n,x.i))
def cp(l:List e8):kc:=l.map (fun x=>(x.n,x.l))
def cn(l:List bA):jH:=l.map (fun x=>(x.k.1,x.d))
def _root_.Go.Proofs.YtfjmpninmdjcaaaGreatDoor.ev.cW.m(s:cW):eA:=⟨s.an,bG s.ba,cp s.bW,s.q.p,cn s.el⟩
def dL(l:dR)(m:bF):dR:=if m.w=bz then ea l m.n else d_ l m.n m.w
def h0(l:List cE):List cE:=l.drop (l.length-100)
def hl(l:kc)(m:bF):kc:=if m.w=bz then ea l m.n else d_ l m.n (h0 ((aM l m.n).getD []++[⟨m.J,m.w,m.y⟩]))
def gB(l:jH)(el:List bA):jH:=el.foldl (fun l x=>d_ l x.k.1 x.d) l
def eA.ap(s:eA)(t:b1):eA:=⟨if t.bE=true then t.an else s.an,t.ml.foldl dL s.b8,t.ml.foldl hl s.dK,if t.al=true then(if t.q.k=0 then hE else t.q.p)else s.q,gB s.gD t.el⟩
def lI:eA:=⟨[],[],[],hE,[]⟩
def hK(l:dR)(n:aH):cY:=(aM l n).getD bz
def gR(l:dR)(pre:List bF)(m:bF):Int:=if c6 m.n≠0 then 7 else if m.n∈pre.map (·.n)then 18 else if hK l m.n≠m.J then 21 else if m.w=m.J then 26 else 0
def h3(l:dR):List bF→List bF→Int
 |_,[]=>0
 |pre,m::r=>if gR l pre m≠0 then gR l pre m else h3 l (pre++[m]) r
def hM(u:dR)(m:bF):Bool:=decide (m.J=bz∧m.w≠bz)&&(u.map (·.1)).any (fun x=>decide (x≠m.n)&&i_ m.n x)
def nF(u:dR)(l:List bF):Int:=if l.any (hM u)=true then 13 else 0
def fx(l:dR)(ml:List bF):Int:=if h3 l [] ml≠0 then h3 l [] ml else if 200<(ml.foldl dL l).length then 4 else nF (ml.foldl dL l) ml
def ig(l:jH)(el:List bA):Int:=if ie el≠0 then ie el else if 500<(gB l el).length then 4 else 0
def fw(t:b1):Int:=if t.bE=true∧t.an≠[]then c6 t.an else 0
def gl(t:b1):Int:=if t.al=true∧t.q.k≠0 then gJ t.q else 0
def eF(t:b1):Int:=if t.bE=false∧t.al=false∧t.ml=[]∧t.el=[]then 1 else 0
def eI(s:eA)(t:b1):Int:=if eF t≠0 then eF t else if fw t≠0 then fw t else if fx s.b8 t.ml≠0 then fx s.b8 t.ml else if gl t≠0 then gl t else ig s.gD t.el
structure eA.Ok (s:eA):Prop where
 fa:de s.b8
 Fv:∀x∈s.b8,x.2≠bz
 cL:s.dK.map (·.1)=s.b8.map (·.1)
 sL:de s.gD
 g_:s.b8.length≤200
 iN:s.gD.length≤500
 ba:∀x∈s.b8,x.1.length≤60
 bW:∀x∈s.dK,x.2.length≤100
 md:∀x∈s.gD,x.2.length≤65536
 iU:s.q.a6.length≤100
theorem rp:lI.Ok:=⟨de.nil,(fun x h=>by cases h),rfl,de.nil,by simp[lI],by simp[lI],(fun x h=>by cases h),(fun x h=>by cases h),(fun x h=>by cases h),by simp[lI,hE]⟩
theorem eA.Ok.c7{s:eA}(h:s.Ok):de s.dK:=by
 have d:=h.fa.qW;rw[←h.cL]at d;unfold jJ at d;rw[List.pairwise_map]at d;exact d
theorem o3{l:dR}(h:de l)(m:bF)(q:aH):aM (dL l m) q=if q=m.n then(if m.w=bz then none else some m.w)else aM l q:=by
 unfold dL;split
 ·rw[jg]
 ·rw[o1 _ _ _ _ h]
theorem qp{l:dR}(h:de l)(m:bF):de (dL l m):=by
 unfold dL;split
 ·exact sv h _
 ·exact nI h _ _
theorem Dv{l:kc}(h:de l)(m:bF):de (hl l m):=by
 unfold hl;split
 ·exact sv h _
 ·exact nI h _ _
theorem kq:∀{ml:List bF} {l:dR},de l→de (ml.foldl dL l)
 |[],_,h=>h
 |m::ml,l,h=>kq (ml:=ml) (qp h m)
theorem qo:∀{ml:List bF} {l:kc},de l→de (ml.foldl hl l)
 |[],_,h=>h
 |m::ml,l,h=>qo (ml:=ml) (Dv h m)
theorem qn:∀{el:List bA} {l:jH},de l→de (gB l el)
 |[],_,h=>h
 |m::el,l,h=>qn (el:=el) (nI h _ _)
theorem w8{β γ:Type}:∀{l:List (aH×β)} {k:List (aH×γ)} (p:aH) (b:β) (c:γ),l.map (·.1)=k.map (·.1)→(d_ l p b).map (·.1)=(d_ k p c).map (·.1)
 |[],[],p,b,c,_=>rfl
 |x::l,[],p,b,c,h=>by simp at h
 |[],y::k,p,b,c,h=>by simp at h
 |x::l,y::k,p,b,c,h=>by
  simp only[List.map_cons,List.cons.injEq]at h;have ih:=w8 p b c h.2;unfold d_;rw[h.1];split
  ·simp[h.2]
  ·split
   ·simp[h.1,h.2]
   ·simp[h.1,ih]
theorem w7{β γ:Type}:∀{l:List (aH×β)} {k:List (aH×γ)} (p:aH),l.map (·.1)=k.map (·.1)→(ea l p).map (·.1)=(ea k p).map (·.1)
 |[],[],p,_=>rfl
 |x::l,[],p,h=>by simp at h
 |[],y::k,p,h=>by simp at h
 |x::l,y::k,p,h=>by
  simp only[List.map_cons,List.cons.injEq]at h;have ih:=w7 p h.2;unfold ea at ih⊢;by_cases d:y.1=p
  ·rw[List.filter_cons_of_neg (by simp[h.1,d]),List.filter_cons_of_neg (by simp[d]),ih]
  ·rw[List.filter_cons_of_pos (by simp[h.1,d]),List.filter_cons_of_pos (by simp[d]),List.map_cons,List.map_cons,h.1,ih]
theorem qv:∀{ml:List bF} {l:kc} {k:dR},l.map (·.1)=k.map (·.1)→(ml.foldl hl l).map (·.1)=(ml.foldl dL k).map (·.1)
 |[],_,_,h=>h
 |m::ml,l,k,h=>by
  refine qv (ml:=ml) (l:=hl l m) (k:=dL k m) ?_;unfold hl dL;split
  ·exact w7 _ h
  ·exact w8 _ _ _ h
theorem E0{l:dR}{m:bF}{x:aH×cY}(h:x∈dL l m):x∈l∨(x=(m.n,m.w)∧m.w≠bz):=by
 unfold dL at h;split at h
 ·exact .inl (qC h).1
 ·rename_i d
  rcases qD h with e|h
  ·exact .inr ⟨e,d⟩
  ·exact .inl h
theorem qK:∀{ml:List bF} {l:dR} {x:aH×cY},x∈ml.foldl dL l→x∈l∨∃m∈ml,x=(m.n,m.w)∧m.w≠bz
 |[],_,_,h=> .inl h
 |m::ml,l,x,h=>by
  rcases qK (ml:=ml) (l:=dL l m) h with h|⟨y,hy,h⟩
  ·rcases E0 h with h|h
   ·exact .inl h
   ·exact .inr ⟨m,List.mem_cons_self,h⟩
  ·exact .inr ⟨y,List.mem_cons_of_mem _ hy,h⟩
theorem qw(l:List cE):(h0 l).length≤100:=by unfold h0;rw[List.length_drop];omega
theorem sX:∀{ml:List bF} {l:kc},(∀x∈l,x.2.length≤100)→∀x∈ml.foldl hl l,x.2.length≤100
 |[],_,h=>h
 |m::ml,l,h=>by
  refine sX (ml:=ml) (l:=hl l m) (fun x d=>?_);unfold hl at d;split at d
  ·exact h x (qC d).1
  ·rcases qD d with e|d
   ·rw[e];exact qw _
   ·exact h x d
theorem ux:∀{el:List bA} {l:jH} {x:aH×List UInt8},x∈gB l el→x∈l∨∃m∈el,x=(m.k.1,m.d)
 |[],_,_,h=> .inl h
 |m::el,l,x,h=>by
  rcases ux (el:=el) (l:=d_ l m.k.1 m.d) h with h|⟨y,hy,h⟩
  ·rcases qD h with h|h
   ·exact .inr ⟨m,List.mem_cons_self,h⟩
   ·exact .inl h
  ·exact .inr ⟨y,List.mem_cons_of_mem _ hy,h⟩
theorem nU:∀{ml:List bF} {l:dR} {pre:List bF},h3 l pre ml=0→∀m∈ml,c6 m.n=0
 |[],_,_,_,m,h=>by cases h
 |x::ml,l,pre,h,m,hm=>by
  rw[h3]at h;by_cases d:gR l pre x≠0
  ·rw[if_pos d]at h;exact absurd h d
  ·rw[if_neg d]at h
   rcases List.mem_cons.1 hm with rfl|hm
   ·unfold gR at d
    refine Classical.byContradiction (fun U=>d ?_);rw[if_pos U];decide
   ·exact nU h m hm
theorem o0:∀{el:List bA},ie el=0→∀y∈el,gE y=0
 |[],_,y,h=>by cases h
 |x::el,h,y,hy=>by
  rw[ie]at h;by_cases d:gE x≠0
  ·rw[if_pos d]at h;exact absurd h d
  ·rw[if_neg d]at h
   rcases List.mem_cons.1 hy with rfl|hy
   ·simpa using d
   ·exact o0 h y hy
theorem GY{x:cZ}(h:gJ x=0):x.a6.length≤100:=by
 unfold gJ at h;split at h
 ·cases h
 split at h
 ·rename_i d U;cases h
 split at h
 ·cases h
 split at h
 ·cases h
 ·omega
structure zV (s:eA) (t:b1):Prop where
 no:eF t=0
 an:fw t=0
 ei:h3 s.b8 [] t.ml=0
 g_:(t.ml.foldl dL s.b8).length≤200
 Dt:nF (t.ml.foldl dL s.b8) t.ml=0
 h6:gl t=0
 gD:ie t.el=0
 iN:(gB s.gD t.el).length≤500
theorem p2{s:eA}{t:b1}(h:eI s t=0):zV s t:=by
 unfold eI at h;split at h
 ·rename_i i;exact absurd h i
 rename_i i;split at h
 ·rename_i U;exact absurd h U
 rename_i U;split at h
 ·rename_i j;exact absurd h j
 rename_i j;split at h
 ·rename_i k;exact absurd h k
 rename_i k;have d:fx s.b8 t.ml=0:=by simpa using j
 unfold fx at d;split at d
 ·rename_i n;exact absurd d n
 rename_i n;split at d
 ·cases d
 rename_i q;unfold ig at h;split at h
 ·rename_i o;exact absurd h o
 rename_i o;split at h
 ·cases h
 rename_i r;exact⟨by simpa using i,by simpa using U,by simpa using n,by omega,d,by simpa using k,by simpa using o,by omega⟩
theorem eA.Ok.ap{s:eA}{t:b1}(h:s.Ok)(av:eI s t=0):(s.ap t).Ok:=by
 have c:=p2 av;refine⟨kq h.fa,fun x i=>?_,qv h.cL,qn h.sL,c.g_,c.iN,fun x i=>?_,sX h.bW,fun x i=>?_,?_⟩
 ·rcases qK i with i|⟨m,_,e,d⟩
  ·exact h.Fv x i
  ·rw[e];exact d
 ·rcases qK i with i|⟨m,hm,e,d⟩
  ·exact h.ba x i
  ·rw[e];exact((mK m.n).1 (nU c.ei m hm)).1
 ·rcases ux i with i|⟨m,hm,e⟩
  ·exact h.md x i
  ·rw[e]
   have d:=o0 c.gD m hm;unfold gE at d;split at d
   ·cases d
   ·split at d
    ·cases d
    ·show m.d.length≤65536;omega
 ·show(if t.al=true then(if t.q.k=0 then hE else t.q.p)else s.q).a6.length≤100
  by_cases d:t.al=true
  ·rw[if_pos d]
   by_cases U:t.q.k=0
   ·rw[if_pos U];simp[hE]
   ·rw[if_neg U]
    have j:=c.h6;unfold gl at j;rw[if_pos ⟨d,U⟩]at j;exact GY j
  ·rw[if_neg d];exact h.iU
theorem sS(m:List (aH×cY))(x:bF)(q:aH):aM (j0 m x) q=if q=x.n then(if x.w=bz then none else some x.w)else aM m q:=by
 unfold j0;split
 ·rw[jg]
 ·rw[kV]
theorem xv:∀(l:List cA),((bG l).map (·.1)).Nodup→∀q,aM (lF l) q=aM (bG l) q:=by
 have key:∀(k:List cA),((bG k.reverse).map (·.1)).Nodup→∀q,aM (lF k.reverse) q=aM (bG k.reverse) q:=by
  intro k
  induction k with
  |nil=>intro _ q;rfl
  |cons x k ih=>
   intro aA q;rw[List.reverse_cons]at aA⊢;rw[zc,kV];have e:bG (k.reverse++[x])=bG k.reverse++[(x.n,x.i)]:=by simp[bG]
   rw[e]at aA⊢;rw[List.map_append,List.nodup_append]at aA;rw[rA.sT,ih aA.1];by_cases d:q=x.n
   ·subst d
    have:aM (bG k.reverse) x.n=none:=by
     cases i:aM (bG k.reverse) x.n with
     |none=>rfl
     |some z=>exact absurd rfl (aA.2.2 x.n (gQ.1 (by rw[i];rfl)) x.n (by simp))
    rw[this];simp
   ·simp[d]
 intro l aA q;have:=key l.reverse (by rwa[List.reverse_reverse]) q;rwa[List.reverse_reverse]at this
theorem kp{α β:Type}{f:β→α→β}{l:List α}{b:β}{j:Nat}(h:j<l.length):(l.take (j+1)).foldl f b=f ((l.take j).foldl f b) l[j]:=by
 rw[List.take_succ_eq_append_getElem h,List.foldl_append];rfl
theorem pO{l:jH}{el:List bA}{j:Nat}(h:j<el.length):gB l (el.take (j+1))=d_ (gB l (el.take j)) el[j].k.1 el[j].d:=kp h
theorem rL:∀(el:List bA) (l:jH),(gB l el).length≤l.length+el.length
 |[],l=>Nat.le_refl _
 |x::el,l=>by
  have d:=rL el (d_ l x.k.1 x.d);have U:=wT l x.k.1 x.d;show(gB (d_ l x.k.1 x.d) el).length≤_;simp only[List.length_cons];omega
theorem uw:∀{el:List bA} {l:jH},de l→∀(k:aH),(k∈(gB l el).map (·.1)↔k∈l.map (·.1)∨∃x∈el,x.k.1=k)
 |[],l,_,k=>by simp[gB]
 |x::el,l,h,k=>by
  have ih:=uw (el:=el) (nI h x.k.1 x.d) k;show k∈(gB (d_ l x.k.1 x.d) el).map (·.1)↔_;rw[ih,←gQ,←gQ,o1 _ _ _ _ h];by_cases d:k=x.k.1
  ·subst d;simp
  ·rw[if_neg d]
   have i:¬x.k.1=k:=fun e=>d e.symm;simp[i]
theorem D1{s el:List bA}(al:de (cn s)){m:List (cY×Int)}(aA:(m.map (·.1)).Nodup)(hm:∀k,k∈m.map (·.1)↔(∃x∈s,x.k=k)∨∃x∈el,x.k=k):m.length=(gB (cn s) el).length:=by
 have o:=(qn (el:=el) al).nodup
 have r:((m.map (·.1)).map (·.1)).Nodup:=by
  rw[List.nodup_iff_pairwise_ne]at aA⊢;rw[List.pairwise_map];exact aA.imp (fun h e=>h (Subtype.ext e))
 have e:∀k,k∈(m.map (·.1)).map (·.1)↔k∈(gB (cn s) el).map (·.1):=by
  intro k;rw[uw al];constructor
  ·intro h
   obtain⟨i,q,rfl⟩:=List.mem_map.1 h;rcases(hm i).1 q with⟨x,d,e⟩|⟨x,d,e⟩
   ·exact .inl (List.mem_map.2 ⟨(x.k.1,x.d),List.mem_map.2 ⟨x,d,rfl⟩,by rw[e]⟩)
   ·exact .inr ⟨x,d,by rw[e]⟩
  ·rintro(h|⟨x,d,rfl⟩)
   ·obtain⟨y,hy,rfl⟩:=List.mem_map.1 h
    obtain⟨x,d,rfl⟩:=List.mem_map.1 hy;exact List.mem_map.2 ⟨x.k,(hm _).2 (.inl ⟨x,d,rfl⟩),rfl⟩
   ·exact List.mem_map.2 ⟨x.k,(hm _).2 (.inr ⟨x,d,rfl⟩),rfl⟩
 have n:=nV r (fun k j=>(e k).1 j);have U:=nV o (fun k j=>(e k).2 j);rw[List.length_map,List.length_map,List.length_map]at n;rw[List.length_map,List.length_map,List.length_map]at U;omega
theorem sY:∀{ml:List bF} {l:dR} {pre:List bF} {j:Nat} (d:j<ml.length),(∀i (h:i<j),gR l (pre++ml.take i) (ml[i]'(by omega))=0)→gR l (pre++ml.take j) ml[j]≠0→h3 l pre ml=gR l (pre++ml.take j) ml[j]
 |x::ml,l,pre,0,d,_,h=>by
  simp only[List.take_zero,List.append_nil,List.getElem_cons_zero]at h⊢
  rw[h3,if_pos h]
 |x::ml,l,pre,j+1,d,h,U=>by
  have k:=h 0 (by omega);simp only[List.take_zero,List.append_nil,List.getElem_cons_zero]at k;rw[h3,if_neg (by rw[k];decide)];have ih:=sY (ml:=ml) (l:=l) (pre:=pre++[x]) (j:=j) (by simpa using d) (fun i n=>by have:=h (i+1) (by omega);simpa using this) (by simpa using U)
  simpa using ih
theorem sZ:∀{ml:List bF} {l:dR} {pre:List bF},(∀i (h:i<ml.length),gR l (pre++ml.take i) ml[i]=0)→h3 l pre ml=0
 |[],_,_,_=>rfl
 |x::ml,l,pre,h=>by
  have d:=h 0 (by simp);simp only[List.take_zero,List.append_nil,List.getElem_cons_zero]at d;rw[h3,if_neg (by rw[d];decide)];exact sZ (fun i j=>by have:=h (i+1) (by simp;omega);simpa using this)
theorem EY(l:dR)(pre:List bF)(m:bF):hY [c6 m.n,dm (!(pre.any (fun x=>decide (x.n=m.n)))) 18,dm (decide (hK l m.n=m.J)) 21,dm (decide (¬m.w=m.J)) 26]=gR l pre m:=by
 unfold gR
 have e:(pre.any (fun x=>decide (x.n=m.n)))=decide (m.n∈pre.map (·.n)):=by
  rw[Bool.eq_iff_iff];simp
 rw[e];simp only[hY,dm,decide_eq_true_eq,Bool.not_eq_true',decide_eq_false_iff_not];rcases p5 m.n with av|av<;>by_cases U:m.n∈pre.map (·.n)<;>by_cases d:hK l m.n=m.J<;>by_cases i:m.w=m.J<;>simp[av,U,d,i]
theorem wJ{s:aH}{l:List aH}(av:c6 s=0)(aA:s∉l):iH s l=if l.any (i_ s)=true then 13 else 0:=by
 have e:base s l=0:=by unfold base;rw[if_neg (by rw[av];decide),if_neg aA]
 unfold iH;rw[e,if_neg (by decide)]
end eR

namespace dz
open E Go.RowKit
set_option maxRecDepth 100000 in
theorem dC:c4 Tryz.prog 57 5 1 1:=⟨Tryz.underlying57,_,_,rfl,rfl,rfl,rfl,rfl⟩
def cm:Nat→UInt64→List UInt8
 |0,_=>[]
 |j+1,x=>UInt8.ofNat (iS x (8*j)).toNat::cm j x
theorem dT:∀(n:Nat) (x:UInt64),(cm n x).length=n
 |0,_=>rfl
 |n+1,x=>by rw[cm,List.length_cons,dT]
theorem l7(k:Nat)(v:Value)(xs:List UInt8)(n:Nat)(x:UInt64)(w0:World)(I:Heap)
 (i:aV k 5 I a1 1 v xs) (aA:n≤8) (aY:xs.length≤1099511627776):
 aC Tryz.prog w0 120 #[v,.int .i64 n,.int .u64 x.toNat] I (fun r L=>∃v2:Value,∃a8:Nat,r=v2∧(aV a8 5 L a1 1 v2 (xs++cm n x))∧(T k I.size a8)∧W (aE [k]) I L):=by
 refine aC.aK [v,.int .i64 n,.int .u64 x.toNat] Tryz.func120 ?_;intro aL aI;have C:W (aE [k]) I I:=W.refl _ _;have M:=T.refl k I.size;have ad:=i.le;refine G.L (fun al=>?_);refine o.ak ?_;refine al (G.t1 (fun ar=>G.L (fun ay=>?_)));refine o.V ?_;refine o.v1 fH ?_;refine o.ak ?_;refine ay (G.aB (fun _ az _=>?_))
 refine G.bg (fun(aJ:(Nat)×(Value)×(Nat)×(List UInt8))=>match aJ with|(j,A,t,ys)=>[(0,A),(2,.int .u64 x.toNat),(7,.int .i64 ((j:Int)-1))])
  (fun(j,A,t,ys) (H:Heap)=>(j≤n)∧(aV t 5 H a1 1 A ys)∧(ys++cm j x=xs++cm n x)∧(T k I.size (t))∧W (aE [k]) I H)
  (fun(j,A,t,ys)=>j) (n,v,k,xs) ⟨rfl,rfl,rfl,trivial⟩ ?_ ?_
 ·
  exact⟨(by omega),i,rfl,T.refl _ _,W.refl _ _⟩
 rintro⟨j,A,t,ys⟩ aB aF aK aH P;obtain⟨aX,i,E,ac,d⟩:=aF;have Q:T k I.size (t):=T.L (M) ac C.size;replace C:=C.aJ d (ag.J (aq.r M));have aN:=d.size;have ad:=i.le;have O:=ac;have aZ:ys.length+j=xs.length+n:=by have:=congrArg List.length E;simpa[dT]using this
 refine G.t2 (fun R S=>G.L (fun V=>?_));refine o.V ?_;refine o.v1 dJ (o.nil (V ?_));refine aU (fun X=>?_) (fun X=>?_)
 ·
  obtain⟨j,rfl⟩:∃q,j=q+1:=⟨j-1,by omega⟩;refine G.skip (R (G.t1 (fun Z=>G.aB (fun aa _ _=>G.region ?_))));refine o.ax 3 ?_;refine o.v1 (Y.jx rfl rfl rfl (by omega)) ?_;refine o.v1 (Y.pj (8*j) rfl rfl rfl (by first|rfl|omega) (by omega)) ?_;refine o.v1 (Y.oH rfl gU jD rfl) ?_;refine o.aO (cT _ ([UInt8.ofNat (iS x (8*j)).toNat]) dC eE fK (rfl)) fun aO ap ab=>?_;obtain⟨ai,F,aM,ak⟩:=ab;have aW:ap.size=aB.size+1:=by rw[ak];simp
  replace i:=i.M F;replace d:=d.bc F;have aQ:=F.size;refine o.aO (dQ i ai.rd dC (by first|omega|(simp;omega)) (by first|omega|(simp;omega))) fun ae aR af=>?_;obtain⟨au,N,K,B⟩:=af;replace K:T (t) ap.size au:=K;replace B:=B.md;have ah:T k I.size au:=T.L (O) K d.size;replace d:=d.aJ B (ag.J (aq.r O));have aS:=B.size;have aT:=N.le;refine o.ak ?_;refine aa (Z (G.region ?_));refine o.V ?_;refine o.v1 fH ?_;refine o.ak ?_;refine aP.sub (aH (j,ae,au,ys++[UInt8.ofNat (iS x (8*j)).toNat]) _ ?_ ?_) ⟨rfl,(aD (by omega)),(aD (by omega)),trivial⟩
  ·exact⟨(by omega),N,by rw[←E,List.append_assoc];rfl,ah,d⟩
  ·first|omega|(simp only;omega)|(simp;omega)
 ·
  obtain rfl:j=0:=by omega
  rw[cm,List.append_nil]at E;subst E;refine G.exit (S (P (az ?_)));refine ar (G.L (fun am=>?_));refine o.aQ 2 ?_;refine am ?_;refine G.ret (aI ?_);exact⟨A,t,rfl,i,Q,C⟩
end dz

namespace fC
open E Go.RowKit eM eP e1 e7 ev eQ eR dz
set_option maxRecDepth 100000 in
theorem dC:c4 Tryz.prog 57 5 1 1:=⟨Tryz.underlying57,_,_,rfl,rfl,rfl,rfl,rfl⟩
def fQ(n:Nat)(s:List UInt8):List UInt8:=cm n (UInt64.ofNat s.length)++s
def iO(m:bF):List UInt8:=fQ 1 m.n++(m.J.1++(m.w.1++fQ 2 m.y))
def j_(t:fE):List UInt8:=cm 1 (UInt64.ofNat t.d.toNat)++t.i.1
def j9(q:cZ):List UInt8:=cm 1 (UInt64.ofNat q.k.toNat)++(if q.k=0 then[]else fQ 1 q.br++(q.bX.1++(q.bm.1++(cm 2 (UInt64.ofNat q.a6.length)++(q.a6.flatMap j_++(cm 2 (UInt64.ofNat q.dn.toNat)++(cm 2 (UInt64.ofNat q.md.toNat)++cm 1 (if q.st=true then 1 else 0))))))))
def iM(m:bA):List UInt8:=m.k.1++fQ 4 m.d
def qm(t:b1):UInt64:=(if t.bE=true then 1 else 0)|||(if t.al=true then 2 else 0)
def fl(t:b1):List UInt8:=cm 1 (qm t)++((if t.bE=true then fQ 1 t.an else[])++(cm 2 (UInt64.ofNat t.ml.length)++(t.ml.flatMap iO++((if t.al=true then j9 t.q else[])++(cm 2 (UInt64.ofNat t.el.length)++t.el.flatMap iM)))))
theorem hc(n:Nat)(s:List UInt8):(fQ n s).length=n+s.length:=by unfold fQ;rw[List.length_append,dT]
theorem nT(m:bF):(iO m).length=67+m.n.length+m.y.length:=by
 unfold iO;simp only[List.length_append,hc,m.J.2,m.w.2];omega
theorem ra(t:fE):(j_ t).length=33:=by unfold j_;rw[List.length_append,dT,t.i.2]
theorem xA(m:bA):(iM m).length=36+m.d.length:=by unfold iM;rw[List.length_append,hc,m.k.2];omega
theorem nH{α:Type}{f:α→List UInt8}{l:List α}{j:Nat}(h:j<l.length):(l.take (j+1)).flatMap f=(l.take j).flatMap f++f l[j]:=by
 rw[List.take_succ_eq_append_getElem h,List.flatMap_append];simp
theorem mP{α:Type}{f:α→List UInt8}{n:Nat}:∀{l:List α},(∀x∈l,(f x).length≤n)→(l.flatMap f).length≤n*l.length
 |[],_=>by simp
 |x::l,h=>by
  rw[List.flatMap_cons,List.length_append,List.length_cons,Nat.mul_succ];have d:=h x List.mem_cons_self;have U:=mP (l:=l) (fun y hy=>h y (List.mem_cons_of_mem _ hy));omega
structure ob (x:cZ):Prop where
 k:0≤x.k∧x.k≤255
 br:x.br.length≤255
 a6:x.a6.length≤65535
 dn:0≤x.dn∧x.dn≤65535
 md:0≤x.md∧x.md≤65535
 dd:∀t∈x.a6,0≤t.d∧t.d≤255
structure lb (t:b1):Prop where
 ml:t.ml.length≤65535
 el:t.el.length≤65535
 an:t.bE=true→t.an.length≤255
 iN:∀m∈t.ml,m.n.length≤255∧m.y.length≤65535
 md:∀m∈t.el,m.d.length≤65536
 kR:t.al=true→0≤t.q.k∧t.q.k≤255
 h6:t.al=true→t.q.k≠0→ob t.q
theorem tK{q:cZ}(h:q.k=0):j9 q=cm 1 (UInt64.ofNat q.k.toNat):=by unfold j9;rw[if_pos h,List.append_nil]
theorem tL{q:cZ}(h:q.k≠0):j9 q=cm 1 (UInt64.ofNat q.k.toNat)++(fQ 1 q.br++(q.bX.1++(q.bm.1++(cm 2 (UInt64.ofNat q.a6.length)++(q.a6.flatMap j_++(cm 2 (UInt64.ofNat q.dn.toNat)++(cm 2 (UInt64.ofNat q.md.toNat)++cm 1 (if q.st=true then 1 else 0)))))))):=by unfold j9;rw[if_neg h]
theorem Hi{q:cZ}(h:ob q):(j9 q).length≤3000000:=by
 have d:=mP (f:=j_) (n:=33) (l:=q.a6) (fun x _=>by rw[ra];omega);have U:=h.a6;have i:=h.br;unfold j9;split<;>simp only[List.length_append,dT,hc,q.bX.2,q.bm.2,List.length_nil]<;>omega
theorem oY (w0:World)(I:Heap)
 :
 aC Tryz.prog w0 183 #[.int .i64 1] I (fun r d=>r= .int .i64 255∧aj I d):=by
 refine aC.aK [.int .i64 1] Tryz.func183 ?_;intro q n;have k:aj I I:=W.refl _ _;refine G.L (fun i=>?_);refine o.ak ?_;refine i (G.L (fun j=>?_));refine o.V ?_;refine o.v1 (Y.cast (v2:= .int .i64 8) (Y.jx rfl rfl rfl (by decide)) (rfl)) ?_;refine o.v1 (Y.cast (v2:= .int .i64 256) (Y.k2 (8) rfl rfl rfl rfl (by decide) (by decide)) (rfl)) ?_;refine o.v1 (Y.q_ rfl rfl rfl (by decide)) ?_;refine o.ak ?_;refine j ?_;refine G.ret (n ?_);exact⟨rfl,k⟩
theorem xk (w0:World)(I:Heap)
 :
 aC Tryz.prog w0 183 #[.int .i64 2] I (fun r d=>r= .int .i64 65535∧aj I d):=by
 refine aC.aK [.int .i64 2] Tryz.func183 ?_;intro q n;have k:aj I I:=W.refl _ _;refine G.L (fun i=>?_);refine o.ak ?_;refine i (G.L (fun j=>?_));refine o.V ?_;refine o.v1 (Y.cast (v2:= .int .i64 16) (Y.jx rfl rfl rfl (by decide)) (rfl)) ?_;refine o.v1 (Y.cast (v2:= .int .i64 65536) (Y.k2 (16) rfl rfl rfl rfl (by decide) (by decide)) (rfl)) ?_;refine o.v1 (Y.q_ rfl rfl rfl (by decide)) ?_;refine o.ak ?_;refine j ?_;refine G.ret (n ?_);exact⟨rfl,k⟩
theorem Ey (w0:World)(I:Heap)
 :
 aC Tryz.prog w0 183 #[.int .i64 4] I (fun r d=>r= .int .i64 4294967295∧aj I d):=by
 refine aC.aK [.int .i64 4] Tryz.func183 ?_;intro q n;have k:aj I I:=W.refl _ _;refine G.L (fun i=>?_);refine o.ak ?_;refine i (G.L (fun j=>?_));refine o.V ?_;refine o.v1 (Y.cast (v2:= .int .i64 32) (Y.jx rfl rfl rfl (by decide)) (rfl)) ?_;refine o.v1 (Y.cast (v2:= .int .i64 4294967296) (Y.k2 (32) rfl rfl rfl rfl (by decide) (by decide)) (rfl)) ?_;refine o.v1 (Y.q_ rfl rfl rfl (by decide)) ?_;refine o.ak ?_;refine j ?_;refine G.ret (n ?_);exact⟨rfl,k⟩
theorem tX(b:Bool)(n:UInt64)(w0:World)(I:Heap)
 :
 aC Tryz.prog w0 100 #[.bool b,.int .u64 n.toNat] I (fun r j=>r= .int .u64 (if b=true then n else 0:UInt64).toNat∧aj I j):=by
 refine aC.aK [.bool b,.int .u64 n.toNat] Tryz.func100 ?_;intro B i;have d:aj I I:=W.refl _ _;refine G.L (fun k=>?_);refine o.ak ?_;refine k (G.t2 (fun q ac=>G.L (fun ad=>?_)));refine o.V (o.nil (ad ?_));refine cK (fun A=>?_) (fun A=>?_)
 ·
  refine G.L (fun t=>?_);refine o.aQ 2 ?_;refine t ?_;refine G.ret (ac (i ?_));exact⟨by first|(rw[if_pos (by assumption)])|(rw[if_neg (by simp_all)];rfl),d⟩
 ·
  refine G.skip (q (G.L (fun x=>?_)));refine o.ak ?_;refine x ?_;refine G.ret (i ?_);exact⟨by first|(rw[if_pos (by assumption)])|(rw[if_neg (by simp_all)];rfl),d⟩
theorem j8(v:Value)(e:Int)(w0:World)(I:Heap)
 :
 aC Tryz.prog w0 93 #[v,.bool true,.int .i64 e] I (fun r d=>r= .tuple #[]∧aj I d):=by
 refine aC.enter (args:=[v,.bool true,.int .i64 e]) Tryz.func93 rfl rfl rfl ?_;intro n k;have j:aj I I:=W.refl _ _;refine G.L (fun i=>?_);refine o.V ?_;refine o.v1 eL (o.nil (i ?_));refine dw ?_;refine G.skip ?_;refine k .normal (.inl rfl) _ _ _ (iR rfl) ?_;exact⟨rfl,j⟩
theorem k_(t k:Nat)(s:aN)(xs:List UInt8)(n:Nat)(x:UInt64)(w0:World)(I:Heap)
 (i:Var 223 I t [s.v,.int .i64 0,.int .i64 0]) (B:aV k 5 I a1 1 s.v xs) (an:af (t+1) k) (aA:n≤8) (bm:xs.length≤1099511627776):
 aC Tryz.prog w0 99 #[.pointer (some ⟨t,0,none⟩),.int .i64 n,.int .u64 x.toNat] I (fun r R=>∃s2:aN,∃a8:Nat,r= .tuple #[]∧(Var 223 R t [s2.v,.int .i64 0,.int .i64 0])∧(aV a8 5 R a1 1 s2.v (xs++cm n x))∧(T k I.size a8)∧(af (t+1) a8)∧W (aE [(t+1),k]) I R):=by
 refine aC.enter (args:=[.pointer (some ⟨t,0,none⟩),.int .i64 n,.int .u64 x.toNat]) Tryz.func99 rfl rfl rfl ?_;intro bb a7;have P:W (aE [(t+1),k]) I I:=W.refl _ _;have aT:=T.refl (t+1) I.size;have bk:=i.lt;have ad:=T.refl k I.size;have X:=B.le;refine G.L (fun ai=>?_);refine o.V ?_;refine o.v1 (Y.cast (v2:= .int .i64 ((n:Int)-1)) fH (rfl)) ?_;refine o.ak ?_;refine ai (G.aB (fun _ ak _=>?_))
 refine G.bg (fun(ba:(Nat)×(aN)×(Nat)×(List UInt8))=>match ba with|(j,s1,A,ys)=>[(0,.pointer (some ⟨t,0,none⟩)),(2,.int .u64 x.toNat),(6,.int .i64 ((j:Int)-1))])
  (fun(j,s1,A,ys) (H:Heap)=>(j≤n)∧(Var 223 H t [s1.v,.int .i64 0,.int .i64 0])∧(aV A 5 H a1 1 s1.v ys)∧(ys++cm j x=xs++cm n x)∧(T k I.size A)∧(af (t+1) A)∧W (aE [(t+1),k]) I H)
  (fun(j,s1,A,ys)=>j) (n,s,k,xs) ⟨rfl,rfl,rfl,trivial⟩ ?_ ?_
 ·
  exact⟨(by omega),i,B,rfl,T.refl _ _,an,W.refl _ _⟩
 rintro⟨j,s1,A,ys⟩ C al od ar ay;obtain⟨bl,i,B,Q,Z,aW,ac⟩:=al;have az:T k I.size A:=T.L (ad) Z P.size;replace P:=P.aJ ac (ag.cons (aq.r aT) (ag.J (aq.r ad)));have bh:=ac.size;have X:=B.le;have ap:=aW;have aS:=T.refl (t+1) I.size;have S:=Z;have bn:ys.length+j=xs.length+n:=by have:=congrArg List.length Q;simpa[dT]using this
 refine G.t2 (fun aB aF=>G.L (fun aH=>?_));refine o.V ?_;refine o.v1 dJ (o.nil (aH ?_));refine aU (fun aI=>?_) (fun aI=>?_)
 ·
  obtain⟨j,rfl⟩:∃q,j=q+1:=⟨j-1,by omega⟩;refine G.skip (aB (G.t1 (fun aJ=>G.aB (fun aK _ _=>?_))));refine dx (fun F=>W (aE [A]) C F) [13,14,15,16] ?_;have d:W (aE [A]) C C:=W.refl _ _;have aL:=T.refl A C.size;refine O.V 0 rfl d ?_;refine O.V 1 rfl d ?_;refine O.bH 2 rfl d ?_;refine O.t1 3 rfl (fun F E=>Y.fieldAddr (i.ab E (ah.J ap)).N rfl me rfl rfl mb (by decide) rfl) d ?_;refine O.t1 4 rfl (fun F E=>Y.fieldAddr (i.ab E (ah.J ap)).N rfl k8 rfl rfl db (by decide) rfl) d ?_;refine O.t1 5 rfl (fun F E=>Y.fU (i.ab E (ah.J ap)).N rfl eD rfl) d ?_;refine O.V 6 rfl d ?_;refine O.V 7 rfl d ?_;refine O.t1 8 rfl (fun F E=>Y.jx rfl rfl rfl (by omega)) d ?_;refine O.t1 9 rfl (fun F E=>Y.pj (8*j) rfl rfl rfl (by first|rfl|omega) (by omega)) d ?_;refine O.t1 10 rfl (fun F E=>Y.oH rfl gU jD rfl) d ?_;refine O.aX 11 ?_;refine et rfl (cT _ ([UInt8.ofNat (iS x (8*j)).toNat]) dC eE fK (rfl)) (fun bj K aM=>?_);obtain⟨a_,au,bf,aY⟩:=aM;have bc:K.size=C.size+1:=by rw[aY];simp
  have aO:T 0 C.size (C.size+1):=T.new d.size;replace B:=B.M au;replace i:=i.M au;replace ac:=ac.bc au;replace d:=d.bc au;have a0:=au.size;refine O.b3 d (ag.cons (aq.r aL) (ag.J (aq.q aO))) ?_;have d:W (aE [A,(C.size+1)]) K K:=W.refl _ _;have aa:=T.refl A K.size;have aZ:=T.refl (C.size+1) K.size;refine O.aX 12 ?_;refine et rfl (dQ B a_.rd dC (by simp;omega) (by simp;omega)) (fun V bg aQ=>?_);obtain⟨N,B,am,L⟩:=aQ;replace am:T A K.size N:=am;replace L:=L.md;have ab:af (t+1) N:=af.app (ap) i.lt am;have a6:T k I.size N:=T.L (S) am ac.size;have ae:T A K.size N:=T.L (aa) am d.size;replace i:=i.ab L (ah.J ap);replace ac:=ac.aJ L (ag.J (aq.r S));replace d:=d.aJ L (ag.J (aq.r aa));have b2:=L.size;have X:=B.le;obtain⟨aR,rfl⟩:∃s:aN,V=s.v:=⟨cl V,B.bl.symm⟩;refine O.b3 d (ag.cons (aq.r ae) (ag.J (aq.r aZ))) ?_;refine O.aX 13 ?_;refine hg rfl (Y.nilCheck rfl rfl) (.inl rfl) ?_;refine O.aX 14 ?_;refine hg rfl (Y.ai i.N rfl me rfl mb) (.inl rfl) ?_;refine O.aX 15 ?_;refine hg rfl (Y.ai i.N rfl k8 rfl db) (.inl rfl) ?_;refine O.aX 16 ?_;refine gL rfl (dj i 0 (_) (rfl) db (by simp) (rfl)) (fun bd aX=>?_);obtain⟨i,M⟩:=aX;replace M:=M.bs;replace B:=B.ab M (ah.J ab.symm);replace ac:=ac.aJ M (ag.J (aq.r aS));have a2:=M.size;refine⟨.inl rfl,?_⟩;refine cx ?_;refine aK (aJ (G.region ?_));refine o.V ?_;refine o.v1 fH ?_;refine o.ak ?_;refine aP.sub (ar (j,aR,N,ys++[UInt8.ofNat (iS x (8*j)).toNat]) _ ?_ ?_) ⟨rfl,(aD (by omega)),(aD (by omega)),trivial⟩
  ·exact⟨(by omega),i,B,by rw[←Q,List.append_assoc];rfl,a6,ab,ac⟩
  ·first|omega|(simp only;omega)|(simp;omega)
 ·
  obtain rfl:j=0:=by omega
  rw[cm,List.append_nil]at Q;subst Q;refine G.exit (aF (ay (ak ?_)));refine a7 .normal (.inl rfl) _ _ _ (iR rfl) ?_;exact⟨s1,A,rfl,i,B,az,ap,P⟩
theorem pz(i k:Nat)(s:aN)(xs:List UInt8)(n:Nat)(t:List UInt8)(w0:World)(I:Heap)
 (d:Var 223 I i [s.v,.int .i64 0,.int .i64 0]) (j:aV k 5 I a1 1 s.v xs) (an:af (i+1) k) (aB:xs.length≤549755813888) (aA:n≤8) (az:t.length≤549755813888):
 aC Tryz.prog w0 101 #[.pointer (some ⟨i,0,none⟩),.int .i64 n,aI t] I (fun r B=>∃s2:aN,∃a8:Nat,r= .tuple #[]∧(Var 223 B i [s2.v,.int .i64 0,.int .i64 0])∧(aV a8 5 B a1 1 s2.v (xs++fQ n t))∧(T k I.size a8)∧(af (i+1) a8)∧W (aE [(i+1),k]) I B):=by
 refine aC.enter (args:=[.pointer (some ⟨i,0,none⟩),.int .i64 n,aI t]) Tryz.func101 rfl rfl rfl ?_;intro aa X;have q:W (aE [(i+1),k]) I I:=W.refl _ _;have C:=T.refl (i+1) I.size;have ai:=d.lt;have E:=T.refl k I.size;have L:=j.le;refine G.L (fun O=>?_);refine o.ax 3 ?_;refine o.v1 (fB dP) ?_;refine o.v1 (Y.hA rfl gn gU rfl) ?_;refine aW kL (k_ _ _ _ _ n _ w0 _ d j (an) aA (by omega)) (fun al P Q=>?_);obtain⟨ay,au,rfl,d,j,N,K,F⟩:=Q;have am:T k I.size au:=T.L (E) N q.size;replace q:=q.aJ F (ag.cons (aq.r C) (ag.J (aq.r E)));have ab:=F.size;have L:=j.le;refine o.nil (O (G.region ?_));refine o.ax 3 ?_;refine o.v1 (Y.ai d.N rfl me rfl mb) ?_;refine o.v1 (Y.ai d.N rfl k8 rfl db) ?_;refine o.v1 (ar d.N eD) ?_;refine o.V ?_;refine o.aO (Z.pQ j rfl dC Tryz.underlying9 rfl rfl (by simp[dT];omega)) fun ak ae R=>?_;obtain⟨A,j,ad,x⟩:=R;replace ad:T au P.size A:=ad;replace x:=x.md;have H:af (i+1) A:=af.app (K) d.lt ad;have S:T k I.size A:=T.L (am) ad q.size;replace d:=d.ab x (ah.J K);replace q:=q.aJ x (ag.J (aq.r am));obtain⟨V,rfl⟩:∃s:aN,ak=s.v:=⟨cl ak,j.bl.symm⟩;refine o.bH ?_;refine o.v1 (Y.ai d.N rfl me rfl mb) ?_;refine o.v1 (Y.ai d.N rfl k8 rfl db) ?_;refine o.s1 (dj d 0 (_) (rfl) db (by simp) (rfl)) fun ap M=>?_;obtain⟨d,ac⟩:=M;replace ac:=ac.bs;replace j:=j.ab ac (ah.J H.symm);replace q:=q.aJ ac (ag.J (aq.r C));refine o.nil ?_;refine X .normal (.inl rfl) _ _ _ (iR rfl) ?_;exact⟨V,A,rfl,d,by rw[fQ,←List.append_assoc];exact j,S,(H),q⟩
theorem n9(j k:Nat)(s:aN)(xs:List UInt8)(i:cY)(w0:World)(I:Heap)
 (d:Var 223 I j [s.v,.int .i64 0,.int .i64 0]) (n:aV k 5 I a1 1 s.v xs) (an:af (j+1) k) (aH:xs.length≤549755813888):
 aC Tryz.prog w0 102 #[.pointer (some ⟨j,0,none⟩),bq i] I (fun r N=>∃s2:aN,∃a8:Nat,r= .tuple #[]∧(Var 223 N j [s2.v,.int .i64 0,.int .i64 0])∧(aV a8 5 N a1 1 s2.v (xs++i.1))∧(T k I.size a8)∧(af (j+1) a8)∧W (aE [(j+1),k]) I N):=by
 refine aC.enter (args:=[.pointer (some ⟨j,0,none⟩),bq i]) Tryz.func102 rfl rfl rfl ?_;intro ai ae;have t:W (aE [(j+1),k]) I I:=W.refl _ _;have ac:=T.refl (j+1) I.size;have ay:=d.lt;have P:=T.refl k I.size;have az:=n.le;have aF:=i.2;refine G.L (fun V=>?_);refine o.aO cq ?_;rintro v3 q ⟨rfl,M,L,aD,X⟩;have aA:q.size=I.size+1:=by rw[X];simp
 replace d:=d.M L;replace n:=n.M L;replace t:=t.bc L;have al:=L.size;replace M:Var 26 q I.size (i.1.map (fun b=>Value.int .u8 b.toNat)):=M;refine o.nil (V ?_);refine dx (fun H=>W (aE [k]) q H) [8,9,10,11] ?_;have ad:W (aE [k]) q q:=W.refl _ _;have au:=T.refl k q.size;refine O.V 0 rfl ad ?_;refine O.V 1 rfl ad ?_;refine O.bH 2 rfl ad ?_;refine O.t1 3 rfl (fun H E=>Y.fieldAddr (d.ab E (ah.J an)).N rfl me rfl rfl mb (by decide) rfl) ad ?_;refine O.t1 4 rfl (fun H E=>Y.fieldAddr (d.ab E (ah.J an)).N rfl k8 rfl rfl db (by decide) rfl) ad ?_;refine O.t1 5 rfl (fun H E=>Y.fU (d.ab E (ah.J an)).N rfl eD rfl) ad ?_;refine O.e (g:=fun v=>v) 6 (by kernel_rfl) rfl (by kernel_rfl) (by kernel_rfl) (by kernel_rfl) (Y.pn (F:=fun c=>c=I.size) (f:=a1) (xs:=i.1) M.N rfl M.lt (i.2) (fun i x h=>⟨by simp[h],rfl⟩) (0) (32) rfl (fun w=> .inl (k9 w)) cN rfl (.inl ⟨rfl,rfl⟩) (.inl ⟨rfl,rfl⟩) (by omega) (by omega) (by decide)) cQ rfl rfl ad (fun ar R=>?_);rw[List.drop_zero,List.take_of_length_le (by omega)]at R;refine O.aX 7 ?_;refine et rfl (dQ n R dC (by omega) (by omega)) (fun am aB Z=>?_);obtain⟨C,n,A,B⟩:=Z;replace A:T k q.size C:=A;replace B:=B.md;have ak:af (j+1) C:=af.app (an) d.lt A;have aa:T k I.size C:=T.L (P) A t.size;have ab:T k q.size C:=T.L (au) A ad.size;replace d:=d.ab B (ah.J an);replace t:=t.aJ B (ag.J (aq.r P));replace ad:=ad.aJ B (ag.J (aq.r au));obtain⟨Q,rfl⟩:∃s:aN,am=s.v:=⟨cl am,n.bl.symm⟩;refine O.b3 ad (ag.J (aq.r ab)) ?_;refine O.aX 8 ?_;refine hg rfl (Y.nilCheck rfl rfl) (.inl rfl) ?_;refine O.aX 9 ?_;refine hg rfl (Y.ai d.N rfl me rfl mb) (.inl rfl) ?_;refine O.aX 10 ?_;refine hg rfl (Y.ai d.N rfl k8 rfl db) (.inl rfl) ?_;refine O.aX 11 ?_;refine gL rfl (dj d 0 ([Q.v,.int .i64 0,.int .i64 0]) (rfl) db (by simp) (rfl)) (fun ap S=>?_);obtain⟨d,K⟩:=S;replace K:=K.bs;replace n:=n.ab K (ah.J ak.symm);replace t:=t.aJ K (ag.J (aq.r ac));refine⟨.inl rfl,?_⟩;refine cx ?_;refine ae .normal (.inl rfl) _ _ _ (iR rfl) ?_;exact⟨Q,C,rfl,d,n,aa,(ak),t⟩
theorem H4(i:Nat)(s:aN)(w0:World)(I:Heap)
 (d:Var 223 I i [s.v,.int .i64 0,.int .i64 0]):
 aC Tryz.prog w0 104 #[.pointer (some ⟨i,0,none⟩)] I (fun r k=>r= .tuple #[s.v,.int .i64 0]∧aj I k):=by
 refine aC.aK [.pointer (some ⟨i,0,none⟩)] Tryz.func104 ?_;intro A x;have t:aj I I:=W.refl _ _;refine G.L (fun n=>?_);refine o.aQ 2 ?_;refine n (G.t1 (fun q=>G.L (fun ac=>?_)));refine o.ax 2 ?_;refine o.v1 (Y.ai d.N rfl me rfl mb) ?_;refine o.v1 (Y.ai d.N rfl k8 rfl q0) ?_;refine o.v1 (ar (d.N.drop 2) pL) ?_;refine o.v1 cU (o.nil (ac ?_));refine aU (fun j=>?_) (fun j=>?_)
 ·
  exact absurd rfl j
 ·
  refine G.skip (q (G.L (fun ad=>?_)));refine o.ax 2 ?_;refine o.v1 (Y.ai d.N rfl me rfl mb) ?_;refine o.v1 (Y.ai d.N rfl k8 rfl db) ?_;refine o.v1 (ar d.N eD) ?_;refine o.aQ 2 ?_;refine ad ?_;refine G.ret (x ?_);exact⟨rfl,t⟩
theorem Ig(C k:Nat)(s:aN)(xs:List UInt8)(x:cZ)(F:Nat→Prop)(w0:World)(I:Heap)
 (A:Var 223 I C [s.v,.int .i64 0,.int .i64 0]) (d:aV k 5 I a1 1 s.v xs) (an:af (C+1) k) (eH:xs.length≤274877906944) (B:Rd F I c2 33 x.cd.v x.a6) (R:bh F I.size) (f1:ay F (C+1)) (f2:ay F k) (aK:0≤x.k∧x.k≤255) (dp:x.k≠0→ob x):
 aC Tryz.prog w0 103 #[.pointer (some ⟨C,0,none⟩),er x] I (fun r aa=>∃s2:aN,∃a8:Nat,r= .tuple #[]∧(Var 223 aa C [s2.v,.int .i64 0,.int .i64 0])∧(aV a8 5 aa a1 1 s2.v (xs++j9 x))∧(T k I.size a8)∧(af (C+1) a8)∧W (aE [(C+1),k]) I aa):=by
 refine aC.enter (args:=[.pointer (some ⟨C,0,none⟩),er x]) Tryz.func103 rfl rfl rfl ?_;intro du bQ;have q:W (aE [(C+1),k]) I I:=W.refl _ _;have K:=T.refl (C+1) I.size;have b2:=A.lt;have bx:=T.refl k I.size;have E:=d.le;have eG:=B.len;refine G.L (fun cf=>?_);refine o.aO cq ?_;rintro v3 aO ⟨rfl,j,Q,en,cg⟩;have dx:aO.size=I.size+1:=by rw[cg];simp
 have ap:af (C+1) (I.size+1):=af.new A.lt;have bz:af k (I.size+1):=af.new d.le;replace A:=A.M Q;replace d:=d.M Q;replace B:=B.M Q;replace q:=q.bc Q;have eo:=Q.size;replace j:Var 29 aO I.size (dX x):=j;refine o.nil (cf (G.L (fun ck=>?_)));refine o.V ?_;refine o.v1 (Y.ai j.N rfl bt rfl b0) ?_;refine o.v1 (Y.cast (v2:= .int .i64 ((x.k).toNat:Nat)) (ar j.N cj) (fM (by omega))) ?_;refine o.v1 (Y.hA rfl gn gU rfl) ?_;refine aW kL (k_ _ _ _ _ 1 _ w0 _ A d (an) (by decide) (by omega)) (fun et cs cl=>?_);have cn:=j.lt;obtain⟨cr,a5,rfl,A,d,al,bL,S⟩:=cl;have bA:=ay.app (f2) (R.mono q.size) al;have aQ:af (I.size+1) a5:=af.app (bz.symm) cn al;have aA:T k I.size a5:=T.L (bx) al q.size;replace B:=B.ab S (az.cons f1 (az.J f2));replace j:=j.ab S (ah.cons ap.symm (ah.J bz.symm));replace q:=q.aJ S (ag.cons (aq.r K) (ag.J (aq.r bx)));have eu:=S.size;have E:=d.le;refine o.nil (ck (G.t2 (fun ct cu=>G.L (fun cv=>?_))));refine o.v1 (Y.ai j.N rfl bt rfl b0) ?_;refine o.v1 (ar j.N cj) ?_;refine o.v1 b9 (o.nil (cv ?_));refine aU (fun cw=>?_) (fun cw=>?_)
 ·
  have a2:x.k=0:=by omega
  refine G.ret (cu (bQ .ret (.inr rfl) _ _ _ (iR rfl) ?_));exact⟨cr,a5,rfl,A,by rw[tK a2];exact d,aA,(bL),q⟩
 ·
  have a2:x.k≠0:=by omega
  have he:=dp a2;have eA:=he.br;have eB:=he.a6;have eC:=he.dn;have eD:=he.md;refine G.skip (ct (G.L (fun cx=>?_)));refine o.V ?_;refine o.v1 (Y.ai j.N rfl bt rfl bP) ?_;refine o.v1 (ar (j.N.drop 1) bN) ?_;refine aW oD (pz _ _ _ _ 1 x.br w0 _ A d (bL) (by simp only[List.length_append,dT,hc,x.bX.2,x.bm.2];omega) (by decide) (by omega)) (fun dr ev cy=>?_);have bS:=j.lt;obtain⟨ew,bC,rfl,A,d,aF,dc,V⟩:=cy;have aR:=ay.app (bA) (R.mono q.size) aF;have aS:af (I.size+1) bC:=af.app (aQ) bS aF;have aX:T k I.size bC:=T.L (aA) aF q.size;replace B:=B.ab V (az.cons f1 (az.J bA));replace j:=j.ab V (ah.cons ap.symm (ah.J aQ));replace q:=q.aJ V (ag.cons (aq.r K) (ag.J (aq.r aA)));have ey:=V.size;have E:=d.le;refine o.nil (cx (G.L (fun cz=>?_)));refine o.V ?_;refine o.v1 (Y.ai j.N rfl bt rfl a_) ?_;refine o.v1 (Y.cast (v2:=bq x.bX) (aT ((j.N.drop 2).take 32) b_ a_ (by rw[hC];exact bB _)) (b6 (hC _))) ?_;refine aW nu (n9 _ _ _ _ x.bX w0 _ A d (dc) (by simp only[List.length_append,dT,hc,x.bX.2,x.bm.2];omega)) (fun ez dE cA=>?_);have bU:=j.lt;obtain⟨dF,bE,rfl,A,d,aH,de,au⟩:=cA;have aY:=ay.app (aR) (R.mono q.size) aH;have aZ:af (I.size+1) bE:=af.app (aS) bU aH;have a6:T k I.size bE:=T.L (aX) aH q.size;replace B:=B.ab au (az.cons f1 (az.J aR));replace j:=j.ab au (ah.cons ap.symm (ah.J aS));replace q:=q.aJ au (ag.cons (aq.r K) (ag.J (aq.r aX)));have dG:=au.size;have E:=d.le;refine o.nil (cz (G.L (fun cC=>?_)));refine o.V ?_;refine o.v1 (Y.ai j.N rfl bt rfl a_) ?_;refine o.v1 (Y.cast (v2:=bq x.bm) (aT ((j.N.drop 34).take 32) b_ a_ (by rw[hB];exact bB _)) (b6 (hB _))) ?_;refine aW nu (n9 _ _ _ _ x.bm w0 _ A d (de) (by simp only[List.length_append,dT,hc,x.bX.2,x.bm.2];omega)) (fun dH dI b1=>?_);have bV:=j.lt;obtain⟨dJ,bF,rfl,A,d,aI,df,am⟩:=b1;have a7:=ay.app (aY) (R.mono q.size) aI;have ba:af (I.size+1) bF:=af.app (aZ) bV aI;have bc:T k I.size bF:=T.L (a6) aI q.size;replace B:=B.ab am (az.cons f1 (az.J aY));replace j:=j.ab am (ah.cons ap.symm (ah.J aZ));replace q:=q.aJ am (ag.cons (aq.r K) (ag.J (aq.r a6)));have dK:=am.size;have E:=d.le;refine o.nil (cC (G.L (fun b3=>?_)));refine o.V ?_;refine o.v1 (Y.ai j.N rfl bt rfl ep) ?_;refine o.v1 (ar j.N.fO fi) ?_;refine o.v1 (bb B fq) ?_;refine o.v1 (Y.hA rfl gn gU rfl) ?_;refine aW kL (k_ _ _ _ _ 2 _ w0 _ A d (df) (by decide) (by simp only[List.length_append,dT,hc,x.bX.2,x.bm.2];omega)) (fun dL O b4=>?_);have a9:=j.lt;obtain⟨b5,N,rfl,A,d,aJ,dg,ak⟩:=b4;have bX:=ay.app (a7) (R.mono q.size) aJ;have bd:af (I.size+1) N:=af.app (ba) a9 aJ;have bf:T k I.size N:=T.L (bc) aJ q.size;replace B:=B.ab ak (az.cons f1 (az.J a7));replace j:=j.ab ak (ah.cons ap.symm (ah.J ba));replace q:=q.aJ ak (ag.cons (aq.r K) (ag.J (aq.r bc)));have dN:=ak.size;have E:=d.le;refine o.nil (b3 (G.t1 (fun b7=>G.L (fun cD=>?_))));refine o.v1 (Y.ai j.N rfl bt rfl ep) ?_;refine o.v1 (ar j.N.fO fi) ?_;refine o.v1 (bb B fq) ?_;refine o.V (o.nil (cD ?_));refine G.aB (fun _ cG _=>?_)
  refine G.bg (fun(dt:(Nat)×(aN)×(Nat)×(List UInt8))=>match dt with|(i,s1,L,ys)=>[(0,.pointer (some ⟨C,0,none⟩)),(3,.pointer (some ⟨I.size,0,none⟩)),(33,x.cd.v),(34,.int .i64 x.a6.length),(35,.int .i64 i)])
   (fun(i,s1,L,ys) (H:Heap)=>(i≤x.a6.length)∧(Var 223 H C [s1.v,.int .i64 0,.int .i64 0])∧(aV L 5 H a1 1 s1.v ys)∧(ys=xs++cm 1 (UInt64.ofNat x.k.toNat)++fQ 1 x.br++x.bX.1++x.bm.1++cm 2 (UInt64.ofNat x.a6.length)++(x.a6.take i).flatMap j_)∧(T N O.size L)∧(af (C+1) L)∧W (aE [(C+1),N]) O H)
   (fun(i,s1,L,ys)=>x.a6.length-i) (0,b5,N,xs++cm 1 (UInt64.ofNat x.k.toNat)++fQ 1 x.br++x.bX.1++x.bm.1++cm 2 (UInt64.ofNat x.a6.length)) ⟨rfl,rfl,rfl,rfl,rfl,trivial⟩ ?_ ?_
  ·
   exact⟨(by omega),A,d,(by simp),T.refl _ _,dg,W.refl _ _⟩
  rintro⟨i,s1,L,ys⟩ a3 b8 dO cH bT;obtain⟨eF,A,d,Z,ai,bZ,ac⟩:=b8;have bg:af (I.size+1) L:=af.app (bd) j.lt ai;have bj:T k I.size L:=T.L (bf) ai q.size;replace B:=B.ab ac (az.cons f1 (az.J bX));replace j:=j.ab ac (ah.cons ap.symm (ah.J bd));replace q:=q.aJ ac (ag.cons (aq.r K) (ag.J (aq.r bf)));have dP:=ac.size;have E:=d.le;have bk:=bZ;have bw:=T.refl (C+1) O.size;have bl:=ai;have eJ:ys.length≤xs.length+3000000:=by have dq:=mP (f:=j_) (n:=33) (l:=x.a6.take i) (fun x _=>by rw[ra];omega);rw[List.length_take]at dq;rw[Z];simp only[List.length_append,dT,hc,x.bX.2,x.bm.2];omega
  refine G.L (fun be=>?_);refine o.v1 bJ (o.nil (be ?_));refine G.t2 (fun bY cI=>?_);refine aU (fun ca=>?_) (fun ca=>?_)
  ·
   refine G.skip (bY (G.t1 (fun cJ=>G.aB (fun bi _ _=>G.L (fun cK=>?_)))));have bO:i<x.a6.length:=by omega
   obtain⟨t,aM⟩:∃t,t=x.a6[i]:=⟨_,rfl⟩;have eE:=he.dd t (by rw[aM];exact List.getElem_mem bO);refine o.bR (Y.bL B (i) rfl fq ha rfl rfl) fun dv aB=>?_;refine o.v1 (Y.cast (v2:= .agg (c2 t).toArray) (aT aB.N mB ha (hX _)) (by rw[aM])) ?_;refine o.aO (cV ue) ?_;rintro v5 bR ⟨rfl,M,a4,dQ,cb⟩;have dw:bR.size=a3.size+1:=by rw[cb];simp
   have bm:af L (a3.size+1):=af.new d.le;have bn:af (C+1) (a3.size+1):=af.new A.lt;have cL:T 0 O.size (a3.size+1):=T.new ac.size;replace d:=d.M a4;replace A:=A.M a4;replace ac:=ac.bc a4;have dR:=a4.size;refine o.s1 (dM M (_) (c2 t) (mN t) ha (hX _) ((c9 (hX _).symm))) fun dy cM=>?_;obtain⟨M,P⟩:=cM;replace P:=P.bs;replace d:=d.ab P (ah.J bm);replace A:=A.ab P (ah.J bn);replace ac:=ac.aJ P (ag.J (aq.q cL));have dS:=P.size;refine o.nil (cK (G.L (fun cN=>?_)));refine o.V ?_;refine o.v1 (Y.ai M.N rfl jC rfl b0) ?_;refine o.v1 (Y.cast (v2:= .int .i64 ((t.d).toNat:Nat)) (ar M.N cj) (fM (by omega))) ?_;refine o.v1 (Y.hA rfl gn gU rfl) ?_;refine aW kL (k_ _ _ _ _ 1 _ w0 _ A d (bk) (by decide) (by omega)) (fun dV dW c1=>?_);obtain⟨dY,c3,rfl,A,d,cO,dh,aL⟩:=c1;have bo:T N O.size c3:=T.L (bl) cO ac.size;replace M:=M.ab aL (ah.cons bn.symm (ah.J bm.symm));replace ac:=ac.aJ aL (ag.cons (aq.r bw) (ag.J (aq.r bl)));have eh:=aL.size;have E:=d.le;refine o.nil (cN (G.region ?_));refine o.V ?_;refine o.v1 (Y.ai M.N rfl jC rfl a_) ?_;refine o.v1 (Y.cast (v2:=bq t.i) (aT ((M.N.drop 1).take 32) b_ a_ (by rw[kP];exact bB _)) (b6 (kP _))) ?_;refine aW nu (n9 _ _ _ _ t.i w0 _ A d (dh) (by rw[List.length_append,dT];omega)) (fun dZ d_ c4=>?_);obtain⟨ce,bG,rfl,A,d,cP,di,bp⟩:=c4;have cR:T N O.size bG:=T.L (bo) cP ac.size;replace ac:=ac.aJ bp (ag.cons (aq.r bw) (ag.J (aq.r bo)));have ei:=bp.size;have E:=d.le;refine o.nil (bi (cJ (G.region ?_)));refine o.v1 bD ?_;refine o.V (o.nil ?_);refine aP.sub (cH (i+1,ce,bG,ys++cm 1 (UInt64.ofNat t.d.toNat)++t.i.1) _ ?_ ?_) ⟨rfl,rfl,rfl,(aD (by omega)),(aD (by omega)),trivial⟩
   ·exact⟨(by omega),A,d,(by rw[nH bO,←aM,Z,j_];simp only[List.append_assoc]),cR,di,ac⟩
   ·first|omega|(simp only;omega)|(simp;omega)
  ·
   obtain rfl:i=x.a6.length:=by omega
   rw[List.take_length]at Z;refine G.exit (cI (bT (cG ?_)));refine b7 (G.L (fun cS=>?_));refine o.V ?_;refine o.v1 (Y.ai j.N rfl bt rfl b0) ?_;refine o.v1 (Y.cast (v2:= .int .i64 ((x.dn).toNat:Nat)) (ar j.N.iu cj) (fM (by omega))) ?_;refine o.v1 (Y.hA rfl gn gU rfl) ?_;refine aW kL (k_ _ _ _ _ 2 _ w0 _ A d (bk) (by decide) (by omega)) (fun ea eb c8=>?_);have cT:=j.lt;obtain⟨ec,bI,rfl,A,d,bs,dj,ab⟩:=c8;have cU:af (I.size+1) bI:=af.app (bg) cT bs;have bu:T k I.size bI:=T.L (bj) bs q.size;replace j:=j.ab ab (ah.cons ap.symm (ah.J bg));replace q:=q.aJ ab (ag.cons (aq.r K) (ag.J (aq.r bj)));have dU:=ab.size;have E:=d.le;refine o.nil (cS (G.L (fun bv=>?_)));refine o.V ?_;refine o.v1 (Y.ai j.N rfl bt rfl b0) ?_;refine o.v1 (Y.cast (v2:= .int .i64 ((x.md).toNat:Nat)) (ar j.N.jB cj) (fM (by omega))) ?_;refine o.v1 (Y.hA rfl gn gU rfl) ?_;refine aW kL (k_ _ _ _ _ 2 _ w0 _ A d (dj) (by decide) (by rw[List.length_append,dT];omega)) (fun ed ee ci=>?_);obtain⟨ef,c_,rfl,A,d,cW,dk,ae⟩:=ci;have a0:T k I.size c_:=T.L (bu) cW q.size;replace j:=j.ab ae (ah.cons ap.symm (ah.J cU));replace q:=q.aJ ae (ag.cons (aq.r K) (ag.J (aq.r bu)));have ej:=ae.size;have E:=d.le;refine o.nil (bv (G.region ?_));refine o.V ?_;refine o.v1 (Y.ai j.N rfl bt rfl cX) ?_;refine o.v1 (ar j.N.k4 dA) ?_;refine aW rZ (tX x.st 1 w0 _) (fun eg dz da=>?_);obtain⟨rfl,X⟩:=da;replace d:=d.M X;replace A:=A.M X;replace q:=q.bc X;have ek:=X.size;refine aW kL (k_ _ _ _ _ 1 _ w0 _ A d (dk) (by decide) (by simp only[List.length_append,dT];omega)) (fun dC dD db=>?_);obtain⟨co,bK,rfl,A,d,c0,dm,cc⟩:=db;have cd:T k I.size bK:=T.L (a0) c0 q.size;replace q:=q.aJ cc (ag.cons (aq.r K) (ag.J (aq.r a0)));refine o.nil ?_;refine bQ .normal (.inl rfl) _ _ _ (iR rfl) ?_;exact⟨co,bK,rfl,A,by rw[tL a2];rw[Z]at d;simpa only[List.append_assoc]using d,cd,(dm),q⟩
end fC

namespace fD
open E Go.RowKit eM eP e1 e7 ev eQ eR fC dz
set_option maxRecDepth 100000 in
theorem DQ:c4 Tryz.prog 83 3 1 8:=⟨Tryz.underlying83,_,_,rfl,rfl,rfl,rfl,rfl⟩
def jk(t:b1):List UInt8:=cm 1 (qm t)++(if t.bE=true then fQ 1 t.an else[])
theorem pb{t:b1}(h:lb t):(jk t).length≤257:=by
 unfold jk;rw[List.length_append,dT];split
 ·rename_i d;rw[hc];have:=h.an d;omega
 ·simp
def jh(t:b1):List UInt8:=jk t++cm 2 (UInt64.ofNat t.ml.length)++t.ml.flatMap iO++(if t.al=true then j9 t.q else[])
theorem sV{t:b1}(h:lb t)(i:Nat):((t.ml.take i).flatMap iO).length≤66000*i:=by
 have j:=mP (f:=iO) (n:=66000) (l:=t.ml.take i) (fun x d=>by rw[nT];have:=h.iN x (List.mem_of_mem_take d);omega);have U:(t.ml.take i).length≤i:=by rw[List.length_take];exact Nat.min_le_left _ _
 have k:66000*(t.ml.take i).length≤66000*i:=Nat.mul_le_mul_left _ U;omega
theorem vY{t:b1}(h:lb t)(i:Nat):((t.el.take i).flatMap iM).length≤66000*i:=by
 have j:=mP (f:=iM) (n:=66000) (l:=t.el.take i) (fun x d=>by rw[xA];have:=h.md x (List.mem_of_mem_take d);omega);have U:(t.el.take i).length≤i:=by rw[List.length_take];exact Nat.min_le_left _ _
 have k:66000*(t.el.take i).length≤66000*i:=Nat.mul_le_mul_left _ U;omega
theorem qH{t:b1}(h:lb t):(jh t).length≤4400000000:=by
 have j:=pb h;have U:=sV h t.ml.length;rw[List.take_length]at U;have k:=h.ml;unfold jh;simp only[List.length_append,dT];split
 ·rename_i i
  by_cases d:t.q.k=0
  ·rw[tK d,dT];omega
  ·have:=Hi (h.h6 i d);omega
 ·rw[List.length_nil];omega
theorem v8(t:b1):fl t=jh t++cm 2 (UInt64.ofNat t.el.length)++t.el.flatMap iM:=by unfold fl jh jk;simp only[List.append_assoc]
section
variable {H : Heap} {ad : Addr}
theorem _root_.Go.Proofs.YtfjmpninmdjcaaaGreatDoor.E.cg.rf{x:b1}(h:cg H ad (c_ x)):cg H (ad.add 4) (dX x.q++[x.ct.v]):=h.drop 4
theorem _root_.Go.Proofs.YtfjmpninmdjcaaaGreatDoor.E.cg.n4{x:b1}(h:cg H ad (c_ x)):cg H ((ad.add 4).add 0) (dX x.q++[x.ct.v]):=h.rf.drop 0
end
theorem rT(x:b1)(w0:World)(I:Heap)
 :
 aC Tryz.prog w0 141 #[dG x] I (fun r A=>r= .tuple #[er x.q,.bool (x.al&&decide (x.q.k≠0))]∧aj I A):=by
 refine aC.enter (args:=[dG x]) Tryz.func141 rfl rfl rfl ?_;intro Q M;have t:aj I I:=W.refl _ _;refine G.L (fun N=>?_);refine o.aO cq ?_;rintro v1 H1 ⟨rfl,n,H,R,au⟩;have am:H1.size=I.size+1:=by rw[au];simp
 replace t:=t.L H;have S:=H.size;replace n:Var 32 H1 I.size (c_ x):=n;refine o.aO (cV rn) ?_;rintro v2 A ⟨rfl,C,F,V,P⟩;have ap:A.size=H1.size+1:=by rw[P];simp
 have B:af (I.size+1) (H1.size+1):=af.new n.lt;have K:T 0 I.size (H1.size+1):=T.new t.size;replace n:=n.M F;replace t:=t.L F;have X:=F.size;refine o.ak ?_;refine N (G.t1 (fun L=>?_));refine dx (fun k=>W (aE [(H1.size+1)]) A k) [] ?_;have i:W (aE [(H1.size+1)]) A A:=W.refl _ _;have E:=T.refl (H1.size+1) A.size;refine O.t1 0 rfl (fun k j=>Y.fieldAddr (n.ab j (ah.J B)).N rfl bu rfl rfl cS (by decide) rfl) i ?_;refine O.t1 1 rfl (fun k j=>Y.cast (v2:=er x.q) (aT (((n.ab j (ah.J B)).N.drop 4).take 70) h9 cS (by rw[jc];exact ee _)) (b6 (jc x))) i ?_;refine O.t1 2 rfl (fun k j=>Y.fieldAddr (n.ab j (ah.J B)).N rfl bu rfl rfl cX (by decide) rfl) i ?_;refine O.t1 3 rfl (fun k j=>ar ((n.ab j (ah.J B)).N.drop 3) dA) i ?_;refine O.V 4 rfl i ?_;refine O.split (d:=8) rfl (fun g8=>?_) (fun g8=>?_)
 ·
  refine O.bI 5 rfl (fun k j=>Y.fieldAddr (n.ab j (ah.J B)).N rfl bu rfl rfl cS (by decide) rfl) bd i ?_;refine O.bI 6 rfl (fun k j=>Y.fieldAddr ((n.ab j (ah.J B)).N.drop 4) rfl bt rfl rfl b0 (by decide) rfl) bd i ?_;refine O.bI 7 rfl (fun k j=>Y.fU (n.ab j (ah.J B)).N.n4 rfl cj rfl) bd i ?_;refine O.bI 8 rfl (fun k j=>cU) bd i ?_;refine O.t1 9 rfl (fun k j=>eh) i ?_;refine O.aX 10 ?_;refine gL rfl (dM C (_) (dX x.q) (ko x.q) cS (ee _) ((c9 (ee _).symm))) (fun ac ad=>?_);obtain⟨C,q⟩:=ad;replace q:=q.bs;replace t:=t.bo q (ag.J (aq.q K));replace i:=i.aJ q (ag.J (aq.r E));have Z:=q.size;refine O.b3 i (ag.J (aq.r E)) ?_;have i:W (aE [(H1.size+1)]) ac ac:=W.refl _ _;refine O.t1 11 rfl (fun k j=>ej) i ?_;refine cx ?_;refine L ?_;refine G.ret (M .ret (.inr rfl) _ _ _ (yt rfl rfl C.N h9 cS (ee _) rfl) ?_);exact⟨by first|(rw[show x.al=true by assumption];rfl)|(rw[show x.al=false by simp_all];rfl),t⟩
 ·
  refine O.g1 5 rfl rfl rfl rfl i ?_;refine O.g1 6 rfl rfl rfl rfl i ?_;refine O.g1 7 rfl rfl rfl rfl i ?_;refine O.g1 8 rfl rfl rfl rfl i ?_;refine O.t1 9 rfl (fun k j=>dH) i ?_;refine O.aX 10 ?_;refine gL rfl (dM C (_) (dX x.q) (ko x.q) cS (ee _) ((c9 (ee _).symm))) (fun ac ad=>?_);obtain⟨C,q⟩:=ad;replace q:=q.bs;replace t:=t.bo q (ag.J (aq.q K));replace i:=i.aJ q (ag.J (aq.r E));have aa:=q.size;refine O.b3 i (ag.J (aq.r E)) ?_;have i:W (aE [(H1.size+1)]) ac ac:=W.refl _ _;refine O.t1 11 rfl (fun k j=>ej) i ?_;refine cx ?_;refine L ?_;refine G.ret (M .ret (.inr rfl) _ _ _ (yt rfl rfl C.N h9 cS (ee _) rfl) ?_);exact⟨by first|(rw[show x.al=true by assumption];rfl)|(rw[show x.al=false by simp_all];rfl),t⟩
theorem Ie(x:b1)(w0:World)(I:Heap)
 (hm:bx I du 66 x.ei.v x.ml) (C:bx I c2 33 x.q.cd.v x.q.a6) (he:bx I bO 33 x.ct.v x.el) (an:∀y∈x.el,bx I a1 1 y.v.v y.d) (X:lb x):
 aC Tryz.prog w0 98 #[dG x] I (fun r cw=>r= .int .i64 0∧aj I cw):=by
 refine aC.aK [dG x] Tryz.func98 ?_;intro fY cv;have A:aj I I:=W.refl _ _;replace hm:=hm.bw;have dQ:=hm.bY;replace C:=C.bw;have dR:=C.bY;replace he:=he.bw;have dS:=he.bY;replace an:=fun y K=>(an y K).bw;have a2:bh (fun b=>True∧b<I.size) I.size:=fun b h=>h.2;have hH:=hm.len;have hG:=C.len;have hD:=he.len;have aK:=X.ml;have gx:=X.el;obtain⟨aH,ct⟩:∃b,b=(x.al&&decide (x.q.k≠0)):=⟨_,rfl⟩;have bV:aH=true→x.al=true∧x.q.k≠0:=fun h=>by rw[ct,Bool.and_eq_true,decide_eq_true_eq]at h;exact h
 refine G.L (fun fK=>?_);refine o.aO cq ?_;rintro v1 H1 ⟨rfl,B,aN,gN,fL⟩;have fJ:H1.size=I.size+1:=by rw[fL];simp
 replace hm:=hm.M aN;replace C:=C.M aN;replace he:=he.M aN;replace an:=fun y K=>(an y K).M aN;replace A:=A.L aN;have gO:=aN.size;replace B:Var 32 H1 I.size (c_ x):=B;refine o.ak ?_;refine fK (G.L (fun ds=>?_));refine o.v1 (Y.build (v:= .agg #[(.slice none 0 0),.int .i64 0,.int .i64 0]) rfl rfl (by intro w;kernel_rfl)) ?_;refine o.aO cq fun gQ dE fM=>?_;obtain⟨rfl,F,ak,gr,dp⟩:=fM;have fZ:dE.size=H1.size+1:=by rw[dp];simp
 replace hm:=hm.M ak;replace C:=C.M ak;replace he:=he.M ak;replace an:=fun y K=>(an y K).M ak;replace B:=B.M ak;replace A:=A.L ak;have gR:=ak.size;replace F:Var 213 dE H1.size ([(.slice none 0 0),.int .i64 0,.int .i64 0]):=F;refine o.ak ?_;refine ds (G.L (fun fN=>?_));refine o.v1 (aT B.N fj ef (dg _)) ?_;refine aW r0 (rT x w0 _) (fun gS P fO=>?_);obtain⟨rfl,aa⟩:=fO;replace hm:=hm.M aa;replace C:=C.M aa;replace he:=he.M aa;replace an:=fun y K=>(an y K).M aa;replace B:=B.M aa;replace F:=F.M aa;replace A:=A.L aa;have gT:=aa.size;rw[←ct];refine o.V ?_;refine o.v1 cO ?_;refine o.v1 cO ?_;refine o.aO (cV rn) ?_;rintro v4 cz ⟨rfl,E,a3,gU,fP⟩;have gu:cz.size=P.size+1:=by rw[fP];simp
 have dt:=(ay.new (dQ.mono A.size):ay _ (P.size+1));have dw:=(ay.new (dR.mono A.size):ay _ (P.size+1));have dy:=(ay.new (dS.mono A.size):ay _ (P.size+1));have dz:=(ay.new (a2.mono A.size):ay _ (P.size+1));have dC:af (I.size+1) (P.size+1):=af.new B.lt;have dD:af (H1.size+1) (P.size+1):=af.new F.lt;have cM:T 0 I.size (P.size+1):=T.new A.size;replace hm:=hm.M a3;replace C:=C.M a3;replace he:=he.M a3;replace an:=fun y K=>(an y K).M a3;replace B:=B.M a3;replace F:=F.M a3;replace A:=A.L a3;have gV:=a3.size;refine o.s1 (dM E (_) (dX x.q) (ko x.q) cS (ee _) ((c9 (ee _).symm))) fun bG cN=>?_;obtain⟨E,R⟩:=cN;replace R:=R.bs;replace hm:=hm.ab R (az.J dt);replace C:=C.ab R (az.J dw);replace he:=he.ab R (az.J dy);replace an:=fun y K=>(an y K).ab R (az.J dz);replace B:=B.ab R (ah.J dC);replace F:=F.ab R (ah.J dD);replace A:=A.bo R (ag.J (aq.q cM));have gW:=R.size;refine o.ak ?_;refine fN ?_
 refine G.cut (fun(_:Unit)=>[(1,.pointer (some ⟨I.size,0,none⟩)),(3,.pointer (some ⟨H1.size,0,none⟩)),(4,.pointer (some ⟨P.size,0,none⟩)),(5,.bool aH)])
  (fun(_:Unit) (H:Heap)=>(True)∧aj bG H) (fun _ cc _=>?_) ?_
 ·
  have aI:aj bG bG:=W.refl _ _;refine G.region ?_;refine o.V ?_;refine o.v1 (Y.ai B.N rfl bu rfl eo) ?_;refine o.v1 (ar (B.N.drop 2) eB) ?_;refine o.v1 (bb hm dI) ?_;refine o.v1 ((eK).gC (by omega)) ?_;refine o.V ?_;refine o.ao (Y.ai B.N rfl bu rfl dv) ?_;refine o.ao (ar B.N.fX dV) ?_;refine o.ao (bb he cu) ?_;refine o.ao ((eK).gC (by omega)) ?_;refine o.ax 3 ?_;refine o.ao eL ?_;refine o.bU ?_;refine o.split (d:=35) rfl (fun cd=>?_) (fun cd=>?_)
  ·
   refine o.ax 4 ?_;refine o.ao eh ?_;refine o.N ?_;refine aW jP (j8 _ 4 w0 _) (fun fQ fk bE=>?_);obtain⟨rfl,aR⟩:=bE;replace aI:=aI.L aR;have gY:=aR.size;refine o.nil ?_;refine aP.sub (cc () _ ?_) ⟨rfl,rfl,rfl,rfl,trivial⟩;exact⟨trivial,aI⟩
  ·
   have k:=bV (by simpa using cd);have N:=X.h6 k.1 k.2;have fW:=N.a6;refine o.ao (Y.ai E.N rfl bt rfl ep) ?_;refine o.ao (ar E.N.fO fi) ?_;refine o.ao (bb C fq) ?_;refine o.ao ((eK).gC (by omega)) ?_;refine o.ao dH ?_;refine o.N ?_;refine aW jP (j8 _ 4 w0 _) (fun fQ fk bE=>?_);obtain⟨rfl,aR⟩:=bE;replace aI:=aI.L aR;have gZ:=aR.size;refine o.nil ?_;refine aP.sub (cc () _ ?_) ⟨rfl,rfl,rfl,rfl,trivial⟩;exact⟨trivial,aI⟩
 ·
  intro _ aX cJ;obtain⟨bX,S⟩:=cJ;replace hm:=hm.M S;replace C:=C.M S;replace he:=he.M S;replace an:=fun y K=>(an y K).M S;replace B:=B.M S;replace F:=F.M S;replace E:=E.M S;replace A:=A.L S;have g_:=S.size
  refine G.cut (fun(_:Unit)=>[(1,.pointer (some ⟨I.size,0,none⟩)),(3,.pointer (some ⟨H1.size,0,none⟩)),(4,.pointer (some ⟨P.size,0,none⟩)),(5,.bool aH)])
   (fun(_:Unit) (H:Heap)=>(True)∧aj aX H) (fun _ cy _=>?_) ?_
  ·
   have ab:aj aX aX:=W.refl _ _;refine dx (fun t=>aj aX t) [] ?_;have n:=aj.refl aX;refine O.V 0 rfl n ?_;refine O.t1 1 rfl (fun t k=>Y.ai (B.N.M k) rfl bu rfl cX) n ?_;refine O.t1 2 rfl (fun t k=>ar (B.N.M k) dA) n ?_;refine O.t1 3 rfl (fun t k=>eL) n ?_;refine O.V 4 rfl n ?_;refine O.split (d:=47) rfl (fun cg=>?_) (fun cg=>?_)
   ·
    refine O.g1 5 rfl rfl rfl rfl n ?_;refine O.g1 6 rfl rfl rfl rfl n ?_;refine O.g1 7 rfl rfl rfl rfl n ?_;refine O.g1 8 rfl rfl rfl rfl n ?_;refine O.g1 9 rfl rfl rfl rfl n ?_;refine O.t1 10 rfl (fun t k=>eh) n ?_;refine O.aX 11 ?_;refine cf jP (j8 _ 5 w0 _) (fun fl bS bF=>?_);obtain⟨rfl,al⟩:=bF;replace ab:=ab.L al;have hb:=al.size;have bl:=n.L al;refine O.cc bl ?_;have bn:=aj.refl bS;refine cx ?_;have N:=bn;refine aP.sub (cy () _ ?_) ⟨rfl,rfl,rfl,rfl,trivial⟩;exact⟨trivial,ab⟩
   ·
    have hF:=X.an (by simpa using cg);refine O.bI 5 rfl (fun t k=>Y.ai (B.N.M k) rfl bu rfl bP) bd n ?_;refine O.bI 6 rfl (fun t k=>ar ((B.N.drop 1).M k) bN) bd n ?_;refine O.bI 7 rfl (fun t k=>fB dP) bd n ?_;refine O.aX 8 ?_;refine dq.call rfl rfl lV rfl bd rfl rfl (oY w0 _) (fun hc ed fm=>?_);obtain⟨rfl,bT⟩:=fm;replace ab:=ab.L bT;have ga:=bT.size;have dT:=n.L bT;refine O.cc dT ?_;have bo:=aj.refl ed;refine O.bI 9 rfl (fun t k=>(eK).gC (by omega)) bd bo ?_;refine O.t1 10 rfl (fun t k=>dH) bo ?_;refine O.aX 11 ?_;refine cf jP (j8 _ 5 w0 _) (fun fl bS bF=>?_);obtain⟨rfl,al⟩:=bF;replace ab:=ab.L al;have gb:=al.size;have bl:=bo.L al;refine O.cc bl ?_;have bn:=aj.refl bS;refine cx ?_;have N:=bn;refine aP.sub (cy () _ ?_) ⟨rfl,rfl,rfl,rfl,trivial⟩;exact⟨trivial,ab⟩
  ·
   intro _ b3 cL;obtain⟨bX,V⟩:=cL;replace hm:=hm.M V;replace C:=C.M V;replace he:=he.M V;replace an:=fun y K=>(an y K).M V;replace B:=B.M V;replace F:=F.M V;replace E:=E.M V;replace A:=A.L V;have gd:=V.size;refine G.t1 (fun fo=>G.L (fun fp=>?_));refine o.v1 (Y.ai B.N rfl bu rfl eo) ?_;refine o.v1 (ar (B.N.drop 2) eB) ?_;refine o.v1 (bb hm dI) ?_;refine o.V (o.nil (fp ?_));refine G.aB (fun _ fr _=>?_)
   refine G.bg (fun(i:(Nat))=>[(1,.pointer (some ⟨I.size,0,none⟩)),(3,.pointer (some ⟨H1.size,0,none⟩)),(4,.pointer (some ⟨P.size,0,none⟩)),(5,.bool aH),(56,x.ei.v),(57,.int .i64 (x.ml.length:Int)),(58,.int .i64 i)])
    (fun(i:(Nat)) (H:Heap)=>(i≤x.ml.length)∧aj b3 H)
    (fun(i:(Nat))=>x.ml.length-i) 0 ⟨rfl,rfl,rfl,rfl,rfl,rfl,rfl,trivial⟩ ?_ ?_
   ·
    exact⟨(by omega),W.refl _ _⟩
   intro i a8 ft fX fu fw;obtain⟨bU,L⟩:=ft;replace hm:=hm.M L;replace C:=C.M L;replace he:=he.M L;replace an:=fun y K=>(an y K).M L;replace B:=B.M L;replace F:=F.M L;replace E:=E.M L;replace A:=A.L L;have gf:=L.size;refine G.L (fun cP=>?_);refine o.v1 bJ (o.nil (cP ?_));refine G.t2 (fun cR cU=>?_);refine aU (fun fx=>?_) (fun fx=>?_)
   ·
    refine G.skip (cR (G.t1 (fun cW=>G.aB (fun cZ _ _=>G.L (fun c1=>?_)))));have aF:i<x.ml.length:=by omega
    obtain⟨y,ae⟩:∃q,q=x.ml[i]:=⟨_,rfl⟩;have aO:y∈x.ml:=by rw[ae];exact List.getElem_mem aF
    have hI:=X.iN y aO;refine o.bR (Y.bL hm (i) rfl dI dO rfl rfl) fun gg dF=>?_;refine o.v1 (Y.cast (v2:= .agg (du y).toArray) (aT dF.N iF dO (e4 _)) (by rw[ae])) ?_;refine o.aO (cV mm) ?_;rintro hO cA ⟨rfl,ai,cl,hd,fy⟩;have gh:cA.size=a8.size+1:=by rw[fy];simp
    have eT:T 0 b3.size (a8.size+1):=T.new L.size;replace L:=L.L cl;have gj:=cl.size;refine o.s1 (dM ai (_) (du y) (kO y) dO (e4 _) ((c9 (e4 _).symm))) fun cb eW=>?_;obtain⟨ai,aZ⟩:=eW;replace aZ:=aZ.bs;replace L:=L.bo aZ (ag.J (aq.q eT));have gk:=aZ.size;refine o.nil (c1 ?_);refine dx (fun t=>aj cb t) [] ?_;have n:=aj.refl cb;refine O.V 0 rfl n ?_;refine O.t1 1 rfl (fun t k=>Y.ai (ai.N.M k) rfl cC rfl bP) n ?_;refine O.t1 2 rfl (fun t k=>ar (ai.N.M k) bN) n ?_;refine O.t1 3 rfl (fun t k=>fB dP) n ?_;refine O.aX 4 ?_;refine cf lV (oY w0 _) (fun hf fG fC=>?_);obtain⟨rfl,a0⟩:=fC;replace ai:=ai.M a0;replace L:=L.L a0;have gl:=a0.size;have bv:=n.L a0;refine O.cc bv ?_;have aL:=aj.refl fG;refine O.t1 5 rfl (fun t k=>(eK).gC (by omega)) aL ?_;refine O.V 6 rfl aL ?_;refine O.bI 7 rfl (fun t k=>Y.ai (ai.N.M k) rfl cC rfl bP) bd aL ?_;refine O.bI 8 rfl (fun t k=>ar (ai.N.mV.M k) bN) bd aL ?_;refine O.bI 9 rfl (fun t k=>fB dP) bd aL ?_;refine O.aX 10 ?_;refine dq.call rfl rfl lV rfl bd rfl rfl (xk w0 _) (fun hg bf fD=>?_);obtain⟨rfl,be⟩:=fD;replace L:=L.L be;have gm:=be.size;have dY:=aL.L be;refine O.cc dY ?_;have bp:=aj.refl bf;refine O.bI 11 rfl (fun t k=>(eK).gC (by omega)) bd bp ?_;refine O.t1 12 rfl (fun t k=>eh) bp ?_;refine O.aX 13 ?_;refine cf jP (j8 _ 5 w0 _) (fun hh dW fE=>?_);obtain⟨rfl,bI⟩:=fE;replace L:=L.L bI;have gn:=bI.size;have dZ:=bp.L bI;refine O.cc dZ ?_;have d_:=aj.refl dW;refine cx ?_;have N:=d_;refine cZ (cW (G.region ?_));refine o.v1 bD ?_;refine o.V (o.nil ?_);refine aP.sub (fu (i+1) _ ?_ ?_) ⟨rfl,rfl,rfl,rfl,rfl,(aD (by omega)),(aD (by omega)),trivial⟩
    ·exact⟨(by omega),L⟩
    ·first|omega|(simp only;omega)|(simp;omega)
   ·
    refine G.exit (cU (fw (fr ?_)));refine fo (G.t1 (fun eY=>G.L (fun eZ=>?_)));refine o.v1 (Y.ai B.N rfl bu rfl dv) ?_;refine o.v1 (ar B.N.fX dV) ?_;refine o.v1 (bb he cu) ?_;refine o.V (o.nil (eZ ?_));refine G.aB (fun _ ce _=>?_)
    refine G.bg (fun(i:(Nat))=>[(1,.pointer (some ⟨I.size,0,none⟩)),(3,.pointer (some ⟨H1.size,0,none⟩)),(4,.pointer (some ⟨P.size,0,none⟩)),(5,.bool aH),(78,x.ct.v),(79,.int .i64 (x.el.length:Int)),(80,.int .i64 i)])
     (fun(i:(Nat)) (H:Heap)=>(i≤x.el.length)∧aj a8 H)
     (fun(i:(Nat))=>x.el.length-i) 0 ⟨rfl,rfl,rfl,rfl,rfl,rfl,rfl,trivial⟩ ?_ ?_
    ·
     exact⟨(by omega),W.refl _ _⟩
    intro i a4 fF hi e0 e1;obtain⟨bU,M⟩:=fF;replace hm:=hm.M M;replace C:=C.M M;replace he:=he.M M;replace an:=fun y K=>(an y K).M M;replace B:=B.M M;replace F:=F.M M;replace E:=E.M M;replace A:=A.L M;have d0:=M.size;refine G.L (fun dU=>?_);refine o.v1 bJ (o.nil (dU ?_));refine G.t2 (fun ci e2=>?_);refine aU (fun d1=>?_) (fun d1=>?_)
    ·
     refine G.skip (ci (G.t1 (fun e3=>G.aB (fun e5 _ _=>G.L (fun e6=>?_)))));have aF:i<x.el.length:=by omega
     obtain⟨y,ae⟩:∃q,q=x.el[i]:=⟨_,rfl⟩;have aO:y∈x.el:=by rw[ae];exact List.getElem_mem aF
     have fV:=X.md y aO;refine o.bR (Y.bL he (i) rfl cu ck rfl rfl) fun d2 e7=>?_;refine o.v1 (Y.cast (v2:= .agg (bO y).toArray) (aT e7.N hJ ck (c0 _)) (by rw[ae])) ?_;refine o.aO (cV kD) ?_;rintro v9 cD ⟨rfl,a_,co,gv,d3⟩;have d4:cD.size=a4.size+1:=by rw[d3];simp
     have e8:=(ay.new (a2.mono A.size):ay _ (a4.size+1));have e9:T 0 a8.size (a4.size+1):=T.new M.size;replace an:=fun y K=>(an y K).M co;replace M:=M.L co;have d5:=co.size;refine o.s1 (dM a_ (_) (bO y) (gX y) ck (c0 _) ((c9 (c0 _).symm))) fun a5 c3=>?_;obtain⟨a_,ap⟩:=c3;replace ap:=ap.bs;replace an:=fun y K=>(an y K).ab ap (az.J e8);replace M:=M.bo ap (ag.J (aq.q e9));have d6:=ap.size;refine o.nil (e6 ?_);refine dx (fun t=>aj a5 t) [] ?_;have n:=aj.refl a5;refine O.V 0 rfl n ?_;refine O.t1 1 rfl (fun t k=>Y.ai (a_.N.M k) rfl eX rfl db) n ?_;refine O.t1 2 rfl (fun t k=>ar (a_.N.ji.M k) eD) n ?_;refine O.t1 3 rfl (fun t k=>bb ((an y aO).M k) dc) n ?_;refine O.aX 4 ?_;refine cf lV (Ey w0 _) (fun gy fH d7=>?_);obtain⟨rfl,bK⟩:=d7;replace M:=M.L bK;have d8:=bK.size;have c4:=n.L bK;refine O.cc c4 ?_;have bY:=aj.refl fH;refine O.t1 5 rfl (fun t k=>(eK).gC (by omega)) bY ?_;refine O.aX 6 ?_;refine cf jP (j8 _ 5 w0 _) (fun gz gi d9=>?_);obtain⟨rfl,bi⟩:=d9;replace M:=M.L bi;have gp:=bi.size;have c8:=bY.L bi;refine O.cc c8 ?_;have da:=aj.refl gi;refine cx ?_;have N:=da;refine e5 (e3 (G.region ?_));refine o.v1 bD ?_;refine o.V (o.nil ?_);refine aP.sub (e0 (i+1) _ ?_ ?_) ⟨rfl,rfl,rfl,rfl,rfl,(aD (by omega)),(aD (by omega)),trivial⟩
     ·exact⟨(by omega),M⟩
     ·first|omega|(simp only;omega)|(simp;omega)
    ·
     refine G.exit (e2 (e1 (ce ?_)));refine eY ?_
     refine G.cut (fun(_:Unit)=>[(1,.pointer (some ⟨I.size,0,none⟩)),(3,.pointer (some ⟨H1.size,0,none⟩)),(4,.pointer (some ⟨P.size,0,none⟩)),(5,.bool aH)])
      (fun(_:Unit) (H:Heap)=>(True)∧aj a4 H) (fun _ b5 _=>?_) ?_
     ·
      have Z:aj a4 a4:=W.refl _ _;refine dx (fun t=>aj a4 t) [] ?_;have n:=aj.refl a4;refine O.V 0 rfl n ?_;refine O.V 1 rfl n ?_;refine O.t1 2 rfl (fun t k=>eL) n ?_;refine O.V 3 rfl n ?_;refine O.split (d:=95) rfl (fun cm=>?_) (fun cm=>?_)
      ·
       refine O.g1 4 rfl rfl rfl rfl n ?_;refine O.g1 5 rfl rfl rfl rfl n ?_;refine O.g1 6 rfl rfl rfl rfl n ?_;refine O.g1 7 rfl rfl rfl rfl n ?_;refine O.g1 8 rfl rfl rfl rfl n ?_;refine O.t1 9 rfl (fun t k=>eh) n ?_;refine O.aX 10 ?_;refine cf jP (j8 _ 5 w0 _) (fun e_ bq bL=>?_);obtain⟨rfl,aA⟩:=bL;replace Z:=Z.L aA;have hj:=aA.size;have ba:=n.L aA;refine O.cc ba ?_;have bg:=aj.refl bq;refine cx ?_;have N:=bg;refine aP.sub (b5 () _ ?_) ⟨rfl,rfl,rfl,rfl,trivial⟩;exact⟨trivial,Z⟩
      ·
       have k:=bV (by simpa using cm);have N:=X.h6 k.1 k.2;have fW:=N.br;refine O.bI 4 rfl (fun t k=>Y.ai (E.N.M k) rfl bt rfl bP) bd n ?_;refine O.bI 5 rfl (fun t k=>ar ((E.N.drop 1).M k) bN) bd n ?_;refine O.bI 6 rfl (fun t k=>fB dP) bd n ?_;refine O.aX 7 ?_;refine dq.call rfl rfl lV rfl bd rfl rfl (oY w0 _) (fun gA fI fR=>?_);obtain⟨rfl,aB⟩:=fR;replace Z:=Z.L aB;have hk:=aB.size;have de:=n.L aB;refine O.cc de ?_;have bs:=aj.refl fI;refine O.bI 8 rfl (fun t k=>(eK).gC (by omega)) bd bs ?_;refine O.t1 9 rfl (fun t k=>dH) bs ?_;refine O.aX 10 ?_;refine cf jP (j8 _ 5 w0 _) (fun e_ bq bL=>?_);obtain⟨rfl,aA⟩:=bL;replace Z:=Z.L aA;have hl:=aA.size;have ba:=bs.L aA;refine O.cc ba ?_;have bg:=aj.refl bq;refine cx ?_;have N:=bg;refine aP.sub (b5 () _ ?_) ⟨rfl,rfl,rfl,rfl,trivial⟩;exact⟨trivial,Z⟩
     ·
      intro _ aS cH;obtain⟨bX,ac⟩:=cH;replace hm:=hm.M ac;replace C:=C.M ac;replace B:=B.M ac;replace F:=F.M ac;replace E:=E.M ac;replace A:=A.L ac;have hn:=ac.size
      refine G.cut (fun(_:Unit)=>[(3,.pointer (some ⟨H1.size,0,none⟩)),(4,.pointer (some ⟨P.size,0,none⟩)),(5,.bool aH)])
       (fun(_:Unit) (H:Heap)=>(True)∧aj aS H) (fun _ b6 _=>?_) ?_
      ·
       have au:aj aS aS:=W.refl _ _;refine dx (fun t=>aj aS t) [] ?_;have n:=aj.refl aS;refine O.V 0 rfl n ?_;refine O.t1 1 rfl (fun t k=>Y.ai (B.N.M k) rfl bu rfl cX) n ?_;refine O.t1 2 rfl (fun t k=>ar ((B.N.drop 3).M k) dA) n ?_;refine O.t1 3 rfl (fun t k=>eL) n ?_;refine O.V 4 rfl n ?_;refine O.split (d:=107) rfl (fun b7=>?_) (fun b7=>?_)
       ·
        refine O.g1 5 rfl rfl rfl rfl n ?_;refine O.g1 6 rfl rfl rfl rfl n ?_;refine O.g1 7 rfl rfl rfl rfl n ?_;refine O.g1 8 rfl rfl rfl rfl n ?_;refine O.iI 9 rfl rfl rfl rfl n ?_;refine O.iI 10 rfl rfl rfl rfl n ?_;refine O.iI 11 rfl rfl rfl rfl n ?_;refine O.iI 12 rfl rfl rfl rfl n ?_;refine O.g1 13 rfl rfl rfl rfl n ?_;refine O.t1 14 rfl (fun t k=>eh) n ?_;refine O.aX 15 ?_;refine cf jP (j8 _ 1 w0 _) (fun cs bw bQ=>?_);obtain⟨rfl,aE⟩:=bQ;replace au:=au.L aE;have ho:=aE.size;have bc:=n.L aE;refine O.cc bc ?_;have bj:=aj.refl bw;refine cx ?_;have N:=bj;refine aP.sub (b6 () _ ?_) ⟨rfl,rfl,rfl,trivial⟩;exact⟨trivial,au⟩
       ·
        have gB:=X.kR (by simpa using b7);refine O.bI 5 rfl (fun t k=>Y.ai (E.N.M k) rfl bt rfl b0) bd n ?_;refine O.bI 6 rfl (fun t k=>ar (E.N.M k) cj) bd n ?_;refine O.bI 7 rfl (fun t k=>(dJ).gC (by omega)) bd n ?_;refine O.bI 8 rfl (fun t k=>fc) bd n ?_;refine O.bI 9 rfl (fun t k=>Y.ai (E.N.M k) rfl bt rfl b0) bd n ?_;refine O.bI 10 rfl (fun t k=>ar (E.N.M k) cj) bd n ?_;refine O.aX 11 ?_;refine dq.call rfl rfl lV rfl bd rfl rfl (oY w0 _) (fun hp df fe=>?_);obtain⟨rfl,bz⟩:=fe;replace au:=au.L bz;have hs:=bz.size;have cG:=n.L bz;refine O.cc cG ?_;have a6:=aj.refl df;refine O.bI 12 rfl (fun t k=>(eK).gC (by omega)) bd a6 ?_;refine O.bI 13 rfl (fun t k=>eh) bd a6 ?_;refine O.t1 14 rfl (fun t k=>dH) a6 ?_;refine O.aX 15 ?_;refine cf jP (j8 _ 1 w0 _) (fun cs bw bQ=>?_);obtain⟨rfl,aE⟩:=bQ;replace au:=au.L aE;have ht:=aE.size;have bc:=a6.L aE;refine O.cc bc ?_;have bj:=aj.refl bw;refine cx ?_;have N:=bj;refine aP.sub (b6 () _ ?_) ⟨rfl,rfl,rfl,trivial⟩;exact⟨trivial,au⟩
      ·
       intro _ b2 cI;obtain⟨bX,aJ⟩:=cI;replace hm:=hm.M aJ;replace C:=C.M aJ;replace F:=F.M aJ;replace E:=E.M aJ;replace A:=A.L aJ;have hv:=aJ.size;refine G.t1 (fun b8=>G.L (fun bm=>?_));refine o.V (o.nil (bm ?_));refine cK (fun b9=>?_) (fun b9=>?_)
       ·
        have k:=bV b9;have N:=X.h6 k.1 k.2;have hK:=N.a6;have hL:=N.dn;have hM:=N.md;refine G.t1 (fun dr=>G.L (fun ff=>?_));refine o.v1 (Y.ai E.N rfl bt rfl b0) ?_;refine o.v1 (ar E.N.iu cj) ?_;refine o.v1 (Y.ai E.N rfl bt rfl b0) ?_;refine o.v1 (ar E.N.jB cj) ?_;refine o.aO (cT _ ([x.q.dn,x.q.md]) DQ km kn (rfl)) fun fg b_ fh=>?_;obtain⟨aY,aM,gq,dh⟩:=fh;have f_:b_.size=b2.size+1:=by rw[dh];simp
        replace hm:=hm.M aM;replace C:=C.M aM;replace F:=F.M aM;replace E:=E.M aM;replace A:=A.L aM;have hx:=aM.size;refine o.v1 (bb aY.rd zx) ?_;refine o.V (o.nil (ff ?_));refine G.aB (fun _ eg _=>?_)
        refine G.bg (fun(i:(Nat))=>[(3,.pointer (some ⟨H1.size,0,none⟩)),(4,.pointer (some ⟨P.size,0,none⟩)),(124,fg),(125,.int .i64 2),(126,.int .i64 i)])
         (fun(i:(Nat)) (H:Heap)=>(i≤2)∧aj b_ H)
         (fun(i:(Nat))=>2-i) 0 ⟨rfl,rfl,rfl,rfl,rfl,trivial⟩ ?_ ?_
        ·
         exact⟨(by omega),W.refl _ _⟩
        intro i cn em gC ei ej;obtain⟨bU,am⟩:=em;replace hm:=hm.M am;replace C:=C.M am;replace F:=F.M am;replace E:=E.M am;replace aY:=aY.M am;replace A:=A.L am;have gP:=am.size;refine G.L (fun ek=>?_);refine o.v1 bJ (o.nil (ek ?_));refine G.t2 (fun en er=>?_);refine aU (fun et=>?_) (fun et=>?_)
        ·
         refine G.skip (en (G.t1 (fun eu=>G.aB (fun ev _ _=>G.L (fun ew=>?_)))));have aF:i<[x.q.dn,x.q.md].length:=by simp;omega
         have k:0≤[x.q.dn,x.q.md][i]∧[x.q.dn,x.q.md][i]≤65535:=by
          have hm:=List.getElem_mem aF;rcases List.mem_cons.1 hm with h|h
          ·rw[h];omega
          ·rw[List.mem_singleton.1 h];omega
         refine o.v1 (mj aY (i) zx b0) ?_;refine o.v1 (ar (aY.N (j:=i) (by first|omega|(simp;omega)|(simp;done))) cj) ?_;refine o.ak ?_;refine ew (G.region ?_);refine o.ax 2 ?_;refine o.v1 ((dJ).gC (by omega)) ?_;refine o.ax 2 ?_;refine o.call rfl lV rfl bd rfl rfl (xk w0 _) (fun hz bR ey=>?_);obtain⟨rfl,bZ⟩:=ey;replace am:=am.L bZ;have hA:=bZ.size;refine o.ao ((eK).gC (by omega)) ?_;refine o.N ?_;refine aW jP (j8 _ 1 w0 _) (fun es hB ez=>?_);obtain⟨rfl,a9⟩:=ez;replace am:=am.L a9;have hC:=a9.size;refine o.nil (ev (eu (G.region ?_)));refine o.v1 bD ?_;refine o.V (o.nil ?_);refine aP.sub (ei (i+1) _ ?_ ?_) ⟨rfl,rfl,rfl,(aD (by omega)),(aD (by omega)),trivial⟩
         ·exact⟨(by omega),am⟩
         ·first|omega|(simp only;omega)|(simp;omega)
        ·
         refine G.exit (er (ej (eg ?_)));refine dr (G.L (fun eA=>?_));refine o.v1 (Y.ai E.N rfl bt rfl ep) ?_;refine o.v1 (ar E.N.fO fi) ?_;refine o.v1 (bb C fq) ?_;refine o.V (o.nil (eA ?_));refine G.aB (fun _ eC _=>?_)
         refine G.bg (fun(i:(Nat))=>[(3,.pointer (some ⟨H1.size,0,none⟩)),(141,x.q.cd.v),(142,.int .i64 (x.q.a6.length:Int)),(143,.int .i64 i)])
          (fun(i:(Nat)) (H:Heap)=>(i≤x.q.a6.length)∧aj cn H)
          (fun(i:(Nat))=>x.q.a6.length-i) 0 ⟨rfl,rfl,rfl,rfl,trivial⟩ ?_ ?_
         ·
          exact⟨(by omega),W.refl _ _⟩
         intro i cr fS gD eE eF;obtain⟨bU,Q⟩:=fS;replace C:=C.M Q;replace F:=F.M Q;replace A:=A.L Q;have ex:=Q.size;refine G.L (fun eG=>?_);refine o.v1 bJ (o.nil (eG ?_));refine G.t2 (fun eH eJ=>?_);refine aU (fun eM=>?_) (fun eM=>?_)
         ·
          refine G.skip (eH (G.t1 (fun eN=>G.aB (fun eO _ _=>G.L (fun eP=>?_)))));have aF:i<x.q.a6.length:=by omega
          obtain⟨y,ae⟩:∃q,q=x.q.a6[i]:=⟨_,rfl⟩;have aO:y∈x.q.a6:=by rw[ae];exact List.getElem_mem aF
          have fV:=N.dd y aO;refine o.bR (Y.bL C (i) rfl fq ha rfl rfl) fun dl di=>?_;refine o.v1 (Y.cast (v2:= .agg (c2 y).toArray) (aT di.N mB ha (hX _)) (by rw[ae])) ?_;refine o.aO (cV ue) fun gE fT fU=>?_;obtain⟨rfl,aQ,ca,gG,eQ⟩:=fU;have cF:fT.size=cr.size+1:=by rw[eQ];simp
          have eR:T 0 cn.size (cr.size+1):=T.new Q.size;replace Q:=Q.L ca;have gH:=ca.size;refine o.s1 (dM aQ (_) (c2 y) (mN y) ha (hX _) ((c9 (hX _).symm))) fun b4 dj=>?_;obtain⟨aQ,a7⟩:=dj;replace a7:=a7.bs;replace Q:=Q.bo a7 (ag.J (aq.q eR));have gI:=a7.size;refine o.nil (eP ?_);refine dx (fun t=>aj b4 t) [] ?_;have n:=aj.refl b4;refine O.V 0 rfl n ?_;refine O.t1 1 rfl (fun t k=>Y.ai (aQ.N.M k) rfl jC rfl b0) n ?_;refine O.t1 2 rfl (fun t k=>ar (aQ.N.M k) cj) n ?_;refine O.t1 3 rfl (fun t k=>(dJ).gC (by omega)) n ?_;refine O.V 4 rfl n ?_;refine O.bI 5 rfl (fun t k=>Y.ai (aQ.N.M k) rfl jC rfl b0) bd n ?_;refine O.bI 6 rfl (fun t k=>ar (aQ.N.M k) cj) bd n ?_;refine O.aX 7 ?_;refine dq.call rfl rfl lV rfl bd rfl rfl (oY w0 _) (fun gJ dk eS=>?_);obtain⟨rfl,bA⟩:=eS;replace Q:=Q.L bA;have gK:=bA.size;have dK:=n.L bA;refine O.cc dK ?_;have bk:=aj.refl dk;refine O.bI 8 rfl (fun t k=>(eK).gC (by omega)) bd bk ?_;refine O.t1 9 rfl (fun t k=>eh) bk ?_;refine O.aX 10 ?_;refine cf jP (j8 _ 1 w0 _) (fun gL dm ea=>?_);obtain⟨rfl,bC⟩:=ea;replace Q:=Q.L bC;have gM:=bC.size;have dL:=bk.L bC;refine O.cc dL ?_;have dN:=aj.refl dm;refine cx ?_;have N:=dN;refine eO (eN (G.region ?_));refine o.v1 bD ?_;refine o.V (o.nil ?_);refine aP.sub (eE (i+1) _ ?_ ?_) ⟨rfl,rfl,(aD (by omega)),(aD (by omega)),trivial⟩
          ·exact⟨(by omega),Q⟩
          ·first|omega|(simp only;omega)|(simp;omega)
         ·
          refine G.exit (eJ (eF (eC ?_)));refine b8 (G.L (fun eb=>?_));refine o.ax 2 ?_;refine o.v1 (Y.ai F.N rfl k8 rfl q0) ?_;refine o.v1 (ar (F.N.drop 2) pL) ?_;refine o.ak ?_;refine eb ?_;refine G.ret (cv ?_);exact⟨rfl,A⟩
       ·
        refine G.skip (b8 (G.L (fun ec=>?_)));refine o.ax 2 ?_;refine o.v1 (Y.ai F.N rfl k8 rfl q0) ?_;refine o.v1 (ar (F.N.drop 2) pL) ?_;refine o.ak ?_;refine ec ?_;refine G.ret (cv ?_);exact⟨rfl,A⟩
theorem wb(x:b1)(F:Nat→Prop)(w0:World)(I:Heap)
 (t:e2 F I x) (R:bh F I.size) (L:lb x):
 aC Tryz.prog w0 37 #[dG x] I (fun r bK=>∃s2:aN,∃a8:Nat,r= .tuple #[s2.v,.int .i64 0]∧(aV a8 5 bK a1 1 s2.v (fl x))∧(T 0 I.size a8)∧aj I bK):=by
 refine aC.aK [dG x] Tryz.func37 ?_;intro fN fM;have n:aj I I:=W.refl _ _;have g_:=t.m.len;have gW:=t.e.len;have aK:=L.ml;have gA:=L.el;have fL:=pb L;refine G.L (fun ek=>?_);refine o.aO cq ?_;rintro v1 H1 ⟨rfl,k,bI,gd,en⟩;have fT:H1.size=I.size+1:=by rw[en];simp
 replace t:=t.M bI;replace n:=n.L bI;have gf:=bI.size;replace k:Var 32 H1 I.size (c_ x):=k;refine o.aQ 2 ?_;refine ek (G.t1 (fun ep=>G.L (fun et=>?_)));refine o.v1 (aT k.N fj ef (dg _)) ?_;refine aW Cc (Ie x w0 _ t.m.any t.q.any t.e.any (fun y hy=>(t.d y hy).any) L) (fun gg A eu=>?_);obtain⟨rfl,bc⟩:=eu;replace t:=t.M bc;replace k:=k.M bc;replace n:=n.L bc;have gh:=bc.size;refine o.ak ?_;refine et (G.L (fun ev=>?_));refine o.V ?_;refine o.v1 ((cU).fm (by simp)) (o.nil (ev ?_));refine dw ?_;refine G.skip (ep (G.L (fun ew=>?_)));refine o.v1 (Y.build (v:= .agg #[(.slice none 0 0),.int .i64 0,.int .i64 0]) rfl rfl (by intro w;kernel_rfl)) ?_;refine o.aO cq fun gj aI ey=>?_;obtain⟨rfl,j,bd,fU,dD⟩:=ey;have fQ:aI.size=A.size+1:=by rw[dD];simp
 have V:=(ay.new (R.mono n.size):ay _ (A.size+1));have Q:af (I.size+1) (A.size+1):=af.new k.lt;have ak:T 0 I.size (A.size+1):=T.new n.size;replace t:=t.M bd;replace k:=k.M bd;replace n:=n.L bd;have gk:=bd.size;replace j:Var 223 aI A.size ([(⟨none,0,0⟩:aN).v,.int .i64 0,.int .i64 0]):=j;refine o.ak ?_;refine ew (G.t1 (fun ez=>?_));refine dx (fun aH=>W (aE [(A.size+1)]) aI aH) [] ?_;have C:W (aE [(A.size+1)]) aI aI:=W.refl _ _;have dX:=T.refl (A.size+1) aI.size;refine O.V 0 rfl C ?_;refine O.t1 1 rfl (fun aH ab=>Y.fieldAddr (k.ab ab (ah.J Q)).N rfl bu rfl rfl cX (by decide) rfl) C ?_;refine O.t1 2 rfl (fun aH ab=>Y.fU (k.ab ab (ah.J Q)).N rfl dA rfl) C ?_;refine O.t1 4 rfl (fun aH ab=>Y.fieldAddr (k.ab ab (ah.J Q)).N rfl bu rfl rfl cX (by decide) rfl) C ?_;refine O.t1 5 rfl (fun aH ab=>ar ((k.ab ab (ah.J Q)).N.drop 3) dA) C ?_;refine O.aX 3 ?_;refine cf rZ (tX x.bE 1 w0 _) (fun gl bG dY=>?_);obtain⟨rfl,aO⟩:=dY;replace t:=t.M aO;replace k:=k.M aO;replace j:=j.M aO;replace n:=n.L aO;replace C:=C.bc aO;have gm:=aO.size;refine O.b3 C (ag.J (aq.r dX)) ?_;have C:W (aE [(A.size+1)]) bG bG:=W.refl _ _;have dZ:=T.refl (A.size+1) bG.size;refine O.aX 6 ?_;refine cf rZ (tX x.al 2 w0 _) (fun gp a9 dE=>?_);obtain⟨rfl,aQ⟩:=dE;replace t:=t.M aQ;replace k:=k.M aQ;replace j:=j.M aQ;replace n:=n.L aQ;replace C:=C.bc aQ;have d0:=aQ.size;refine O.b3 C (ag.J (aq.r dZ)) ?_;have C:W (aE [(A.size+1)]) a9 a9:=W.refl _ _;have cA:=T.refl (A.size+1) a9.size;refine O.t1 7 rfl (fun aH ab=>Y.FG rfl rfl rfl) C ?_;refine O.aX 8 ?_;refine cf kL (k_ _ _ _ [] 1 _ w0 _ j (aV.nil eE fK) af.z (by decide) (by simp)) (fun d1 ai d_=>?_);have ea:=k.lt;obtain⟨eb,S,rfl,j,d,bg,cN,aZ⟩:=d_;have b0:=ay.app (ay.z) (R.mono n.size) bg;have b5:af (I.size+1) S:=af.app (af.z) ea bg;have b8:T 0 I.size S:=T.L (T.refl 0 _) bg n.size;have dF:T 0 a9.size S:=T.L (T.refl 0 _) bg C.size;replace t:=t.ab aZ (az.cons V (az.J ay.z));replace k:=k.ab aZ (ah.cons Q (ah.J af.z));replace n:=n.bo aZ (ag.cons (aq.q ak) (ag.cons aq.z ag.nil));replace C:=C.aJ aZ (ag.cons (aq.r cA) (ag.cons aq.z ag.nil));have d2:=aZ.size;have N:=d.le;refine O.b3 C (ag.cons (aq.r cA) (ag.J (aq.q dF))) ?_;refine cx ?_;refine ez ?_
 refine G.cut (fun(aF:(aN)×(Nat))=>match aF with|(s1,aA)=>[(1,.pointer (some ⟨I.size,0,none⟩)),(5,.pointer (some ⟨A.size,0,none⟩))])
  (fun(s1,aA) (H:Heap)=>(Var 223 H A.size [s1.v,.int .i64 0,.int .i64 0])∧(aV aA 5 H a1 1 s1.v (jk x))∧(T S ai.size aA)∧(af (A.size+1) aA)∧W (aE [(A.size+1),S]) ai H) (fun _ cD _=>?_) ?_
 ·
  have aX:W (aE [(A.size+1),S]) ai ai:=W.refl _ _;have c3:=T.refl (A.size+1) ai.size;have bF:=T.refl S ai.size;refine G.L (fun cy=>?_);refine o.v1 (Y.ai k.N rfl bu rfl cX) ?_;refine o.v1 (ar k.N dA) (o.nil (cy ?_));refine cK (fun bt=>?_) (fun bt=>?_)
  ·
   refine G.region ?_;refine o.V ?_;refine o.v1 (Y.ai k.N rfl bu rfl bP) ?_;refine o.v1 (ar (k.N.drop 1) bN) ?_;refine aW oD (pz _ _ _ _ 1 x.an w0 _ j d (cN) (by simp[dT]) (by decide) (by have:=L.an bt;omega)) (fun d3 d4 ec=>?_);obtain⟨ed,cG,rfl,j,d,dH,fu,b9⟩:=ec;have dJ:T S ai.size cG:=T.L (bF) dH aX.size;replace aX:=aX.aJ b9 (ag.cons (aq.r c3) (ag.J (aq.r bF)));have d5:=b9.size;have N:=d.le;refine o.nil ?_;refine aP.sub (cD (ed,cG) _ ?_) ⟨rfl,rfl,trivial⟩;exact⟨j,(by rw[jk,if_pos bt];exact d),dJ,fu,aX⟩
  ·
   refine G.skip ?_;refine aP.sub (cD (eb,S) _ ?_) ⟨rfl,rfl,trivial⟩;exact⟨j,(by rw[jk,if_neg (by simp[bt]),List.append_nil];exact d),bF,cN,aX⟩
 ·
  rintro⟨s1,aA⟩ fO cW;obtain⟨j,d,K,ac,bp⟩:=cW;have bT:=ay.app (b0) (R.mono n.size) K;have be:af (I.size+1) aA:=af.app (b5) k.lt K;have bY:T 0 I.size aA:=T.L (b8) K n.size;replace t:=t.ab bp (az.cons V (az.J b0));replace k:=k.ab bp (ah.cons Q (ah.J b5));replace n:=n.bo bp (ag.cons (aq.q ak) (ag.J (aq.q b8)));have d6:=bp.size;have N:=d.le;have dK:=ac;refine G.L (fun eA=>?_);refine o.V ?_;refine o.v1 (Y.ai k.N rfl bu rfl eo) ?_;refine o.v1 (ar (k.N.drop 2) eB) ?_;refine o.v1 (bb t.m dI) ?_;refine o.v1 (Y.hA rfl gn gU rfl) ?_;refine aW kL (k_ _ _ _ _ 2 _ w0 _ j d (dK) (by decide) (by omega)) (fun d7 aa fg=>?_);have dL:=k.lt;obtain⟨bf,X,rfl,j,d,bA,fw,bj⟩:=fg;have ca:=ay.app (bT) (R.mono n.size) bA;have cb:af (I.size+1) X:=af.app (be) dL bA;have bi:T 0 I.size X:=T.L (bY) bA n.size;replace t:=t.ab bj (az.cons V (az.J bT));replace k:=k.ab bj (ah.cons Q (ah.J be));replace n:=n.bo bj (ag.cons (aq.q ak) (ag.J (aq.q bY)));have d8:=bj.size;have N:=d.le;refine o.nil (eA (G.t1 (fun dN=>G.L (fun dP=>?_))));refine o.v1 (Y.ai k.N rfl bu rfl eo) ?_;refine o.v1 (ar (k.N.drop 2) eB) ?_;refine o.v1 (bb t.m dI) ?_;refine o.V (o.nil (dP ?_));refine G.aB (fun _ c4 _=>?_)
  refine G.bg (fun(aF:(Nat)×(aN)×(Nat))=>match aF with|(i,aR,M)=>[(1,.pointer (some ⟨I.size,0,none⟩)),(5,.pointer (some ⟨A.size,0,none⟩)),(39,x.ei.v),(40,.int .i64 (x.ml.length:Int)),(41,.int .i64 i)])
   (fun(i,aR,M) (H:Heap)=>(i≤x.ml.length)∧(Var 223 H A.size [aR.v,.int .i64 0,.int .i64 0])∧(aV M 5 H a1 1 aR.v ((jk x++cm 2 (UInt64.ofNat x.ml.length)++(x.ml.take i).flatMap iO)))∧(T X aa.size M)∧(af (A.size+1) M)∧W (aE [(A.size+1),X]) aa H)
   (fun(i,aR,M)=>x.ml.length-i) (0,bf,X) ⟨rfl,rfl,rfl,rfl,rfl,trivial⟩ ?_ ?_
  ·
   exact⟨(by omega),j,(by simpa using d),T.refl _ _,fw,W.refl _ _⟩
  rintro⟨i,aR,M⟩ P dW d9 c8 da;obtain⟨fH,j,d,K,ac,B⟩:=dW;have bC:=ay.app (ca) (R.mono n.size) K;have cc:af (I.size+1) M:=af.app (cb) k.lt K;have aB:T 0 I.size M:=T.L (bi) K n.size;replace t:=t.ab B (az.cons V (az.J ca));replace k:=k.ab B (ah.cons Q (ah.J cb));replace n:=n.bo B (ag.cons (aq.q ak) (ag.J (aq.q bi)));have dd:=B.size;have N:=d.le;have a0:=ac;have bo:=T.refl (A.size+1) aa.size;have cd:=K;have fI:=sV L i;have cP:(jk x++cm 2 (UInt64.ofNat x.ml.length)++(x.ml.take i).flatMap iO).length≤4400000000:=by simp only[List.length_append,dT];omega
  refine G.L (fun dc=>?_);refine o.v1 bJ (o.nil (dc ?_));refine G.t2 (fun de df=>?_);refine aU (fun fh=>?_) (fun fh=>?_)
  ·
   refine G.skip (de (G.t1 (fun dh=>G.aB (fun di _ _=>G.L (fun dj=>?_)))));have ba:i<x.ml.length:=by omega
   obtain⟨y,al⟩:∃q,q=x.ml[i]:=⟨_,rfl⟩;have bx:y∈x.ml:=by rw[al];exact List.getElem_mem ba
   have hd:=L.iN y bx;refine o.bR (Y.bL t.m (i) rfl dI dO rfl rfl) fun gi dk=>?_;refine o.v1 (Y.cast (v2:= .agg (du y).toArray) (aT dk.N iF dO (e4 _)) (by rw[al])) ?_;refine o.aO (cV mm) ?_;rintro hf cR ⟨rfl,E,bw,gq,fi⟩;have gr:cR.size=P.size+1:=by rw[fi];simp
   have a2:af M (P.size+1):=af.new d.le;have bk:af (A.size+1) (P.size+1):=af.new j.lt;have dQ:T 0 aa.size (P.size+1):=T.new B.size;replace d:=d.M bw;replace j:=j.M bw;replace B:=B.bc bw;have gu:=bw.size;refine o.s1 (dM E (_) (du y) (kO y) dO (e4 _) ((c9 (e4 _).symm))) fun fR dR=>?_;obtain⟨E,aM⟩:=dR;replace aM:=aM.bs;replace d:=d.ab aM (ah.J a2);replace j:=j.ab aM (ah.J bk);replace B:=B.aJ aM (ag.J (aq.q dQ));have gv:=aM.size;refine o.nil (dj (G.L (fun eC=>?_)));refine o.V ?_;refine o.v1 (Y.ai E.N rfl cC rfl bP) ?_;refine o.v1 (ar E.N bN) ?_;refine aW oD (pz _ _ _ _ 1 y.n w0 _ j d (a0) (by omega) (by decide) (by omega)) (fun gB gC fk=>?_);have eF:=E.lt;obtain⟨gD,cH,rfl,j,d,cg,fx,a3⟩:=fk;have cj:af (P.size+1) cH:=af.app (a2.symm) eF cg;have cl:T X aa.size cH:=T.L (cd) cg B.size;replace E:=E.ab a3 (ah.cons bk.symm (ah.J a2.symm));replace B:=B.aJ a3 (ag.cons (aq.r bo) (ag.J (aq.r cd)));have dl:=a3.size;have N:=d.le;refine o.nil (eC (G.L (fun eG=>?_)));refine o.V ?_;refine o.v1 (Y.ai E.N rfl cC rfl a_) ?_;refine o.v1 (Y.cast (v2:=bq y.J) (aT ((E.N.drop 1).take 32) b_ a_ (by rw[gY];exact bB _)) (b6 (gY _))) ?_;refine aW nu (n9 _ _ _ _ y.J w0 _ j d (fx) (by rw[List.length_append,hc];omega)) (fun gE gG cF=>?_);have eH:=E.lt;obtain⟨gH,cI,rfl,j,d,cn,fy,a4⟩:=cF;have ce:af (P.size+1) cI:=af.app (cj) eH cn;have br:T X aa.size cI:=T.L (cl) cn B.size;replace E:=E.ab a4 (ah.cons bk.symm (ah.J cj));replace B:=B.aJ a4 (ag.cons (aq.r bo) (ag.J (aq.r cl)));have dn:=a4.size;have N:=d.le;refine o.nil (eG (G.L (fun eJ=>?_)));refine o.V ?_;refine o.v1 (Y.ai E.N rfl cC rfl a_) ?_;refine o.v1 (Y.cast (v2:=bq y.w) (aT ((E.N.drop 33).take 32) b_ a_ (by rw[e5];exact bB _)) (b6 (e5 _))) ?_;refine aW nu (n9 _ _ _ _ y.w w0 _ j d (fy) (by rw[List.length_append,List.length_append,hc,y.J.2];omega)) (fun gI gJ fm=>?_);obtain⟨gK,fo,rfl,j,d,eK,fB,a5⟩:=fm;have cr:T X aa.size fo:=T.L (br) eK B.size;replace E:=E.ab a5 (ah.cons bk.symm (ah.J ce));replace B:=B.aJ a5 (ag.cons (aq.r bo) (ag.J (aq.r br)));have fJ:=a5.size;have N:=d.le;refine o.nil (eJ (G.region ?_));refine o.V ?_;refine o.v1 (Y.ai E.N rfl cC rfl bP) ?_;refine o.v1 (ar E.N.mV bN) ?_;refine aW oD (pz _ _ _ _ 2 y.y w0 _ j d (fB) (by rw[List.length_append,List.length_append,List.length_append,hc,y.J.2,y.w.2];omega) (by decide) (by omega)) (fun gL gM ds=>?_);obtain⟨fp,cJ,rfl,j,d,dU,fC,ct⟩:=ds;have ci:T X aa.size cJ:=T.L (cr) dU B.size;replace B:=B.aJ ct (ag.cons (aq.r bo) (ag.J (aq.r cr)));have gx:=ct.size;have N:=d.le;refine o.nil (di (dh (G.region ?_)));refine o.v1 bD ?_;refine o.V (o.nil ?_);refine aP.sub (c8 (i+1,fp,cJ) _ ?_ ?_) ⟨rfl,rfl,rfl,(aD (by omega)),(aD (by omega)),trivial⟩
   ·exact⟨(by omega),j,(by rw[nH ba,←al,iO];simpa only[List.append_assoc]using d),ci,fC,B⟩
   ·first|omega|(simp only;omega)|(simp;omega)
  ·
   obtain rfl:i=x.ml.length:=by omega
   rw[List.take_length]at d cP;have fL:=pb L;refine G.exit (df (da (c4 ?_)));refine dN ?_
   refine G.cut (fun(aF:(aN)×(Nat))=>match aF with|(bz,ic)=>[(1,.pointer (some ⟨I.size,0,none⟩)),(5,.pointer (some ⟨A.size,0,none⟩))])
    (fun(bz,ic) (H:Heap)=>(Var 223 H A.size [bz.v,.int .i64 0,.int .i64 0])∧(aV ic 5 H a1 1 bz.v (jh x))∧(T M P.size ic)∧(af (A.size+1) ic)∧W (aE [(A.size+1),M]) P H) (fun _ cv _=>?_) ?_
   ·
    have aY:W (aE [(A.size+1),M]) P P:=W.refl _ _;have c1:=T.refl (A.size+1) P.size;have bE:=T.refl M P.size;refine G.L (fun eL=>?_);refine o.v1 (Y.ai k.N rfl bu rfl cX) ?_;refine o.v1 (ar (k.N.drop 3) dA) (o.nil (eL ?_));refine cK (fun bv=>?_) (fun bv=>?_)
    ·
     refine G.region ?_;refine o.V ?_;refine o.v1 (Y.ai k.N rfl bu rfl cS) ?_;refine o.v1 (Y.cast (v2:=er x.q) (aT ((k.N.drop 4).take 70) h9 cS (by rw[jc];exact ee _)) (b6 (jc x))) ?_;refine aW AV (Ig _ _ _ _ x.q F w0 _ j d (a0) (by omega) t.q (R.mono n.size) (V) (bC) (L.kR bv) (L.h6 bv)) (fun em gP fq=>?_);obtain⟨fr,cL,rfl,j,d,eM,fD,cw⟩:=fq;have eO:T M P.size cL:=T.L (bE) eM aY.size;replace aY:=aY.aJ cw (ag.cons (aq.r c1) (ag.J (aq.r bE)));have gy:=cw.size;have N:=d.le;refine o.nil ?_;refine aP.sub (cv (fr,cL) _ ?_) ⟨rfl,rfl,trivial⟩;exact⟨j,(by rw[jh,if_pos bv];exact d),eO,fD,aY⟩
    ·
     refine G.skip ?_;refine aP.sub (cv (aR,M) _ ?_) ⟨rfl,rfl,trivial⟩;exact⟨j,(by rw[jh,if_neg (by simp[bv]),List.append_nil];exact d),bE,a0,aY⟩
   ·
    rintro⟨bz,ic⟩ fP cZ;obtain⟨j,d,K,ac,bs⟩:=cZ;have cz:=ay.app (bC) (R.mono n.size) K;have eP:af (I.size+1) ic:=af.app (cc) k.lt K;have bL:T 0 I.size ic:=T.L (aB) K n.size;replace t:=t.ab bs (az.cons V (az.J bC));replace k:=k.ab bs (ah.cons Q (ah.J cc));replace n:=n.bo bs (ag.cons (aq.q ak) (ag.J (aq.q aB)));have gz:=bs.size;have N:=d.le;have dS:=ac;refine G.L (fun eQ=>?_);refine o.V ?_;refine o.v1 (Y.ai k.N rfl bu rfl dv) ?_;refine o.v1 (ar k.N.fX dV) ?_;refine o.v1 (bb t.e cu) ?_;refine o.v1 (Y.hA rfl gn gU rfl) ?_;refine aW kL (k_ _ _ _ _ 2 _ w0 _ j d (dS) (by decide) (by have:=qH L;omega)) (fun gN aJ ft=>?_);obtain⟨e3,aL,rfl,j,d,b2,fE,bl⟩:=ft;have bQ:=ay.app (cz) (R.mono n.size) b2;have bS:T 0 I.size aL:=T.L (bL) b2 n.size;replace t:=t.ab bl (az.cons V (az.J cz));replace k:=k.ab bl (ah.cons Q (ah.J eP));replace n:=n.bo bl (ag.cons (aq.q ak) (ag.J (aq.q bL)));have fV:=bl.size;have N:=d.le;refine o.nil (eQ (G.t1 (fun co=>G.L (fun eR=>?_))));refine o.v1 (Y.ai k.N rfl bu rfl dv) ?_;refine o.v1 (ar k.N.fX dV) ?_;refine o.v1 (bb t.e cu) ?_;refine o.V (o.nil (eR ?_));refine G.aB (fun _ eS _=>?_)
    refine G.bg (fun(aF:(Nat)×(aN)×(Nat))=>match aF with|(i,aS,Z)=>[(5,.pointer (some ⟨A.size,0,none⟩)),(75,x.ct.v),(76,.int .i64 (x.el.length:Int)),(77,.int .i64 i)])
     (fun(i,aS,Z) (H:Heap)=>(i≤x.el.length)∧(Var 223 H A.size [aS.v,.int .i64 0,.int .i64 0])∧(aV Z 5 H a1 1 aS.v (jh x++cm 2 (UInt64.ofNat x.el.length)++(x.el.take i).flatMap iM))∧(T aL aJ.size Z)∧(af (A.size+1) Z)∧W (aE [(A.size+1),aL]) aJ H)
     (fun(i,aS,Z)=>x.el.length-i) (0,e3,aL) ⟨rfl,rfl,rfl,rfl,trivial⟩ ?_ ?_
    ·
     exact⟨(by omega),j,(by simpa using d),T.refl _ _,fE,W.refl _ _⟩
    rintro⟨i,aS,Z⟩ a6 e6 bR eT cs;obtain⟨fH,j,d,K,ac,au⟩:=e6;have dm:=ay.app (bQ) (R.mono n.size) K;have dp:T 0 I.size Z:=T.L (bS) K n.size;replace t:=t.ab au (az.cons V (az.J bQ));replace n:=n.bo au (ag.cons (aq.q ak) (ag.J (aq.q bS)));have fW:=au.size;have N:=d.le;have dq:=ac;have ap:=T.refl (A.size+1) aJ.size;have bU:=K;have fI:=vY L i;have ha:=qH L;have gZ:=L.el;have cP:(jh x++cm 2 (UInt64.ofNat x.el.length)++(x.el.take i).flatMap iM).length≤8800000000:=by simp only[List.length_append,dT];omega
    refine G.L (fun eW=>?_);refine o.v1 bJ (o.nil (eW ?_));refine G.t2 (fun bm dr=>?_);refine aU (fun e7=>?_) (fun e7=>?_)
    ·
     refine G.skip (bm (G.t1 (fun eY=>G.aB (fun eZ _ _=>G.L (fun e0=>?_)))));have ba:i<x.el.length:=by omega
     obtain⟨y,al⟩:∃q,q=x.el[i]:=⟨_,rfl⟩;have bx:y∈x.el:=by rw[al];exact List.getElem_mem ba
     have hb:=L.md y bx;refine o.bR (Y.bL t.e (i) rfl cu ck rfl rfl) fun fX e1=>?_;refine o.v1 (Y.cast (v2:= .agg (bO y).toArray) (aT e1.N hJ ck (c0 _)) (by rw[al])) ?_;refine o.aO (cV kD) ?_;rintro v9 cT ⟨rfl,ae,a7,gO,e8⟩;have fY:cT.size=a6.size+1:=by rw[e8];simp
     have dt:=(ay.new (R.mono n.size):ay _ (a6.size+1));have bV:af Z (a6.size+1):=af.new d.le;have bX:af (A.size+1) (a6.size+1):=af.new j.lt;have dy:T 0 aJ.size (a6.size+1):=T.new au.size;replace t:=t.M a7;replace d:=d.M a7;replace j:=j.M a7;replace au:=au.bc a7;have fZ:=a7.size;refine o.s1 (dM ae (_) (bO y) (gX y) ck (c0 _) ((c9 (c0 _).symm))) fun fS dz=>?_;obtain⟨ae,am⟩:=dz;replace am:=am.bs;replace t:=t.ab am (az.J dt);replace d:=d.ab am (ah.J bV);replace j:=j.ab am (ah.J bX);replace au:=au.aJ am (ag.J (aq.q dy));have f_:=am.size;refine o.nil (e0 (G.L (fun eg=>?_)));refine o.V ?_;refine o.v1 (Y.ai ae.N rfl eX rfl a_) ?_;refine o.v1 (Y.cast (v2:=bq y.k) (aT (ae.N.take 32) b_ a_ (by rw[show(bO y).take 32=b7 y.k from eN y];exact bB _)) (b6 (show(bO y).take 32=b7 y.k from eN y))) ?_;refine aW nu (n9 _ _ _ _ y.k w0 _ j d (dq) (by omega)) (fun es gQ e9=>?_);obtain⟨gR,e_,rfl,j,d,eh,fF,bn⟩:=e9;have bZ:T aL aJ.size e_:=T.L (bU) eh au.size;replace t:=t.ab bn (az.cons V (az.J dm));replace ae:=ae.ab bn (ah.cons bX.symm (ah.J bV.symm));replace au:=au.aJ bn (ag.cons (aq.r ap) (ag.J (aq.r bU)));have ga:=bn.size;have N:=d.le;refine o.nil (eg (G.region ?_));refine o.V ?_;refine o.v1 (Y.ai ae.N rfl eX rfl db) ?_;refine o.v1 (ar ae.N.ji eD) ?_;refine o.v1 (Y.nt (t.d y bx) rfl Tryz.underlying57 Tryz.underlying9 Tryz.underlying5 rfl) ?_;refine aW oD (pz _ _ _ _ 4 y.d w0 _ j d (fF) (by rw[List.length_append,y.k.2];omega) (by decide) (by omega)) (fun gS ex fc=>?_);obtain⟨fe,cM,rfl,j,d,ei,fG,b3⟩:=fc;have dC:T aL aJ.size cM:=T.L (bZ) ei au.size;replace au:=au.aJ b3 (ag.cons (aq.r ap) (ag.J (aq.r bZ)));have gb:=b3.size;have N:=d.le;refine o.nil (eZ (eY (G.region ?_)));refine o.v1 bD ?_;refine o.V (o.nil ?_);refine aP.sub (eT (i+1,fe,cM) _ ?_ ?_) ⟨rfl,rfl,(aD (by omega)),(aD (by omega)),trivial⟩
     ·exact⟨(by omega),j,(by rw[nH ba,←al,iM];simpa only[List.append_assoc]using d),dC,fG,au⟩
     ·first|omega|(simp only;omega)|(simp;omega)
    ·
     obtain rfl:i=x.el.length:=by omega
     rw[List.take_length]at d;refine G.exit (dr (cs (eS ?_)));refine co (G.L (fun ej=>?_));refine o.V ?_;refine aW AW (H4 _ _ w0 _ j) (fun gT gV ff=>?_);obtain⟨rfl,b4⟩:=ff;replace d:=d.M b4;replace n:=n.L b4;refine o.v1 cO ?_;refine o.v1 cO ?_;refine o.aQ 2 ?_;refine ej ?_;refine G.ret (fM ?_);exact⟨aS,Z,rfl,by rw[v8];exact d,dp,n⟩
end fD

namespace ft
open E Go.RowKit
theorem aC.still{P:Program}{w0:World}{f:FuncId}{args:Array Value}{H:Heap}{v:Value}(h:∀w,At w0 H w→Calls P f args w fun e i=>e= .returned v∧i=w):aC P w0 f args H (fun r j=>r=v∧aj H j):=
 fun w d=>(h w d).mono (fun e i ⟨he,hw⟩=>⟨v,H,he,by rw[hw];exact d,rfl,aj.refl _⟩)
abbrev dY(m:Int)(H:Heap):Prop:=kE (fun b=>b=0) H ⟨0,0,none⟩ [.int .i64 m]
theorem dY.cell{m:Int}{H:Heap}{w0 w:World}(h:dY m H)(d:At w0 H w):w.cell? ⟨0,0,none⟩=some (.int .i64 m):=by
 have:=h.N.cells 0 (.int .i64 m) rfl;rw[d.cell];exact this
theorem sa(s sub:List UInt8)(bk:Int)(w0:World)(I:Heap)(aL:dY bk I)(al:s.length<4294967281):aC Tryz.prog w0 166 #[aI s,aI sub] I (fun r d=>r= .bool (Lib.contains s sub)∧aj I d):=
 aC.still (fun w i=>by
  have h:Calls Tryz.prog 166 #[aI s,aI sub] w fun e j=>e= .returned (.bool (Lib.contains s sub))∧j=w:=Any.strings_Contains Tryz.lays144 ⟨s.toArray⟩ ⟨sub.toArray⟩ bk w (by simpa[ByteArray.size]using al) (aL.cell i);exact h)
theorem jv(s:List UInt8)(c:UInt8)(w0:World)(I:Heap):aC Tryz.prog w0 167 #[aI s,.int .u8 c.toNat] I (fun r d=>r= .int .i64 (Lib.indexByte s c)∧aj I d):=
 aC.still (fun w j=>by
  have h:Calls Tryz.prog 167 #[aI s,.int .u8 c.toNat] w fun e i=>e= .returned (.int .i64 (Lib.indexByte s ((c.toNat:Int)).toNat.toUInt8))∧i=w:=Any.strings_IndexByte Tryz.lays137 ⟨s.toArray⟩ c.toNat w;have e:((c.toNat:Int)).toNat.toUInt8=c:=by simp
  rw[e]at h;exact h)
def nN(p:List UInt8):List UInt8:=(p.reverse.takeWhile (fun c=>c≠47)).reverse
theorem w_{p:List UInt8}{j:Nat}(t:j≤p.length)(o:∀q (h:q<p.length),j≤q→p[q]≠47)(U:∀h:0<j,p[j-1]'(by omega)=47):nN p=p.drop j:=by
 have e:p.reverse=(p.drop j).reverse++(p.take j).reverse:=by rw[←List.reverse_append,List.take_append_drop]
 have an:∀c∈(p.drop j).reverse,(decide (c≠47))=true:=by
  intro c av;rw[List.mem_reverse,List.mem_iff_getElem]at av;obtain⟨q,r,rfl⟩:=av;rw[List.getElem_drop]
  simpa using o (j+q) (by simpa using(by rw[List.length_drop]at r;omega)) (by omega)
 unfold nN;rw[e,List.takeWhile_append_of_pos an];rcases Nat.eq_zero_or_pos j with d|d
 ·subst d;simp
 ·have n:(p.take j).reverse=47::(p.take (j-1)).reverse:=by
   have:p.take j=p.take (j-1)++[47]:=by
    have k:=List.take_succ_eq_append_getElem (l:=p) (i:=j-1) (by omega);rw[show j-1+1=j by omega,U d]at k;exact k
   rw[this];simp
  rw[n,List.takeWhile_cons];simp
theorem aC.Hr{P:Program}{w0:World}{f:FuncId}{args:Array Value}{H:Heap}{v:Value}(h:∀w,At w0 H w→Calls P f args w fun e i=>e= .returned v∧(i=w∨i=w.drew)):aC P w0 f args H (fun r j=>r=v∧aj H j):=
 fun w d=>(h w d).mono (fun e i ⟨he,hw⟩=>by
  rcases hw with rfl|rfl
  ·exact⟨v,H,he,d,rfl,aj.refl _⟩
  ·exact⟨v,H,he,d.drew,rfl,aj.refl _⟩)
theorem HI(s:List UInt8)(w0:World)(I:Heap)(al:s.length≤9223372036854775807):aC Tryz.prog w0 165 #[aI s,aI [47]] I (fun r i=>r=aI (Lib.trimB s 47)∧aj I i):=
 aC.Hr (fun w j=>by
  have h:Calls Tryz.prog 165 #[aI s,aI [47]] w fun e d=>e= .returned (.string ⟨(Lib.trimB (⟨s.toArray⟩:ByteArray).data.toList 47).toArray⟩)∧(d=w∨d=w.drew):=Any.strings_Trim_one Tryz.lays160 ⟨s.toArray⟩ 47 (by decide) w (by simpa[ByteArray.size]using al);exact h)
def dd:List UInt8→Bool
 |[]=>false
 |[_]=>false
 |a::b::l=>(a==47&&b==47)||dd (b::l)
theorem vQ:∀s:List UInt8,(0≤Lib.index s [47,47])↔dd s=true
 |[]=>by simp[Lib.index,dd]
 |[a]=>by simp[Lib.index,dd,List.isPrefixOf]
 |a::b::l=>by
  have ih:=vQ (b::l);have j:=Lib.index_ge (b::l) [47,47];rw[Lib.index];by_cases h:a=47∧b=47
  ·obtain⟨rfl,rfl⟩:=h
   simp[List.isPrefixOf,dd]
  ·have i:([47,47]:List UInt8).isPrefixOf (a::b::l)=false:=by
    simp only[List.isPrefixOf,Bool.and_true,Bool.and_eq_false_iff,beq_eq_false_iff_ne];by_cases d:a=47
    ·exact .inr (fun e=>h ⟨d,e.symm⟩)
    ·exact .inl (fun e=>d e.symm)
   have an:dd (a::b::l)=dd (b::l):=by
    rw[dd]
    have:(a==47&&b==47)=false:=by
     rw[Bool.and_eq_false_iff,beq_eq_false_iff_ne,beq_eq_false_iff_ne];by_cases d:a=47
     ·exact .inr (fun e=>h ⟨d,e⟩)
     ·exact .inl d
    rw[this,Bool.false_or]
   rw[i,an,←ih];simp only[Bool.false_eq_true,if_false];by_cases hm:Lib.index (b::l) [47,47]= -1
   ·simp[hm]
   ·simp[hm];omega
theorem sd:∀s:List UInt8,dd s=true↔∃i,i+1<s.length∧s.getD i 0=47∧s.getD (i+1) 0=47
 |[]=>by simp[dd]
 |[a]=>by simp[dd]
 |a::b::l=>by
  rw[dd,Bool.or_eq_true,sd (b::l),Bool.and_eq_true,beq_iff_eq,beq_iff_eq];constructor
  ·rintro(⟨d,U⟩|⟨i,d,U,j⟩)
   ·exact⟨0,by simp,by simpa using d,by simpa using U⟩
   ·exact⟨i+1,by simp at d⊢;omega,by simpa using U,by simpa using j⟩
  ·rintro⟨i,d,U,j⟩
   cases i with
   |zero=>exact .inl ⟨by simpa using U,by simpa using j⟩
   |succ i=>exact .inr ⟨i,by simp at d⊢;omega,by simpa using U,by simpa using j⟩
theorem yX{p:List UInt8}(n:1≤p.length):tE p=true↔p.getD 0 0≠47∧p.getD (p.length-1) 0≠47∧dd p=false:=by
 unfold tE;rw[List.all_eq_true];simp only[List.mem_range,Bool.not_eq_true',Bool.and_eq_false_iff,beq_eq_false_iff_ne,Bool.or_eq_false_iff];constructor
 ·intro h
  refine⟨?_,?_,?_⟩
  ·rcases h 0 (by omega)with h|h
   ·exact h
   ·exact absurd rfl h.1.1
  ·rcases h (p.length-1) (by omega)with h|h
   ·exact h
   ·exact absurd rfl h.1.2
  ·cases an:dd p with
   |false=>rfl
   |true=>
    obtain⟨i,j,U,k⟩:=(sd p).1 an;rcases h (i+1) j with h|h
    ·exact absurd k h
    ·exact absurd U (by simpa using h.2)
 ·rintro⟨j,U,k⟩ i o
  by_cases e:p.getD i 0=47
  ·refine .inr ⟨⟨fun d=>?_,fun d=>?_⟩,fun d=>?_⟩
   ·subst d;exact j e
   ·subst d;exact U e
   ·have:dd p=true:=(sd p).2 ⟨i-1,by
     rcases Nat.eq_zero_or_pos i with h|h
     ·subst h;exact absurd e j
     ·omega,d,by
     rcases Nat.eq_zero_or_pos i with h|h
     ·subst h;exact absurd e j
     ·rw[show i-1+1=i by omega];exact e⟩
    rw[k]at this;cases this
  ·exact .inl e
theorem zo{p:List UInt8}(i:1≤p.length):Lib.trimB p 47=p↔p.getD 0 0≠47∧p.getD (p.length-1) 0≠47:=by
 have o:∀q:List UInt8,(Lib.trimLeftB q 47).length≤q.length:=fun q=>(List.dropWhile_suffix _).length_le;have t:∀q:List UInt8,(Lib.trimRightB q 47).length≤q.length:=fun q=>by unfold Lib.trimRightB;rw[List.length_reverse];have:=(List.dropWhile_suffix (l:=q.reverse) (fun x:UInt8=>x==47)).length_le;rwa[List.length_reverse]at this
 have d:∀q:List UInt8,1≤q.length→(Lib.trimLeftB q 47=q↔q.getD 0 0≠47):=by
  intro q r
  cases q with
  |nil=>simp at r
  |cons a l=>
   unfold Lib.trimLeftB;rw[List.dropWhile_cons];by_cases k:a=47
   ·have:(List.dropWhile (fun x:UInt8=>x==47) l).length≤l.length:=(List.dropWhile_suffix _).length_le
    simp only[k,beq_self_eq_true,if_true,List.getD_cons_zero,ne_eq,not_true,iff_false];intro e;rw[e]at this;simp only[List.length_cons]at this;omega
   ·simp[k]
 have n:Lib.trimRightB p 47=p↔p.getD (p.length-1) 0≠47:=by
  have h:=d p.reverse (by rw[List.length_reverse];omega)
  have aK:p.reverse.getD 0 0=p.getD (p.length-1) 0:=by
   simp[List.getD,List.getElem?_reverse (show 0<p.length by omega)]
  rw[←aK,←h];unfold Lib.trimRightB Lib.trimLeftB;constructor
  ·intro h;have:=congrArg List.reverse h;rwa[List.reverse_reverse]at this
  ·intro h;rw[h,List.reverse_reverse]
 unfold Lib.trimB;constructor
 ·intro h
  have e:Lib.trimRightB p 47=p:=by
   refine(List.IsPrefix.eq_of_length_le ?_ ?_)
   ·unfold Lib.trimRightB
    rw[←List.reverse_suffix,List.reverse_reverse];exact List.dropWhile_suffix _
   ·have j:=congrArg List.length h
    have U:=o (Lib.trimRightB p 47);omega
  rw[e]at h;exact⟨(d p i).1 h,n.1 e⟩
 ·rintro⟨j,U⟩
  rw[n.2 U];exact(d p i).2 j
theorem s4(p:List UInt8):cz p=true↔p≠[]∧p.length≤100∧Lib.trimB p 47=p∧Lib.contains p [47,47]=false∧∀i (h:i<p.length),m1 p[i]=true:=by
 have av:Lib.contains p [47,47]=dd p:=by
  unfold Lib.contains;rw[Bool.eq_iff_iff,decide_eq_true_iff];exact vQ p
 unfold cz;simp only[Bool.and_eq_true,decide_eq_true_eq,List.all_eq_true];rw[av];constructor
 ·rintro⟨⟨⟨d,U⟩,n⟩,o⟩
  have j:=(yX d).1 o;exact⟨fun e=>by rw[e]at d;simp at d,U,(zo d).2 ⟨j.1,j.2.1⟩,j.2.2,fun i h=>n _ (List.getElem_mem h)⟩
 ·rintro⟨d,U,n,o,j⟩
  have k:1≤p.length:=by cases p with
   |nil=>exact absurd rfl d
   |cons a l=>simp
  have q:=(zo k).1 n;refine⟨⟨⟨k,U⟩,fun x t=>?_⟩,(yX k).2 ⟨q.1,q.2,o⟩⟩;obtain⟨i,r,rfl⟩:=List.mem_iff_getElem.1 t;exact j i r
theorem l6{p:List UInt8}(h:¬(p≠[]∧p.length≤100∧Lib.trimB p 47=p∧Lib.contains p [47,47]=false∧∀i (h:i<p.length),m1 p[i]=true)):cz p=false:=by
 cases aA:cz p with
 |false=>rfl
 |true=>exact absurd ((s4 p).1 aA) h
theorem kv(c:UInt8):m1 c=true↔(97≤c.toNat∧c.toNat≤122)∨(48≤c.toNat∧c.toNat≤57)∨0≤Lib.indexByte [46,95,45,47] c:=by
 have h:∀n:Fin 256,(m1 (UInt8.ofNat n.val)=decide ((97≤n.val∧n.val≤122)∨(48≤n.val∧n.val≤57)∨0≤Lib.indexByte [46,95,45,47] (UInt8.ofNat n.val))):=by decide+kernel
 have:=h ⟨c.toNat,c.toNat_lt⟩;simp only[UInt8.ofNat_toNat]at this;rw[this,decide_eq_true_iff]
theorem DI{s:List UInt8}{j:Nat}(i:j≤s.length)(h:nN s=s.drop j):mQ s=s.take (j-1):=by
 unfold mQ;have d:=congrArg List.length h;unfold nN at d;rw[List.length_reverse,List.length_drop]at d;rw[d];congr 1;omega
theorem Ej(s:List UInt8)(w0:World)(I:Heap)
 (ae:s.length≤9223372036854775807):
 aC Tryz.prog w0 255 #[aI s,.int .u8 (47:UInt8).toNat] I (fun r B=>∃j:Nat,r= .int .i64 ((j:Int)-1)∧(j≤s.length)∧(nN s=s.drop j)∧aj I B):=by
 refine aC.aK [aI s,.int .u8 (47:UInt8).toNat] Tryz.func255 ?_;intro Z A;have d:aj I I:=W.refl _ _;refine G.L (fun F=>?_);refine o.ak ?_;refine F (G.t2 (fun K L=>G.L (fun M=>?_)));refine o.V ?_;refine o.v1 (fB dP) ?_;refine o.v1 fH ?_;refine o.ak ?_;refine M (G.aB (fun _ N au=>?_))
 refine G.bg (fun(j:(Nat))=>[(0,aI s),(1,.int .u8 (47:UInt8).toNat),(5,.int .i64 ((j:Int)-1))])
  (fun(j:(Nat)) (H:Heap)=>(j≤s.length)∧(∀q (h:q<s.length),j≤q→s[q]≠47)∧aj I H)
  (fun(j:(Nat))=>j) s.length ⟨rfl,rfl,rfl,trivial⟩ ?_ ?_
 ·
  exact⟨(by omega),(fun q h U=>absurd U (by omega)),W.refl _ _⟩
 intro j ab am Y O n;obtain⟨x,k,i⟩:=am;replace d:=d.L i;have aa:=i.size;refine G.t2 (fun ap P=>G.L (fun Q=>?_));refine o.V ?_;refine o.v1 dJ (o.nil (Q ?_));refine aU (fun R=>?_) (fun R=>?_)
 ·
  refine G.skip (ap (G.t2 (fun S T=>G.aB (fun V _ X=>G.L (fun C=>?_)))));refine o.ax 2 ?_;refine o.v1 (jo (j-1) dP) ?_;refine o.V ?_;refine o.v1 b9 (o.nil (C ?_));refine aU (fun ac=>?_) (fun ac=>?_)
  ·
   refine G.L (fun ad=>?_);refine o.aQ 2 ?_;refine ad ?_;refine G.ret (X (T (n (au (L (A ?_))))));exact⟨j,rfl,(by omega),w_ x k (fun h=>by apply UInt8.toNat_inj.1;have:=ac;simp at this⊢;omega),d⟩
  ·
   refine G.skip (V (S (G.region ?_)));refine o.V ?_;refine o.v1 fH ?_;refine o.ak ?_;refine aP.sub (O (j-1) _ ?_ ?_) ⟨rfl,(aD (by omega)),(aD (by omega)),trivial⟩
   ·exact⟨(by omega),(fun q h U=>by rcases Nat.lt_or_ge q j with t|t;(obtain rfl:q=j-1:=by omega);exact(fun e=>ac (by first|(rw[e];done)|(rw[e];rfl)));exact k q h t),i⟩
   ·first|omega|(simp only;omega)|(simp;omega)
 ·
  refine G.exit (P (n (N ?_)));refine K (G.L (fun E=>?_));refine o.ak ?_;refine E ?_;refine G.ret (A ?_);obtain rfl:j=0:=by omega
  exact⟨0,rfl,(by omega),w_ x k (fun h=>absurd h (Nat.lt_irrefl _)),d⟩
theorem Ei(s:List UInt8)(w0:World)(I:Heap)
 (t:s.length≤9223372036854775807):
 aC Tryz.prog w0 223 #[aI s,.int .u8 (47:UInt8).toNat] I (fun r i=>∃j:Nat,r= .int .i64 ((j:Int)-1)∧(j≤s.length)∧(nN s=s.drop j)∧aj I i):=by
 refine aC.aK [aI s,.int .u8 (47:UInt8).toNat] Tryz.func223 ?_;intro E A;have d:aj I I:=W.refl _ _;refine G.L (fun k=>?_);refine o.ak ?_;refine k (G.L (fun n=>?_));refine o.ax 2 ?_;refine aW BG (Ej s w0 _ t) ?_;rintro F C ⟨B,rfl,q,x,ac⟩;replace d:=d.L ac;refine o.ak ?_;refine n ?_;refine G.ret (A ?_);exact⟨B,rfl,q,x,d⟩
theorem mX(bk:Int)(l:List UInt8)(w0:World)(I:Heap)
 (aL:dY bk I) (bp:bh (fun b=>b=0) I.size) (bx:l.length≤4294967280):
 aC Tryz.prog w0 88 #[aI l] I (fun r az=>r= .bool (cz l)∧aj I az):=by
 refine aC.aK [aI l] Tryz.func88 ?_;intro bf A;have k:aj I I:=W.refl _ _;refine G.L (fun aW=>?_);refine o.ak ?_;refine aW (G.t2 (fun aX S=>G.L (fun T=>?_)));refine o.V ?_;refine o.v1 (Y.jz rfl rfl rfl) ?_;refine o.V ?_;refine o.bj (d:=7) rfl (fun g7=>?_) (fun g7=>?_)
 ·
  refine o.ax 14 ?_;refine o.nil (T ?_);refine G.iz rfl ?_;refine G.L (fun aY=>?_);refine o.ak ?_;refine aY ?_;refine G.ret (S (A ?_));exact⟨congrArg Value.bool (l6 (fun h=>by obtain⟨E,U,F,K,N⟩:=h;first|exact E g7|omega|exact M F|(rw[K]at x;cases x))).symm,k⟩
 ·
  refine o.bU ?_;refine o.ao (fB dP) ?_;refine o.ao eY ?_;refine o.ax 2 ?_;refine o.bj (d:=12) rfl (fun aZ=>?_) (fun aZ=>?_)
  ·
   refine o.ax 9 ?_;refine o.nil (T ?_);refine G.iz rfl ?_;refine G.L (fun a1=>?_);refine o.ak ?_;refine a1 ?_;refine G.ret (S (A ?_));exact⟨congrArg Value.bool (l6 (fun h=>by obtain⟨E,U,F,K,N⟩:=h;first|exact E g7|omega|exact M F|(rw[K]at x;cases x))).symm,k⟩
  ·
   refine o.bU ?_;refine o.call rfl Bm rfl bd rfl rfl (HI l w0 _ (by omega)) (fun a9 bl a6=>?_);obtain⟨rfl,am⟩:=a6;replace aL:=aL.M am;replace k:=k.L am;have bm:=am.size;refine o.bU ?_;refine o.ao (Y.iT rfl rfl rfl) ?_;refine o.ax 2 ?_;refine o.bj (d:=18) rfl (fun M=>?_) (fun M=>?_)
   ·
    refine o.ax 3 ?_;refine o.nil (T ?_);refine G.iz rfl ?_;refine G.L (fun a7=>?_);refine o.ak ?_;refine a7 ?_;refine G.ret (S (A ?_));exact⟨congrArg Value.bool (l6 (fun h=>by obtain⟨E,U,F,K,N⟩:=h;first|exact E g7|omega|exact M F|(rw[K]at x;cases x))).symm,k⟩
   ·
    refine o.bU ?_;refine o.call rfl ve rfl bd rfl rfl (sa l [47,47] bk w0 _ aL (by omega)) (fun bn bo a8=>?_);obtain⟨rfl,al⟩:=a8;replace k:=k.L al;have bT:=al.size;refine o.dF ?_;refine o.nil (T ?_);refine cK (fun x=>?_) (fun x=>?_)
    ·
     refine G.L (fun a0=>?_);refine o.ak ?_;refine a0 ?_;refine G.ret (S (A ?_));exact⟨congrArg Value.bool (l6 (fun h=>by obtain⟨E,U,F,K,N⟩:=h;first|exact E g7|omega|exact M F|(rw[K]at x;cases x))).symm,k⟩
    ·
     refine G.skip (aX (G.t2 (fun b2 V=>G.L (fun a2=>?_))));refine o.V ?_;refine o.aO (Z.y_ rfl Tryz.underlying9 Tryz.underlying57 Tryz.underlying5 rfl (by omega)) fun ai a3 a4=>?_;obtain⟨P,aq,bg⟩:=a4;replace k:=k.L aq;have be:=aq.size;refine o.v1 (bb P.rd dc) ?_;refine o.V (o.nil (a2 ?_));refine G.aB (fun _ ba Q=>?_)
     refine G.bg (fun(i:(Nat))=>[(23,ai),(24,.int .i64 l.length),(25,.int .i64 i)])
      (fun(i:(Nat)) (H:Heap)=>(i≤l.length)∧(∀q (h:q<l.length),q<i→m1 l[q]=true)∧aj a3 H)
      (fun(i:(Nat))=>l.length-i) 0 ⟨rfl,rfl,rfl,trivial⟩ ?_ ?_
     ·
      exact⟨(by omega),(fun q h U=>absurd U (by omega)),W.refl _ _⟩
     intro i aa a5 bY aH O;obtain⟨bw,ay,L⟩:=a5;replace P:=P.M L;replace k:=k.L L;have bq:=L.size;refine G.L (fun aJ=>?_);refine o.v1 bJ (o.nil (aJ ?_));refine G.t2 (fun aK aM=>?_);refine aU (fun aA=>?_) (fun aA=>?_)
     ·
      have X:i<l.length:=by omega
      refine G.skip (aK ?_)
      refine G.bm (fun(_:Unit)=>[(23,ai),(24,.int .i64 l.length),(25,.int .i64 i)])
       (fun(_:Unit) (H:Heap)=>(m1 l[i]=true)∧aj aa H) (fun _ ac R=>?_) ?_
      ·
       have n:aj aa aa:=W.refl _ _;refine G.aB (fun ad _ au=>G.L (fun aN=>?_));refine o.v1 (mj P (i) dc cN) ?_;refine o.v1 (ar (P.N (j:=i) (by first|omega|(simp;omega)|(simp;done))) dS) ?_;refine o.ak ?_;refine aN (G.L (fun B=>?_));refine o.V ?_;refine o.v1 dJ ?_;refine o.V ?_;refine o.bj (d:=31) rfl (fun aE=>?_) (fun aE=>?_)
       ·
        refine o.bU ?_;refine o.ao eK ?_;refine o.ax 2 ?_;refine o.bj (d:=35) rfl (fun aF=>?_) (fun aF=>?_)
        ·
         refine o.ax 3 ?_;refine gx ?_;refine gx ?_;refine o.ax 7 ?_;refine o.v1 eL (o.nil (B ?_));refine dw ?_;refine G.skip (ad ?_);refine aP.sub (ac () _ ?_) ⟨rfl,(aD (by omega)),(aD (by omega)),trivial⟩;exact⟨(kv _).2 (by simp at*;omega),n⟩
        ·
         refine o.bU ?_;refine o.ao dJ ?_;refine o.bU ?_;refine o.bj (d:=38) rfl (fun ab=>?_) (fun ab=>?_)
         ·
          refine o.bU ?_;refine o.ao eK ?_;refine o.ao eh ?_;refine o.ax 2 ?_;refine o.bj (d:=43) rfl (fun ae=>?_) (fun ae=>?_)
          ·
           refine o.ax 4 ?_;refine o.v1 eL (o.nil (B ?_));refine dw ?_;refine G.skip (ad ?_);refine aP.sub (ac () _ ?_) ⟨rfl,(aD (by omega)),(aD (by omega)),trivial⟩;exact⟨(kv _).2 (by simp at*;omega),n⟩
          ·
           refine o.bU ?_;refine o.call rfl jO rfl bd rfl rfl (jv [46,95,45,47] l[i] w0 _) (fun af ag C=>?_);obtain⟨rfl,t⟩:=C;replace k:=k.L t;replace n:=n.L t;have bs:=t.size;refine o.ao dJ ?_;refine o.dF ?_;refine o.v1 (Y.hp rfl rfl) (o.nil (B ?_));refine aU (fun ap=>?_) (fun ap=>?_)
           ·
            refine G.L (fun aO=>?_);refine o.ak ?_;refine aO ?_;refine G.ret (au (R (O (Q (V (A ?_))))));exact⟨congrArg Value.bool (l6 (fun h=>by have ah:=(kv _).1 (h.2.2.2.2 i X);simp at*;omega)).symm,k⟩
           ·
            refine G.skip (ad ?_);refine aP.sub (ac () _ ?_) ⟨rfl,(aD (by omega)),(aD (by omega)),trivial⟩;exact⟨(kv _).2 (by simp at*;omega),n⟩
         ·
          refine o.ax 2 ?_;refine o.ao dH ?_;refine o.ax 3 ?_;refine o.call rfl jO rfl bd rfl rfl (jv [46,95,45,47] l[i] w0 _) (fun af ag C=>?_);obtain⟨rfl,t⟩:=C;replace k:=k.L t;replace n:=n.L t;have bi:=t.size;refine o.ao dJ ?_;refine o.dF ?_;refine o.v1 (Y.hp rfl rfl) (o.nil (B ?_));refine aU (fun ap=>?_) (fun ap=>?_)
          ·
           refine G.L (fun aQ=>?_);refine o.ak ?_;refine aQ ?_;refine G.ret (au (R (O (Q (V (A ?_))))));exact⟨congrArg Value.bool (l6 (fun h=>by have ah:=(kv _).1 (h.2.2.2.2 i X);simp at*;omega)).symm,k⟩
          ·
           refine G.skip (ad ?_);refine aP.sub (ac () _ ?_) ⟨rfl,(aD (by omega)),(aD (by omega)),trivial⟩;exact⟨(kv _).2 (by simp at*;omega),n⟩
       ·
        refine o.ax 5 ?_;refine o.ao dJ ?_;refine o.bU ?_;refine o.bj (d:=38) rfl (fun ab=>?_) (fun ab=>?_)
        ·
         refine o.bU ?_;refine o.ao eK ?_;refine o.ao eh ?_;refine o.ax 2 ?_;refine o.bj (d:=43) rfl (fun ae=>?_) (fun ae=>?_)
         ·
          refine o.ax 4 ?_;refine o.v1 eL (o.nil (B ?_));refine dw ?_;refine G.skip (ad ?_);refine aP.sub (ac () _ ?_) ⟨rfl,(aD (by omega)),(aD (by omega)),trivial⟩;exact⟨(kv _).2 (by simp at*;omega),n⟩
         ·
          refine o.bU ?_;refine o.call rfl jO rfl bd rfl rfl (jv [46,95,45,47] l[i] w0 _) (fun af ag C=>?_);obtain⟨rfl,t⟩:=C;replace k:=k.L t;replace n:=n.L t;have bt:=t.size;refine o.ao dJ ?_;refine o.dF ?_;refine o.v1 (Y.hp rfl rfl) (o.nil (B ?_));refine aU (fun ap=>?_) (fun ap=>?_)
          ·
           refine G.L (fun aR=>?_);refine o.ak ?_;refine aR ?_;refine G.ret (au (R (O (Q (V (A ?_))))));exact⟨congrArg Value.bool (l6 (fun h=>by have ah:=(kv _).1 (h.2.2.2.2 i X);simp at*;omega)).symm,k⟩
          ·
           refine G.skip (ad ?_);refine aP.sub (ac () _ ?_) ⟨rfl,(aD (by omega)),(aD (by omega)),trivial⟩;exact⟨(kv _).2 (by simp at*;omega),n⟩
        ·
         refine o.ax 2 ?_;refine o.ao dH ?_;refine o.ax 3 ?_;refine o.call rfl jO rfl bd rfl rfl (jv [46,95,45,47] l[i] w0 _) (fun af ag C=>?_);obtain⟨rfl,t⟩:=C;replace k:=k.L t;replace n:=n.L t;have aB:=t.size;refine o.ao dJ ?_;refine o.dF ?_;refine o.v1 (Y.hp rfl rfl) (o.nil (B ?_));refine aU (fun ap=>?_) (fun ap=>?_)
         ·
          refine G.L (fun aS=>?_);refine o.ak ?_;refine aS ?_;refine G.ret (au (R (O (Q (V (A ?_))))));exact⟨congrArg Value.bool (l6 (fun h=>by have ah:=(kv _).1 (h.2.2.2.2 i X);simp at*;omega)).symm,k⟩
         ·
          refine G.skip (ad ?_);refine aP.sub (ac () _ ?_) ⟨rfl,(aD (by omega)),(aD (by omega)),trivial⟩;exact⟨(kv _).2 (by simp at*;omega),n⟩
      ·
       intro _ bj a_;obtain⟨bc,ak⟩:=a_;replace L:=L.L ak;have bu:=ak.size;refine G.region ?_;refine o.v1 bD ?_;refine o.V (o.nil ?_);refine aP.sub (aH (i+1) _ ?_ ?_) ⟨rfl,(aD (by omega)),(aD (by omega)),trivial⟩
       ·exact⟨(by omega),(fun q h U=>by rcases Nat.lt_or_ge q i with N|N;exact ay q h N;(obtain rfl:q=i:=by omega);exact bc),L⟩
       ·first|omega|(simp only;omega)|(simp;omega)
     ·
      refine G.exit (aM (O (ba ?_)));refine b2 (G.L (fun aT=>?_));refine o.ak ?_;refine aT ?_;refine G.ret (A ?_);obtain rfl:i=l.length:=by omega
      exact⟨congrArg Value.bool ((s4 l).2 ⟨g7,by omega,by simpa using M,by simpa using x,fun i h=>ay i h h⟩).symm,k⟩
theorem nz(bk:Int)(l:List UInt8)(w0:World)(I:Heap)
 (aL:dY bk I) (E:bh (fun b=>b=0) I.size) (H:l.length≤4294967280):
 aC Tryz.prog w0 177 #[aI l] I (fun r t=>r=aI (cr l)∧aj I t):=by
 refine aC.aK [aI l] Tryz.func177 ?_;intro N n;have d:aj I I:=W.refl _ _;refine G.L (fun ac=>?_);refine o.ak ?_;refine ac (G.t2 (fun ad x=>G.L (fun A=>?_)));refine o.V ?_;refine aW mI (mX bk l w0 _ aL (E.mono (by omega)) H) ?_;rintro v4 L ⟨rfl,j⟩;replace d:=d.L j;have O:=j.size;refine o.v1 eL (o.nil (A ?_));refine cK (fun i=>?_) (fun i=>?_)
 ·
  refine G.L (fun B=>?_);refine o.ak ?_;refine B ?_;refine G.ret (x (n ?_));exact⟨by rw[cr,if_neg (by simpa using i)];rfl,d⟩
 ·
  refine G.skip (ad (G.L (fun C=>?_)));refine o.ax 2 ?_;refine aW BC (Ei l w0 _ (by omega)) ?_;rintro Q M ⟨q,rfl,F,K,k⟩;replace d:=d.L k;have P:=k.size;refine o.v1 (Y.cast (v2:= .int .i64 ((q-1:Nat):Int)) (Y.sM rfl rfl rfl) (fM (by omega))) ?_;refine o.v1 (Y.y4 (0) (q-1) rfl dP rfl (.inl ⟨rfl,rfl⟩) (.inr ⟨_,_,_,rfl,rfl,by first|rfl|omega⟩) (by omega) (by omega)) ?_;refine o.ak ?_;refine C ?_;refine G.ret (n ?_);exact⟨by rw[cr,if_pos (by simpa using i),DI F K];simp,d⟩
end ft

namespace E
open Go.ChangeShapes Go.WideShapes Go.ChangeAt Go.RowKit Go.Deep
theorem AS{H:Type}(l r:List (DataW H)):Rows.uptoBulkAll (l++r)=Rows.uptoBulkAll l+Rows.uptoBulkAll r:=by
 induction l with
 |nil=>simp[Rows.uptoBulkAll]
 |cons x l ih=>simp only[List.cons_append,Rows.uptoBulkAll,ih];omega
theorem xe{α:Type}{n:Nat}{p:Nat→α→Prop}(h:∀i,i<n→∃x,p i x):∃l:List α,l.length=n∧∀i x,l[i]?=some x→p i x:=by
 induction n with
 |zero=>exact⟨[],rfl,fun i x h=>by simp at h⟩
 |succ n ih=>
  obtain⟨l,j,k⟩:=ih (fun i d=>h i (by omega));obtain⟨x,o⟩:=h n (by omega);refine⟨l++[x],by simp[j],fun i y hy=>?_⟩;by_cases d:i<l.length
  ·rw[List.getElem?_append_left d]at hy;exact k i y hy
  ·rw[List.getElem?_append_right (by omega)]at hy
   have:i-l.length=0:=by have:=(List.getElem?_eq_some_iff.1 hy).1;simp at this;omega
   rw[this]at hy;simp only[List.getElem?_cons_zero,Option.some.injEq]at hy;subst hy;have:i=n:=by omega
   subst this;exact o
theorem Hw{α:Type}{H:Type}(B:α→Nat)(D:Nat→DataW H)(l:List α)(h:∀i x,l[i]?=some x→B x≤Rows.uptoBulk (D i)):∀k,k≤l.length→((l.take k).map B).sum≤Rows.uptoBulkAll ((List.range k).map D):=by
 intro k
 induction k with
 |zero=>intro _;simp
 |succ k ih=>
  intro d;rw[List.range_succ,List.map_append,AS,List.take_succ_eq_append_getElem (show k<l.length from d),List.map_append,List.sum_append];have j:=ih (by omega);have U:=h k l[k] (by simp[show k<l.length from d]);simp only[List.map_cons,List.map_nil,List.sum_cons,List.sum_nil,Rows.uptoBulkAll];omega
section
variable {H : Type} {enc : TypeId × Value → H} {P : Program} {ch : World} {base : Nat} {sp : Nat → Bool} {held : Bool}
theorem pd{α:Type}(f:α→List Value)(sz:Nat)(B:α→Nat)(Φ:α→Prop){t e:TypeId}{v:Value}{d:DataW H}{p:List MemPlace}(ae:v.cells= #[v])(aa:P.underlying t=some (.slice e))(av:P.cellsOf e=sz)(ai:∀x,(f x).length=sz)(al:0<sz)
 (elem:∀n k y eW,DataW.trod enc P ch base sp held n e k=some (y,eW)→k.length=sz→∃x,k=f x∧Φ x∧B x≤Rows.uptoBulk y) (h:DataW.Trod enc P ch base sp held t v d p):
 ∃l:List α,bx ch.heap f sz v l∧(∀x∈l,Φ x)∧(l.map B).sum+1≤Rows.uptoBulk d:=by
 obtain⟨fuel,h⟩:=h;rw[ae]at h;rcases open_slice aa h with⟨q,U⟩|⟨a,len,cap,m,n,D,af,q,U,ag,M,N,E,O⟩
 ·simp only[Array.toList,List.cons.injEq,and_true]at q
  simp only[Prod.mk.injEq]at U;obtain⟨rfl,rfl⟩:=U;subst q;exact⟨[],Rd.nil _ _ _ _,by simp,by simp[Rows.uptoBulk]⟩
 ·simp only[List.cons.injEq,and_true]at q
  simp only[Prod.mk.injEq]at E;obtain⟨rfl,rfl⟩:=E;subst q;have hm:len≤m:=by rw[N];split<;>omega
  have:∀i,i<len→∃x:α,∃k,ch.cells? base (a.add (i*sz)) sz=some k∧k=f x∧Φ x∧B x≤Rows.uptoBulk (D i):=by
   intro i G;obtain⟨k,C,ab⟩:=O i (by omega);rw[av]at C;obtain⟨_,r,_⟩:=World.cells?_some C;obtain⟨x,o⟩:=elem n k _ _ ab r;exact⟨x,k,C,o⟩
  obtain⟨l,r,A⟩:=xe this;refine⟨l,⟨some a,cap,by rw[r],by omega,M,fun Z=>?_⟩,fun x o=>?_,?_⟩
  ·have hlen:0<l.length:=List.length_pos_iff.2 Z
   obtain⟨L,W,ah,_⟩:=A 0 l[0] (by simp[hlen]);obtain⟨_,ak,T⟩:=World.cells?_some W;have F:=T 0 (by omega)
   have bE:ch.cell? a=some (L[0]'(by omega)):=by
    simp only[Nat.zero_mul]at F;rw[←List.getElem?_eq_getElem,←F];simp[Addr.add]
   have K:a.spot=none:=World.cell?_spot bE;refine⟨a,rfl,K,trivial,World.block_lt_of_cell? ch a bE,fun i x o=>⟨rfl,fun j c I=>?_⟩⟩;obtain⟨k,V,rfl,_,_⟩:=A i x o;obtain⟨_,Y,S⟩:=World.cells?_some V;have X:=(List.getElem?_eq_some_iff.1 I).1;have:=S j (by rw[←Y];exact X);rw[I]at this;rw[add_eq K,add_eq rfl]at this;show cell ch.heap _=_;rw[←(At.cell (w0:=ch) ⟨rfl,rfl,rfl,rfl,Nat.le_refl _⟩ _)];exact this
  ·obtain⟨i,G⟩:=List.mem_iff_getElem?.1 o
   obtain⟨_,_,_,Q,_⟩:=A i x G;exact Q
  ·have:=Hw B D l (fun i x o=>by obtain⟨_,_,_,_,R⟩:=A i x o;exact R) l.length (Nat.le_refl _)
   rw[List.take_length,r]at this;simp only[Rows.uptoBulk];omega
theorem tP{α:Type}(B:α→Nat)(d:∀x,1≤B x):∀(l:List α),l.length≤(l.map B).sum
 |[]=>by simp
 |y::l=>by simp only[List.map_cons,List.sum_cons,List.length_cons];have:=d y;have:=tP B d l;omega
theorem Iw{t e:TypeId}{v:Value}{d:DataW H}{p:List MemPlace}(o:v.cells= #[v])(k:P.underlying t=some (.slice e))(he:P.underlying e=some .string)(av:P.cellsOf e=1)(h:DataW.Trod enc P ch base sp held t v d p):
 ∃l:List (List UInt8),bx ch.heap gg 1 v l∧(l.map (fun s=>s.length+1)).sum+1≤Rows.uptoBulk d:=by
 obtain⟨l,j,_,U⟩:=pd gg 1 (fun s=>s.length+1) (fun _=>True) o k av mM (by omega) (fun n q y eW hy r=>by
  obtain⟨s,rfl,i⟩:=DataW.trod_string he hy;simp only[Prod.mk.injEq]at i;refine⟨s.data.toList,rfl,trivial,?_⟩;rw[i.1.1];simp[Rows.uptoBulk]) h
 exact⟨l,j,U⟩
theorem zy{x:Int}(h:(Lit.int .u8 x).wf=true):∃b:UInt8,x=b.toNat:=by
 simp only[Lit.wf,Bool.and_eq_true,decide_eq_true_eq,show IntKind.u8.min=0 by decide,show IntKind.u8.max=255 by decide]at h;refine⟨UInt8.ofNat x.toNat,?_⟩;rw[UInt8.toNat_ofNat'];omega
theorem F8{t e:TypeId}{v:Value}{d:DataW H}{p:List MemPlace}(q:v.cells= #[v])(o:P.underlying t=some (.slice e))(he:P.underlying e=some (.int .u8))(av:P.cellsOf e=1)(h:DataW.Trod enc P ch base sp held t v d p):
 ∃l:List UInt8,bx ch.heap a1 1 v l∧l.length+1≤Rows.uptoBulk d:=by
 obtain⟨l,j,_,U⟩:=pd a1 1 (fun _=>1) (fun _=>True) q o av eE (by omega) (fun n r y eW hy A=>by
  obtain⟨x,rfl,i,k⟩:=DataW.trod_int he hy;obtain⟨b,rfl⟩:=zy k;simp only[Prod.mk.injEq]at i;refine⟨b,rfl,trivial,?_⟩;rw[i.1];simp[Rows.uptoBulk]) h
 exact⟨l,j,by have:=tP (fun _:UInt8=>1) (fun _=>by omega) l;omega⟩
abbrev qa(b:Bool):List Value:=[.bool b]
theorem F7{t e:TypeId}{v:Value}{d:DataW H}{p:List MemPlace}(o:v.cells= #[v])(k:P.underlying t=some (.slice e))(he:P.underlying e=some .bool)(av:P.cellsOf e=1)(h:DataW.Trod enc P ch base sp held t v d p):
 ∃l:List Bool,bx ch.heap qa 1 v l∧l.length+1≤Rows.uptoBulk d:=by
 obtain⟨l,j,_,U⟩:=pd qa 1 (fun _=>1) (fun _=>True) o k av (fun _=>rfl) (by omega) (fun n q y eW hy r=>by
  obtain⟨x,rfl,i⟩:=DataW.trod_bool he hy;simp only[Prod.mk.injEq]at i;refine⟨x,rfl,trivial,?_⟩;rw[i.1];simp[Rows.uptoBulk]) h
 exact⟨l,j,by have:=tP (fun _:Bool=>1) (fun _=>by omega) l;omega⟩
abbrev iG{β:Type}(x:aN×β):List Value:=[x.1.v]
theorem nB{β:Type}(x:aN×β):(iG x).length=1:=rfl
theorem nC{β:Type}(x:aN×β):∀u∈iG x,u.oneCell'=true:=by intro u hu;simp only[List.mem_singleton]at hu;subst hu;rfl
end
end E

namespace E
open Go.Lib
section
variable {P : Program} {w0 : World} {n : Nat} {l : bZ} {H : Heap} {J : Oper} {α : Type} {f : α → List Value} {sz : Nat} {v : Value} {e : TypeId}
theorem Ir{z:Value}{z0:α}(h:z.cells.toList=f z0):∀m,(Builtin.zeroCells z.cells m).toList=(List.replicate m z0).flatMap f:=by
 have o:(f z0).length=z.cells.size:=by rw[←h,Array.length_toList]
 have k:∀m,(Builtin.zeroCells z.cells m).toList=(List.range (m*z.cells.size)).map (fun i=>z.cells[i%z.cells.size]!):=fun m=>by
  unfold Builtin.zeroCells;rw[Array.toList_map,Array.toList_range]
 have aK:(List.range z.cells.size).map (fun i=>z.cells[i%z.cells.size]!)=f z0:=by
  rw[←h];apply List.ext_getElem
  ·simp
  ·intro j n U
   have d:j<z.cells.size:=by simpa using n
   simp[Nat.mod_eq_of_lt d,getElem!_pos z.cells j d]
 intro m;rw[k]
 induction m with
 |zero=>simp
 |succ m ih=>
  rw[Nat.succ_mul,Nat.add_comm,List.range_add,List.map_append,List.map_map,aK,List.replicate_succ,List.flatMap_cons,←ih];congr 1;apply List.map_congr_left;intro j _;simp
theorem Z.Av{aR:Nat→Prop}{xs:List α}{s x:Operand}{t iU:TypeId}{X Q:IntKind}{bytes m:Nat}{Y:Value}(h:Own aR e H f sz v xs)(z0:α)(L:J.op= .call {callee:= .builtin .append,args:= #[s,x],argTypes:= #[t,iU]})
 (ay:c4 P t e sz bytes) (F:P.underlying iU=some (.int X)) (aH:∀w,(zeroValue e).run P w= .ok Y w) (aD:Y.cells.toList=f z0) (af:0<sz) (al:aF l s=some v) (N:aF l x=some (.int Q (m:Nat)))
 (aw:(xs.length+m)*bytes≤140737488355328) (hm:xs.length+m≤9223372036854775807):
 Z P w0 n l H J (fun r aa=>Own (fun b=>aR b∨H.size≤b) e aa f sz r (xs++List.replicate m z0)∧W aR H aa):=by
 obtain⟨E,i,z,q,O,aC,ai,aE⟩:=ay;subst aC;subst ai;intro a w o d
 have aI:z=Y:=by
  have G:=aH w;simp[zeroValue,typeInfo,q,O]at G;exact G
 subst aI;have ae:((List.replicate m z0).flatMap f).length=m*i.size:=by rw[length_flatMap h.cells,List.length_replicate]
 have G:∀c∈(List.replicate m z0).flatMap f,c.oneCell'=true:=by
  intro c av;obtain⟨y,hy,av⟩:=List.mem_flatMap.1 av;exact h.one y c av
 have ag:Builtin.zeroCells z.cells m=((List.replicate m z0).flatMap f).toArray:=by apply Array.ext';rw[Ir aD]
 have hw:IntKind.i64.wrap (m:Int)=m:=by rw[IntKind.wrap_i64];omega
 have aA:¬((m:Int)<0):=by omega
 have ah:¬(281474976710656<(m:Int)*(i.bytes:Int)):=by
  have:m*i.bytes≤(xs.length+m)*i.bytes:=Nat.mul_le_mul_right _ (by omega);rw[←Int.natCast_mul];omega
 have grown:∀(A:Nat) (r:Value),A<xs.length+m→r= .slice (some ⟨w.heap.size,0,none⟩) (xs.length+m) (grownCap w (xs.length+m) A e)→∀B,B=Obj.cells ((xs.flatMap f).toArray++Builtin.zeroCells z.cells m++Builtin.zeroCells z.cells (grownCap w (xs.length+m) A e-(xs.length+m))) e→
  At w0 (w.drew.alloc B).heap (w.drew.alloc B)∧Own (fun b=>aR b∨H.size≤b) e (w.drew.alloc B).heap f i.size r (xs++List.replicate m z0)∧W aR H (w.drew.alloc B).heap:=by
  rintro A r aN rfl B rfl;have ar:=grownCap_ge w (xs.length+m) A e;have ak:grownCap w (xs.length+m) A e≤maxLen:=grownCap_le_maxLen w (xs.length+m) A e (by unfold maxLen;omega);have S:At w0 H w.drew:=d.drew;refine⟨⟨rfl,d.os,d.tape,d.output,S.fJ⟩,?_,?_⟩
  ·have:=Own.new (e:=e) (G':=fun b=>aR b∨H.size≤b) (w:=w.drew) (z:=z) (cap:=grownCap w (xs.length+m) A e) (zs:=xs++List.replicate m z0) h.cells h.one aE (.inr (by rw[S.heap];exact Nat.le_refl _)) (by simpa using ar) ak
   rw[ag]
   simpa using this
  ·rw[(S.alloc _).heap];exact W.push _ _ _
 rcases h.ex with⟨rfl,rfl⟩|⟨g,k,cur,rfl,I,bE,aJ,aK,aL,aM⟩
 ·by_cases K:m=0
  ·subst K
   refine⟨.slice none 0 0,H,w,?_,d,by simpa using h.imp (fun b _ I=> .inl I),W.refl _ _⟩;simp[execOp,L,resolve,invoke,builtin,o.eval al,o.eval N,Builtin.append_,run_underlying E,run_underlying F,sizeOf,typeInfo,q,asInt,asIntOf,IntKind.wrap_i64]
  ·simp only[List.length_nil,Nat.zero_add]at aw hm
   have C:=run_append_nil_zeros (P:=P) w t iU J.type e i z Q X E F q O m (by omega) af (by omega) (by omega);have:=grown 0 _ (by simp;omega) rfl _ rfl;simp only[List.length_nil,Nat.zero_add,List.flatMap_nil,List.nil_append,Array.empty_append]at this;exact⟨_,_,_,by simp[execOp,L,resolve,invoke,builtin,o.eval al,o.eval N,C],this.1,this.2.1,this.2.2⟩
 ·obtain⟨R,au,V⟩:=id bE
  have ab:w.heap[g]?=some (.cells cur e R):=by rw[d.heap];exact au
  by_cases T:xs.length+m≤k
  ·have aq:xs.length*i.size+((List.replicate m z0).flatMap f).length≤cur.size:=by rw[ae,aL,←Nat.add_mul];exact Nat.mul_le_mul_right _ T
   have M:=m4 P g (xs.length*i.size) e R ((List.replicate m z0).flatMap f) 0 cur w ab V (by simpa using aq) G;simp only[Nat.add_zero]at M
   have C:(Builtin.append_ #[t,iU] J.type #[.slice (some ⟨g,0,none⟩) xs.length k,.int Q m]).run P w= .ok (.slice (some ⟨g,0,none⟩) (xs.length+m) k) (w.setRow g (cur.toList.take (xs.length*i.size)++(List.replicate m z0).flatMap f++cur.toList.drop (xs.length*i.size+((List.replicate m z0).flatMap f).length)).toArray):=by
    by_cases K:m=0
    ·subst K
     simp only[List.replicate_zero,List.flatMap_nil]at M;simp[Builtin.append_,run_underlying E,run_underlying F,sizeOf,typeInfo,q,asInt,asIntOf,IntKind.wrap_i64,aJ,Addr.add_lit,M]
    ·have aB:¬(m*i.size=0):=Nat.mul_ne_zero K (by omega)
     simp[Builtin.append_,run_underlying E,run_underlying F,sizeOf,typeInfo,zeroValue,q,O,asInt,asIntOf,hw,aA,ah,aB,T,ag,Addr.add_lit,M]
   refine⟨.slice (some ⟨g,0,none⟩) (xs.length+m) k,(w.setRow g (cur.toList.take (xs.length*i.size)++(List.replicate m z0).flatMap f++cur.toList.drop (xs.length*i.size+((List.replicate m z0).flatMap f).length)).toArray).heap,w.setRow g (cur.toList.take (xs.length*i.size)++(List.replicate m z0).flatMap f++cur.toList.drop (xs.length*i.size+((List.replicate m z0).flatMap f).length)).toArray,by simp[execOp,L,resolve,invoke,builtin,o.eval al,o.eval N,C],⟨rfl,d.os,d.tape,d.output,d.fJ⟩,⟨h.cells,h.one,.inr ⟨g,k,_,by rw[List.length_append,List.length_replicate],.inl I,⟨R,setRow_heap w g cur _ e _ ab,V.1,fun i q=>V.2 i (by simp only[List.size_toArray,List.length_append,List.length_take,List.length_drop,Array.length_toList]at q;omega)⟩,by rw[List.length_append,List.length_replicate];exact T,aK,?_,?_⟩⟩,?_⟩
   ·simp only[List.size_toArray,List.length_append,List.length_take,List.length_drop,Array.length_toList]
    omega
   ·have az:=length_flatMap h.cells xs
    rw[aM,←List.flatMap_append,List.length_append,Nat.add_mul,List.length_replicate,←ae,←az,←List.length_append,←List.flatMap_append];exact List.take_left
   ·exact(ph d g _).weaken (fun b _ e=>by rw[e];exact I)
  ·have holds:∀j c,(xs.flatMap f)[j]?=some c→w.drew.cell? ((⟨g,0,none⟩:Addr).add j)=some c:=h.rd.lA h.cells rfl d.drew
   have hold:(Builtin.firstCells i.size xs.length (.slice (some ⟨g,0,none⟩) xs.length k)).run P w.drew= .ok (xs.flatMap f).toArray w.drew:=run_firstCells_some (P:=P) w.drew i.size xs.length ⟨g,0,none⟩ xs.length k _ (length_flatMap h.cells xs) holds
   have C:=Lib.run_append_grow_zeros (P:=P) w t iU J.type e i z Q X E F q O (some ⟨g,0,none⟩) xs.length k (xs.flatMap f) hold m (by omega) af (by omega) (by omega) (by
    have:m*i.bytes≤(xs.length+m)*i.bytes:=Nat.mul_le_mul_right _ (by omega);omega) (growslice_fits (by omega) aw)
   have:=grown k _ (by omega) rfl _ rfl;exact⟨_,_,_,by simp[execOp,L,resolve,invoke,builtin,o.eval al,o.eval N,C],this.1,this.2.1,this.2.2⟩
theorem Z.Au{k:Nat}{xs:List α}{s x:Operand}{t iU:TypeId}{K L:IntKind}{bytes m:Nat}{i:Value}(h:aV k e H f sz v xs)(z0:α)(B:J.op= .call {callee:= .builtin .append,args:= #[s,x],argTypes:= #[t,iU]})
 (A:c4 P t e sz bytes) (E:P.underlying iU=some (.int K)) (I:∀w,(zeroValue e).run P w= .ok i w) (G:i.cells.toList=f z0) (C:0<sz) (al:aF l s=some v) (F:aF l x=some (.int L (m:Nat)))
 (aw:(xs.length+m)*bytes≤140737488355328) (hm:xs.length+m≤9223372036854775807):
 Z P w0 n l H J (fun r aa=>∃d,aV d e aa f sz r (xs++List.replicate m z0)∧(d=0∨d=k∨H.size<d)∧W (fun b=>b+1=k) H aa):=
 (Z.Av h.own z0 B A E I G C al F aw hm).mono fun r aa ⟨j,U⟩=>by
  obtain⟨d,o,q⟩:=aV.of j;refine⟨d,o,?_,U⟩;rcases q with rfl|⟨g,rfl,M⟩
  ·exact .inl rfl
  ·omega
theorem Y.G4{x:Operand}{o d:Option Operand}{t e:TypeId}{a:Option Addr}{len cap sz:Nat}(i j:Nat)(B:J.op= .slice t x o d none)(C:∀w,(underlying t).run P w= .ok (.slice e) w)(al:∀w,(sizeOf e).run P w= .ok sz w)(E:aF l x=some (.slice a len cap))
 (A:o=none∧i=0∨∃p k aD,o=some p∧aF l p=some (.int k aD)∧aD=(i:Int)) (r:d=none∧j=len∨∃p k aD,d=some p∧aF l p=some (.int k aD)∧aD=(j:Int)) (K:i≤j) (L:j≤cap):
 Y P w0 n l H J (.slice (if cap=i then a else a.map (·.add (i*sz))) (j-i) (cap-i)):=by
 intro ac w q I
 have aK:∀w,(Instr.sliceBounds true len cap (o.map ac.eval) (d.map ac.eval) none).run P w= .ok (i,j,cap) w:=by
  intro w
  rcases A with⟨rfl,rfl⟩|⟨p,k,aD,rfl,F,rfl⟩<;>rcases r with⟨rfl,rfl⟩|⟨N,a8,M,rfl,G,rfl⟩<;>
   simp[Instr.sliceBounds,Instr.sliceBound,asIntOf,q.eval, *]
 have hu:∀w,(underlying t).run P w= .ok (.slice e) w:=C;simp[execOp,B,q.eval E,Instr.sliceAt,Instr.slice,hu,al,aK]
theorem Y.vD{x:Operand}{t e:TypeId}{a:Option Addr}{len cap:Nat}(i:J.op= .call {callee:= .builtin .cap,args:= #[x],argTypes:= #[t]})(j:∀w,(underlying t).run P w= .ok (.slice e) w)(k:aF l x=some (.slice a len cap)):Y P w0 n l H J (.int .i64 cap):=by
 intro ac w d o;simp[execOp,i,d.eval k,resolve,invoke,builtin,Builtin.cap_,j,goInt]
end
end E

namespace gd
open E Go.RowKit ft
set_option maxRecDepth 100000 in
theorem dC:c4 Tryz.prog 57 5 1 1:=⟨Tryz.underlying57,_,_,rfl,rfl,rfl,rfl,rfl⟩
set_option maxRecDepth 100000 in
theorem lv:c4 Tryz.prog 104 57 1 24:=⟨Tryz.underlying104,_,_,rfl,rfl,rfl,rfl,rfl⟩
theorem mF(v1:Value)(a:List UInt8)(w0:World)(I:Heap)
 (i:bx I a1 1 v1 a) (ae:a.length≤140737488355328):
 aC Tryz.prog w0 59 #[v1] I (fun r x=>∃s:aN,∃k:Nat,r=s.v∧(aV k 5 x a1 1 s.v a)∧(T 0 I.size k)∧aj I x):=by
 refine aC.aK [v1] Tryz.func59 ?_;intro X E;have d:aj I I:=W.refl _ _;replace i:=i.bw;obtain⟨p,ab,rfl,_,_,R⟩:=id i.ex;refine G.L (fun H=>?_);refine o.ak ?_;refine H (G.t2 (fun K L=>G.L (fun M=>?_)));refine o.V ?_;refine o.v1 (Y.pk rfl Tryz.underlying57 rfl rfl) (o.nil (M ?_));refine cK (fun q=>?_) (fun q=>?_)
 ·
  obtain rfl:a=[]:=by
   apply Decidable.byContradiction;intro h;obtain⟨ad,Q,_⟩:=R h;rw[Q]at q;cases q
  refine G.L (fun N=>?_);refine o.ak ?_;refine N ?_;refine G.ret (L (E ?_));exact⟨⟨none,0,0⟩,0,rfl,aV.nil eE fK,T.refl _ _,d⟩
 ·
  refine G.skip (K (G.L (fun au=>?_)));refine o.aO (cT _ (([]:List UInt8)) dC eE fK (rfl)) ?_;rintro v5 A ⟨am,j,Z,O⟩;have ap:A.size=I.size+1:=by rw[O];simp
  have B:T 0 I.size (I.size+1):=T.new d.size;replace i:=i.M j;replace d:=d.L j;have aa:=j.size;refine o.V ?_;refine o.aO (dQ am i dC (by first|omega|(simp;omega)) (by first|omega|(simp;omega))) ?_;rintro F V ⟨t,C,n,ac⟩;replace n:T (I.size+1) A.size t:=n;replace ac:=ac.md;have P:T 0 I.size t:=T.L (B) n d.size;replace d:=d.bo ac (ag.J (aq.q B));refine o.ak ?_;refine au ?_;refine G.ret (E ?_);obtain⟨S,rfl⟩:∃s:aN,F=s.v:=⟨cl F,C.bl.symm⟩;exact⟨S,t,rfl,by simpa using C,P,d⟩
def gu(l:List (aN×List UInt8)):List UInt8:=l.flatMap (·.2)
theorem p1{l:List (aN×List UInt8)}{i:Nat}(h:i<l.length):gu (l.take (i+1))=gu (l.take i)++l[i].2:=by
 unfold gu;rw[List.take_succ_eq_append_getElem h,List.flatMap_append];simp
theorem Cl(l:List (aN×List UInt8))(i:Nat):(gu (l.take i)).length≤(gu l).length:=by
 have:gu l=gu (l.take i)++gu (l.drop i):=by unfold gu;rw[←List.flatMap_append,List.take_append_drop]
 rw[this,List.length_append];omega
theorem vE{l:List (aN×List UInt8)}{i:Nat}(h:i<l.length):(gu (l.take i)).length+l[i].2.length≤(gu l).length:=by
 have:=Cl l (i+1);rw[p1 h,List.length_append]at this;exact this
theorem Dz(m:Nat)(w0:World)(I:Heap)
 (hm:m≤1099511627776):
 aC Tryz.prog w0 227 #[.slice none 0 0,.int .i64 (m:Int)] I (fun r q=>∃s:aN,∃k:Nat,r=s.v∧(aV k 5 q a1 1 s.v [])∧(T 0 I.size k)∧aj I q):=by
 refine aC.aK [.slice none 0 0,.int .i64 (m:Int)] Tryz.func227 ?_;intro P B;have d:aj I I:=W.refl _ _;refine G.L (fun C=>?_);refine o.ak ?_;refine C (G.t1 (fun E=>G.L (fun F=>?_)));refine o.V ?_;refine o.v1 ((bJ).fm (by omega)) (o.nil (F ?_));refine dw ?_;refine G.skip (E (G.t1 (fun x=>G.L (fun au=>?_))));refine o.ax 2 ?_;refine o.v1 (Y.vD rfl dc rfl) ?_;refine o.V ?_;refine o.v1 (Y.cast (v2:= .int .i64 ((0:Nat):Int)) (bb (Rd.nil (fun _=>False) _ a1 1) dc) (rfl)) ?_;refine o.v1 (Y.cast (v2:= .int .i64 ((0:Nat):Int)) fH (rfl)) ?_;refine o.v1 (Y.cast (v2:= .int .i64 (m:Int)) fH (fM (by simp))) ?_;refine o.ak ?_;refine au (G.L (fun am=>?_));refine o.V ?_;refine o.v1 eY (o.nil (am ?_));refine aU (fun H=>?_) (fun H=>?_)
 ·
  refine G.region ?_;refine o.ax 2 ?_;refine o.v1 (Y.vD rfl dc rfl) ?_;refine o.v1 (Y.G4 0 0 rfl dc cN rfl (.inl ⟨rfl,rfl⟩) (.inr ⟨_,_,_,rfl,rfl,rfl⟩) (by omega) (by omega)) ?_;refine o.V ?_;have O:aV 0 5 I a1 1 (.slice none 0 0) []:=aV.nil eE fK;refine o.aO (Z.Au (m:=m) O (0:UInt8) rfl dC Tryz.underlying3 zS rfl (by decide) rfl rfl (by simp;omega) (by simp;omega)) fun Q R ap=>?_;obtain⟨n,ac,j,i⟩:=ap;replace j:T 0 I.size n:=j;replace i:=i.md;have K:T 0 I.size n:=T.L (T.refl 0 _) j d.size;replace d:=d.bo i (ag.cons aq.z ag.nil);have S:=i.size;have ad:=ac.le;refine o.V ?_;refine o.v1 (Y.cast (v2:= .int .i64 ((0:Nat):Int)) (bb (Rd.nil (fun _=>False) _ a1 1) dc) (rfl)) ?_;refine o.aK (g:=fun v=>v) (Y.FJ ac (0) rfl dc cN rfl rfl (by first|rfl|omega) (by omega)) fun A t=>?_;refine o.ak ?_;refine x (G.L (fun L=>?_));refine o.aQ 2 ?_;refine L ?_;refine G.ret (B ?_);obtain⟨M,rfl⟩:∃s:aN,A=s.v:=⟨cl A,t.bl.symm⟩;exact⟨M,n,rfl,by simpa using t,K,d⟩
 ·
  refine G.skip (x (G.L (fun N=>?_)));refine o.aQ 2 ?_;refine N ?_;refine G.ret (B ?_);exact⟨⟨none,0,0⟩,0,rfl,aV.nil eE fK,T.refl _ _,d⟩
theorem vM(v:Value)(l:List (aN×List UInt8))(w0:World)(I:Heap)
 (d:bx I iG 1 v l) (t:∀x∈l,bx I a1 1 x.1.v x.2) (av:(gu l).length≤1099511627776):
 aC Tryz.prog w0 186 #[v] I (fun r V=>∃s:aN,∃k:Nat,r=s.v∧(aV k 5 V a1 1 s.v (gu l))∧(T 0 I.size k)∧aj I V):=by
 refine aC.aK [v] Tryz.func186 ?_;intro bt bn;have n:aj I I:=W.refl _ _;replace d:=d.bw;have au:=d.bY;replace t:=fun x C=>(t x C).bw;have am:bh (fun b=>True∧b<I.size) I.size:=fun b h=>h.2;have bL:=d.len;refine G.L (fun aQ=>?_);refine o.ak ?_;refine aQ (G.L (fun aR=>?_));refine o.ak ?_;refine aR (G.t1 (fun aS=>G.L (fun aT=>?_)));refine o.V ?_;refine o.v1 (bb d h7) ?_;refine o.V (o.nil (aT ?_));refine G.aB (fun _ aX _=>?_)
 refine G.bg (fun(i:(Nat))=>[(0,v),(3,.int .i64 ((gu (l.take i)).length:Int)),(9,v),(10,.int .i64 l.length),(11,.int .i64 i)])
  (fun(i:(Nat)) (H:Heap)=>(i≤l.length)∧aj I H)
  (fun(i:(Nat))=>l.length-i) 0 ⟨rfl,rfl,rfl,rfl,rfl,trivial⟩ ?_ ?_
 ·
  exact⟨(by omega),W.refl _ _⟩
 intro i be aY bs aZ a6;obtain⟨bK,F⟩:=aY;replace d:=d.M F;replace t:=fun x C=>(t x C).M F;replace n:=n.L F;have bw:=F.size;refine G.L (fun a7=>?_);refine o.v1 bJ (o.nil (a7 ?_));refine G.t2 (fun a8 a0=>?_);refine aU (fun b2=>?_) (fun b2=>?_)
 ·
  have N:i<l.length:=by omega
  have bF:=vE N;have bo:=t l[i] (List.getElem_mem N);refine G.skip (a8 (G.t1 (fun a2=>G.aB (fun ap _ _=>G.L (fun ba=>?_)))));refine o.bR (Y.bL d (i) rfl h7 db rfl rfl) fun a3 bc=>?_;refine o.v1 (ar bc.N eD) ?_;refine o.ak ?_;refine ba (G.L (fun bd=>?_));refine o.ax 2 ?_;refine o.v1 (bb bo dc) ?_;refine o.v1 (Y.cast (v2:= .int .i64 ((gu (l.take (i+1))).length:Int)) bD (fM (by rw[p1 N,List.length_append];omega))) ?_;refine o.ak ?_;refine bd (G.L (fun bf=>?_));refine o.V ?_;refine o.v1 ((bJ).fm (by omega)) (o.nil (bf ?_));refine dw ?_;refine G.skip (ap (a2 (G.region ?_)));refine o.v1 bD ?_;refine o.V (o.nil ?_);have bI:=p1 N;refine aP.sub (aZ (i+1) _ ?_ ?_) ⟨rfl,(aD (by omega)),rfl,(aD (by omega)),(aD (by omega)),trivial⟩
  ·exact⟨(by omega),F⟩
  ·first|omega|(simp only;omega)|(simp;omega)
 ·
  obtain rfl:i=l.length:=by omega
  refine G.exit (a0 (a6 (aX ?_)));refine aS (G.L (fun bg=>?_));refine o.v1 (Y.cast (v2:= .int .i64 ((gu l).length:Int)) fc (by rw[List.take_length])) ?_;refine aW BE (Dz (gu l).length w0 _ av) (fun bz R a4=>?_);obtain⟨a5,K,rfl,j,P,L⟩:=a4;have ae:=ay.app (ay.z) (au.mono n.size) P;have af:=ay.app (ay.z) (am.mono n.size) P;have X:T 0 I.size K:=T.L (T.refl 0 _) P n.size;replace d:=d.M L;replace t:=fun x C=>(t x C).M L;replace n:=n.L L;have bi:=L.size;have ab:=j.le;refine o.ak ?_;refine bg (G.t1 (fun bj=>G.L (fun bk=>?_)));refine o.V ?_;refine o.v1 (bb d h7) ?_;refine o.V (o.nil (bk ?_));refine G.aB (fun _ ai _=>?_)
  refine G.bg (fun(bq:(Nat)×(aN)×(Nat))=>match bq with|(q,E,B)=>[(6,E.v),(25,v),(26,.int .i64 l.length),(27,.int .i64 q)])
   (fun(q,E,B) (H:Heap)=>(q≤l.length)∧(aV B 5 H a1 1 E.v (gu (l.take q)))∧(T K R.size B)∧W (aE [K]) R H)
   (fun(q,E,B)=>l.length-q) (0,a5,K) ⟨rfl,rfl,rfl,rfl,trivial⟩ ?_ ?_
  ·
   exact⟨(by omega),by simpa[gu]using j,T.refl _ _,W.refl _ _⟩
  rintro⟨q,E,B⟩ ah a9 bA ak al;obtain⟨bN,j,ac,A⟩:=a9;have a_:T 0 I.size B:=T.L (X) ac n.size;replace d:=d.ab A (az.J ae);replace t:=fun x C=>(t x C).ab A (az.J af);replace n:=n.bo A (ag.J (aq.q X));have aB:=A.size;have ab:=j.le;have Z:=ac;refine G.L (fun aA=>?_);refine o.v1 bJ (o.nil (aA ?_));refine G.t2 (fun aF aH=>?_);refine aU (fun bl=>?_) (fun bl=>?_)
  ·
   have S:q<l.length:=by omega
   have bG:=vE S;have bp:=t l[q] (List.getElem_mem S);refine G.skip (aF (G.t1 (fun aI=>G.aB (fun aJ _ _=>G.L (fun aK=>?_)))));refine o.bR (Y.bL d (q) rfl h7 db rfl rfl) fun bu aL=>?_;refine o.v1 (ar aL.N eD) ?_;refine o.ak ?_;refine aK (G.region ?_);refine o.ax 2 ?_;refine o.aO (dQ j bp dC (by first|omega|(simp;omega)) (by first|omega|(simp;omega))) fun aa bC bm=>?_;obtain⟨O,j,Q,M⟩:=bm;replace Q:T B ah.size O:=Q;replace M:=M.md;have aM:T K R.size O:=T.L (Z) Q A.size;replace A:=A.aJ M (ag.J (aq.r Z));have bE:=M.size;have ab:=j.le;refine o.ak ?_;refine aJ (aI (G.region ?_));refine o.v1 bD ?_;refine o.V (o.nil ?_);obtain⟨bT,rfl⟩:∃s:aN,aa=s.v:=⟨cl aa,j.bl.symm⟩;refine aP.sub (ak (q+1,bT,O) _ ?_ ?_) ⟨rfl,rfl,(aD (by omega)),(aD (by omega)),trivial⟩
   ·exact⟨(by omega),by rw[p1 S];exact j,aM,A⟩
   ·first|omega|(simp only;omega)|(simp;omega)
  ·
   refine G.exit (aH (al (ai ?_)));refine bj (G.L (fun aO=>?_));refine o.aQ 2 ?_;refine aO ?_;refine G.ret (bn ?_);obtain rfl:q=l.length:=by omega
   rw[List.take_length]at j;exact⟨E,B,rfl,j,a_,n⟩
abbrev lO:=dZ×aN
abbrev lX(x:lO):List Value:=[.bool x.1.b,x.2.v]
theorem qf(x:lO):(lX x).length=2:=rfl
theorem qg(x:lO):∀u∈lX x,u.oneCell'=true:=by intro u hu;simp only[List.mem_cons,List.not_mem_nil,or_false]at hu;rcases hu with rfl|rfl<;>rfl
abbrev n8(x:lO):Value:= .agg (lX x).toArray
theorem x0(w:dZ)(b:List UInt8)(n:Nat):(w.on b n).length≤b.length+n:=by
 unfold dZ.on;rw[List.length_append,List.length_take];split<;>simp<;>omega
theorem xZ(x:lO)(c8:aN)(b:List UInt8)(n:Nat)(w0:World)(I:Heap)
 (an:bx I a1 1 x.2.v x.1.d) (aw:bx I a1 1 c8.v b) (aA:n≤x.1.d.length) (aO:b.length+n≤1099511627776):
 aC Tryz.prog w0 160 #[n8 x,c8.v,.int .i64 (n:Int)] I (fun r F=>∃s:aN,∃k:Nat,r=s.v∧(aV k 5 F a1 1 s.v (x.1.on b n))∧(T 0 I.size k)∧aj I F):=by
 refine aC.aK [n8 x,c8.v,.int .i64 (n:Int)] Tryz.func160 ?_;intro ay al;have d:aj I I:=W.refl _ _;replace an:=an.bw;replace aw:=aw.bw;refine G.L (fun ae=>?_);refine o.aO cq ?_;rintro v3 q ⟨rfl,j,A,aB,af⟩;have aL:q.size=I.size+1:=by rw[af];simp
 replace an:=an.M A;replace aw:=aw.M A;replace d:=d.L A;have aE:=A.size;replace j:Var 275 q I.size (lX x):=j;refine o.ak ?_;refine ae ?_
 refine G.cut (fun(aq:(aN)×(List UInt8))=>match aq with|(s1,i)=>[(1,s1.v),(2,.int .i64 (n:Int)),(3,.pointer (some ⟨I.size,0,none⟩))])
  (fun(s1,i) (H:Heap)=>(bx H a1 1 s1.v i)∧(i=if x.1.b=true then b else[])∧aj q H) (fun _ L _=>?_) ?_
 ·
  have K:aj q q:=W.refl _ _;refine G.L (fun ag=>?_);refine o.v1 (Y.ai j.N rfl ka rfl cX) ?_;refine o.v1 (ar j.N dA) ?_;refine o.v1 eL (o.nil (ag ?_));refine cK (fun E=>?_) (fun E=>?_)
  ·
   refine G.region ?_;refine o.ak ?_;refine aP.sub (L (⟨none,0,0⟩,[]) _ ?_) ⟨rfl,(aD (by omega)),rfl,trivial⟩;exact⟨Rd.nil _ _ _ _,by rw[if_neg (by simpa using E)],K⟩
  ·
   refine G.skip ?_;refine aP.sub (L (c8,b) _ ?_) ⟨rfl,(aD (by omega)),rfl,trivial⟩;exact⟨aw.any,by rw[if_pos (by simpa using E)],K⟩
 ·
  rintro⟨s1,i⟩ ad V;obtain⟨ak,N,t⟩:=V;replace an:=an.M t;replace j:=j.M t;replace d:=d.L t;have aF:=t.size;have aM:i.length≤b.length:=by rw[N];split<;>simp
  refine G.L (fun ah=>?_);refine o.V ?_;refine o.v1 (Y.ai j.N rfl ka rfl db) ?_;refine o.v1 (ar (j.N.drop 1) eD) ?_;refine o.V ?_;refine o.aK (g:=fun v=>v) (Y.slice an (0) (n) rfl dc cN rfl (.inl ⟨rfl,rfl⟩) (.inr ⟨_,_,_,rfl,rfl,by first|rfl|omega⟩) (by omega) (by omega)) fun ap B=>?_;obtain⟨C,rfl⟩:∃s:aN,ap=s.v:=⟨cl ap,B.bl.symm⟩;refine o.aO (cT _ ([(s1,i),(C,(x.1.d.take n).drop 0)]) lv nB nC (rfl)) fun ai P Q=>?_;obtain⟨X,ac,az,Z⟩:=Q;have aK:P.size=ad.size+1:=by rw[Z];simp
  replace B:=B.M ac;replace d:=d.L ac;have aH:=ac.size;refine aW vj (vM ai [(s1,i),(C,(x.1.d.take n).drop 0)] w0 _ X.rd.any (fun x O=>by simp only[List.mem_cons,List.not_mem_nil,or_false]at O;rcases O with rfl|rfl;exact ak.M ac;exact B.any) (by simp[gu];omega)) (fun aI aJ R=>?_);obtain⟨S,M,rfl,aa,ab,au⟩:=R;have am:T 0 I.size M:=T.L (T.refl 0 _) ab d.size;replace d:=d.L au;refine o.ak ?_;refine ah ?_;refine G.ret (al ?_);exact⟨S,M,rfl,by have e:gu [(s1,i),(C,(x.1.d.take n).drop 0)]=x.1.on b n:=(by unfold dZ.on;rw[←N];simp[gu]);rw[←e];exact aa,am,d⟩
end gd

namespace E
section
variable {P : Program} {w0 : World} {n : Nat} {l : bZ} {H : Heap} {J : Oper}
theorem Z.ext{f:FuncId}{fn:Func}{e:Array Value→Sem Value}{args:List Operand}{o:Array TypeId}{j:List Value}{k:Value→Heap→Prop}(B:J.op= .call {callee:= .value (.func f),args:=args.toArray,argTypes:=o})(t:P.funcs[f]?=some fn)
 (A:(fn.name== "runtime.NumGoroutine")=false) (aw:fn.body.isNone=true) (aA:Extern.findNext fn=none) (he:Extern.find fn=some e) (E:gI l args=some j) (C:∀w,At w0 H w→∃v aa d,(e j.toArray).run P w= .ok v d∧At w0 aa d∧k v aa):Z P w0 n l H J k:=by
 intro a w x r;have q:a.eval (.func f)= .func (.func f) #[] #[]:=rfl;have U:=x.jR E;have i:=run_callFunc_extern (P:=P) t A aw aA he j.toArray w;obtain⟨v,aa,d,F,G,I⟩:=C w r;rw[F]at i;simp only[Result.andThen]at i;exact⟨v,aa,d,by simp[execOp,B,resolve,Deferred.ofValue,q,invoke,U,i],G,I⟩
theorem Var.cell{e:TypeId}{b:Nat}{cs:List Value}(h:Var e H b cs){w:World}(n:At w0 H w){i:Nat}{c:Value}(av:cs[i]?=some c):w.cell? ⟨b,i,none⟩=some c∧w.frozen? ⟨b,i,none⟩=false∧∃d,w.heap[b]?=some (.cells cs.toArray e d):=by
 obtain⟨d,k,U⟩:=id h.row;have o:=(List.getElem?_eq_some_iff.1 av).1;have j:w.heap[b]?=some (.cells cs.toArray e d):=by rw[n.heap];exact k
 refine⟨by simp[World.cell?,j,av],?_,d,j⟩;obtain⟨r,q⟩:=d;have:=U.2 i (by simpa using o);simp only at this;simp[World.frozen?,j];omega
theorem Z.z_{f:FuncId}{fn:Func}{args:List Operand}{o:Array TypeId}{e:TypeId}{b i:Nat}{cs:List Value}{x y:Int}(h:Var e H b cs)(av:cs[i]?=some (.int .i64 x))(E:J.op= .call {callee:= .value (.func f),args:=args.toArray,argTypes:=o})(B:P.funcs[f]?=some fn)
 (C:(fn.name== "runtime.NumGoroutine")=false) (aw:fn.body.isNone=true) (aA:Extern.findNext fn=none) (he:Extern.find fn=some (Extern.Atomic.update (Op.intArith .add) .i64 true)) (F:gI l args=some [.pointer (some ⟨b,i,none⟩),.int .i64 y]) (I: -9223372036854775808≤x+y∧x+y≤9223372036854775807):
 Z P w0 n l H J (fun r aa=>r= .int .i64 (x+y)∧Var e aa b (cs.set i (.int .i64 (x+y)))∧W (fun c=>c=b) H aa):=by
 refine Z.ext E B C aw aA he F (fun w d=>?_);obtain⟨j,U,t,A⟩:=h.cell d av;have hw:IntKind.i64.wrap (x+y)=x+y:=by rw[IntKind.wrap_i64];omega
 have G:=(List.getElem?_eq_some_iff.1 av).1;refine⟨.int .i64 (x+y),_,w.setRow b (cs.toArray.setIfInBounds i (.int .i64 (x+y))),?_,d.row _ _,rfl,?_,ph d _ _⟩
 ·have al:(store ⟨b,i,none⟩ (.int .i64 (x+y)) .atomic).run P w= .ok () (w.setRow b (cs.toArray.setIfInBounds i (.int .i64 (x+y)))):=by
   rw[Go.run_store P w _ _ _ rfl,j];simp only[U,Bool.false_eq_true,if_false];rw[setCell_eq_setRow w b i cs.toArray e t _ A]
  have aK:Extern.Atomic.update (Op.intArith .add) .i64 true #[.pointer (some ⟨b,i,none⟩),.int .i64 y]=(asAddr (.pointer (some ⟨b,i,none⟩))>>=fun a=>Extern.Atomic.read (.int .i64) a>>=fun k=>asInt k>>=fun p=>asInt (.int .i64 y)>>=fun q=>Op.intArith .add .i64 p q>>=fun new=>store a new .atomic>>=fun _=>pure (if true then new else k)):=rfl;show(Extern.Atomic.update (Op.intArith .add) .i64 true #[.pointer (some ⟨b,i,none⟩),.int .i64 y]).run P w=_;rw[aK];simp[Extern.Atomic.read,asAddr,j,asInt,asIntOf,Op.intArith,hw,al]
 ·have:=q4 d h.row (c:=cs.toArray.setIfInBounds i (.int .i64 (x+y))) (by simp)
  exact⟨by simpa using this⟩
end
end E
end Go.Proofs.YtfjmpninmdjcaaaGreatDoor
