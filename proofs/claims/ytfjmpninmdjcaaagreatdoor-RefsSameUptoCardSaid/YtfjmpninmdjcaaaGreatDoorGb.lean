/-
  Contracts of functions of the program, and plain laws: put together of several texts.
-/
import Derived.Test.YtfjmpninmdjcaaaGreatDoorGa
import Derived.Test.YtfjmpninmdjcaaaGreatDoorRows
import Derived.Lib.SplitLaws
import Derived.Test.YtfjmpninmdjcaaaGreatDoorShelf
import Derived.Test.YtfjmpninmdjcaaaGreatDoorMcl
import Derived.ProofKit
import Derived.OpenShut
import Derived.ShutString
import Derived.ChangeOld
import Derived.Below
import Derived.JoinedCond
import Derived.Deep.Slices
import Derived.ChangeSame
import Derived.Lib.AppendZerosOnto
set_option linter.unusedVariables false
set_option linter.unusedSimpArgs false
set_option linter.unusedSectionVars false
set_option linter.defProp false
set_option maxHeartbeats 8000000
set_option maxRecDepth 20000
namespace Go.Proofs.YtfjmpninmdjcaaaGreatDoor

namespace e3
open E Go.RowKit eJ eN eW
theorem rJ:∀(up s:List UInt8),(up++[47]).isPrefixOf s=decide (up.length<s.length∧s.take up.length=up∧(s.getD up.length 0).toNat=47)
 |[],[]=>by simp
 |[],c::s=>by
  have e:(47=c)↔(c.toNat=47):=⟨fun h=>by rw[←h];rfl,fun h=>by apply UInt8.toNat.inj;rw[h];rfl⟩;by_cases h:47=c
  ·rw[decide_eq_true]
   ·simp[List.isPrefixOf,h]
   ·exact⟨by simp,rfl,e.1 h⟩
  ·rw[decide_eq_false]
   ·simp[List.isPrefixOf,h]
   ·rintro⟨_,_,U⟩;exact h (e.2 (by simpa using U))
 |d::up,[]=>by simp
 |d::up,c::s=>by
  have ih:=rJ up s;rw[List.cons_append,List.isPrefixOf,ih];by_cases h:d=c
  ·subst h;simp
  ·have U:¬c=d:=fun e=>h e.symm
   simp[h,U]
theorem Av{s up:List UInt8}(h:up.length<s.length)(U:s.take up.length=up):Value.bool (decide (((s[up.length]).toNat:Int)=47))= .bool ((up++[47]).isPrefixOf s):=by
 rw[rJ];exact c3 ⟨fun e=>⟨h,U,by rw[iz h];omega⟩,fun e=>by have:=e.2.2;rw[iz h]at this;omega⟩
theorem uH{s up:List UInt8}(h:¬(up.length<s.length∧s.take up.length=up)):Value.bool false= .bool ((up++[47]).isPrefixOf s):=by
 rw[rJ,decide_eq_false (fun e=>h ⟨e.1,e.2.1⟩)]
def i_(s J:List UInt8):Bool:=(s++[47]).isPrefixOf J||(J++[47]).isPrefixOf s
def base(s:List UInt8)(l:List (List UInt8)):Int:=if c8 s≠0 then c8 s else if s∈l then 8 else 0
def iH(s:List UInt8)(l:List (List UInt8)):Int:=if base s l≠0 then base s l else if l.any (i_ s)=true then 13 else 0
theorem xg{s:List UInt8}{l:List (List UInt8)}{j:Nat}(h:s∉l.take j)(d:j<l.length)(U:s≠l[j]):s∉l.take (j+1):=by
 rw[List.take_succ_eq_append_getElem d];simp only[List.mem_append,List.mem_singleton,not_or];exact⟨h,U⟩
theorem DR(v:Value)(x:List UInt8)(l:List (List UInt8))(w0:World)(I:Heap)
 (d:bw I gd 1 v l):
 aC Tryz.prog w0 230 #[v,aI x] I (fun r C=>∃n:Int,r= .int .i64 n∧((0≤n↔x∈l)∧ -1≤n∧n≤9223372036854775807)∧ak I C):=by
 refine aC.aK [v,aI x] Tryz.func230 ?_;intro af B;have k:ak I I:=V.refl _ _;replace d:=d.bt;have an:=d.len;refine G.L (fun N=>?_);refine o.aj ?_;refine N (G.t2 (fun O au=>G.L (fun am=>?_)));refine o.W ?_;refine o.v1 (ba d jG) ?_;refine o.W (o.nil (am ?_));refine G.aB (fun _ P ap=>?_)
 refine G.bd (fun(j:(Nat))=>[(0,v),(1,aI x),(7,.int .i64 l.length),(8,.int .i64 j)])
  (fun(j:(Nat)) (H:Heap)=>(j≤l.length)∧(x∉l.take j)∧ak I H)
  (fun(j:(Nat))=>l.length-j) 0 ⟨rfl,rfl,rfl,rfl,trivial⟩ ?_ ?_
 ·
  exact⟨(by omega),(fun h=>by simp at h),V.refl _ _⟩
 intro j ah Q ae R A;obtain⟨aj,t,i⟩:=Q;replace d:=d.M i;replace k:=k.L i;have ai:=i.size;refine G.L (fun S=>?_);refine o.v1 bG (o.nil (S ?_));refine G.t2 (fun T W=>?_);refine aT (fun ab=>?_) (fun ab=>?_)
 ·
  refine G.skip (T (G.t2 (fun X Z=>G.aB (fun aa _ E=>G.L (fun F=>?_)))));refine o.aR 2 ?_;refine F (G.L (fun ac=>?_));refine o.ax 3 ?_;refine o.bR (Y.bJ d (j) rfl jG bO rfl rfl) fun ag K=>?_;refine o.v1 (ar K.N bL) ?_;refine o.v1 (Y.jB rfl rfl rfl) (o.nil (ac ?_));refine aT (fun q=>?_) (fun q=>?_)
  ·
   refine G.L (fun L=>?_);refine o.aR 2 ?_;refine L ?_;refine G.ret (E (Z (A (ap (au (B ?_))))));exact⟨j,rfl,⟨⟨fun _=>by rw[q];exact List.getElem_mem _,fun _=>by omega⟩,by omega,by omega⟩,k⟩
  ·
   refine G.skip (aa (X (G.region ?_)));refine o.v1 bD ?_;refine o.W (o.nil ?_);refine aP.sub (R (j+1) _ ?_ ?_) ⟨rfl,rfl,(aD (by omega)),(aD (by omega)),trivial⟩
   ·exact⟨(by omega),xg t (by omega) (by simpa using q),i⟩
   ·first|omega|(simp only;omega)|(simp;omega)
 ·
  refine G.exit (W (A (P ?_)));refine O (G.L (fun M=>?_));refine o.aj ?_;refine M ?_;refine G.ret (B ?_);exact⟨-1,rfl,⟨⟨fun h=>by omega,fun h=>by rw[List.take_of_length_le (by omega)]at t;exact absurd h t⟩,by omega,by omega⟩,k⟩
theorem CA(v:Value)(x:List UInt8)(l:List (List UInt8))(w0:World)(I:Heap)
 (d:bw I gd 1 v l):
 aC Tryz.prog w0 194 #[v,aI x] I (fun r j=>r= .bool (decide (x∈l))∧ak I j):=by
 refine aC.aK [v,aI x] Tryz.func194 ?_;intro B t;have i:ak I I:=V.refl _ _;replace d:=d.bt;have C:=d.len;refine G.L (fun k=>?_);refine o.aj ?_;refine k (G.L (fun n=>?_));refine o.ax 2 ?_;refine aV BC (DR _ x l w0 _ d.any) ?_;rintro E A ⟨n7,rfl,q,ac⟩;replace i:=i.L ac;refine o.v1 dH ?_;refine o.aj ?_;refine n ?_;refine G.ret (t ?_);exact⟨c3 q.1,i⟩
theorem Dy(c:UInt8)(w0:World)(I:Heap)
 :
 aC Tryz.prog w0 115 #[.int .u8 c.toNat] I (fun r B=>r= .bool (ct c)∧ak I B):=by
 refine aC.aK [.int .u8 c.toNat] Tryz.func115 ?_;intro E k;have j:ak I I:=V.refl _ _;refine G.L (fun C=>?_);refine o.aj ?_;refine C (G.L (fun i=>?_));refine o.W ?_;refine o.v1 dH ?_;refine o.W ?_;refine o.bj (d:=5) rfl (fun g5=>?_) (fun g5=>?_)
 ·
  refine o.bU ?_;refine o.an eH ?_;refine o.ax 2 ?_;refine o.bj (d:=9) rfl (fun g9=>?_) (fun g9=>?_)
  ·
   refine o.ax 3 ?_;refine gv ?_;refine gv ?_;refine o.ax 6 ?_;refine gv ?_;refine gv ?_;refine o.aR 19 ?_;refine i ?_;refine G.ret (k ?_);exact⟨by first|exact dg (by omega)|exact et (by omega)|(rw[ct];exact c3 (by omega)),j⟩
  ·
   refine o.bU ?_;refine o.an dH ?_;refine o.bU ?_;refine o.bj (d:=12) rfl (fun x=>?_) (fun x=>?_)
   ·
    refine o.bU ?_;refine o.an eH ?_;refine o.an eh ?_;refine o.ax 2 ?_;refine o.bj (d:=17) rfl (fun A=>?_) (fun A=>?_)
    ·
     refine o.ax 3 ?_;refine gv ?_;refine gv ?_;refine o.aR 19 ?_;refine i ?_;refine G.ret (k ?_);exact⟨by first|exact dg (by omega)|exact et (by omega)|(rw[ct];exact c3 (by omega)),j⟩
    ·
     refine o.bU ?_;refine o.an dH ?_;refine o.bU ?_;refine o.bj (d:=20) rfl (fun q=>?_) (fun q=>?_)
     ·
      refine o.bU ?_;refine o.an eH ?_;refine o.an eh ?_;refine o.ax 2 ?_;refine o.bj (d:=25) rfl (fun t=>?_) (fun t=>?_)
      ·
       refine o.aR 16 ?_;refine i ?_;refine G.ret (k ?_);exact⟨by first|exact dg (by omega)|exact et (by omega)|(rw[ct];exact c3 (by omega)),j⟩
      ·
       refine o.bU ?_;refine o.an b9 ?_;refine o.ax 2 ?_;refine o.bj (d:=29) rfl (fun n=>?_) (fun n=>?_)
       ·
        refine o.aR 12 ?_;refine i ?_;refine G.ret (k ?_);exact⟨by first|exact dg (by omega)|exact et (by omega)|(rw[ct];exact c3 (by omega)),j⟩
       ·
        refine o.bU ?_;refine o.an b9 ?_;refine o.ax 2 ?_;refine o.bj (d:=33) rfl (fun ac=>?_) (fun ac=>?_)
        ·
         refine o.aR 8 ?_;refine i ?_;refine G.ret (k ?_);exact⟨by first|exact dg (by omega)|exact et (by omega)|(rw[ct];exact c3 (by omega)),j⟩
        ·
         refine o.bU ?_;refine o.an b9 ?_;refine o.ax 2 ?_;refine o.bj (d:=37) rfl (fun ad=>?_) (fun ad=>?_)
         ·
          refine o.aR 4 ?_;refine i ?_;refine G.ret (k ?_);exact⟨by first|exact dg (by omega)|exact et (by omega)|(rw[ct];exact c3 (by omega)),j⟩
         ·
          refine o.bU ?_;refine o.an b9 ?_;refine o.aR 2 ?_;refine i ?_;refine G.ret (k ?_);exact⟨by first|exact dg (by omega)|exact et (by omega)|(rw[ct];exact c3 (by omega)),j⟩
     ·
      refine o.ax 2 ?_;refine o.an dI ?_;refine o.ax 3 ?_;refine o.an b9 ?_;refine o.ax 2 ?_;refine o.bj (d:=29) rfl (fun n=>?_) (fun n=>?_)
      ·
       refine o.aR 12 ?_;refine i ?_;refine G.ret (k ?_);exact⟨by first|exact dg (by omega)|exact et (by omega)|(rw[ct];exact c3 (by omega)),j⟩
      ·
       refine o.bU ?_;refine o.an b9 ?_;refine o.ax 2 ?_;refine o.bj (d:=33) rfl (fun ac=>?_) (fun ac=>?_)
       ·
        refine o.aR 8 ?_;refine i ?_;refine G.ret (k ?_);exact⟨by first|exact dg (by omega)|exact et (by omega)|(rw[ct];exact c3 (by omega)),j⟩
       ·
        refine o.bU ?_;refine o.an b9 ?_;refine o.ax 2 ?_;refine o.bj (d:=37) rfl (fun ad=>?_) (fun ad=>?_)
        ·
         refine o.aR 4 ?_;refine i ?_;refine G.ret (k ?_);exact⟨by first|exact dg (by omega)|exact et (by omega)|(rw[ct];exact c3 (by omega)),j⟩
        ·
         refine o.bU ?_;refine o.an b9 ?_;refine o.aR 2 ?_;refine i ?_;refine G.ret (k ?_);exact⟨by first|exact dg (by omega)|exact et (by omega)|(rw[ct];exact c3 (by omega)),j⟩
   ·
    refine o.ax 2 ?_;refine o.an dI ?_;refine o.ax 3 ?_;refine o.an dH ?_;refine o.bU ?_;refine o.bj (d:=20) rfl (fun q=>?_) (fun q=>?_)
    ·
     refine o.bU ?_;refine o.an eH ?_;refine o.an eh ?_;refine o.ax 2 ?_;refine o.bj (d:=25) rfl (fun t=>?_) (fun t=>?_)
     ·
      refine o.aR 16 ?_;refine i ?_;refine G.ret (k ?_);exact⟨by first|exact dg (by omega)|exact et (by omega)|(rw[ct];exact c3 (by omega)),j⟩
     ·
      refine o.bU ?_;refine o.an b9 ?_;refine o.ax 2 ?_;refine o.bj (d:=29) rfl (fun n=>?_) (fun n=>?_)
      ·
       refine o.aR 12 ?_;refine i ?_;refine G.ret (k ?_);exact⟨by first|exact dg (by omega)|exact et (by omega)|(rw[ct];exact c3 (by omega)),j⟩
      ·
       refine o.bU ?_;refine o.an b9 ?_;refine o.ax 2 ?_;refine o.bj (d:=33) rfl (fun ac=>?_) (fun ac=>?_)
       ·
        refine o.aR 8 ?_;refine i ?_;refine G.ret (k ?_);exact⟨by first|exact dg (by omega)|exact et (by omega)|(rw[ct];exact c3 (by omega)),j⟩
       ·
        refine o.bU ?_;refine o.an b9 ?_;refine o.ax 2 ?_;refine o.bj (d:=37) rfl (fun ad=>?_) (fun ad=>?_)
        ·
         refine o.aR 4 ?_;refine i ?_;refine G.ret (k ?_);exact⟨by first|exact dg (by omega)|exact et (by omega)|(rw[ct];exact c3 (by omega)),j⟩
        ·
         refine o.bU ?_;refine o.an b9 ?_;refine o.aR 2 ?_;refine i ?_;refine G.ret (k ?_);exact⟨by first|exact dg (by omega)|exact et (by omega)|(rw[ct];exact c3 (by omega)),j⟩
    ·
     refine o.ax 2 ?_;refine o.an dI ?_;refine o.ax 3 ?_;refine o.an b9 ?_;refine o.ax 2 ?_;refine o.bj (d:=29) rfl (fun n=>?_) (fun n=>?_)
     ·
      refine o.aR 12 ?_;refine i ?_;refine G.ret (k ?_);exact⟨by first|exact dg (by omega)|exact et (by omega)|(rw[ct];exact c3 (by omega)),j⟩
     ·
      refine o.bU ?_;refine o.an b9 ?_;refine o.ax 2 ?_;refine o.bj (d:=33) rfl (fun ac=>?_) (fun ac=>?_)
      ·
       refine o.aR 8 ?_;refine i ?_;refine G.ret (k ?_);exact⟨by first|exact dg (by omega)|exact et (by omega)|(rw[ct];exact c3 (by omega)),j⟩
      ·
       refine o.bU ?_;refine o.an b9 ?_;refine o.ax 2 ?_;refine o.bj (d:=37) rfl (fun ad=>?_) (fun ad=>?_)
       ·
        refine o.aR 4 ?_;refine i ?_;refine G.ret (k ?_);exact⟨by first|exact dg (by omega)|exact et (by omega)|(rw[ct];exact c3 (by omega)),j⟩
       ·
        refine o.bU ?_;refine o.an b9 ?_;refine o.aR 2 ?_;refine i ?_;refine G.ret (k ?_);exact⟨by first|exact dg (by omega)|exact et (by omega)|(rw[ct];exact c3 (by omega)),j⟩
 ·
  refine o.ax 5 ?_;refine o.an dH ?_;refine o.bU ?_;refine o.bj (d:=12) rfl (fun x=>?_) (fun x=>?_)
  ·
   refine o.bU ?_;refine o.an eH ?_;refine o.an eh ?_;refine o.ax 2 ?_;refine o.bj (d:=17) rfl (fun A=>?_) (fun A=>?_)
   ·
    refine o.ax 3 ?_;refine gv ?_;refine gv ?_;refine o.aR 19 ?_;refine i ?_;refine G.ret (k ?_);exact⟨by first|exact dg (by omega)|exact et (by omega)|(rw[ct];exact c3 (by omega)),j⟩
   ·
    refine o.bU ?_;refine o.an dH ?_;refine o.bU ?_;refine o.bj (d:=20) rfl (fun q=>?_) (fun q=>?_)
    ·
     refine o.bU ?_;refine o.an eH ?_;refine o.an eh ?_;refine o.ax 2 ?_;refine o.bj (d:=25) rfl (fun t=>?_) (fun t=>?_)
     ·
      refine o.aR 16 ?_;refine i ?_;refine G.ret (k ?_);exact⟨by first|exact dg (by omega)|exact et (by omega)|(rw[ct];exact c3 (by omega)),j⟩
     ·
      refine o.bU ?_;refine o.an b9 ?_;refine o.ax 2 ?_;refine o.bj (d:=29) rfl (fun n=>?_) (fun n=>?_)
      ·
       refine o.aR 12 ?_;refine i ?_;refine G.ret (k ?_);exact⟨by first|exact dg (by omega)|exact et (by omega)|(rw[ct];exact c3 (by omega)),j⟩
      ·
       refine o.bU ?_;refine o.an b9 ?_;refine o.ax 2 ?_;refine o.bj (d:=33) rfl (fun ac=>?_) (fun ac=>?_)
       ·
        refine o.aR 8 ?_;refine i ?_;refine G.ret (k ?_);exact⟨by first|exact dg (by omega)|exact et (by omega)|(rw[ct];exact c3 (by omega)),j⟩
       ·
        refine o.bU ?_;refine o.an b9 ?_;refine o.ax 2 ?_;refine o.bj (d:=37) rfl (fun ad=>?_) (fun ad=>?_)
        ·
         refine o.aR 4 ?_;refine i ?_;refine G.ret (k ?_);exact⟨by first|exact dg (by omega)|exact et (by omega)|(rw[ct];exact c3 (by omega)),j⟩
        ·
         refine o.bU ?_;refine o.an b9 ?_;refine o.aR 2 ?_;refine i ?_;refine G.ret (k ?_);exact⟨by first|exact dg (by omega)|exact et (by omega)|(rw[ct];exact c3 (by omega)),j⟩
    ·
     refine o.ax 2 ?_;refine o.an dI ?_;refine o.ax 3 ?_;refine o.an b9 ?_;refine o.ax 2 ?_;refine o.bj (d:=29) rfl (fun n=>?_) (fun n=>?_)
     ·
      refine o.aR 12 ?_;refine i ?_;refine G.ret (k ?_);exact⟨by first|exact dg (by omega)|exact et (by omega)|(rw[ct];exact c3 (by omega)),j⟩
     ·
      refine o.bU ?_;refine o.an b9 ?_;refine o.ax 2 ?_;refine o.bj (d:=33) rfl (fun ac=>?_) (fun ac=>?_)
      ·
       refine o.aR 8 ?_;refine i ?_;refine G.ret (k ?_);exact⟨by first|exact dg (by omega)|exact et (by omega)|(rw[ct];exact c3 (by omega)),j⟩
      ·
       refine o.bU ?_;refine o.an b9 ?_;refine o.ax 2 ?_;refine o.bj (d:=37) rfl (fun ad=>?_) (fun ad=>?_)
       ·
        refine o.aR 4 ?_;refine i ?_;refine G.ret (k ?_);exact⟨by first|exact dg (by omega)|exact et (by omega)|(rw[ct];exact c3 (by omega)),j⟩
       ·
        refine o.bU ?_;refine o.an b9 ?_;refine o.aR 2 ?_;refine i ?_;refine G.ret (k ?_);exact⟨by first|exact dg (by omega)|exact et (by omega)|(rw[ct];exact c3 (by omega)),j⟩
  ·
   refine o.ax 2 ?_;refine o.an dI ?_;refine o.ax 3 ?_;refine o.an dH ?_;refine o.bU ?_;refine o.bj (d:=20) rfl (fun q=>?_) (fun q=>?_)
   ·
    refine o.bU ?_;refine o.an eH ?_;refine o.an eh ?_;refine o.ax 2 ?_;refine o.bj (d:=25) rfl (fun t=>?_) (fun t=>?_)
    ·
     refine o.aR 16 ?_;refine i ?_;refine G.ret (k ?_);exact⟨by first|exact dg (by omega)|exact et (by omega)|(rw[ct];exact c3 (by omega)),j⟩
    ·
     refine o.bU ?_;refine o.an b9 ?_;refine o.ax 2 ?_;refine o.bj (d:=29) rfl (fun n=>?_) (fun n=>?_)
     ·
      refine o.aR 12 ?_;refine i ?_;refine G.ret (k ?_);exact⟨by first|exact dg (by omega)|exact et (by omega)|(rw[ct];exact c3 (by omega)),j⟩
     ·
      refine o.bU ?_;refine o.an b9 ?_;refine o.ax 2 ?_;refine o.bj (d:=33) rfl (fun ac=>?_) (fun ac=>?_)
      ·
       refine o.aR 8 ?_;refine i ?_;refine G.ret (k ?_);exact⟨by first|exact dg (by omega)|exact et (by omega)|(rw[ct];exact c3 (by omega)),j⟩
      ·
       refine o.bU ?_;refine o.an b9 ?_;refine o.ax 2 ?_;refine o.bj (d:=37) rfl (fun ad=>?_) (fun ad=>?_)
       ·
        refine o.aR 4 ?_;refine i ?_;refine G.ret (k ?_);exact⟨by first|exact dg (by omega)|exact et (by omega)|(rw[ct];exact c3 (by omega)),j⟩
       ·
        refine o.bU ?_;refine o.an b9 ?_;refine o.aR 2 ?_;refine i ?_;refine G.ret (k ?_);exact⟨by first|exact dg (by omega)|exact et (by omega)|(rw[ct];exact c3 (by omega)),j⟩
   ·
    refine o.ax 2 ?_;refine o.an dI ?_;refine o.ax 3 ?_;refine o.an b9 ?_;refine o.ax 2 ?_;refine o.bj (d:=29) rfl (fun n=>?_) (fun n=>?_)
    ·
     refine o.aR 12 ?_;refine i ?_;refine G.ret (k ?_);exact⟨by first|exact dg (by omega)|exact et (by omega)|(rw[ct];exact c3 (by omega)),j⟩
    ·
     refine o.bU ?_;refine o.an b9 ?_;refine o.ax 2 ?_;refine o.bj (d:=33) rfl (fun ac=>?_) (fun ac=>?_)
     ·
      refine o.aR 8 ?_;refine i ?_;refine G.ret (k ?_);exact⟨by first|exact dg (by omega)|exact et (by omega)|(rw[ct];exact c3 (by omega)),j⟩
     ·
      refine o.bU ?_;refine o.an b9 ?_;refine o.ax 2 ?_;refine o.bj (d:=37) rfl (fun ad=>?_) (fun ad=>?_)
      ·
       refine o.aR 4 ?_;refine i ?_;refine G.ret (k ?_);exact⟨by first|exact dg (by omega)|exact et (by omega)|(rw[ct];exact c3 (by omega)),j⟩
      ·
       refine o.bU ?_;refine o.an b9 ?_;refine o.aR 2 ?_;refine i ?_;refine G.ret (k ?_);exact⟨by first|exact dg (by omega)|exact et (by omega)|(rw[ct];exact c3 (by omega)),j⟩
theorem uI(s up:List UInt8)(w0:World)(I:Heap)
 :
 aC Tryz.prog w0 188 #[aI s,aI up] I (fun r q=>r= .bool ((up++[47]).isPrefixOf s)∧ak I q):=by
 refine aC.aK [aI s,aI up] Tryz.func188 ?_;intro t n;have k:ak I I:=V.refl _ _;refine G.L (fun ac=>?_);refine o.aj ?_;refine ac (G.L (fun i=>?_));refine o.W ?_;refine o.v1 (fy dN) ?_;refine o.W ?_;refine o.v1 (fy dN) ?_;refine o.v1 eT ?_;refine o.W ?_;refine o.bj (d:=10) rfl (fun ad=>?_) (fun ad=>?_)
 ·
  refine o.ax 2 ?_;refine o.an (fy dN) ?_;refine o.an (Y.yU (0) (up.length) rfl dN rfl (.inl ⟨rfl,rfl⟩) (.inr ⟨_,_,_,rfl,rfl,by first|rfl|omega⟩) (by omega) (by omega)) ?_;refine o.bU ?_;refine o.an (Y.jB rfl rfl rfl) ?_;refine o.ax 2 ?_;refine o.bj (d:=18) rfl (fun j=>?_) (fun j=>?_)
  ·
   refine o.ax 2 ?_;refine o.an (fy dN) ?_;refine o.an (jo (up.length) dN) ?_;refine o.an b9 ?_;refine o.aR 2 ?_;refine i ?_;refine G.ret (n ?_);exact⟨Av (by omega) (by simpa using j),k⟩
  ·
   refine o.aR 7 ?_;refine i ?_;refine G.ret (n ?_);exact⟨uH (fun h=>j (by simpa using h.2)),k⟩
 ·
  refine o.aR 15 ?_;refine i ?_;refine G.ret (n ?_);exact⟨uH (fun h=>by omega),k⟩
theorem qS(s:List UInt8)(w0:World)(I:Heap)
 (ao:s.length≤9223372036854775807):
 aC Tryz.prog w0 40 #[aI s] I (fun r aY=>r= .int .i64 (c8 s)∧ak I aY):=by
 refine aC.aK [aI s] Tryz.func40 ?_;intro bC q;have k:ak I I:=V.refl _ _;refine G.L (fun bT=>?_);refine o.aj ?_;refine bT (G.t2 (fun be aO=>G.L (fun aQ=>?_)));refine o.W ?_;refine o.v1 (fy dN) ?_;refine o.v1 bG ?_;refine o.W ?_;refine o.bj (d:=9) rfl (fun g9=>?_) (fun g9=>?_)
 ·
  refine o.ax 4 ?_;refine o.nil (aQ ?_);refine G.ix rfl ?_;refine G.L (fun bY=>?_);refine o.aj ?_;refine bY ?_;refine G.ret (aO (q ?_));exact⟨by rw[Cu (by omega)],k⟩
 ·
  refine o.bU ?_;refine o.an (fy dN) ?_;refine o.an eT ?_;refine o.dF ?_;refine o.nil (aQ ?_);refine aT (fun bl=>?_) (fun bl=>?_)
  ·
   refine G.L (fun bm=>?_);refine o.aj ?_;refine bm ?_;refine G.ret (aO (q ?_));exact⟨by rw[Ct (by omega)],k⟩
  ·
   refine G.skip (be (G.t2 (fun bi A=>G.L (fun bn=>?_))));refine o.aj ?_;refine bn (G.aB (fun _ aB B=>?_))
   refine G.bd (fun(i:(Nat))=>[(0,aI s),(3,.int .i64 i)])
    (fun(i:(Nat)) (H:Heap)=>(i≤s.length)∧(∀j,j<i→nU s j)∧ak I H)
    (fun(i:(Nat))=>s.length-i) 0 ⟨rfl,rfl,trivial⟩ ?_ ?_
   ·
    exact⟨(by omega),(fun j h=>by omega),V.refl _ _⟩
   intro i aa bo bA bp t;obtain⟨bQ,aW,n⟩:=bo;replace k:=k.L n;have bv:=n.size;refine G.t2 (fun a7 a8=>G.L (fun a_=>?_));refine o.ax 2 ?_;refine o.v1 (fy dN) ?_;refine o.v1 bG (o.nil (a_ ?_));refine aT (fun bq=>?_) (fun bq=>?_)
   ·
    have x:i<s.length:=by omega
    have ex:s.getD i 0=s[i]:=iz x;refine G.skip (a7 (G.t2 (fun ba au=>G.aB (fun a0 _ am=>?_))))
    refine G.cut (fun(fb:(Bool))=>[(0,aI s),(3,.int .i64 i),(4,.bool fb)])
     (fun(fb:(Bool)) (H:Heap)=>(fb=true↔oO s i)∧ak aa H) (fun _ aL _=>?_) ?_
    ·
     have aH:ak aa aa:=V.refl _ _;refine G.region ?_;refine o.W ?_;refine o.v1 b9 ?_;refine o.W ?_;refine o.bj (d:=22) rfl (fun bs=>?_) (fun bs=>?_)
     ·
      refine o.aR 7 ?_;refine aP.sub (aL true _ ?_) ⟨rfl,(aD (by omega)),rfl,trivial⟩;exact⟨⟨fun _=> .inl (by omega),fun _=>rfl⟩,aH⟩
     ·
      refine o.ax 2 ?_;refine o.an (Y.cast (v2:= .int .i64 ((i-1:Nat):Int)) fE (fJ (by omega))) ?_;refine o.an (jo (i-1) dN) ?_;refine o.an b9 ?_;refine o.aR 2 ?_;refine aP.sub (aL (decide (((s[i-1]'(by omega)).toNat:Int)=47)) _ ?_) ⟨rfl,(aD (by omega)),rfl,trivial⟩;exact⟨⟨fun h=> .inr (by rw[iz (by omega)];have:=of_decide_eq_true h;omega),fun h=>decide_eq_true (by rcases h with h|h;omega;rw[iz (by omega)]at h;omega)⟩,aH⟩
    ·
     intro fb an bh;obtain⟨aF,af⟩:=bh;replace k:=k.L af;replace n:=n.L af;have bN:=af.size
     refine G.cut (fun(aX:(Bool))=>[(0,aI s),(3,.int .i64 i),(4,.bool fb),(5,.bool aX)])
      (fun(aX:(Bool)) (H:Heap)=>(aX=true↔qy s i)∧ak an H) (fun _ aM _=>?_) ?_
     ·
      have aJ:ak an an:=V.refl _ _;refine G.region ?_;refine o.ax 2 ?_;refine o.v1 (fy dN) ?_;refine o.v1 (Y.cast (v2:= .int .i64 ((s.length-1:Nat):Int)) fE (fJ (by omega))) ?_;refine o.v1 b9 ?_;refine o.W ?_;refine o.bj (d:=34) rfl (fun bt=>?_) (fun bt=>?_)
      ·
       refine o.aR 7 ?_;refine aP.sub (aM true _ ?_) ⟨rfl,(aD (by omega)),rfl,rfl,trivial⟩;exact⟨⟨fun _=> .inl (by omega),fun _=>rfl⟩,aJ⟩
      ·
       refine o.ax 2 ?_;refine o.an (Y.cast (v2:= .int .i64 ((i+1:Nat):Int)) bD (fJ (by omega))) ?_;refine o.an (jo (i+1) dN) ?_;refine o.an b9 ?_;refine o.aR 2 ?_;refine aP.sub (aM (decide (((s[i+1]'(by omega)).toNat:Int)=47)) _ ?_) ⟨rfl,(aD (by omega)),rfl,rfl,trivial⟩;exact⟨⟨fun h=> .inr (by rw[iz (by omega)];have:=of_decide_eq_true h;omega),fun h=>decide_eq_true (by rcases h with h|h;omega;rw[iz (by omega)]at h;omega)⟩,aJ⟩
     ·
      intro aX b2 bj;obtain⟨aS,ag⟩:=bj;replace k:=k.L ag;replace n:=n.L ag;have bO:=ag.size;refine G.aB (fun a2 _ E=>G.L (fun a3=>?_));refine o.ax 2 ?_;refine o.v1 (jo (i) dN) ?_;refine aV AT (Dy s[i] w0 _) (fun bP a4 bu=>?_);obtain⟨rfl,T⟩:=bu;replace k:=k.L T;replace n:=n.L T;have bF:=T.size;refine o.v1 eI ?_;refine o.aj ?_;refine a3 ?_;refine cI (fun F=>?_) (fun F=>?_)
      ·
       refine G.L (fun a5=>?_);refine o.aj ?_;refine a5 ?_;refine G.ret (E (am (au (t (B (A (q ?_)))))));exact⟨by rw[pb x (fun h=>by have:=h.1;rw[ex]at this;rw[this]at F;cases F)],k⟩
      ·
       refine G.cut (fun(P:(Bool))=>[(0,aI s),(3,.int .i64 i),(4,.bool fb),(5,.bool aX),(47,.bool P)])
        (fun(P:(Bool)) (H:Heap)=>(P=true↔((s.getD i 0).toNat=47∧(fb=true∨i+1=s.length)))∧ak a4 H) (fun _ W _=>?_) ?_
       ·
        have ap:ak a4 a4:=V.refl _ _;refine G.region ?_;refine o.ax 2 ?_;refine o.v1 (jo (i) dN) ?_;refine o.v1 b9 ?_;refine o.W ?_;refine o.bj (d:=52) rfl (fun br=>?_) (fun br=>?_)
        ·
         refine o.ax 2 ?_;refine o.split (d:=54) rfl (fun K=>?_) (fun K=>?_)
         ·
          refine o.ax 5 ?_;refine o.an eh ?_;refine o.aR 2 ?_;refine aP.sub (W true _ ?_) ⟨rfl,(aD (by omega)),rfl,rfl,rfl,trivial⟩;exact⟨⟨fun _=>⟨by rw[ex];omega,.inl K⟩,fun _=>rfl⟩,ap⟩
         ·
          refine o.ax 2 ?_;refine o.an (fy dN) ?_;refine o.an (Y.cast (v2:= .int .i64 ((s.length-1:Nat):Int)) fE (fJ (by omega))) ?_;refine o.an b9 ?_;refine o.an dI ?_;refine o.aR 2 ?_;refine aP.sub (W (decide ((i:Int)=((s.length-1:Nat):Int))) _ ?_) ⟨rfl,(aD (by omega)),rfl,rfl,rfl,trivial⟩;exact⟨⟨fun h=>⟨by rw[ex];omega,.inr (by have:=of_decide_eq_true h;omega)⟩,fun h=>decide_eq_true (by rcases h.2 with h|h;rw[h]at K;cases K;omega)⟩,ap⟩
        ·
         refine o.ax 2 ?_;refine gv ?_;refine gv ?_;refine gv ?_;refine gv ?_;refine gv ?_;refine o.aR 3 ?_;refine aP.sub (W false _ ?_) ⟨rfl,(aD (by omega)),rfl,rfl,rfl,trivial⟩;exact⟨⟨fun h=>(by cases h),fun h=>by have:=h.1;rw[ex]at this;omega⟩,ap⟩
       ·
        intro P ah bc;obtain⟨az,ab⟩:=bc;replace k:=k.L ab;replace n:=n.L ab;have bH:=ab.size;refine cI (fun L=>?_) (fun L=>?_)
        ·
         refine G.L (fun aZ=>?_);refine o.aj ?_;refine aZ ?_;refine G.ret (E (am (au (t (B (A (q ?_)))))));exact⟨by rw[pb x (fun h=>h.2.1 ⟨(az.1 L).1,(az.1 L).2.imp aF.1 id⟩)],k⟩
        ·
         refine G.cut (fun(Q:(Bool))=>[(0,aI s),(3,.int .i64 i),(5,.bool aX),(62,.bool Q)])
          (fun(Q:(Bool)) (H:Heap)=>(Q=true↔(fb=true∧((s.getD i 0).toNat=46∨(s.getD i 0).toNat=45)))∧ak ah H) (fun _ X _=>?_) ?_
         ·
          have aq:ak ah ah:=V.refl _ _;refine G.region ?_;refine o.ax 2 ?_;refine o.split (d:=64) rfl (fun C=>?_) (fun C=>?_)
          ·
           refine o.ax 2 ?_;refine o.an (jo (i) dN) ?_;refine o.an b9 ?_;refine o.bU ?_;refine o.bj (d:=69) rfl (fun bw=>?_) (fun bw=>?_)
           ·
            refine o.ax 4 ?_;refine o.an eh ?_;refine o.aR 2 ?_;refine aP.sub (X true _ ?_) ⟨rfl,(aD (by omega)),rfl,rfl,trivial⟩;exact⟨⟨fun _=>⟨C,.inl (by rw[ex];omega)⟩,fun _=>rfl⟩,aq⟩
           ·
            refine o.ax 2 ?_;refine o.an (jo (i) dN) ?_;refine o.an b9 ?_;refine o.an dI ?_;refine o.aR 2 ?_;refine aP.sub (X (decide ((s[i].toNat:Int)=45)) _ ?_) ⟨rfl,(aD (by omega)),rfl,rfl,trivial⟩;exact⟨⟨fun h=>⟨C,.inr (by rw[ex];have:=of_decide_eq_true h;omega)⟩,fun h=>decide_eq_true (by have:=h.2;rw[ex]at this;omega)⟩,aq⟩
          ·
           refine o.ax 5 ?_;refine gv ?_;refine gv ?_;refine gv ?_;refine gv ?_;refine o.aR 3 ?_;refine aP.sub (X false _ ?_) ⟨rfl,(aD (by omega)),rfl,rfl,trivial⟩;exact⟨⟨fun h=>(by cases h),fun h=>by rw[h.1]at C;cases C⟩,aq⟩
         ·
          intro Q ai bd;obtain⟨aA,ac⟩:=bd;replace k:=k.L ac;replace n:=n.L ac;have bJ:=ac.size;refine cI (fun M=>?_) (fun M=>?_)
          ·
           refine G.L (fun a1=>?_);refine o.aj ?_;refine a1 ?_;refine G.ret (E (am (au (t (B (A (q ?_)))))));exact⟨by rw[pb x (fun h=>h.2.2.1 ⟨aF.1 (aA.1 M).1,(aA.1 M).2⟩)],k⟩
          ·
           refine G.cut (fun(R:(Bool))=>[(0,aI s),(3,.int .i64 i),(76,.bool R)])
            (fun(R:(Bool)) (H:Heap)=>(R=true↔(aX=true∧(s.getD i 0).toNat=46))∧ak ai H) (fun _ aN _=>?_) ?_
           ·
            have aK:ak ai ai:=V.refl _ _;refine G.region ?_;refine o.ax 2 ?_;refine o.split (d:=78) rfl (fun N=>?_) (fun N=>?_)
            ·
             refine o.ax 2 ?_;refine o.an (jo (i) dN) ?_;refine o.an b9 ?_;refine o.aR 2 ?_;refine aP.sub (aN (decide ((s[i].toNat:Int)=46)) _ ?_) ⟨rfl,(aD (by omega)),rfl,trivial⟩;exact⟨⟨fun h=>⟨N,by rw[ex];have:=of_decide_eq_true h;omega⟩,fun h=>decide_eq_true (by have:=h.2;rw[ex]at this;omega)⟩,aK⟩
            ·
             refine o.aR 6 ?_;refine aP.sub (aN false _ ?_) ⟨rfl,(aD (by omega)),rfl,trivial⟩;exact⟨⟨fun h=>(by cases h),fun h=>by rw[h.1]at N;cases N⟩,aK⟩
           ·
            intro R aj bf;obtain⟨aE,ad⟩:=bf;replace k:=k.L ad;replace n:=n.L ad;have bL:=ad.size;refine cI (fun O=>?_) (fun O=>?_)
            ·
             refine G.L (fun a6=>?_);refine o.aj ?_;refine a6 ?_;refine G.ret (E (am (au (t (B (A (q ?_)))))));exact⟨by rw[pb x (fun h=>h.2.2.2.1 ⟨aS.1 (aE.1 O).1,(aE.1 O).2⟩)],k⟩
            ·
             refine G.cut (fun(S:(Bool))=>[(0,aI s),(3,.int .i64 i),(84,.bool S)])
              (fun(S:(Bool)) (H:Heap)=>(S=true↔((s.getD i 0).toNat=46∧0<i∧(s.getD (i-1) 0).toNat=46))∧ak aj H) (fun _ Z _=>?_) ?_
             ·
              have ar:ak aj aj:=V.refl _ _;refine G.region ?_;refine o.ax 2 ?_;refine o.v1 (jo (i) dN) ?_;refine o.v1 b9 ?_;refine o.W ?_;refine o.bj (d:=89) rfl (fun bx=>?_) (fun bx=>?_)
              ·
               refine o.bU ?_;refine o.an eT ?_;refine o.ax 2 ?_;refine o.bj (d:=93) rfl (fun bz=>?_) (fun bz=>?_)
               ·
                refine o.ax 2 ?_;refine o.an (Y.cast (v2:= .int .i64 ((i-1:Nat):Int)) fE (fJ (by omega))) ?_;refine o.an (jo (i-1) dN) ?_;refine o.an b9 ?_;refine o.aR 2 ?_;refine aP.sub (Z (decide (((s[i-1]'(by omega)).toNat:Int)=46)) _ ?_) ⟨rfl,(aD (by omega)),rfl,trivial⟩;exact⟨⟨fun h=>⟨by rw[ex];omega,by omega,by rw[iz (by omega)];have:=of_decide_eq_true h;omega⟩,fun h=>decide_eq_true (by have:=h.2.2;rw[iz (by omega)]at this;omega)⟩,ar⟩
               ·
                refine o.aR 7 ?_;refine aP.sub (Z false _ ?_) ⟨rfl,(aD (by omega)),rfl,trivial⟩;exact⟨⟨fun h=>(by cases h),fun h=>by have ay:=h.1;have U:=h.2.1;rw[ex]at ay;omega⟩,ar⟩
              ·
               refine o.aR 11 ?_;refine aP.sub (Z false _ ?_) ⟨rfl,(aD (by omega)),rfl,trivial⟩;exact⟨⟨fun h=>(by cases h),fun h=>by have ay:=h.1;have U:=h.2.1;rw[ex]at ay;omega⟩,ar⟩
             ·
              intro S bE bg;obtain⟨aR,ae⟩:=bg;replace k:=k.L ae;replace n:=n.L ae;have bM:=ae.size;refine cI (fun a9=>?_) (fun a9=>?_)
              ·
               refine G.L (fun bb=>?_);refine o.aj ?_;refine bb ?_;refine G.ret (E (am (au (t (B (A (q ?_)))))));exact⟨by rw[pb x (fun h=>h.2.2.2.2 (aR.1 a9))],k⟩
              ·
               refine G.skip (a2 (a0 (ba (G.region ?_))));refine o.W ?_;refine o.v1 bD ?_;refine o.aj ?_;refine aP.sub (bp (i+1) _ ?_ ?_) ⟨rfl,(aD (by omega)),trivial⟩
               ·exact⟨(by omega),(fun j h=>by rcases Nat.lt_or_ge j i with U|U;exact aW j U;obtain rfl:j=i:=(by omega);exact FA (by rw[ex];simpa using F) aF aS az aA aE aR L M O a9),n⟩
               ·first|omega|(simp only;omega)|(simp;omega)
   ·
    refine G.exit (a8 (t (aB ?_)));refine bi (G.L (fun bk=>?_));refine o.aj ?_;refine bk ?_;refine G.ret (q ?_);exact⟨by rw[F7 (by omega) (by omega) (fun j bR=>aW j (by omega))],k⟩
theorem Ds(s:List UInt8)(v:Value)(l:List (List UInt8))(bk:Int)(w0:World)(I:Heap)
 (aN:dV bk I) (aW:bg (fun b=>b=0) I.size) (k:bw I gd 1 v l) (ao:s.length≤140737488355328) (aX:∀x∈l,x.length≤140737488355328):
 aC Tryz.prog w0 132 #[aI s,v] I (fun r R=>r= .int .i64 (iH s l)∧ak I R):=by
 refine aC.aK [aI s,v] Tryz.func132 ?_;intro aZ t;have i:ak I I:=V.refl _ _;replace k:=k.bt;have bd:=k.len;refine G.L (fun Z=>?_);refine o.aj ?_;refine Z (G.t2 (fun aa ab=>G.L (fun ae=>?_)));refine o.W ?_;refine aV pX (p2 s bk w0 _ aN aW (by omega)) ?_;rintro v9 aY ⟨rfl,F⟩;replace k:=k.M F;replace i:=i.L F;have a_:=F.size;refine o.aj ?_;refine ae (G.L (fun af=>?_));refine o.W ?_;refine o.v1 c1 (o.nil (af ?_));refine aT (fun ag=>?_) (fun ag=>?_)
 ·
  refine G.L (fun ah=>?_);refine o.aR 2 ?_;refine ah ?_;refine G.ret (ab (t ?_));exact⟨by have av:c8 s≠0:=(by omega);have q:base s l=c8 s:=(by rw[base,if_pos av]);rw[iH,q,if_pos av],i⟩
 ·
  refine G.skip (aa (G.t2 (fun ai aj=>G.L (fun an=>?_))));refine o.ax 2 ?_;refine aV Bu (CA _ s l w0 _ k.any) (fun bb aq ay=>?_);obtain⟨rfl,B⟩:=ay;replace k:=k.M B;replace i:=i.L B;have a0:=B.size;refine o.nil (an ?_);refine aT (fun A=>?_) (fun A=>?_)
  ·
   refine G.L (fun az=>?_);refine o.aj ?_;refine az ?_;refine G.ret (aj (t ?_));exact⟨by have q:base s l=8:=(by rw[base,if_neg (by omega),if_pos A]);rw[iH,q,if_pos (by decide)],i⟩
  ·
   refine G.skip (ai (G.t2 (fun aA M=>G.L (fun ap=>?_))));refine o.W ?_;refine o.v1 (ba k jG) ?_;refine o.W (o.nil (ap ?_));refine G.aB (fun _ aJ N=>?_)
   refine G.bd (fun(j:(Nat))=>[(0,aI s),(16,v),(17,.int .i64 l.length),(18,.int .i64 j)])
    (fun(j:(Nat)) (H:Heap)=>(j≤l.length)∧((l.take j).any (i_ s)=false)∧ak aq H)
    (fun(j:(Nat))=>l.length-j) 0 ⟨rfl,rfl,rfl,rfl,trivial⟩ ?_ ?_
   ·
    exact⟨(by omega),rfl,V.refl _ _⟩
   intro j b2 aB a2 aK ac;obtain⟨bc,K,n⟩:=aB;replace k:=k.M n;replace i:=i.L n;have a3:=n.size;refine G.L (fun aL=>?_);refine o.v1 bG (o.nil (aL ?_));refine G.t2 (fun aM aO=>?_);refine aT (fun aE=>?_) (fun aE=>?_)
   ·
    refine G.skip (aM (G.t2 (fun aQ O=>G.aB (fun aR _ P=>G.L (fun aS=>?_)))));have L:j<l.length:=by omega
    have bf:=aX l[j] (List.getElem_mem L);have q:base s l=0:=by rw[base,if_neg (by omega),if_neg A]
    refine o.bR (Y.bJ k (j) rfl jG bO rfl rfl) fun a8 S=>?_;refine o.v1 (ar S.N bL) ?_;refine o.aj ?_;refine aS (G.L (fun Q=>?_));refine o.ax 2 ?_;refine o.v1 (Y.qZ rfl rfl rfl (by simp;omega)) ?_;refine aV vd (wK l[j] (s++[47]) w0 _) (fun a4 a5 aF=>?_);obtain⟨rfl,C⟩:=aF;replace i:=i.L C;replace n:=n.L C;have a1:=C.size;refine o.W ?_;refine o.split (d:=26) rfl (fun au=>?_) (fun au=>?_)
    ·
     refine o.ax 5 ?_;refine o.nil (Q ?_);refine G.ix rfl ?_;refine G.L (fun T=>?_);refine o.aj ?_;refine T ?_;refine G.ret (P (O (ac (N (M (t ?_))))));exact⟨by rw[iH,q,if_neg (by decide),if_pos (mD L (by unfold i_;first|(rw[au];rfl)|(rw[am,Bool.or_true])))],i⟩
    ·
     refine o.ax 2 ?_;refine o.an (Y.qZ rfl rfl rfl (by simp;omega)) ?_;refine o.call rfl vd rfl bh rfl rfl (wK s (l[j]++[47]) w0 _) (fun a6 a7 aH=>?_);obtain⟨rfl,E⟩:=aH;replace i:=i.L E;replace n:=n.L E;have a9:=E.size;refine o.dF ?_;refine o.nil (Q ?_);refine cI (fun am=>?_) (fun am=>?_)
     ·
      refine G.L (fun W=>?_);refine o.aj ?_;refine W ?_;refine G.ret (P (O (ac (N (M (t ?_))))));exact⟨by rw[iH,q,if_neg (by decide),if_pos (mD L (by unfold i_;first|(rw[au];rfl)|(rw[am,Bool.or_true])))],i⟩
     ·
      refine G.skip (aR (aQ (G.region ?_)));refine o.v1 bD ?_;refine o.W (o.nil ?_);refine aP.sub (aK (j+1) _ ?_ ?_) ⟨rfl,rfl,(aD (by omega)),(aD (by omega)),trivial⟩
      ·exact⟨(by omega),ou K (by omega) (by unfold i_;rw[Bool.or_eq_false_iff];exact⟨au,am⟩),n⟩
      ·first|omega|(simp only;omega)|(simp;omega)
   ·
    refine G.exit (aO (ac (aJ ?_)));refine aA (G.L (fun X=>?_));refine o.aj ?_;refine X ?_;refine G.ret (t ?_);exact⟨by have q:base s l=0:=(by rw[base,if_neg (by omega),if_neg A]);rw[List.take_of_length_le (by omega)]at K;rw[iH,q,if_neg (by decide),if_neg (by rw[K];decide)],i⟩
theorem Gw(s:List UInt8)(v:Value)(l:List (List UInt8))(w0:World)(I:Heap)
 (n:bw I gd 1 v l) (ao:s.length≤140737488355328) (bs:∀x∈l,x.length≤140737488355328):
 aC Tryz.prog w0 116 #[aI s,v] I (fun r aB=>r= .int .i64 (iH s l)∧ak I aB):=by
 refine aC.aK [aI s,v] Tryz.func116 ?_;intro bc a_;have A:ak I I:=V.refl _ _;replace n:=n.bt;have bq:=n.len;refine G.L (fun aO=>?_);refine o.aj ?_;refine aO (G.L (fun aQ=>?_));refine o.W ?_;refine aV pW (qS s w0 _ (by omega)) ?_;rintro v9 C ⟨rfl,T⟩;replace n:=n.M T;replace A:=A.L T;have bd:=T.size;refine o.aj ?_;refine aQ ?_
 refine G.cut (fun(e:(Int))=>[(0,aI s),(1,v),(5,.int .i64 e)])
  (fun(e:(Int)) (H:Heap)=>(e=base s l)∧ak C H) (fun _ Z _=>?_) ?_
 ·
  have F:ak C C:=V.refl _ _;refine G.L (fun aR=>?_);refine o.aj ?_;refine aR (G.aB (fun _ aa _=>?_))
  refine G.bd (fun(X:(Nat)×(Int))=>match X with|(i,e)=>[(0,aI s),(1,v),(5,.int .i64 e),(6,.int .i64 i)])
   (fun(i,e) (H:Heap)=>(i≤l.length)∧((e=0∧c8 s=0∧s∉l.take i)∨(e=8∧c8 s=0∧s∈l)∨(e=c8 s∧c8 s≠0))∧ak C H)
   (fun(i,e)=>l.length-i) (0,c8 s) ⟨rfl,rfl,rfl,rfl,trivial⟩ ?_ ?_
  ·
   exact⟨(by omega),(by by_cases h:c8 s=0;exact .inl ⟨h,h,fun h=>by simp at h⟩;exact .inr (.inr ⟨rfl,h⟩)),V.refl _ _⟩
  rintro⟨i,e⟩ bf aS bb ab ae;obtain⟨a8,L,B⟩:=aS;replace n:=n.M B;replace F:=F.L B;have a9:=B.size;refine G.t2 (fun aW af=>G.L (fun ag=>?_));refine o.ax 2 ?_;refine o.v1 (ba n jG) ?_;refine o.v1 bG ?_;refine o.W ?_;refine o.bj (d:=14) rfl (fun aX=>?_) (fun aX=>?_)
  ·
   refine o.bU ?_;refine o.an b9 ?_;refine o.N ?_;refine o.nil (ag ?_);refine aT (fun aY=>?_) (fun aY=>?_)
   ·
    refine G.skip (aW (G.t1 (fun ah=>G.aB (fun ap _ _=>G.L (fun aF=>?_)))));refine o.ax 2 ?_;refine o.bR (Y.bJ n (i) rfl jG bO rfl rfl) fun bj aH=>?_;refine o.v1 (ar aH.N bL) ?_;refine o.W ?_;refine o.v1 (Y.jB rfl rfl rfl) (o.nil (aF ?_));refine aT (fun N=>?_) (fun N=>?_)
    ·
     refine G.region ?_;refine o.aj ?_;refine ap (ah (G.region ?_));refine o.W ?_;refine o.v1 bD ?_;refine o.aj ?_;refine aP.sub (ab (i+1,8) _ ?_ ?_) ⟨rfl,rfl,(aD (by omega)),(aD (by omega)),trivial⟩
     ·exact⟨(by omega),(.inr (.inl ⟨rfl,by omega,by rw[←N];exact List.getElem_mem _⟩)),B⟩
     ·first|omega|(simp only;omega)|(simp;omega)
    ·
     refine G.skip (ap (ah (G.region ?_)));refine o.W ?_;refine o.v1 bD ?_;refine o.aj ?_;refine aP.sub (ab (i+1,e) _ ?_ ?_) ⟨rfl,rfl,(aD (by omega)),(aD (by omega)),trivial⟩
     ·exact⟨(by omega),(.inl ⟨by omega,by omega,by rcases L with⟨j,U,k⟩|⟨j,U,k⟩|⟨j,U⟩;exact xg k (by omega) (fun e=>N e.symm);omega;omega⟩),B⟩
     ·first|omega|(simp only;omega)|(simp;omega)
   ·
    refine G.exit (af (ae (aa ?_)));refine aP.sub (Z e _ ?_) ⟨rfl,rfl,(aD (by omega)),trivial⟩;exact⟨(by unfold base;rcases L with⟨j,U,k⟩|⟨j,U,k⟩|⟨j,U⟩;omega;rw[if_neg (by omega),if_pos k];exact j;rw[if_pos U];exact j),F⟩
  ·
   refine o.ax 3 ?_;refine o.nil (ag ?_);refine dB ?_;refine G.exit (af (ae (aa ?_)));refine aP.sub (Z e _ ?_) ⟨rfl,rfl,(aD (by omega)),trivial⟩;exact⟨(by unfold base;rw[List.take_of_length_le (by omega)]at L;rcases L with⟨j,U,k⟩|⟨j,U,k⟩|⟨j,U⟩;rw[if_neg (by omega),if_neg k];exact j;rw[if_neg (by omega),if_pos k];exact j;rw[if_pos U];exact j),F⟩
 ·
  intro e ac a1;obtain⟨he,Q⟩:=a1;replace n:=n.M Q;replace A:=A.L Q;have bk:=Q.size
  refine G.cut (fun(K:(Int))=>[(5,.int .i64 K)])
   (fun(K:(Int)) (H:Heap)=>(K=iH s l)∧ak ac H) (fun _ ai _=>?_) ?_
  ·
   have E:ak ac ac:=V.refl _ _;refine G.L (fun aJ=>?_);refine o.aj ?_;refine aJ (G.aB (fun _ aj _=>?_))
   refine G.bd (fun(X:(Nat)×(Int))=>match X with|(i,t)=>[(0,aI s),(1,v),(5,.int .i64 t),(7,.int .i64 i)])
    (fun(i,t) (H:Heap)=>(i≤l.length)∧((t=0∧base s l=0∧(l.take i).any (i_ s)=false)∨(t=13∧base s l=0∧l.any (i_ s)=true)∨(t=base s l∧base s l≠0))∧ak ac H)
    (fun(i,t)=>l.length-i) (0,e) ⟨rfl,rfl,rfl,rfl,trivial⟩ ?_ ?_
   ·
    exact⟨(by omega),(by by_cases h:base s l=0;exact .inl ⟨by omega,h,rfl⟩;exact .inr (.inr ⟨he,h⟩)),V.refl _ _⟩
   rintro⟨i,t⟩ bl a0 bm R an;obtain⟨a8,M,q⟩:=a0;replace n:=n.M q;replace E:=E.L q;have bn:=q.size;refine G.t2 (fun aK aq=>G.L (fun ay=>?_));refine o.ax 2 ?_;refine o.v1 (ba n jG) ?_;refine o.v1 bG ?_;refine o.W ?_;refine o.bj (d:=30) rfl (fun b2=>?_) (fun b2=>?_)
   ·
    refine o.bU ?_;refine o.an b9 ?_;refine o.N ?_;refine o.nil (ay ?_);refine aT (fun a2=>?_) (fun a2=>?_)
    ·
     refine G.skip (aK (G.t1 (fun S=>G.aB (fun au _ _=>G.L (fun az=>?_)))));refine o.ax 3 ?_;have W:i<l.length:=by omega
     refine o.bR (Y.bJ n (i) rfl jG bO rfl rfl) fun a3 aL=>?_;refine o.v1 (ar aL.N bL) ?_;refine aV vb (uI s l[i] w0 _) (fun bT be a4=>?_);obtain⟨rfl,am⟩:=a4;replace n:=n.M am;replace q:=q.L am;have bY:=am.size;refine o.W ?_;refine o.split (d:=42) rfl (fun O=>?_) (fun O=>?_)
     ·
      refine o.ax 7 ?_;refine o.nil (az ?_);refine G.ix rfl ?_;refine G.region ?_;refine o.aj ?_;refine au (S (G.region ?_));refine o.W ?_;refine o.v1 bD ?_;refine o.aj ?_;refine aP.sub (R (i+1,13) _ ?_ ?_) ⟨rfl,rfl,(aD (by omega)),(aD (by omega)),trivial⟩
      ·exact⟨(by omega),(.inr (.inl ⟨rfl,by omega,mD W (by unfold i_;rw[O,Bool.or_true])⟩)),q⟩
      ·first|omega|(simp only;omega)|(simp;omega)
     ·
      refine o.ax 2 ?_;refine o.e (g:=fun ad=> .pointer (some ad)) (Y.bJ n (i) rfl jG bO rfl rfl) bh rfl rfl (fun a5 aM=>?_);refine o.an (ar aM.N bL) ?_;refine o.bU ?_;refine o.call rfl vb rfl bh rfl rfl (uI l[i] s w0 _) (fun bo bp aE=>?_);obtain⟨rfl,aA⟩:=aE;replace q:=q.L aA;have bi:=aA.size;refine o.dF ?_;refine o.nil (az ?_);refine cI (fun P=>?_) (fun P=>?_)
      ·
       refine G.region ?_;refine o.aj ?_;refine au (S (G.region ?_));refine o.W ?_;refine o.v1 bD ?_;refine o.aj ?_;refine aP.sub (R (i+1,13) _ ?_ ?_) ⟨rfl,rfl,(aD (by omega)),(aD (by omega)),trivial⟩
       ·exact⟨(by omega),(.inr (.inl ⟨rfl,by omega,mD W (by unfold i_;rw[P];rfl)⟩)),q⟩
       ·first|omega|(simp only;omega)|(simp;omega)
      ·
       refine G.skip (au (S (G.region ?_)));refine o.W ?_;refine o.v1 bD ?_;refine o.aj ?_;refine aP.sub (R (i+1,t) _ ?_ ?_) ⟨rfl,rfl,(aD (by omega)),(aD (by omega)),trivial⟩
       ·exact⟨(by omega),(.inl ⟨by omega,by omega,by rcases M with⟨j,U,k⟩|⟨j,U,k⟩|⟨j,U⟩;exact ou k W (by unfold i_;rw[O,P];rfl);omega;omega⟩),q⟩
       ·first|omega|(simp only;omega)|(simp;omega)
    ·
     refine G.exit (aq (an (aj ?_)));refine aP.sub (ai t _ ?_) ⟨(aD (by omega)),trivial⟩;exact⟨(by unfold iH;rcases M with⟨j,U,k⟩|⟨j,U,k⟩|⟨j,U⟩;omega;rw[if_neg (by omega),if_pos k];exact j;rw[if_pos U];exact j),E⟩
   ·
    refine o.ax 3 ?_;refine o.nil (ay ?_);refine dB ?_;refine G.exit (aq (an (aj ?_)));refine aP.sub (ai t _ ?_) ⟨(aD (by omega)),trivial⟩;exact⟨(by unfold iH;rw[List.take_of_length_le (by omega)]at M;rcases M with⟨j,U,k⟩|⟨j,U,k⟩|⟨j,U⟩;rw[if_neg (by omega),if_neg (by rw[k];decide)];exact j;rw[if_neg (by omega),if_pos k];exact j;rw[if_pos U];exact j),E⟩
  ·
   intro K bg a6;obtain⟨a7,aZ⟩:=a6;replace A:=A.L aZ;refine G.L (fun aN=>?_);refine o.aR 2 ?_;refine aN ?_;refine G.ret (a_ ?_);exact⟨by rw[a7],A⟩
end e3

namespace ey
open E Go.RowKit eJ eN eW e3
theorem lZ:∀{k:List UInt8},k.length=32→∃d i E Q T V W X Y Z j n o q r t x A B C F G H I K L M N O P R S:UInt8,k=[d,i,E,Q,T,V,W,X,Y,Z,j,n,o,q,r,t,x,A,B,C,F,G,H,I,K,L,M,N,O,P,R,S]:=by
 intro k h
 match k,h with
 |[d,i,E,Q,T,V,W,X,Y,Z,j,n,o,q,r,t,x,A,B,C,F,G,H,I,K,L,M,N,O,P,R,S],_=>exact⟨d,i,E,Q,T,V,W,X,Y,Z,j,n,o,q,r,t,x,A,B,C,F,G,H,I,K,L,M,N,O,P,R,S,rfl⟩
theorem wT:nc Tryz.prog 26 bs:=D2 Tryz.underlying26 Tryz.underlying5 cL dQ
theorem c0{a b:List Value}(h:a.length=b.length):ec a 0 b=b:=by simp[ec,h]
abbrev cO:aM:=⟨none,0,0⟩
structure fA where
 d:Int
 i:cX
def c4(x:fA):List Value:= .int .i64 x.d::b7 x.i
structure cY where
 k:Int
 br:List UInt8
 bX:cX
 bo:cX
 cM:aM
 a6:List fA
 dn:Int
 md:Int
 st:Bool
def dT(x:cY):List Value:= .int .i64 x.k::aI x.br::(b7 x.bX++(b7 x.bo++[x.cM.v,.int .i64 x.dn,.int .i64 x.md,.bool x.st]))
structure bF where
 n:List UInt8
 J:cX
 w:cX
 y:List UInt8
def dt(x:bF):List Value:=aI x.n::(b7 x.J++(b7 x.w++[aI x.y]))
structure bA where
 k:cX
 v:aM
 d:List UInt8
def bM(x:bA):List Value:=b7 x.k++[x.v.v]
structure cw where
 n:List UInt8
 i:cX
def du(x:cw):List Value:=aI x.n::b7 x.i
structure cA where
 J:cX
 w:cX
 y:List UInt8
def dm(x:cA):List Value:=b7 x.J++(b7 x.w++[aI x.y])
structure e5 where
 n:List UInt8
 v:aM
 l:List cA
def ei(x:e5):List Value:=[aI x.n,x.v.v]
structure b0 where
 bE:Bool
 al:List UInt8
 eL:aM
 ml:List bF
 ao:Bool
 q:cY
 cB:aM
 el:List bA
def df(x:b0):List Value:= .bool x.bE::aI x.al::x.eL.v:: .bool x.ao::(dT x.q++[x.cB.v])
structure c2 where
 al:List UInt8
 ej:aM
 bb:List cw
 cu:aM
 bW:List e5
 q:cY
 cB:aM
 el:List bA
def bS(x:c2):List Value:=aI x.al::x.ej.v::x.cu.v::(dT x.q++[x.cB.v])
theorem hU(x:fA):(c4 x).length=33:=by simp[c4,bB]
theorem ef(x:cY):(dT x).length=70:=by simp[dT,bB]
theorem e0(x:bF):(dt x).length=66:=by simp[dt,bB]
theorem cZ(x:bA):(bM x).length=33:=by simp[bM,bB]
theorem hT(x:cw):(du x).length=33:=by simp[du,bB]
theorem kN(x:cA):(dm x).length=65:=by simp[dm,bB]
theorem fI(x:e5):(ei x).length=2:=rfl
theorem dY(x:b0):(df x).length=75:=by simp[df,ef]
theorem b8(x:c2):(bS x).length=74:=by simp[bS,ef]
abbrev hP(l:List Value):Prop:=∀u∈l,u.oneCell'=true
theorem hP.nil:hP []:=fun u h=>by cases h
theorem hP.cons{v:Value}{l:List Value}(h:v.oneCell'=true)(U:hP l):hP (v::l):=fun u hu=>by
 rcases List.mem_cons.1 hu with rfl|hu
 ·exact h
 ·exact U u hu
theorem hP.app{a b:List Value}(h:hP a)(U:hP b):hP (a++b):=fun u hu=>(List.mem_append.1 hu).elim (h u) (U u)
theorem mM(x:fA):hP (c4 x):= .cons rfl (jT _)
theorem kp(x:cY):hP (dT x):= .cons rfl (.cons rfl (.app (jT _) (.app (jT _) (.cons rfl (.cons rfl (.cons rfl (.cons rfl .nil)))))))
theorem kO(x:bF):hP (dt x):= .cons rfl (.app (jT _) (.app (jT _) (.cons rfl .nil)))
theorem gX(x:bA):hP (bM x):= .app (jT _) (.cons rfl .nil)
theorem ll(x:cw):hP (du x):= .cons rfl (jT _)
theorem nx(x:cA):hP (dm x):= .app (jT _) (.app (jT _) (.cons rfl .nil))
theorem jw(x:e5):hP (ei x):= .cons rfl (.cons rfl .nil)
theorem mN(x:b0):hP (df x):= .cons rfl (.cons rfl (.cons rfl (.cons rfl (.app (kp _) (.cons rfl .nil)))))
theorem iG(x:c2):hP (bS x):= .cons rfl (.cons rfl (.cons rfl (.app (kp _) (.cons rfl .nil))))
abbrev eo(x:cY):Value:= .agg (dT x).toArray
abbrev j3(x:bF):Value:= .agg (dt x).toArray
abbrev gZ(x:bA):Value:= .agg (bM x).toArray
abbrev eg(x:b0):Value:= .agg (df x).toArray
abbrev ed(x:c2):Value:= .agg (bS x).toArray
theorem lo{a b:List Value}{n:Nat}(h:a.length=n):(a++b).take n=a:=List.take_left' h
theorem lj{a b:List Value}{n:Nat}(h:a.length=n):(a++b).drop n=b:=List.drop_left' h
def jb(x:cY):List Value:=[x.cM.v,.int .i64 x.dn,.int .i64 x.md,.bool x.st]
theorem hA(x:cY):((dT x).drop 2).take 32=b7 x.bX:=lo (bB _)
theorem wi(x:cY):(dT x).drop 34=b7 x.bo++jb x:=by
 rw[show(34:Nat)=2+32 from rfl,←List.drop_drop];exact lj (bB _)
theorem hz(x:cY):((dT x).drop 34).take 32=b7 x.bo:=by rw[wi];exact lo (bB _)
theorem wj(x:cY):(dT x).drop 66=jb x:=by
 rw[show(66:Nat)=34+32 from rfl,←List.drop_drop,wi];exact lj (bB _)
theorem gY(x:bF):((dt x).drop 1).take 32=b7 x.J:=lo (bB _)
theorem sb(x:bF):(dt x).drop 33=b7 x.w++[aI x.y]:=by
 rw[show(33:Nat)=1+32 from rfl,←List.drop_drop];exact lj (bB _)
theorem e1(x:bF):((dt x).drop 33).take 32=b7 x.w:=by rw[sb];exact lo (bB _)
theorem Df(x:bF):(dt x).drop 65=[aI x.y]:=by
 rw[show(65:Nat)=33+32 from rfl,←List.drop_drop,sb];exact lj (bB _)
theorem eK(x:bA):((bM x).drop 0).take 32=b7 x.k:=lo (bB _)
theorem De(x:bA):(bM x).drop 32=[x.v.v]:=lj (bB _)
theorem Dc(x:cA):((dm x).drop 0).take 32=b7 x.J:=lo (bB _)
theorem we(x:cA):(dm x).drop 32=b7 x.w++[aI x.y]:=lj (bB _)
theorem Dd(x:cA):((dm x).drop 32).take 32=b7 x.w:=by rw[we];exact lo (bB _)
theorem wg(x:cA):(dm x).drop 64=[aI x.y]:=by
 rw[show(64:Nat)=32+32 from rfl,←List.drop_drop,we];exact lj (bB _)
theorem kP(x:fA):((c4 x).drop 1).take 32=b7 x.i:=List.take_of_length_le (by rw[show(c4 x).drop 1=b7 x.i from rfl,bB];exact Nat.le_refl _)
theorem qc(x:cw):((du x).drop 1).take 32=b7 x.i:=List.take_of_length_le (by rw[show(du x).drop 1=b7 x.i from rfl,bB];exact Nat.le_refl _)
theorem jc(x:b0):((df x).drop 4).take 70=dT x.q:=lo (ef _)
theorem Dg(x:b0):(df x).drop 74=[x.cB.v]:=by
 rw[show(74:Nat)=4+70 from rfl,←List.drop_drop];exact lj (ef _)
theorem jU(x:c2):((bS x).drop 3).take 70=dT x.q:=lo (ef _)
theorem wk(x:c2):(bS x).drop 73=[x.cB.v]:=by
 rw[show(73:Nat)=3+70 from rfl,←List.drop_drop];exact lj (ef _)
section
variable {H : Heap} {ad : Addr}
theorem _root_.Go.Proofs.YtfjmpninmdjcaaaGreatDoor.E.cc.fL{x:cY}(h:cc H ad (dT x)):cc H (ad.add 66) (jb x):=by have:=h.drop 66;rwa[wj]at this
theorem _root_.Go.Proofs.YtfjmpninmdjcaaaGreatDoor.E.cc.ir{x:cY}(h:cc H ad (dT x)):cc H (ad.add 67) [.int .i64 x.dn,.int .i64 x.md,.bool x.st]:=by
 have:=h.fL.drop 1;rwa[show(ad.add 66).add 1=ad.add 67 from by cases ad;rfl]at this
theorem _root_.Go.Proofs.YtfjmpninmdjcaaaGreatDoor.E.cc.jD{x:cY}(h:cc H ad (dT x)):cc H (ad.add 68) [.int .i64 x.md,.bool x.st]:=by
 have:=h.fL.drop 2;rwa[show(ad.add 66).add 2=ad.add 68 from by cases ad;rfl]at this
theorem _root_.Go.Proofs.YtfjmpninmdjcaaaGreatDoor.E.cc.k3{x:cY}(h:cc H ad (dT x)):cc H (ad.add 69) [.bool x.st]:=by
 have:=h.fL.drop 3;rwa[show(ad.add 66).add 3=ad.add 69 from by cases ad;rfl]at this
theorem _root_.Go.Proofs.YtfjmpninmdjcaaaGreatDoor.E.cc.mV{x:bF}(h:cc H ad (dt x)):cc H (ad.add 65) [aI x.y]:=by have:=h.drop 65;rwa[Df]at this
theorem _root_.Go.Proofs.YtfjmpninmdjcaaaGreatDoor.E.cc.ji{x:bA}(h:cc H ad (bM x)):cc H (ad.add 32) [x.v.v]:=by have:=h.drop 32;rwa[De]at this
theorem _root_.Go.Proofs.YtfjmpninmdjcaaaGreatDoor.E.cc.Ep{x:cA}(h:cc H ad (dm x)):cc H (ad.add 64) [aI x.y]:=by have:=h.drop 64;rwa[wg]at this
theorem _root_.Go.Proofs.YtfjmpninmdjcaaaGreatDoor.E.cc.fT{x:b0}(h:cc H ad (df x)):cc H (ad.add 74) [x.cB.v]:=by have:=h.drop 74;rwa[Dg]at this
theorem _root_.Go.Proofs.YtfjmpninmdjcaaaGreatDoor.E.cc.iB{x:c2}(h:cc H ad (bS x)):cc H (ad.add 73) [x.cB.v]:=by have:=h.drop 73;rwa[wk]at this
end
def hN:cY:=⟨0,[],bz,bz,cO,[],0,0,false⟩
def mj:c2:=⟨[],cO,[],cO,[],hN,cO,[]⟩
structure e6 (F:Nat→Prop) (H:Heap) (t:b0):Prop where
 m:Rd F H dt 66 t.eL.v t.ml
 q:Rd F H c4 33 t.q.cM.v t.q.a6
 e:Rd F H bM 33 t.cB.v t.el
 d:∀y∈t.el,Rd F H a1 1 y.v.v y.d
structure e4 (F:Nat→Prop) (H:Heap) (s:c2):Prop where
 r:Rd F H du 33 s.ej.v s.bb
 g:Rd F H ei 2 s.cu.v s.bW
 n:∀y∈s.bW,Rd F H dm 65 y.v.v y.l
 q:Rd F H c4 33 s.q.cM.v s.q.a6
 e:Rd F H bM 33 s.cB.v s.el
 d:∀y∈s.el,Rd F H a1 1 y.v.v y.d
section
variable {F aS : Nat → Prop} {H aa : Heap} {t : b0} {s : c2} {ks : List Nat} {h : Nat}
theorem e6.M(x:e6 F H t)(w:ak H aa):e6 F aa t:=⟨x.m.M w,x.q.M w,x.e.M w,fun y hy=>(x.d y hy).M w⟩
theorem e6.ab(x:e6 F H t)(w:V (aE ks) H aa)(d:az F ks):e6 F aa t:=⟨x.m.ab w d,x.q.ab w d,x.e.ab w d,fun y hy=>(x.d y hy).ab w d⟩
theorem e6.imp(x:e6 F H t)(d:∀b,b<H.size→F b→aS b):e6 aS H t:=⟨x.m.imp d,x.q.imp d,x.e.imp d,fun y hy=>(x.d y hy).imp d⟩
theorem e6.bt(x:e6 F H t):e6 (fun b=>F b∧b<H.size) H t:=x.imp (fun b aw h=>⟨h,aw⟩)
theorem e6.any(x:e6 F H t):e6 (fun _=>True) H t:=x.imp (fun _ _ _=>trivial)
theorem e4.M(x:e4 F H s)(w:ak H aa):e4 F aa s:=⟨x.r.M w,x.g.M w,fun y hy=>(x.n y hy).M w,x.q.M w,x.e.M w,fun y hy=>(x.d y hy).M w⟩
theorem e4.ab(x:e4 F H s)(w:V (aE ks) H aa)(d:az F ks):e4 F aa s:=⟨x.r.ab w d,x.g.ab w d,fun y hy=>(x.n y hy).ab w d,x.q.ab w d,x.e.ab w d,fun y hy=>(x.d y hy).ab w d⟩
theorem e4.imp(x:e4 F H s)(d:∀b,b<H.size→F b→aS b):e4 aS H s:=⟨x.r.imp d,x.g.imp d,fun y hy=>(x.n y hy).imp d,x.q.imp d,x.e.imp d,fun y hy=>(x.d y hy).imp d⟩
theorem e4.bt(x:e4 F H s):e4 (fun b=>F b∧b<H.size) H s:=x.imp (fun b aw h=>⟨h,aw⟩)
theorem e4.bY(x:e4 (fun b=>aS b∧b<h) H s):bg (fun b=>aS b∧b<h) h:=fun b e=>e.2
end
def dj(b:Bool)(e:Int):Int:=if b=true then 0 else e
def hV:List Int→Int
 |[]=>0
 |e::l=>if e≠0 then e else hV l
theorem Dp{l:List Int}{j:Nat}(h:∀x∈l.take j,x=0)(i:j<l.length)(d:l[j]≠0):hV l=l[j]:=by
 induction l generalizing j with
 |nil=>simp at i
 |cons e l ih=>
  cases j with
  |zero=>simp only[List.getElem_cons_zero]at d⊢;rw[hV,if_pos d]
  |succ j=>
   have he:e=0:=h e (by simp);rw[hV,if_neg (by simpa using he)];exact ih (fun x k=>h x (by simp[k])) (by simpa using i) (by simpa using d)
theorem wv:∀{l:List Int},(∀x∈l,x=0)→hV l=0
 |[],_=>rfl
 |e::l,h=>by rw[hV,if_neg (by simpa using h e (by simp)),wv (fun x d=>h x (by simp[d]))]
theorem Ir{l:List Int}{j:Nat}(h:∀x∈l.take j,x=0)(k:j<l.length)(i:l[j]=0):∀x∈l.take (j+1),x=0:=by
 intro x d;rw[List.take_succ_eq_append_getElem k]at d;rcases List.mem_append.1 d with d|d
 ·exact h x d
 ·rw[List.mem_singleton]at d;rw[d];exact i
theorem th(b:Bool)(e:Int)(w0:World)(I:Heap)
 :
 aC Tryz.prog w0 46 #[.bool b,.int .i64 e] I (fun r j=>r= .int .i64 (dj b e)∧ak I j):=by
 refine aC.aK [.bool b,.int .i64 e] Tryz.func46 ?_;intro A i;have d:ak I I:=V.refl _ _;refine G.L (fun k=>?_);refine o.aj ?_;refine k (G.t2 (fun n ac=>G.L (fun ad=>?_)));refine o.W (o.nil (ad ?_));refine cI (fun x=>?_) (fun x=>?_)
 ·
  refine G.L (fun q=>?_);refine o.aj ?_;refine q ?_;refine G.ret (ac (i ?_));exact⟨by first|(rw[dj,if_pos (by assumption)])|(rw[dj,if_neg (by simp_all)]),d⟩
 ·
  refine G.skip (n (G.L (fun t=>?_)));refine o.aR 2 ?_;refine t ?_;refine G.ret (i ?_);exact⟨by first|(rw[dj,if_pos (by assumption)])|(rw[dj,if_neg (by simp_all)]),d⟩
theorem kX(v:Value)(l:List Int)(w0:World)(I:Heap)
 (d:bw I qb 1 v l):
 aC Tryz.prog w0 47 #[v] I (fun r B=>r= .int .i64 (hV l)∧ak I B):=by
 refine aC.aK [v] Tryz.func47 ?_;intro ae A;have n:ak I I:=V.refl _ _;replace d:=d.bt;have aj:=d.len;refine G.L (fun L=>?_);refine o.aj ?_;refine L (G.t2 (fun M N=>G.L (fun au=>?_)));refine o.W ?_;refine o.v1 (ba d zi) ?_;refine o.W (o.nil (au ?_));refine G.aB (fun _ am O=>?_)
 refine G.bd (fun(j:(Nat))=>[(5,v),(6,.int .i64 l.length),(7,.int .i64 j)])
  (fun(j:(Nat)) (H:Heap)=>(j≤l.length)∧(∀x∈l.take j,x=0)∧ak I H)
  (fun(j:(Nat))=>l.length-j) 0 ⟨rfl,rfl,rfl,trivial⟩ ?_ ?_
 ·
  exact⟨(by omega),(fun x h=>by simp at h),V.refl _ _⟩
 intro j af ap ab P t;obtain⟨ai,k,i⟩:=ap;replace d:=d.M i;replace n:=n.L i;have ag:=i.size;refine G.L (fun Q=>?_);refine o.v1 bG (o.nil (Q ?_));refine G.t2 (fun R S=>?_);refine aT (fun aa=>?_) (fun aa=>?_)
 ·
  refine G.skip (R (G.t2 (fun T W=>G.aB (fun X _ Z=>G.L (fun E=>?_)))));refine o.bR (Y.bJ d (j) rfl zi qX rfl rfl) fun ah C=>?_;refine o.v1 (ar C.N pI) ?_;refine o.aj ?_;refine E (G.L (fun ac=>?_));refine o.W ?_;refine o.v1 c1 (o.nil (ac ?_));refine aT (fun q=>?_) (fun q=>?_)
  ·
   refine G.L (fun F=>?_);refine o.aR 2 ?_;refine F ?_;refine G.ret (Z (W (t (O (N (A ?_))))));exact⟨by rw[Dp k (by omega) q],n⟩
  ·
   refine G.skip (X (T (G.region ?_)));refine o.v1 bD ?_;refine o.W (o.nil ?_);refine aP.sub (P (j+1) _ ?_ ?_) ⟨rfl,(aD (by omega)),(aD (by omega)),trivial⟩
   ·exact⟨(by omega),Ir k (by omega) (by simpa using q),i⟩
   ·first|omega|(simp only;omega)|(simp;omega)
 ·
  refine G.exit (S (t (am ?_)));refine M (G.L (fun K=>?_));refine o.aj ?_;refine K ?_;refine G.ret (A ?_);exact⟨by rw[List.take_of_length_le (by omega)]at k;rw[wv k],n⟩
theorem kZ(i:cX)(w0:World)(I:Heap)
 :
 aC Tryz.prog w0 55 #[bs i] I (fun r j=>r= .bool (decide (i=bz))∧ak I j):=by
 refine aC.aK [bs i] Tryz.func55 ?_;intro t q;have d:ak I I:=V.refl _ _;refine G.L (fun k=>?_);refine o.aO cr ?_;rintro v1 H1 ⟨rfl,aw,n,ad,x⟩;replace d:=d.L n;replace aw:Var 26 H1 I.size (b7 i):=aw;refine o.aj ?_;refine k (G.L (fun ac=>?_));refine o.v1 (aW aw.N b_ a_ (bB _)) ?_;refine o.v1 (Y.build (v:=bs bz) rfl rfl (by intro w;kernel_rfl)) ?_;refine o.v1 (Y.h_ rfl Tryz.eqGuardType26 (fun w=>fR 9998 Tryz.underlying26 Tryz.underlying5 cL dQ (i.2) (bz.2) w) rfl rfl) ?_;refine o.aj ?_;refine ac ?_;refine G.ret (q ?_);exact⟨c3 ⟨fun h=>Subtype.ext h,fun h=>by rw[h]⟩,d⟩
end ey

namespace E
section
variable {F : Nat → Prop} {a k a8 h U m : Nat} {K Iv bq oc ks : List Nat}
def ew(K ks:List Nat):Prop:=∀k∈K,ah k ks
def aZ(K:List Nat)(h:Nat)(bq:List Nat):Prop:=∀k∈bq,k=0∨k∈K∨h<k
def n_(K:List Nat)(h:Nat):Prop:=∀k∈K,k≤h
theorem ah.kd:ah 0 K:=fun k _=>af.z2
theorem ah.app(d:ah a K)(e:ah a ks):ah a (K++ks):=fun k i=>(List.mem_append.1 i).elim (d k) (e k)
theorem az.app(d:az F K)(e:az F ks):az F (K++ks):=fun k i=>(List.mem_append.1 i).elim (d k) (e k)
theorem ew.nil:ew K []:=fun k _=>ah.nil
theorem ew.cons(d:ah m K)(e:ew K ks):ew K (m::ks):=fun k i=>ah.cons (d k i).symm (e k i)
theorem ag.app{iJ:List Nat}(d:ag ks h K)(e:ag ks h iJ):ag ks h (K++iJ):=fun k i=>(List.mem_append.1 i).elim (d k) (e k)
theorem ah.hn(b:n_ K h):ah (h+1) K:=fun k d=>(af.new (b k d)).symm
theorem ah.hk(d:ah a K)(n:a≤h)(x:aZ K h bq):ah a bq:=fun k i=>by
 rcases x k i with e|e|e
 ·subst e;exact af.z
 ·exact d k e
 ·intro c j U;omega
theorem az.hk(d:az F K)(aw:bg F h)(x:aZ K h bq):az F bq:=fun k j b i he=>by
 have:=aw b i;rcases x k j with e|e|e
 ·omega
 ·exact d k e b i he
 ·omega
theorem ah.ow(d:ah k K)(b:n_ K h)(x:T k h a8):ah a8 K:=fun j i=>by
 rcases x with e|e|e
 ·subst e;exact af.z2
 ·subst e;exact d j i
 ·have:=b j i;intro c n U;omega
theorem aZ.refl(K:List Nat)(h:Nat):aZ K h K:=fun k d=> .inr (.inl d)
theorem aZ.L(x:aZ K h bq)(y:aZ bq U oc)(bE:h≤U):aZ K h oc:=fun k d=>by
 rcases y k d with e|e|e
 ·exact .inl e
 ·exact x k e
 ·exact .inr (.inr (by omega))
theorem aZ.cons(d:T 0 h a)(x:aZ K h bq):aZ K h (a::bq):=fun k i=>by
 rcases List.mem_cons.1 i with e|e
 ·subst e;unfold T at d;omega
 ·exact x k e
def gK(K:List Nat)(k:Nat):Prop:=∀c,c+1=k→c+1∈K
theorem gK.of(h:k∈K):gK K k:=fun c e=>by rw[e];exact h
theorem gK.or(h:gK K k):k=0∨k∈K:=by
 cases k with
 |zero=>exact .inl rfl
 |succ c=>exact .inr (h c rfl)
theorem ah.at(d:ah a K)(m:gK K k):af a k:=by
 rcases m.or with e|e
 ·subst e;exact af.z
 ·exact d k e
theorem az.at(d:az F K)(m:gK K k):ay F k:=by
 rcases m.or with e|e
 ·subst e;exact ay.z
 ·exact d k e
theorem ag.at(d:ag ks h K)(m:gK K k):aq ks h k:=by
 rcases m.or with e|e
 ·subst e;exact aq.z
 ·exact d k e
theorem aZ.app{kR:Nat}(x:aZ K h bq)(hm:gK bq kR)(y:T kR U a)(bE:h≤U):aZ K h (a::bq):=fun k i=>by
 rcases List.mem_cons.1 i with e|e
 ·subst e
  rcases y with y|y|y
  ·exact .inl y
  ·rcases hm.or with d|d
   ·exact .inl (y.trans d)
   ·rw[y];exact x kR d
  ·exact .inr (.inr (by omega))
 ·exact x k e
theorem ah.qL(b:n_ K h)(x:T 0 h a):ah a K:=fun k d=>by
 have:=b k d;intro c i U;unfold T at x;omega
theorem ag.cF(x:aZ K h bq)(i:∀k∈K,k∈ks):ag ks h bq:=fun k j b aw e=>by
 rcases x k j with d|d|d
 ·omega
 ·unfold aE;rw[e];exact i k d
 ·omega
theorem ag.sZ(x:aZ [] h bq):ag ks h bq:=fun k i b aw e=>by
 rcases x k i with d|d|d
 ·omega
 ·cases d
 ·omega
theorem az.iZ{n:Nat}(i:∀b,F b→n≤b)(j:n_ K n):az F K:=fun k o b d e=>by have:=i b d;have:=j k o;omega
end
section
open Go.MapKept
variable {P : Program} {w0 : World} {n : Nat} {l : bZ} {H : Heap} {J : Oper} {κ β : Type} [DecidableEq κ] {a7 : κ → Value} {fv : β → Value} {b : Nat} {m : List (κ × β)} {d : TypeDesc}
theorem Z.p7{t u e2 T:TypeId}{x i:Operand}{k:κ}(h:de H a7 fv b m)(B:la d a7)(Q:J.op= .call {callee:= .builtin .delete,args:= #[x,i],argTypes:= #[t,u]})(hm:∀w,(underlying t).run P w= .ok (.map e2 T) w)(C:P.underlying e2=some d)
 (R:aF l x=some (.map (some b))) (O:aF l i=some (a7 k)):Z P w0 n l H J (fun r aa=>r= .tuple #[]∧de aa a7 fv b (d_ m k)∧V (fun c=>c=b) H aa):=by
 intro ac w A o;obtain⟨r,es,clock,ag,U,M,E,F⟩:=h.fj.ex;obtain rfl:=U;have q:w.heap[r]?=some (.map es clock):=by rw[o.heap];exact M
 have Y:=(Array.getElem?_eq_some_iff.1 M).1;have N:∀G,(H.setIfInBounds r G)[r]?=some G:=fun G=>by simp[Y]
 rcases qh (k:=k) B es.toList m 0 F with⟨S,I,K⟩|⟨j,L,af,S,I,K,ae,ah⟩
 ·refine⟨_,H.setIfInBounds r (.map es clock),{w with heap:=H.setIfInBounds r (.map es clock)},?_,o.set,rfl,⟨⟨r,_,_,rfl,rfl,N _,E,?_⟩⟩,ku _⟩
  ·simp[execOp,Q,A.eval R,A.eval O,resolve,invoke,builtin,Builtin.delete_,hm,MapKept.run_getObj_map q,MapKept.run_checkKey C (B.key k),MapKept.run_findKey C I,MapKept.run_setObj_map _ q,o.heap]
  ·rw[F]
   congr 1;unfold d_;exact(List.filter_eq_self.2 (fun p ab=>by simpa using xj S p ab)).symm
 ·have W:es[j]?=some L:=by simpa using K
  refine⟨_,H.setIfInBounds r (.map (es.eraseIdxIfInBounds j) clock),{w with heap:=H.setIfInBounds r (.map (es.eraseIdxIfInBounds j) clock)},?_,o.set,rfl,⟨⟨r,_,_,rfl,rfl,N _,stamped_erase E _,?_⟩⟩,ku _⟩
  ·simp[execOp,Q,A.eval R,A.eval O,resolve,invoke,builtin,Builtin.delete_,hm,MapKept.run_getObj_map q,MapKept.run_checkKey C (B.key k),MapKept.run_findKey C I,MapKept.run_setObj_map _ q,o.heap]
  ·have X:j<es.size:=(Array.getElem?_eq_some_iff.1 W).1
   rw[Array.eraseIdxIfInBounds,dif_pos X,Array.toList_eraseIdx];exact wa B.inj es.toList m j L F E.2.2 K ae
end
end E

namespace E
def jM(l d:bZ):Prop:=∀t v,cK l t=some v→cK d t=some v
theorem jM.c{l d:bZ}{s:Nat}{u:Value}(aA:cK l s=none)(h:jM l d):jM l ((s,u)::d):=fun t v e=>by
 simp only[cK]
 cases aw:Nat.beq s t with
 |true=>have:=Nat.eq_of_beq_eq_true aw;subst this;rw[aA]at e;cases e
 |false=>exact h t v e
theorem ae {l d : bZ} {s : Nat} {u : Value} (h : jM l d) (aA : cK l s=none := by exact rfl) : jM l ((s,u)::d) := jM.c aA h
theorem jM.b{l:bZ}{s:Nat}{u v:Value}(av:cK l s=some v)(d:u=v):jM l ((s,u)::l):=fun t w e=>by
 simp only[cK]
 cases aw:Nat.beq s t with
 |true=>have:=Nat.eq_of_beq_eq_true aw;subst this;rw[av]at e;subst d;exact e
 |false=>exact e
theorem bC {l : bZ} {s : Nat} {u v : Value} (d : u=v) (av : cK l s=some v := by exact rfl) : jM l ((s,u)::l) := jM.b av d
section
variable {P : Program} {w0 : World} {Q : Exit → Act → World → Prop} {n k : Nat} {dn : List Nat} {l : bZ} {H : Heap} {ops : Array Oper} {bV : Heap → Prop} {X : List Nat}
theorem O.join{d:Nat}{v:Value}(a8:Nat)(o:List Nat)(b:(∀j,cK j d=some v→jM l j→O P w0 ops Q bV X n a8 o j H)→O P w0 ops Q bV X n k dn l H)(h:O P w0 ops Q bV X n a8 o ((d,v)::l) H):O P w0 ops Q bV X n k dn l H:=
 b (fun j al ao a w i q=>h a w ⟨i.defers,i.size,fun t u e=>by
  simp only[cK]at e
  cases aw:Nat.beq d t with
  |true=>have:=Nat.eq_of_beq_eq_true aw;subst this;simp only[aw]at e;exact i.get _ _ (by rw[al];exact e)
  |false=>simp only[aw]at e;exact i.get _ _ (ao _ _ e)⟩ q)
end
section
variable {P : Program} {w0 : World} {Q : Exit → Act → World → Prop} {n : Nat} {l : bZ} {H : Heap} {ops : Array Oper} {rest : List Oper} {m : Bool}
theorem o.join{d:Nat}{v:Value}(k:Nat)(b:(∀j,cK j d=some v→jM l j→o m P w0 ops Q n j (rest.drop k) H)→o m P w0 ops Q n l rest H)(h:o m P w0 ops Q n ((d,v)::l) (rest.drop k) H):o m P w0 ops Q n l rest H:=
 b (fun j al ao a w i q=>h a w ⟨i.defers,i.size,fun t u e=>by
  simp only[cK]at e
  cases aw:Nat.beq d t with
  |true=>have:=Nat.eq_of_beq_eq_true aw;subst this;simp only[aw]at e;exact i.get _ _ (by rw[al];exact e)
  |false=>simp only[aw]at e;exact i.get _ _ (ao _ _ e)⟩ q)
end
end E

namespace eX
open E Go.RowKit eJ eN eW e3 ey
set_option maxRecDepth 100000 in
theorem jX:c6 Tryz.prog 244 35 1 8:=⟨Tryz.underlying244,_,_,rfl,rfl,rfl,rfl,rfl⟩
def Iq:cw:=⟨[],bz⟩
def Ip:bA:=⟨bz,cO,[]⟩
def lD(l:List cw):List (List UInt8×cX):=l.foldl (fun m r=>fK m r.n r.i) []
theorem y3(l:List cw)(x:cw):lD (l++[x])=fK (lD l) x.n x.i:=by unfold lD;rw[List.foldl_append];rfl
def j2(m:List (List UInt8×cX))(x:bF):List (List UInt8×cX):=if x.w=bz then d_ m x.n else fK m x.n x.w
def hS(x:cY):Bool:=decide (¬x.bX=bz∧¬x.bo=bz∧0≤x.dn∧x.dn≤x.a6.length∧0≤x.md∧x.md≤x.dn∧¬(x.st=true∧x.dn=x.a6.length))
def ho(t:fA):Int:=if ¬(1≤t.d∧t.d≤3)then 3 else if t.i=bz then 1 else 0
def gS:List fA→Int
 |[]=>0
 |t::l=>if ho t≠0 then ho t else gS l
def gH(x:cY):Int:=if ¬(x.k=1∨x.k=2)then 3 else if c8 x.br≠0 then 7 else if hS x=false then 1 else if 100<x.a6.length then 4 else gS x.a6
theorem zd:∀(l:List fA) (t:fA),gS (l++[t])=if gS l≠0 then gS l else ho t
 |[],t=>by by_cases h:ho t=0<;>simp[gS,h]
 |a::l,t=>by
  rw[List.cons_append,gS,gS,zd l t];by_cases h:ho a≠0
  ·rw[if_pos h,if_pos h,if_pos h]
  ·rw[if_neg h,if_neg h]
theorem tK{l:List fA}{i:Nat}(d:i<l.length):gS (l.take (i+1))=if gS (l.take i)≠0 then gS (l.take i)else ho l[i]:=by
 rw[List.take_succ_eq_append_getElem d,zd]
theorem yY(e:Int)(t:fA):hV [e,dj (decide (1≤t.d∧t.d≤3)) 3,dj (decide (¬t.i=bz)) 1]=if e≠0 then e else ho t:=by
 unfold ho;simp only[hV,dj,decide_eq_true_eq];by_cases d:e≠0
 ·rw[if_pos d,if_pos d]
 ·rw[if_neg d,if_neg d]
  by_cases i:1≤t.d∧t.d≤3<;>by_cases U:t.i=bz<;>simp[i,U]
def lW(x:cY):Int:=hV [dj (decide (x.k=1∨x.k=2)) 3,c8 x.br,dj (hS x) 1,dj (decide (x.a6.length≤100)) 4]
theorem GY(x:cY):gH x=if lW x≠0 then lW x else gS x.a6:=by
 unfold gH lW;simp only[hV,dj,decide_eq_true_eq];rcases p3 x.br with av|av
 ·by_cases d:x.k=1∨x.k=2<;>cases U:hS x<;>by_cases i:x.a6.length≤100<;>simp[d,i,av]<;>omega
 ·by_cases d:x.k=1∨x.k=2<;>cases U:hS x<;>by_cases i:x.a6.length≤100<;>simp[d,i,av]
theorem h4{b:Bool}(q:Bool)(e:Int)(h:b=q)(w0:World)(I:Heap):aC Tryz.prog w0 46 #[.bool b,.int .i64 e] I (fun r d=>r= .int .i64 (dj q e)∧ak I d):=by subst h;exact th b e w0 I
theorem uw{x:cY}(i:¬x.bX=bz):decide (((((¬x.bo=bz∧0≤x.dn)∧x.dn≤x.a6.length)∧0≤x.md)∧x.md≤x.dn)∧¬(x.st=true∧x.dn=x.a6.length))=hS x:=
 decide_eq_decide.2 ⟨fun⟨⟨⟨⟨⟨a,b⟩,c⟩,d⟩,e⟩,f⟩=>⟨i,a,b,c,d,e,f⟩,fun⟨_,a,b,c,d,e,f⟩=>⟨⟨⟨⟨⟨a,b⟩,c⟩,d⟩,e⟩,f⟩⟩
theorem uy{x:cY}(d:¬x.bX=bz)(U:¬x.bo=bz)(i:0≤x.dn)(j:x.dn≤x.a6.length)(k:0≤x.md)(n:x.md≤x.dn)(o:x.st=true):decide (¬x.dn=(x.a6.length:Int))=hS x:=
 decide_eq_decide.2 ⟨fun h=>⟨d,U,i,j,k,n,fun e=>h e.2⟩,fun h e=>h.2.2.2.2.2.2 ⟨o,e⟩⟩
theorem ux{x:cY}(d:¬x.bX=bz)(U:¬x.bo=bz)(i:0≤x.dn)(j:x.dn≤x.a6.length)(k:0≤x.md)(n:x.md≤x.dn)(o:x.st=false):(!false)=hS x:=
 (decide_eq_true ⟨d,U,i,j,k,n,fun e=>by rw[o]at e;cases e.1⟩).symm
def gC(x:bA):Int:=if x.k=bz then 1 else if 65536<x.d.length then 5 else 0
def ic:List bA→Int
 |[]=>0
 |x::l=>if gC x≠0 then gC x else ic l
theorem sF:∀{l:List bA},(∀y∈l,gC y=0)→ic l=0
 |[],_=>rfl
 |x::l,h=>by rw[ic,if_neg (by simpa using h x List.mem_cons_self)];exact sF (fun y hy=>h y (List.mem_cons_of_mem _ hy))
theorem sE:∀{l:List bA} {j:Nat} (d:j<l.length),(∀y∈l.take j,gC y=0)→gC l[j]≠0→ic l=gC l[j]
 |x::l,0,_,_,h=>by
  simp only[List.getElem_cons_zero]at h⊢
  rw[ic,if_pos h]
 |x::l,j+1,d,h,U=>by
  rw[ic,if_neg (by simpa using h x (by simp))];exact sE (l:=l) (j:=j) (by simpa using d) (fun y hy=>h y (by simp[hy])) (by simpa using U)
theorem EK(y:bA):hV [dj (decide (¬y.k=bz)) 1,dj (decide (y.d.length≤65536)) 5]=gC y:=by
 unfold gC;simp only[hV,dj,decide_eq_true_eq];by_cases d:y.k=bz<;>by_cases U:y.d.length≤65536<;>simp[d,U]<;>omega
theorem y4(s:c2)(F:Nat→Prop)(w0:World)(I:Heap)
 (ao:e4 F I s) (aS:bg F I.size):
 aC Tryz.prog w0 53 #[ed s] I (fun r L=>∃bH:Nat,r= .map (some bH)∧(de L aI bs bH (lD s.bb))∧(T 0 I.size (bH+1))∧ak I L):=by
 refine aC.aK [ed s] Tryz.func53 ?_;intro aY aV;have k:ak I I:=V.refl _ _;have bp:=ao.r.len;refine G.L (fun aN=>?_);refine o.aO cr ?_;rintro v1 H1 ⟨rfl,q,K,bb,aO⟩;have bm:H1.size=I.size+1:=by rw[aO];simp
 replace ao:=ao.M K;replace k:=k.L K;have bc:=K.size;replace q:Var 47 H1 I.size (bS s):=q;refine o.aj ?_;refine aN (G.L (fun aQ=>?_));refine o.aO (Z.nO aI bs rfl) ?_;rintro v6 A ⟨rfl,d,C,bd,aR⟩;have aZ:A.size=H1.size+1:=by rw[aR];simp
 have P:=(ay.new (aS.mono k.size):ay _ (H1.size+1));have N:T 0 I.size (H1.size+1):=T.new k.size;replace ao:=ao.M C;replace q:=q.M C;replace k:=k.L C;have bf:=C.size;have bl:=d.lt;refine o.aj ?_;refine aQ (G.t1 (fun Q=>G.L (fun R=>?_)));refine o.v1 (Y.ai q.N rfl ca rfl hb) ?_;refine o.v1 (ar (q.N.drop 1) iw) ?_;refine o.v1 (ba ao.r gI) ?_;refine o.W (o.nil (R ?_));refine G.aB (fun _ W _=>?_)
 refine G.bd (fun(j:(Nat))=>[(3,.map (some H1.size)),(8,s.ej.v),(9,.int .i64 (s.bb.length:Int)),(10,.int .i64 (j:Int))])
  (fun(j:(Nat)) (H:Heap)=>(de H aI bs H1.size (lD (s.bb.take j)))∧(j≤s.bb.length)∧V (aE [(H1.size+1)]) A H)
  (fun(j:(Nat))=>s.bb.length-j) 0 ⟨rfl,rfl,rfl,rfl,trivial⟩ ?_ ?_
 ·
  exact⟨d,(by omega),V.refl _ _⟩
 intro j E X aX aa ab;obtain⟨d,bn,i⟩:=X;replace ao:=ao.ab i (az.J P);replace k:=k.bl i (ag.J (aq.q N));have bh:=i.size;have ac:=T.refl (H1.size+1) A.size;refine G.L (fun ae=>?_);refine o.v1 bG (o.nil (ae ?_));refine G.t2 (fun ai aj=>?_);refine aT (fun an=>?_) (fun an=>?_)
 ·
  have bo:j<s.bb.length:=by omega
  obtain⟨x,O⟩:∃x,x=s.bb[j]:=⟨_,rfl⟩;refine G.skip (ai (G.t1 (fun aA=>G.aB (fun aH _ _=>G.L (fun aJ=>?_)))));refine o.bR (Y.mS ao.r (j) rfl gI hL rfl rfl (by first|rfl|omega) (by omega)) fun a1 au=>?_;refine o.v1 (Y.cast (v2:= .agg (du x).toArray) (aW au.N nm hL (hT _)) (by rw[O])) ?_;refine o.aO (cQ Im) ?_;rintro v5 M ⟨rfl,n,am,bj,aB⟩;have a6:M.size=E.size+1:=by rw[aB];simp
  have aF:af (H1.size+1) (E.size+1):=af.new d.lt;have aK:T 0 A.size (E.size+1):=T.new i.size;replace d:=d.M am;replace i:=i.bc am;have bk:=am.size;replace n:Var 71 M E.size (du Iq):=n;refine o.s1 (S.var n (_) (du x) rfl rfl rfl rfl (ll _) hL (hT _) (by simp[hT]) ((c0 ((hT _).trans (hT _).symm)))) fun a7 ap=>?_;obtain⟨n,t⟩:=ap;replace t:=t.bp;replace d:=d.ab t (ah.J aF);replace i:=i.aJ t (ag.J (aq.q aK));have a0:=t.size;refine o.nil (aJ (G.region ?_));refine o.W ?_;refine o.v1 (Y.ai n.N rfl me rfl bO) ?_;refine o.v1 (ar n.N bL) ?_;refine o.v1 (Y.ai n.N rfl me rfl a_) ?_;refine o.v1 (Y.cast (v2:=bs x.i) (aW ((n.N.drop 1).take 32) b_ a_ (by rw[qc];exact bB _)) (b6 (qc _))) ?_;refine o.s1 (S.l8 (x.i) d gr rfl k6 Tryz.underlying9 rfl rfl rfl) fun a8 aL=>?_;obtain⟨d,B⟩:=aL;replace B:=B.bp;replace i:=i.aJ B (ag.J (aq.r ac));have b2:=B.size;refine o.nil (aH (aA (G.region ?_)));refine o.v1 bD ?_;refine o.W (o.nil ?_);refine aP.sub (aa (j+1) _ ?_ ?_) ⟨rfl,rfl,(aD (by omega)),(aD (by omega)),trivial⟩
  ·exact⟨by rw[List.take_succ_eq_append_getElem (show j<s.bb.length by omega),y3,←O];exact d,(by omega),i⟩
  ·first|omega|(simp only;omega)|(simp;omega)
 ·
  refine G.exit (aj (ab (W ?_)));refine Q (G.L (fun aM=>?_));refine o.aR 2 ?_;refine aM ?_;refine G.ret (aV ?_);obtain rfl:j=s.bb.length:=by omega
  rw[List.take_length]at d;exact⟨H1.size,rfl,d,N,k⟩
theorem xv(bH:Nat)(m:List (List UInt8×cX))(x:bF)(w0:World)(I:Heap)
 (i:de I aI bs bH m):
 aC Tryz.prog w0 54 #[.map (some bH),j3 x] I (fun r E=>r= .tuple #[]∧(de E aI bs bH (j2 m x))∧V (aE [(bH+1)]) I E):=by
 refine aC.enter (args:=[.map (some bH),j3 x]) Tryz.func54 rfl rfl rfl ?_;intro aF C;have j:V (aE [(bH+1)]) I I:=V.refl _ _;have q:=T.refl (bH+1) I.size;refine G.L (fun ay=>?_);refine o.aO cr ?_;rintro v3 N ⟨rfl,d,ap,aK,aL⟩;replace i:=i.M ap;replace j:=j.bc ap;replace d:Var 52 N I.size (dt x):=d;refine o.nil (ay (G.aB (fun _ A _=>G.t2 (fun F az=>G.aB (fun aA O P=>G.aB (fun _ Q H=>G.t2 (fun R K=>G.aB (fun _ W L=>G.t2 (fun X M=>G.t2 (fun aa ab=>G.L (fun af=>?_)))))))))));refine o.v1 (Y.ai d.N rfl cy rfl a_) ?_;refine o.v1 (Y.cast (v2:=bs x.w) (aW ((d.N.drop 33).take 32) b_ a_ (by rw[e1];exact bB _)) (b6 (e1 _))) ?_;refine aV kK (kZ x.w w0 _) ?_;rintro aO aD ⟨rfl,B⟩;replace i:=i.M B;replace d:=d.M B;replace j:=j.bc B;refine o.aj ?_;refine af ?_;refine aT (fun n=>?_) (fun n=>?_)
 ·
  refine G.exit (ab (M (W ?_)));refine R (G.L (fun ah=>?_));refine o.W ?_;refine o.v1 (Y.ai d.N rfl cy rfl bO) ?_;refine o.v1 (ar d.N bL) ?_;refine o.rm (Z.p7 i gr rfl k6 Tryz.underlying9 rfl rfl) cR rfl (fun aH aJ ai=>?_);obtain⟨rfl,i,ac⟩:=ai;replace ac:=ac.bp;replace j:=j.aJ ac (ag.J (aq.r q));refine o.nil (ah ?_);refine G.exit (H (P (az (A ?_))));refine C .normal (.inl rfl) _ _ _ (iQ rfl) ?_;exact⟨rfl,by first|(unfold j2;rw[if_pos n];exact i)|(unfold j2;rw[if_neg n];exact i),j⟩
 ·
  refine G.skip (aa (G.L (fun aj=>?_)));refine o.v1 (Y.ai d.N rfl cy rfl a_) ?_;refine o.v1 (Y.cast (v2:=bs x.J) (aW ((d.N.drop 1).take 32) b_ a_ (by rw[gY];exact bB _)) (b6 (gY _))) ?_;refine aV kK (kZ x.J w0 _) (fun aM aN ae=>?_);obtain⟨rfl,ad⟩:=ae;replace i:=i.M ad;replace d:=d.M ad;replace j:=j.bc ad;refine o.aj ?_;refine aj ?_;refine aT (fun aB=>?_) (fun aB=>?_)
  ·
   refine G.exit (M (L (K (Q ?_))));refine aA (F (G.L (fun au=>?_)));refine o.W ?_;refine o.v1 (Y.ai d.N rfl cy rfl bO) ?_;refine o.v1 (ar d.N bL) ?_;refine o.v1 (Y.ai d.N rfl cy rfl a_) ?_;refine o.v1 (Y.cast (v2:=bs x.w) (aW ((d.N.drop 33).take 32) b_ a_ (by rw[e1];exact bB _)) (b6 (e1 _))) ?_;refine o.s1 (S.l8 (x.w) i gr rfl k6 Tryz.underlying9 rfl rfl rfl) fun am t=>?_;obtain⟨i,k⟩:=t;replace k:=k.bp;replace j:=j.aJ k (ag.J (aq.r q));refine o.nil (au ?_);refine G.exit (A ?_);refine C .normal (.inl rfl) _ _ _ (iQ rfl) ?_;exact⟨rfl,by first|(unfold j2;rw[if_pos n];exact i)|(unfold j2;rw[if_neg n];exact i),j⟩
  ·
   refine G.skip (X ?_);refine G.exit (L (K (H (O ?_))));refine F (G.L (fun an=>?_));refine o.W ?_;refine o.v1 (Y.ai d.N rfl cy rfl bO) ?_;refine o.v1 (ar d.N bL) ?_;refine o.v1 (Y.ai d.N rfl cy rfl a_) ?_;refine o.v1 (Y.cast (v2:=bs x.w) (aW ((d.N.drop 33).take 32) b_ a_ (by rw[e1];exact bB _)) (b6 (e1 _))) ?_;refine o.s1 (S.l8 (x.w) i gr rfl k6 Tryz.underlying9 rfl rfl rfl) fun am t=>?_;obtain⟨i,k⟩:=t;replace k:=k.bp;replace j:=j.aJ k (ag.J (aq.r q));refine o.nil (an ?_);refine G.exit (A ?_);refine C .normal (.inl rfl) _ _ _ (iQ rfl) ?_;exact⟨rfl,by first|(unfold j2;rw[if_pos n];exact i)|(unfold j2;rw[if_neg n];exact i),j⟩
theorem G0(x:cY)(bk:Int)(w0:World)(I:Heap)
 (aN:dV bk I) (cV:bg (fun b=>b=0) I.size) (E:bw I c4 33 x.cM.v x.a6) (aw:x.br.length≤9223372036854775807):
 aC Tryz.prog w0 50 #[eo x] I (fun r b8=>r= .int .i64 (if x.k≠0 then gH x else 0)∧ak I b8):=by
 refine aC.aK [eo x] Tryz.func50 ?_;intro dz b7;have R:ak I I:=V.refl _ _;replace E:=E.bt;have ez:=E.len;refine G.L (fun cI=>?_);refine o.aO cr ?_;rintro v1 H1 ⟨rfl,A,aL,dN,cJ⟩;have dG:H1.size=I.size+1:=by rw[cJ];simp
 replace aN:=aN.M aL;replace E:=E.M aL;replace R:=R.L aL;have dO:=aL.size;replace A:Var 29 H1 I.size (dT x):=A;refine o.aj ?_;refine cI (G.t2 (fun cK cL=>G.L (fun cM=>?_)));refine o.v1 (Y.ai A.N rfl bu rfl b1) ?_;refine o.v1 (ar A.N cd) ?_;refine o.v1 b9 (o.nil (cM ?_));refine aT (fun bE=>?_) (fun bE=>?_)
 ·
  refine G.L (fun cN=>?_);refine o.aj ?_;refine cN ?_;refine G.ret (cL (b7 ?_));exact⟨by rw[if_neg (by simpa using bE)],R⟩
 ·
  refine G.skip (cK (G.L (fun cO=>?_)));refine o.v1 (Y.ai A.N rfl bu rfl en) ?_;refine o.v1 (ar A.N.fL ff) ?_;refine o.v1 (ba E fm) ?_;refine o.aj ?_;refine cO ?_
  refine G.cut (fun(aE:(Int))=>[(1,.pointer (some ⟨I.size,0,none⟩)),(4,.int .i64 aE)])
   (fun(aE:(Int)) (H:Heap)=>(aE=lW x)∧ak H1 H) (fun _ bX _=>?_) ?_
  ·
   have C:ak H1 H1:=V.refl _ _;refine dC (fun k=>ak H1 k) [] ?_;have B:=ak.refl H1;refine O.t1 0 rfl (fun k j=>Y.ai (A.N.M j) rfl bu rfl b1) B ?_;refine O.t1 1 rfl (fun k j=>ar (A.N.M j) cd) B ?_;refine O.t1 2 rfl (fun k j=>b9) B ?_;refine O.W 3 rfl B ?_;refine O.join (d:=20) (v:= .bool (decide (x.k=1∨x.k=2))) 55 [7,6,5,4,3,2,1,0] (fun bM=>?_) ?_
   ·
    refine O.bj (d:=16) rfl (fun ah=>?_) (fun ah=>?_)
    ·
     refine O.g1 4 rfl rfl rfl rfl B ?_;refine O.g1 5 rfl rfl rfl rfl B ?_;refine O.g1 6 rfl rfl rfl rfl B ?_;refine O.t1 7 rfl (fun k j=>eh) B ?_;exact bM _ (congrArg (fun b=>some (Value.bool b)) (by simp[ah])) (ae (ae (ae (ae (bC (congrArg Value.bool (decide_eq_true ah).symm))))))
    ·
     refine O.bQ 4 rfl (fun k j=>Y.ai (A.N.M j) rfl bu rfl b1) bh B ?_;refine O.bQ 5 rfl (fun k j=>ar (A.N.M j) cd) bh B ?_;refine O.bQ 6 rfl (fun k j=>b9) bh B ?_;refine O.t1 7 rfl (fun k j=>dI) B ?_;exact bM _ (congrArg (fun b=>some (Value.bool b)) (by simp[ah])) (ae (ae (ae (ae (bC (congrArg Value.bool (decide_eq_false ah).symm))))))
   refine O.t1 9 rfl (fun k j=>Y.ai (A.N.M j) rfl bu rfl bO) B ?_;refine O.t1 10 rfl (fun k j=>ar ((A.N.drop 1).M j) bL) B ?_;refine O.t1 12 rfl (fun k j=>Y.ai (A.N.M j) rfl bu rfl a_) B ?_;refine O.t1 13 rfl (fun k j=>Y.cast (v2:=bs x.bX) (aW (((A.N.drop 2).M j).take 32) b_ a_ (by rw[hA];exact bB _)) (b6 (hA _))) B ?_;refine O.W 57 rfl B ?_;refine O.t1 58 rfl (fun k j=>eH) B ?_;refine O.aY 8 ?_;refine dD.call rfl rfl hv rfl cR rfl rfl (h4 (decide (x.k=1∨x.k=2)) 3 (by first|(exact(decide_eq_true (by omega)).symm)|(exact(decide_eq_false (by omega)).symm)|(exact decide_eq_decide.2 (by omega))) w0 _) (fun dP cC cP=>?_);obtain⟨rfl,aA⟩:=cP;replace aN:=aN.M aA;replace A:=A.M aA;replace C:=C.L aA;have dQ:=aA.size;have cb:=B.L aA;refine O.cn cb ?_;have cc:=ak.refl cC;refine O.aY 11 ?_;refine ch pX (p2 x.br bk w0 _ aN (cV.mono (by omega)) aw) (fun dR cE cj=>?_);obtain⟨rfl,aF⟩:=cj;replace A:=A.M aF;replace C:=C.L aF;have dS:=aF.size;have a9:=cc.L aF;refine O.cn a9 ?_;have cg:=ak.refl cE;refine O.aY 14 ?_;refine ch kK (kZ x.bX w0 _) (fun dU cG cl=>?_);obtain⟨rfl,aH⟩:=cl;replace A:=A.M aH;replace C:=C.L aH;have dW:=aH.size;have cS:=cg.L aH;refine O.cn cS ?_;have q:=ak.refl cG;refine O.t1 15 rfl (fun k j=>Y.h2 rfl rfl) q ?_;refine O.W 16 rfl q ?_;refine O.bj (d:=29) rfl (fun S=>?_) (fun S=>?_)
   ·
    refine O.bQ 17 rfl (fun k j=>Y.ai (A.N.M j) rfl bu rfl a_) bh q ?_;refine O.bQ 18 rfl (fun k j=>Y.cast (v2:=bs x.bo) (aW (((A.N.drop 34).M j).take 32) b_ a_ (by rw[hz];exact bB _)) (b6 (hz _))) bh q ?_;refine O.aY 19 ?_;refine dD.call rfl rfl kK rfl bh rfl rfl (kZ x.bo w0 _) (fun dY cH cn=>?_);obtain⟨rfl,aI⟩:=cn;replace A:=A.M aI;replace C:=C.L aI;have dZ:=aI.size;have cT:=q.L aI;refine O.cn cT ?_;have n:=ak.refl cH;refine O.bQ 20 rfl (fun k j=>Y.h2 rfl rfl) bh n ?_;refine O.t1 21 rfl (fun k j=>eh) n ?_;refine O.W 22 rfl n ?_;refine O.join (d:=39) (v:= .bool (decide (¬x.bo=bz∧0≤x.dn))) 34 [26,25,24,23,22,21,20,19,18,17,16,15,14,11,8,58,57,13,12,10,9,7,6,5,4,3,2,1,0] (fun bN=>?_) ?_
    ·
     refine O.bj (d:=35) rfl (fun K=>?_) (fun K=>?_)
     ·
      refine O.bQ 23 rfl (fun k j=>Y.ai (A.N.M j) rfl bu rfl b1) bh n ?_;refine O.bQ 24 rfl (fun k j=>ar (A.N.ir.M j) cd) bh n ?_;refine O.bQ 25 rfl (fun k j=>dH) bh n ?_;refine O.t1 26 rfl (fun k j=>eh) n ?_;exact bN _ (congrArg (fun b=>some (Value.bool b)) (by simp[K])) (ae (ae (ae (ae (bC (congrArg Value.bool (decide_eq_true K).symm))))))
     ·
      refine O.g1 23 rfl rfl rfl rfl n ?_;refine O.g1 24 rfl rfl rfl rfl n ?_;refine O.g1 25 rfl rfl rfl rfl n ?_;refine O.t1 26 rfl (fun k j=>dI) n ?_;exact bN _ (congrArg (fun b=>some (Value.bool b)) (by simp[K])) (ae (ae (ae (ae (bC (congrArg Value.bool (decide_eq_false K).symm))))))
    refine O.W 27 rfl n ?_;refine O.join (d:=45) (v:= .bool (decide ((¬x.bo=bz∧0≤x.dn)∧x.dn≤x.a6.length))) 28 [32,31,30,29,28,27,26,25,24,23,22,21,20,19,18,17,16,15,14,11,8,58,57,13,12,10,9,7,6,5,4,3,2,1,0] (fun bP=>?_) ?_
    ·
     refine O.bj (d:=40) rfl (fun L=>?_) (fun L=>?_)
     ·
      refine O.bQ 28 rfl (fun k j=>Y.ai (A.N.M j) rfl bu rfl b1) bh n ?_;refine O.bQ 29 rfl (fun k j=>ar (A.N.ir.M j) cd) bh n ?_;refine O.bQ 30 rfl (fun k j=>fp) bh n ?_;refine O.bQ 31 rfl (fun k j=>eH) bh n ?_;refine O.t1 32 rfl (fun k j=>eh) n ?_;exact bP _ (congrArg (fun b=>some (Value.bool b)) (by simp[L])) (ae (ae (ae (ae (ae (bC (congrArg Value.bool (decide_eq_true L).symm)))))))
     ·
      refine O.g1 28 rfl rfl rfl rfl n ?_;refine O.g1 29 rfl rfl rfl rfl n ?_;refine O.g1 30 rfl rfl rfl rfl n ?_;refine O.g1 31 rfl rfl rfl rfl n ?_;refine O.t1 32 rfl (fun k j=>dI) n ?_;exact bP _ (congrArg (fun b=>some (Value.bool b)) (by simp[L])) (ae (ae (ae (ae (ae (bC (congrArg Value.bool (decide_eq_false L).symm)))))))
    refine O.W 33 rfl n ?_;refine O.join (d:=50) (v:= .bool (decide (((¬x.bo=bz∧0≤x.dn)∧x.dn≤x.a6.length)∧0≤x.md))) 23 [37,36,35,34,33,32,31,30,29,28,27,26,25,24,23,22,21,20,19,18,17,16,15,14,11,8,58,57,13,12,10,9,7,6,5,4,3,2,1,0] (fun bQ=>?_) ?_
    ·
     refine O.bj (d:=46) rfl (fun M=>?_) (fun M=>?_)
     ·
      refine O.bQ 34 rfl (fun k j=>Y.ai (A.N.M j) rfl bu rfl b1) bh n ?_;refine O.bQ 35 rfl (fun k j=>ar (A.N.jD.M j) cd) bh n ?_;refine O.bQ 36 rfl (fun k j=>dH) bh n ?_;refine O.t1 37 rfl (fun k j=>eh) n ?_;exact bQ _ (congrArg (fun b=>some (Value.bool b)) (by simp[M])) (ae (ae (ae (ae (bC (congrArg Value.bool (decide_eq_true M).symm))))))
     ·
      refine O.g1 34 rfl rfl rfl rfl n ?_;refine O.g1 35 rfl rfl rfl rfl n ?_;refine O.g1 36 rfl rfl rfl rfl n ?_;refine O.t1 37 rfl (fun k j=>dI) n ?_;exact bQ _ (congrArg (fun b=>some (Value.bool b)) (by simp[M])) (ae (ae (ae (ae (bC (congrArg Value.bool (decide_eq_false M).symm))))))
    refine O.W 38 rfl n ?_;refine O.join (d:=57) (v:= .bool (decide ((((¬x.bo=bz∧0≤x.dn)∧x.dn≤x.a6.length)∧0≤x.md)∧x.md≤x.dn))) 16 [44,43,42,41,40,39,38,37,36,35,34,33,32,31,30,29,28,27,26,25,24,23,22,21,20,19,18,17,16,15,14,11,8,58,57,13,12,10,9,7,6,5,4,3,2,1,0] (fun bR=>?_) ?_
    ·
     refine O.bj (d:=51) rfl (fun N=>?_) (fun N=>?_)
     ·
      refine O.bQ 39 rfl (fun k j=>Y.ai (A.N.M j) rfl bu rfl b1) bh n ?_;refine O.bQ 40 rfl (fun k j=>ar (A.N.jD.M j) cd) bh n ?_;refine O.bQ 41 rfl (fun k j=>Y.ai (A.N.M j) rfl bu rfl b1) bh n ?_;refine O.bQ 42 rfl (fun k j=>ar (A.N.ir.M j) cd) bh n ?_;refine O.bQ 43 rfl (fun k j=>eH) bh n ?_;refine O.t1 44 rfl (fun k j=>eh) n ?_;exact bR _ (congrArg (fun b=>some (Value.bool b)) (by simp[N])) (ae (ae (ae (ae (ae (ae (bC (congrArg Value.bool (decide_eq_true N).symm))))))))
     ·
      refine O.g1 39 rfl rfl rfl rfl n ?_;refine O.g1 40 rfl rfl rfl rfl n ?_;refine O.g1 41 rfl rfl rfl rfl n ?_;refine O.g1 42 rfl rfl rfl rfl n ?_;refine O.g1 43 rfl rfl rfl rfl n ?_;refine O.t1 44 rfl (fun k j=>dI) n ?_;exact bR _ (congrArg (fun b=>some (Value.bool b)) (by simp[N])) (ae (ae (ae (ae (ae (ae (bC (congrArg Value.bool (decide_eq_false N).symm))))))))
    refine O.W 45 rfl n ?_;refine O.join (d:=68) (v:= .bool (decide (((((¬x.bo=bz∧0≤x.dn)∧x.dn≤x.a6.length)∧0≤x.md)∧x.md≤x.dn)∧¬(x.st=true∧x.dn=x.a6.length)))) 5 [55,54,53,52,51,50,49,48,47,46,45,44,43,42,41,40,39,38,37,36,35,34,33,32,31,30,29,28,27,26,25,24,23,22,21,20,19,18,17,16,15,14,11,8,58,57,13,12,10,9,7,6,5,4,3,2,1,0] (fun bS=>?_) ?_
    ·
     refine O.bj (d:=58) rfl (fun P=>?_) (fun P=>?_)
     ·
      refine O.bQ 46 rfl (fun k j=>Y.ai (A.N.M j) rfl bu rfl cW) bh n ?_;refine O.bQ 47 rfl (fun k j=>ar (A.N.k3.M j) dr) bh n ?_;refine O.bQ 48 rfl (fun k j=>fp) bh n ?_;refine O.join (d:=66) (v:= .bool (decide (x.st=true∧x.dn=x.a6.length))) 7 [53,52,51,50,49,48,47,46,45,44,43,42,41,40,39,38,37,36,35,34,33,32,31,30,29,28,27,26,25,24,23,22,21,20,19,18,17,16,15,14,11,8,58,57,13,12,10,9,7,6,5,4,3,2,1,0] (fun bU=>?_) ?_
      ·
       refine O.split (d:=61) rfl (fun Q=>?_) (fun Q=>?_)
       ·
        refine O.bQ 49 rfl (fun k j=>Y.ai (A.N.M j) rfl bu rfl b1) bh n ?_;refine O.bQ 50 rfl (fun k j=>ar (A.N.ir.M j) cd) bh n ?_;refine O.bQ 51 rfl (fun k j=>fp) bh n ?_;refine O.bQ 52 rfl (fun k j=>b9) bh n ?_;refine O.bQ 53 rfl (fun k j=>eh) bh n ?_;exact bU _ (congrArg (fun b=>some (Value.bool b)) (by simp[Q])) (ae (ae (ae (ae (ae (bC (congrArg Value.bool Q.symm)))))))
       ·
        refine O.g1 49 rfl rfl rfl rfl n ?_;refine O.g1 50 rfl rfl rfl rfl n ?_;refine O.g1 51 rfl rfl rfl rfl n ?_;refine O.g1 52 rfl rfl rfl rfl n ?_;refine O.bQ 53 rfl (fun k j=>dI) bh n ?_;exact bU _ (congrArg (fun b=>some (Value.bool b)) (by simp[Q])) (ae (ae (ae (ae (ae (bC (congrArg Value.bool Q.symm)))))))
      refine O.bQ 54 rfl (fun k j=>Y.h2 rfl rfl) bh n ?_;refine O.t1 55 rfl (fun k j=>eh) n ?_;exact bS _ (congrArg (fun b=>some (Value.bool b)) (by simp[P])) (ae (ae (ae (ae (ae (ae (bC (congrArg Value.bool (decide_eq_true P).symm))))))))
     ·
      refine O.g1 46 rfl rfl rfl rfl n ?_;refine O.g1 47 rfl rfl rfl rfl n ?_;refine O.g1 48 rfl rfl rfl rfl n ?_;refine O.jV 49 rfl rfl rfl rfl n ?_;refine O.jV 50 rfl rfl rfl rfl n ?_;refine O.jV 51 rfl rfl rfl rfl n ?_;refine O.jV 52 rfl rfl rfl rfl n ?_;refine O.g1 53 rfl rfl rfl rfl n ?_;refine O.g1 54 rfl rfl rfl rfl n ?_;refine O.t1 55 rfl (fun k j=>dI) n ?_;exact bS _ (congrArg (fun b=>some (Value.bool b)) (by simp[P])) (ae (ae (ae (ae (ae (ae (ae (ae (ae (ae (bC (congrArg Value.bool (decide_eq_false P).symm))))))))))))
    refine O.aY 56 ?_;refine dD.call rfl rfl hv rfl cR rfl rfl (h4 (hS x) 1 (by first|exact uw S|exact uy S K L M N P Q|exact ux S K L M N P Q|exact(decide_eq_false (by rintro⟨bF,U,dm,dp,dq,dt,dv⟩;first|(exact absurd bF (by assumption))|(exact absurd U (by assumption))|omega)).symm) w0 _) (fun cp bn bq=>?_);obtain⟨rfl,W⟩:=bq;replace C:=C.L W;have d_:=W.size;have a8:=n.L W;refine O.cn a8 ?_;have bb:=ak.refl bn;refine O.aY 59 ?_;refine dD.call rfl rfl hv rfl cR rfl rfl (h4 (decide (x.a6.length≤100)) 4 (by first|(exact(decide_eq_true (by omega)).symm)|(exact(decide_eq_false (by omega)).symm)|(exact decide_eq_decide.2 (by omega))) w0 _) (fun cq ai bt=>?_);obtain⟨rfl,X⟩:=bt;replace C:=C.L X;have ea:=X.size;have bc:=bb.L X;refine O.cn bc ?_;have aM:=ak.refl ai;refine O.aY 60 ?_;refine ep rfl (cU _ ([dj (decide (x.k=1∨x.k=2)) 3,c8 x.br,dj (hS x) 1,dj (decide (x.a6.length≤100)) 4]) jX kn ko (rfl)) (fun ct aj bx=>?_);obtain⟨a0,au,c1,b2⟩:=bx;have bT:aj.size=ai.size+1:=by rw[b2];simp
    replace C:=C.L au;have eb:=au.size;have aO:=aM.L au;refine O.cn aO ?_;have aQ:=ak.refl aj;refine O.aY 61 ?_;refine ch kJ (kX _ [dj (decide (x.k=1∨x.k=2)) 3,c8 x.br,dj (hS x) 1,dj (decide (x.a6.length≤100)) 4] w0 _ a0.rd.any) (fun cu be bA=>?_);obtain⟨rfl,am⟩:=bA;replace C:=C.L am;have ec:=am.size;have aR:=aQ.L am;refine O.cn aR ?_;have an:=ak.refl be;refine O.t1 62 rfl (fun k j=>ev) an ?_;refine cD ?_;have bH:=an;refine aP.sub (bX (lW x) _ ?_) ⟨rfl,rfl,trivial⟩;exact⟨rfl,C⟩
   ·
    refine O.g1 17 rfl rfl rfl rfl q ?_;refine O.g1 18 rfl rfl rfl rfl q ?_;refine O.g1 19 rfl rfl rfl rfl q ?_;refine O.g1 20 rfl rfl rfl rfl q ?_;refine O.t1 21 rfl (fun k j=>dI) q ?_;refine O.W 22 rfl q ?_;refine O.g1 23 rfl rfl rfl rfl q ?_;refine O.g1 24 rfl rfl rfl rfl q ?_;refine O.g1 25 rfl rfl rfl rfl q ?_;refine O.t1 26 rfl (fun k j=>dI) q ?_;refine O.W 27 rfl q ?_;refine O.g1 28 rfl rfl rfl rfl q ?_;refine O.g1 29 rfl rfl rfl rfl q ?_;refine O.g1 30 rfl rfl rfl rfl q ?_;refine O.g1 31 rfl rfl rfl rfl q ?_;refine O.t1 32 rfl (fun k j=>dI) q ?_;refine O.W 33 rfl q ?_;refine O.g1 34 rfl rfl rfl rfl q ?_;refine O.g1 35 rfl rfl rfl rfl q ?_;refine O.g1 36 rfl rfl rfl rfl q ?_;refine O.t1 37 rfl (fun k j=>dI) q ?_;refine O.W 38 rfl q ?_;refine O.g1 39 rfl rfl rfl rfl q ?_;refine O.g1 40 rfl rfl rfl rfl q ?_;refine O.g1 41 rfl rfl rfl rfl q ?_;refine O.g1 42 rfl rfl rfl rfl q ?_;refine O.g1 43 rfl rfl rfl rfl q ?_;refine O.t1 44 rfl (fun k j=>dI) q ?_;refine O.W 45 rfl q ?_;refine O.g1 46 rfl rfl rfl rfl q ?_;refine O.g1 47 rfl rfl rfl rfl q ?_;refine O.g1 48 rfl rfl rfl rfl q ?_;refine O.jV 49 rfl rfl rfl rfl q ?_;refine O.jV 50 rfl rfl rfl rfl q ?_;refine O.jV 51 rfl rfl rfl rfl q ?_;refine O.jV 52 rfl rfl rfl rfl q ?_;refine O.g1 53 rfl rfl rfl rfl q ?_;refine O.g1 54 rfl rfl rfl rfl q ?_;refine O.t1 55 rfl (fun k j=>dI) q ?_;refine O.aY 56 ?_;refine dD.call rfl rfl hv rfl cR rfl rfl (h4 (hS x) 1 (by first|exact uw S|exact uy S K L M N P Q|exact ux S K L M N P Q|exact(decide_eq_false (by rintro⟨bF,U,dm,dp,dq,dt,dv⟩;first|(exact absurd bF (by assumption))|(exact absurd U (by assumption))|omega)).symm) w0 _) (fun cp bn bq=>?_);obtain⟨rfl,W⟩:=bq;replace C:=C.L W;have dB:=W.size;have a8:=q.L W;refine O.cn a8 ?_;have bb:=ak.refl bn;refine O.aY 59 ?_;refine dD.call rfl rfl hv rfl cR rfl rfl (h4 (decide (x.a6.length≤100)) 4 (by first|(exact(decide_eq_true (by omega)).symm)|(exact(decide_eq_false (by omega)).symm)|(exact decide_eq_decide.2 (by omega))) w0 _) (fun cq ai bt=>?_);obtain⟨rfl,X⟩:=bt;replace C:=C.L X;have dE:=X.size;have bc:=bb.L X;refine O.cn bc ?_;have aM:=ak.refl ai;refine O.aY 60 ?_;refine ep rfl (cU _ ([dj (decide (x.k=1∨x.k=2)) 3,c8 x.br,dj (hS x) 1,dj (decide (x.a6.length≤100)) 4]) jX kn ko (rfl)) (fun ct aj bx=>?_);obtain⟨a0,au,c1,b2⟩:=bx;have bT:aj.size=ai.size+1:=by rw[b2];simp
    replace C:=C.L au;have dF:=au.size;have aO:=aM.L au;refine O.cn aO ?_;have aQ:=ak.refl aj;refine O.aY 61 ?_;refine ch kJ (kX _ [dj (decide (x.k=1∨x.k=2)) 3,c8 x.br,dj (hS x) 1,dj (decide (x.a6.length≤100)) 4] w0 _ a0.rd.any) (fun cu be bA=>?_);obtain⟨rfl,am⟩:=bA;replace C:=C.L am;have dJ:=am.size;have aR:=aQ.L am;refine O.cn aR ?_;have an:=ak.refl be;refine O.t1 62 rfl (fun k j=>ev) an ?_;refine cD ?_;have bH:=an;refine aP.sub (bX (lW x) _ ?_) ⟨rfl,rfl,trivial⟩;exact⟨rfl,C⟩
  ·
   intro aE bV cf;obtain⟨dw,aJ⟩:=cf;replace E:=E.M aJ;replace A:=A.M aJ;replace R:=R.L aJ;have ef:=aJ.size;refine G.t1 (fun c_=>G.L (fun da=>?_));refine o.v1 (Y.ai A.N rfl bu rfl en) ?_;refine o.v1 (ar A.N.fL ff) ?_;refine o.v1 (ba E fm) ?_;refine o.W (o.nil (da ?_));refine G.aB (fun _ db _=>?_)
   refine G.bd (fun(dx:(Nat)×(Int))=>match dx with|(i,e)=>[(4,.int .i64 e),(76,x.cM.v),(77,.int .i64 x.a6.length),(78,.int .i64 i)])
    (fun(i,e) (H:Heap)=>(i≤x.a6.length)∧(e=if lW x≠0 then lW x else gS (x.a6.take i))∧ak bV H)
    (fun(i,e)=>x.a6.length-i) (0,aE) ⟨rfl,rfl,rfl,rfl,trivial⟩ ?_ ?_
   ·
    exact⟨(by omega),(by rw[dw];split;rfl;rename_i h;simpa[gS]using h),V.refl _ _⟩
   rintro⟨i,e⟩ bZ ce ed bY c2;obtain⟨ey,he,ac⟩:=ce;replace E:=E.M ac;replace R:=R.L ac;have eg:=ac.size;refine G.L (fun bv=>?_);refine o.v1 bG (o.nil (bv ?_));refine G.t2 (fun c3 c5=>?_);refine aT (fun dc=>?_) (fun dc=>?_)
   ·
    refine G.skip (c3 (G.t1 (fun b3=>G.aB (fun b4 _ _=>G.L (fun c6=>?_)))));have b5:i<x.a6.length:=by omega
    obtain⟨t,bJ⟩:∃t,t=x.a6[i]:=⟨_,rfl⟩;refine o.bR (Y.bJ E (i) rfl fm ha rfl rfl) fun dX cv=>?_;refine o.v1 (Y.cast (v2:= .agg (c4 t).toArray) (aW cv.N mA ha (hU _)) (by rw[bJ])) ?_;refine o.aO (cQ tV) ?_;rintro v6 ca ⟨rfl,F,b0,ee,ci⟩;have ei:ca.size=bZ.size+1:=by rw[ci];simp
    have cw:T 0 bV.size (bZ.size+1):=T.new ac.size;replace ac:=ac.L b0;have ej:=b0.size;refine o.s1 (dy F (_) (c4 t) (mM t) ha (hU _) ((c0 (hU _).symm))) fun bi cy=>?_;obtain⟨F,aK⟩:=cy;replace aK:=aK.bp;replace ac:=ac.bl aK (ag.J (aq.q cw));have ek:=aK.size;refine o.nil (c6 ?_);refine dC (fun k=>ak bi k) [] ?_;have B:=ak.refl bi;refine O.W 0 rfl B ?_;refine O.t1 1 rfl (fun k j=>Y.ai (F.N.M j) rfl jE rfl b1) B ?_;refine O.t1 2 rfl (fun k j=>ar (F.N.M j) cd) B ?_;refine O.t1 3 rfl (fun k j=>dH) B ?_;refine O.W 4 rfl B ?_;refine O.bj (d:=86) rfl (fun de=>?_) (fun de=>?_)
    ·
     refine O.bQ 5 rfl (fun k j=>Y.ai (F.N.M j) rfl jE rfl b1) bh B ?_;refine O.bQ 6 rfl (fun k j=>ar (F.N.M j) cd) bh B ?_;refine O.bQ 7 rfl (fun k j=>eH) bh B ?_;refine O.t1 8 rfl (fun k j=>eh) B ?_;refine O.t1 10 rfl (fun k j=>Y.ai (F.N.M j) rfl jE rfl a_) B ?_;refine O.t1 11 rfl (fun k j=>Y.cast (v2:=bs t.i) (aW (((F.N.drop 1).M j).take 32) b_ a_ (by rw[kP];exact bB _)) (b6 (kP _))) B ?_;refine O.aY 9 ?_;refine dD.call rfl rfl hv rfl cR rfl rfl (h4 (decide (1≤t.d∧t.d≤3)) 3 (by first|(exact(decide_eq_true (by omega)).symm)|(exact(decide_eq_false (by omega)).symm)|(exact decide_eq_decide.2 (by omega))) w0 _) (fun df bo bd=>?_);obtain⟨rfl,Z⟩:=bd;replace ac:=ac.L Z;have co:=Z.size;have aS:=B.L Z;refine O.cn aS ?_;have aV:=ak.refl bo;refine O.aY 12 ?_;refine ch kK (kZ t.i w0 _) (fun dg aB bf=>?_);obtain⟨rfl,ap⟩:=bf;replace ac:=ac.L ap;have er:=ap.size;have aX:=aV.L ap;refine O.cn aX ?_;have ay:=ak.refl aB;refine O.t1 13 rfl (fun k j=>Y.h2 rfl rfl) ay ?_;refine O.aY 14 ?_;refine ch hv (h4 (decide (¬t.i=bz)) 1 rfl w0 _) (fun dh a2 bj=>?_);obtain⟨rfl,aa⟩:=bj;replace ac:=ac.L aa;have cs:=aa.size;have aY:=ay.L aa;refine O.cn aY ?_;have aZ:=ak.refl a2;refine O.aY 15 ?_;refine ep rfl (cU _ ([e,dj (decide (1≤t.d∧t.d≤3)) 3,dj (decide (¬t.i=bz)) 1]) jX kn ko (rfl)) (fun di a3 bl=>?_);obtain⟨a4,ab,cz,a5⟩:=bl;have cZ:a3.size=a2.size+1:=by rw[a5];simp
     replace ac:=ac.L ab;have dA:=ab.size;have a1:=aZ.L ab;refine O.cn a1 ?_;have a6:=ak.refl a3;refine O.aY 16 ?_;refine ch kJ (kX _ [e,dj (decide (1≤t.d∧t.d≤3)) 3,dj (decide (¬t.i=bz)) 1] w0 _ a4.rd.any) (fun dk bp bm=>?_);obtain⟨rfl,af⟩:=bm;replace ac:=ac.L af;have et:=af.size;rw[yY];have a7:=a6.L af;refine O.cn a7 ?_;have az:=ak.refl bp;refine O.t1 17 rfl (fun k j=>ev) az ?_;refine cD ?_;have bH:=az;refine b4 (b3 (G.region ?_));refine o.v1 bD ?_;refine o.W (o.nil ?_);refine aP.sub (bY (i+1,if e≠0 then e else ho t) _ ?_ ?_) ⟨(aD (by omega)),rfl,(aD (by omega)),(aD (by omega)),trivial⟩
     ·exact⟨(by omega),(by rw[he,tK b5,←bJ];split<;>simp_all),ac⟩
     ·first|omega|(simp only;omega)|(simp;omega)
    ·
     refine O.g1 5 rfl rfl rfl rfl B ?_;refine O.g1 6 rfl rfl rfl rfl B ?_;refine O.g1 7 rfl rfl rfl rfl B ?_;refine O.t1 8 rfl (fun k j=>dI) B ?_;refine O.t1 10 rfl (fun k j=>Y.ai (F.N.M j) rfl jE rfl a_) B ?_;refine O.t1 11 rfl (fun k j=>Y.cast (v2:=bs t.i) (aW (((F.N.drop 1).M j).take 32) b_ a_ (by rw[kP];exact bB _)) (b6 (kP _))) B ?_;refine O.aY 9 ?_;refine dD.call rfl rfl hv rfl cR rfl rfl (h4 (decide (1≤t.d∧t.d≤3)) 3 (by first|(exact(decide_eq_true (by omega)).symm)|(exact(decide_eq_false (by omega)).symm)|(exact decide_eq_decide.2 (by omega))) w0 _) (fun df bo bd=>?_);obtain⟨rfl,Z⟩:=bd;replace ac:=ac.L Z;have eu:=Z.size;have aS:=B.L Z;refine O.cn aS ?_;have aV:=ak.refl bo;refine O.aY 12 ?_;refine ch kK (kZ t.i w0 _) (fun dg aB bf=>?_);obtain⟨rfl,ap⟩:=bf;replace ac:=ac.L ap;have ew:=ap.size;have aX:=aV.L ap;refine O.cn aX ?_;have ay:=ak.refl aB;refine O.t1 13 rfl (fun k j=>Y.h2 rfl rfl) ay ?_;refine O.aY 14 ?_;refine ch hv (h4 (decide (¬t.i=bz)) 1 rfl w0 _) (fun dh a2 bj=>?_);obtain⟨rfl,aa⟩:=bj;replace ac:=ac.L aa;have dK:=aa.size;have aY:=ay.L aa;refine O.cn aY ?_;have aZ:=ak.refl a2;refine O.aY 15 ?_;refine ep rfl (cU _ ([e,dj (decide (1≤t.d∧t.d≤3)) 3,dj (decide (¬t.i=bz)) 1]) jX kn ko (rfl)) (fun di a3 bl=>?_);obtain⟨a4,ab,cz,a5⟩:=bl;have cZ:a3.size=a2.size+1:=by rw[a5];simp
     replace ac:=ac.L ab;have dL:=ab.size;have a1:=aZ.L ab;refine O.cn a1 ?_;have a6:=ak.refl a3;refine O.aY 16 ?_;refine ch kJ (kX _ [e,dj (decide (1≤t.d∧t.d≤3)) 3,dj (decide (¬t.i=bz)) 1] w0 _ a4.rd.any) (fun dk bp bm=>?_);obtain⟨rfl,af⟩:=bm;replace ac:=ac.L af;have dM:=af.size;rw[yY];have a7:=a6.L af;refine O.cn a7 ?_;have az:=ak.refl bp;refine O.t1 17 rfl (fun k j=>ev) az ?_;refine cD ?_;have bH:=az;refine b4 (b3 (G.region ?_));refine o.v1 bD ?_;refine o.W (o.nil ?_);refine aP.sub (bY (i+1,if e≠0 then e else ho t) _ ?_ ?_) ⟨(aD (by omega)),rfl,(aD (by omega)),(aD (by omega)),trivial⟩
     ·exact⟨(by omega),(by rw[he,tK b5,←bJ];split<;>simp_all),ac⟩
     ·first|omega|(simp only;omega)|(simp;omega)
   ·
    refine G.exit (c5 (c2 (db ?_)));refine c_ (G.L (fun cB=>?_));refine o.aR 2 ?_;refine cB ?_;refine G.ret (b7 ?_);exact⟨by rw[if_pos bE,he,GY,List.take_of_length_le (by omega)],R⟩
end eX

namespace E
abbrev aH:=List UInt8
def blt(a b:aH):Prop:=Op.bytesLess a b=true
instance (a b:aH):Decidable (blt a b):=inferInstanceAs (Decidable (_=_))
theorem mF(a:aH):¬blt a a:=by
 unfold blt
 induction a with
 |nil=>simp[Op.bytesLess]
 |cons x a ih=>simp only[Op.bytesLess];simpa using ih
theorem lS:∀{a b:aH},¬blt a b→¬blt b a→a=b
 |[],[],_,_=>rfl
 |[],_::_,h,_=>by simp[blt,Op.bytesLess]at h
 |_::_,[],_,h=>by simp[blt,Op.bytesLess]at h
 |x::a,y::b,d,U=>by
  simp only[blt,Op.bytesLess]at d U;by_cases aK:x<y
  ·simp[aK]at d
  ·by_cases i:y<x
   ·simp[i]at U
   ·have:x=y:=by apply UInt8.toNat.inj;rw[UInt8.lt_iff_toNat_lt]at aK i;omega
    subst this;rw[lS (a:=a) (b:=b) (by simpa[blt]using d) (by simpa[blt]using U)]
theorem np:∀{a b c:aH},blt a b→blt b c→blt a c
 |[],[],_,h,_=>by simp[blt,Op.bytesLess]at h
 |_::_,[],_,h,_=>by simp[blt,Op.bytesLess]at h
 |_,_::_,[],_,h=>by simp[blt,Op.bytesLess]at h
 |[],_::_,_::_,_,_=>by simp[blt,Op.bytesLess]
 |x::a,y::b,z::c,d,U=>by
  simp only[blt,Op.bytesLess,Bool.or_eq_true,decide_eq_true_eq,Bool.and_eq_true,beq_iff_eq]at d U⊢;rcases d with d|⟨rfl,d⟩
  ·rcases U with U|⟨rfl,U⟩
   ·left;rw[UInt8.lt_iff_toNat_lt]at*;omega
   ·exact .inl d
  ·rcases U with U|⟨rfl,U⟩
   ·exact .inl U
   ·exact .inr ⟨rfl,np d U⟩
theorem oz{a b:aH}(h:blt a b):¬blt b a:=fun U=>mF a (np h U)
theorem mG{a b:aH}(h:blt a b):a≠b:=fun e=>by subst e;exact mF a h
def jL(l:List aH):Prop:=l.Pairwise blt
theorem tg{l:List aH}(h:jL l):l.Nodup:=by
 rw[List.nodup_iff_pairwise_ne];exact h.imp (fun h=>mG h)
abbrev dq:=List (aH×Nat)
def e_(l:dq):Prop:=l.Pairwise (fun x y=>blt x.1 y.1)
theorem e_.qT{l:dq}(h:e_ l):jL (l.map (·.1)):=by unfold jL;rw[List.pairwise_map];exact h
theorem e_.nodup{l:dq}(h:e_ l):(l.map (·.1)).Nodup:=tg h.qT
theorem e_.filter{l:dq}(h:e_ l)(p:aH×Nat→Bool):e_ (l.filter p):=List.Pairwise.filter _ h
def hK:dq→aH→Nat→dq
 |[],p,i=>[(p,i)]
 |x::l,p,i=>if blt x.1 p then x::hK l p i else if x.1=p then(p,i)::l else(p,i)::x::l
theorem qD(l:dq)(p:aH)(i:Nat)(q:aH):aL (hK l p i) q=if q=p then some i else aL l q:=by
 induction l with
 |nil=>simp[hK,aL]
 |cons x l ih=>
  unfold hK;split
  ·rename_i h
   simp only[aL,ih];by_cases d:q=x.1
   ·have:¬q=p:=fun e=>mG h (by rw[←d,e])
    rw[if_pos d,if_pos d,if_neg this]
   ·rw[if_neg d,if_neg d]
  ·split
   ·rename_i j U
    simp only[aL];by_cases d:q=p
    ·simp[d]
    ·rw[if_neg d,if_neg d,if_neg (fun e=>d (e.trans U))]
   ·simp only[aL]
theorem EL{l:dq}{p:aH}{i:Nat}{x:aH×Nat}(h:x∈hK l p i):x=(p,i)∨x∈l:=by
 induction l with
 |nil=>simp[hK]at h;exact .inl h
 |cons y l ih=>
  unfold hK at h;split at h
  ·rcases List.mem_cons.1 h with e|h
   ·exact .inr (by rw[e];exact List.mem_cons_self)
   ·rcases ih h with e|h
    ·exact .inl e
    ·exact .inr (List.mem_cons_of_mem _ h)
  ·split at h
   ·rcases List.mem_cons.1 h with e|h
    ·exact .inl e
    ·exact .inr (List.mem_cons_of_mem _ h)
   ·rcases List.mem_cons.1 h with e|h
    ·exact .inl e
    ·exact .inr h
theorem uz{l:dq}(h:e_ l)(p:aH)(i:Nat):e_ (hK l p i):=by
 induction l with
 |nil=>exact List.pairwise_singleton _ _
 |cons x l ih=>
  unfold e_ at h⊢;rw[List.pairwise_cons]at h;unfold hK;split
  ·rename_i j
   rw[List.pairwise_cons];refine⟨fun y hy=>?_,ih h.2⟩;rcases EL hy with e|hy
   ·rw[e];exact j
   ·exact h.1 y hy
  ·rename_i j
   split
   ·rename_i U
    rw[List.pairwise_cons];exact⟨fun y hy=>by rw[←U];exact h.1 y hy,h.2⟩
   ·rename_i U
    have d:blt p x.1:=Classical.byContradiction (fun d=>U (lS j d));rw[List.pairwise_cons];refine⟨fun y hy=>?_,List.pairwise_cons.2 h⟩;rcases List.mem_cons.1 hy with e|hy
    ·rw[e];exact d
    ·exact np d (h.1 y hy)
theorem Ap{l:dq}(h:e_ l)(p:aH):e_ (d_ l p):=List.Pairwise.filter _ h
theorem sG{l:dq}{f:aH→Bool}(p:aH):aL (l.filter (fun x=>f x.1)) p=if f p=true then aL l p else none:=by
 induction l with
 |nil=>simp[aL]
 |cons x l ih=>
  by_cases i:f x.1=true
  ·rw[List.filter_cons_of_pos (by simpa using i)]
   simp only[aL,ih];by_cases d:p=x.1
   ·rw[if_pos d,if_pos d,d,if_pos i]
   ·rw[if_neg d,if_neg d]
  ·rw[List.filter_cons_of_neg (by simpa using i),ih]
   simp only[aL];by_cases d:p=x.1
   ·rw[d,if_neg i,if_neg i]
   ·rw[if_neg d]
def m0(c:UInt8):Bool:=(97≤c&&c≤122)||(48≤c&&c≤57)||c==46||c==95||c==45||c==47
def tt(p:aH):Bool:=(List.range p.length).all (fun i=> !(p.getD i 0==47&&(i==0||i==p.length-1||p.getD (i-1) 0==47)))
def cv(p:aH):Bool:=decide (1≤p.length)&&decide (p.length≤100)&&p.all m0&&tt p
def mQ(p:aH):aH:=p.take (p.length-1-(p.reverse.takeWhile (fun c=>c≠47)).length)
def cp(p:aH):aH:=if cv p=true then mQ p else[]
structure dL where
 g:aH
 n:aH
 f:Option Nat
 deriving DecidableEq
def dL.ap(c:dL)(l:dq):dq:=
 let d:=if c.g=[]then l else d_ l c.g
 match c.f with
 |none=>d
 |some i=>hK d c.n i
def dL.dir(c:dL):aH:=cp (if c.g=[]then c.n else c.g)
def Af(cs:List dL)(l:dq):dq:=cs.foldl (fun l c=>c.ap l) l
theorem Ao{l:dq}(h:e_ l)(c:dL):e_ (c.ap l):=by
 unfold dL.ap;have d:e_ (if c.g=[]then l else d_ l c.g):=by split;exact h;exact Ap h _
 cases c.f with
 |none=>exact d
 |some i=>exact uz d _ _
def dL.at(c:dL)(q:aH)(J:Option Nat):Option Nat:=
 match c.f with
 |none=>if c.g≠[]∧q=c.g then none else J
 |some i=>if q=c.n then some i else if c.g≠[]∧q=c.g then none else J
theorem qC(c:dL)(l:dq)(q:aH):aL (c.ap l) q=c.at q (aL l q):=by
 unfold dL.ap dL.at
 cases c.f with
 |none=>
  simp only;by_cases d:c.g=[]
  ·simp[d]
  ·rw[if_neg d,jg];simp[d]
 |some i=>
  simp only;rw[qD];by_cases d:c.g=[]
  ·simp[d]
  ·rw[if_neg d,jg];simp[d]
structure dW where
 b:Bool
 d:List UInt8
 deriving DecidableEq,Inhabited
structure fX where
 now:List UInt8
 stays:List UInt8
 w:List dW
 deriving DecidableEq,Inhabited
def dW.on(w:dW)(b:List UInt8)(n:Nat):List UInt8:=(if w.b=true then b else[])++w.d.take n
def dW.ways(w:dW):Nat:=max 1 (2*w.d.length)
def dW.part(w:dW)(b:List UInt8)(d:Nat):List UInt8:=
 if d<w.d.length∨w.d.length=0 then w.on b (min (d+1) w.d.length)else w.on b (d-w.d.length)++List.replicate (w.d.length-(d-w.d.length)) 0
def H5(ws:List dW):Nat:=1+(ws.map dW.ways).sum
def zt:List dW→List UInt8→Nat→List UInt8
 |[],b,_=>b
 |w::ws,b,k=>if k=0 then b else if k≤w.ways then w.part b (k-1)else zt ws (w.on b w.d.length) (k-w.ways)
def lu(ws:List dW)(b:List UInt8):List UInt8:=ws.foldl (fun b w=>w.on b w.d.length) b
structure aG where
 cap:Nat
 most:Nat
 fs:List fX
 now:dq
 stays:dq
 log:List dL
 ops:Nat
 left:Nat
 dead:Bool
def b4(fs:List fX)(i:Nat):fX:=fs.getD i ⟨[],[],[]⟩
def aG.empty(cap most:Nat):aG:=⟨cap,most,[],[],[],[],0,0,false⟩
def aG.begin(d:aG):Bool×aG:=
 if d.dead=true then(false,d)
 else if d.left=1 then(false,{d with left:=0,dead:=true})
 else(true,{d with left:=d.left-1,ops:=d.ops+1})
def aG.look(d:aG)(p:aH):Nat:=if cv p=true then(if(aL d.now p).isSome then 0 else 2)else 7
def iC(fs:List fX)(l:dq):Nat:=(l.map (fun x=>(b4 fs x.2).now.length)).sum
def aG.used(d:aG):Nat:=iC d.fs d.now
def aG.hH(d:aG)(n:aH):List dL:=d.log.filter (fun c=>c.dir=n)
def aG.change(d:aG)(c:dL):aG:={d with now:=c.ap d.now,log:=d.log++[c]}
def aG.make(d:aG)(p:aH):aG×Nat:=match aL d.now p with
 |some i=>(d,i)
 |none=>(({d with fs:=d.fs++[⟨[],[],[]⟩]}:aG).change ⟨[],p,some d.fs.length⟩,d.fs.length)
def aG.dk(d:aG)(p:aH):List UInt8:=match aL d.now p with
 |some i=>(b4 d.fs i).now
 |none=>[]
def aG.fu(d:aG)(i:Nat)(x:fX):aG:={d with fs:=d.fs.set i x}
def aG.write(d:aG)(p:aH)(w:dW):aG:=
 let(d2,i):=d.make p
 d2.fu i ⟨w.on (b4 d2.fs i).now w.d.length,(b4 d2.fs i).stays,(b4 d2.fs i).w++[w]⟩
def aG.hJ(d:aG)(p:aH)(w:dW):Nat:=
 if cv p=false then 7
 else if d.most<(w.on (d.dk p) w.d.length).length then 5
 else if d.cap+(d.dk p).length<d.used+(w.on (d.dk p) w.d.length).length then 12
 else 0
def aG.lay(d:aG)(p:aH)(w:dW):Nat×aG:=
 let(g,d1):=d.begin
 if g=false then(11,d1)else(d1.hJ p w,if d1.hJ p w=0 then d1.write p w else d1)
def aG.tG(d:aG)(i:Nat):aG:=d.fu i ⟨(b4 d.fs i).now,(b4 d.fs i).now,[]⟩
def aG.sync(d:aG)(p:aH):Nat×aG:=
 let(g,d1):=d.begin
 if g=false then(11,d1)else(d1.look p,if d1.look p=0 then d1.tG ((aL d1.now p).getD 0)else d1)
def aG.j8(d:aG)(a b:aH):Nat:=
 if cv a=false∨cv b=false then 7 else if cp a≠cp b then 13 else d.look a
def aG.rename(d:aG)(a b:aH):Nat×aG:=
 let(g,d1):=d.begin
 if g=false then(11,d1)else(d1.j8 a b,if d1.j8 a b=0∧a≠b then d1.change ⟨a,b,some ((aL d1.now a).getD 0)⟩else d1)
def merge(now stays:dq)(n:aH):dq:=(now.filter (fun x=>cp x.1=n)).foldl (fun l x=>hK l x.1 x.2) (stays.filter (fun x=> !decide (cp x.1=n)))
def aG.m8(d:aG)(n:aH):aG:={d with stays:=merge d.now d.stays n,log:=d.log.filter (fun c=> !decide (c.dir=n))}
def ja(n:aH):Nat:=if n≠[]∧cv n=false then 7 else 0
def aG.iu(d:aG)(n:aH):Nat×aG:=
 let(g,d1):=d.begin
 if g=false then(11,d1)else(ja n,if ja n=0 then d1.m8 n else d1)
def aG.fw(d:aG)(p:aH):Nat:=if d.dead=true then 11 else d.look p
def aG.cx(d:aG)(p:aH):List UInt8:=if d.fw p=0 then d.dk p else[]
def x5(d:List Int)(at_ of:Nat):Nat:=if at_<d.length then(d.getD at_ 0%(of:Int)).toNat else 0
def CH(i:List Int)(d:aG)(s:dq×Nat)(n:aH):dq×Nat:=
 if d.hH n=[]then s else(Af ((d.hH n).take (x5 i s.2 ((d.hH n).length+1))) s.1,s.2+1)
def CI(d:List Int)(s:List fX×Nat)(x:aH×Nat):List fX×Nat:=
 let f:=b4 s.1 x.2
 if f.w=[]then s
 else
  let b:=zt f.w f.stays (x5 d s.2 (H5 f.w))
  (s.1.set x.2 ⟨b,b,[]⟩,s.2+1)
def wR:List aH→aH→List aH
 |[],p=>[p]
 |x::l,p=>if blt x p then x::wR l p else if x=p then x::l else p::x::l
def aG.CR(d:aG):List aH:=(d.log.map dL.dir).foldl wR []
def aG.p6(d:aG)(i:List Int):dq×Nat:=d.CR.foldl (CH i d) (d.stays,0)
def aG.CG(d:aG)(i:List Int):List fX×Nat:=(d.p6 i).1.foldl (CI i) (d.fs,(d.p6 i).2)
def aG.Iw(d:aG)(i:List Int):aG:=
 {d with fs:=(d.CG i).1,now:=(d.p6 i).1,stays:=(d.p6 i).1,log:=[],left:=0,dead:=false}
theorem ET(l:dq):∀(m:dq) (q:aH),e_ l→aL (l.foldl (fun l x=>hK l x.1 x.2) m) q=match aL l q with|some i=>some i|none=>aL m q:=by
 induction l with
 |nil=>intro m q _;rfl
 |cons x l ih=>
  intro m q h;unfold e_ at h;rw[List.pairwise_cons]at h;rw[List.foldl_cons,ih _ _ h.2,qD];simp only[aL];by_cases d:q=x.1
  ·have:aL l q=none:=Option.not_isSome_iff_eq_none.1 (fun c=>by
    rw[gP]at c;obtain⟨z,j,e⟩:=List.mem_map.1 c;exact mG (h.1 z j) (by rw[e,d]))
   rw[if_pos d,if_pos d,this]
  ·rw[if_neg d,if_neg d]
theorem xi{now stays:dq}(h:e_ now)(n q:aH):aL (merge now stays n) q=if cp q=n then aL now q else aL stays q:=by
 unfold merge;rw[ET _ _ _ (h.filter _),sG (f:=fun p=>decide (cp p=n)),sG (f:=fun p=> !decide (cp p=n))];by_cases d:cp q=n
 ·simp only[d,decide_true,if_true,Bool.not_true,Bool.false_eq_true,if_false]
  cases aL now q<;>rfl
 ·simp[d]
theorem Aq(l:dq):∀m:dq,e_ m→e_ (l.foldl (fun l x=>hK l x.1 x.2) m):=by
 induction l with
 |nil=>intro m h;exact h
 |cons x l ih=>intro m h;exact ih _ (uz h _ _)
theorem Ar{now stays:dq}(h:e_ stays)(n:aH):e_ (merge now stays n):=Aq _ _ (h.filter _)
end E

namespace ru
open E
section
variable {α : Type} [DecidableEq α]
def lcs:List α→List α→Nat
 |[],_=>0
 |_::_,[]=>0
 |x::xs,y::ys=>if x=y then lcs xs ys+1 else max (lcs xs (y::ys)) (lcs (x::xs) ys)
termination_by a b => a.length + b.length
def ck:List α→List α→List Int
 |[],[]=>[]
 |[],_::ys=>2::ck [] ys
 |_::xs,[]=>1::ck xs []
 |x::xs,y::ys=>if x=y then 0::ck xs ys else if lcs xs (y::ys)=lcs (x::xs) (y::ys)then 1::ck xs (y::ys)else 2::ck (x::xs) ys
termination_by a b => a.length + b.length
end
theorem sK{κ β:Type}[DecidableEq κ]{k s:κ}{b:β}:∀{m:List (κ×β)},aL (m++[(s,b)]) k=(aL m k).or (if k=s then some b else none)
 |[]=>by by_cases h:k=s<;>simp[aL,h]
 |(a,c)::m=>by
  simp only[List.cons_append,aL];split
  ·rfl
  ·exact sK
end ru

namespace eY
open E Go.RowKit eJ eN eW e3 ey eX
section
variable {β : Type}
def dc(l:List (aH×β)):Prop:=l.Pairwise (fun x y=>blt x.1 y.1)
theorem dc.qT{l:List (aH×β)}(h:dc l):jL (l.map (·.1)):=by unfold jL;rw[List.pairwise_map];exact h
theorem dc.nodup{l:List (aH×β)}(h:dc l):(l.map (·.1)).Nodup:=tg h.qT
theorem dc.nil:dc ([]:List (aH×β)):=List.Pairwise.nil
theorem dc.tail{x:aH×β}{l:List (aH×β)}(h:dc (x::l)):dc l:=(List.pairwise_cons.1 h).2
def dZ:List (aH×β)→aH→β→List (aH×β)
 |[],p,i=>[(p,i)]
 |x::l,p,i=>if x.1=p then(p,i)::l else if blt p x.1 then(p,i)::x::l else x::dZ l p i
theorem o0(l:List (aH×β))(p:aH)(i:β)(q:aH)(h:dc l):aL (dZ l p i) q=if q=p then some i else aL l q:=by
 induction l with
 |nil=>simp[dZ,aL]
 |cons x l ih=>
  unfold dZ;split
  ·rename_i U
   simp only[aL];by_cases d:q=p
   ·simp[d]
   ·rw[if_neg d,if_neg d,if_neg (fun e=>d (e.trans U))]
  ·split
   ·simp only[aL]
   ·simp only[aL,ih h.tail]
    by_cases d:q=x.1
    ·rw[if_pos d,if_pos d,if_neg (fun e=>by rename_i j _;exact j (by rw[←d,e]))]
    ·rw[if_neg d,if_neg d]
theorem qA{l:List (aH×β)}{p:aH}{i:β}{x:aH×β}(h:x∈dZ l p i):x=(p,i)∨x∈l:=by
 induction l with
 |nil=>simp[dZ]at h;exact .inl h
 |cons y l ih=>
  unfold dZ at h;split at h
  ·rcases List.mem_cons.1 h with e|h
   ·exact .inl e
   ·exact .inr (List.mem_cons_of_mem _ h)
  ·split at h
   ·rcases List.mem_cons.1 h with e|h
    ·exact .inl e
    ·exact .inr h
   ·rcases List.mem_cons.1 h with e|h
    ·exact .inr (by rw[e];exact List.mem_cons_self)
    ·rcases ih h with e|h
     ·exact .inl e
     ·exact .inr (List.mem_cons_of_mem _ h)
theorem nF{l:List (aH×β)}(h:dc l)(p:aH)(i:β):dc (dZ l p i):=by
 induction l with
 |nil=>exact List.pairwise_singleton _ _
 |cons x l ih=>
  have av:=List.pairwise_cons.1 h;unfold dZ;split
  ·rename_i U
   exact List.pairwise_cons.2 ⟨fun y hy=>by rw[←U];exact av.1 y hy,av.2⟩
  ·split
   ·rename_i d U
    refine List.pairwise_cons.2 ⟨fun y hy=>?_,h⟩;rcases List.mem_cons.1 hy with e|hy
    ·rw[e];exact U
    ·exact np U (av.1 y hy)
   ·rename_i d U
    refine List.pairwise_cons.2 ⟨fun y hy=>?_,ih av.2⟩;rcases qA hy with e|hy
    ·rw[e]
     refine Classical.byContradiction (fun j=>d ?_);exact lS j U
    ·exact av.1 y hy
theorem sg{l:List (aH×β)}(h:dc l)(p:aH):dc (d_ l p):=List.Pairwise.filter _ h
theorem qz{l:List (aH×β)}{p:aH}{x:aH×β}(h:x∈d_ l p):x∈l∧x.1≠p:=by
 have:=List.mem_filter.1 h;exact⟨this.1,by simpa using this.2⟩
theorem ya{α:Type}{R:α→α→Prop}(k:∀x,¬R x x)(po:∀x y,R x y→¬R y x):∀{a b:List α},a.Pairwise R→b.Pairwise R→(∀x,x∈a↔x∈b)→a=b
 |[],[],_,_,_=>rfl
 |[],y::b,_,_,h=>by have:=(h y).2 List.mem_cons_self;cases this
 |x::a,[],_,_,h=>by have:=(h x).1 List.mem_cons_self;cases this
 |x::a,y::b,j,aw,h=>by
  rw[List.pairwise_cons]at j aw
  have e:x=y:=by
   rcases List.mem_cons.1 ((h x).1 List.mem_cons_self)with e|d
   ·exact e
   ·rcases List.mem_cons.1 ((h y).2 List.mem_cons_self)with e|U
    ·exact e.symm
    ·exact absurd (j.1 _ U) (po _ _ (aw.1 _ d))
  subst e;congr 1;refine ya k po j.2 aw.2 (fun z=>⟨fun i=>?_,fun i=>?_⟩)
  ·rcases List.mem_cons.1 ((h z).1 (List.mem_cons_of_mem _ i))with e|d
   ·subst e;exact absurd (j.1 _ i) (k _)
   ·exact d
  ·rcases List.mem_cons.1 ((h z).2 (List.mem_cons_of_mem _ i))with e|d
   ·subst e;exact absurd (aw.1 _ i) (k _)
   ·exact d
theorem sh{a b:List (aH×β)}(j:dc a)(aw:dc b)(h:∀q,aL a q=aL b q):a=b:=
 ya (R:=fun x y:aH×β=>blt x.1 y.1) (fun x=>mF _) (fun x y=>oz) j aw (fun x=>by
  have i:=h x.1;constructor
  ·intro d
   have U:=l3 j.nodup (show(x.1,x.2)∈a from d);rw[i]at U;exact E.o1 U
  ·intro d
   have U:=l3 aw.nodup (show(x.1,x.2)∈b from d);rw[←i]at U;exact E.o1 U)
theorem nT{α:Type}[DecidableEq α]:∀{a b:List α},a.Nodup→(∀k∈a,k∈b)→a.length≤b.length
 |[],b,_,_=>Nat.zero_le _
 |x::a,b,aA,ao=>by
  rw[List.nodup_cons]at aA;have h:=nT (b:=b.erase x) aA.2 (fun k d=>(List.mem_erase_of_ne (fun e=>aA.1 (by rw[←e];exact d))).2 (ao k (List.mem_cons_of_mem _ d)));have i:=ao x List.mem_cons_self;rw[List.length_erase_of_mem i]at h;have:=List.length_pos_of_mem i;simp only[List.length_cons];omega
theorem sH{a b:List (aH×β)}(j:(a.map (·.1)).Nodup)(aw:(b.map (·.1)).Nodup)(h:∀q,aL a q=aL b q):a.length=b.length:=by
 have i:=nT j (fun k d=>by rw[←gP,←h,gP];exact d);have U:=nT aw (fun k d=>by rw[←gP,h,gP];exact d);rw[List.length_map,List.length_map]at i U;omega
theorem wJ(l:List (aH×β))(p:aH)(i:β):(dZ l p i).length≤l.length+1:=by
 induction l with
 |nil=>simp[dZ]
 |cons x l ih=>unfold dZ;split<;>(try split)<;>simp<;>omega
theorem Dz{l:List (aH×β)}{p:aH}{i:β}{k:Nat}(o:k<l.length)(n:∀j (h:j<l.length),j<k→blt l[j].1 p)(U:l[k].1=p):dZ l p i=l.set k (p,i):=by
 induction l generalizing k with
 |nil=>simp at o
 |cons x l ih=>
  cases k with
  |zero=>simp only[List.getElem_cons_zero]at U;rw[dZ,if_pos U];rfl
  |succ k=>
   have d:=n 0 (by simp) (by omega);simp only[List.getElem_cons_zero]at d;rw[dZ,if_neg (mG d),if_neg (oz d),List.set_cons_succ];congr 1;exact ih (by simpa using o) (fun j h q=>by have:=n (j+1) (by simp;omega) (by omega);simpa using this) (by simpa using U)
theorem sj{l:List (aH×β)}{p:aH}{i:β}{k:Nat}(o:k≤l.length)(n:∀j (h:j<l.length),j<k→blt l[j].1 p)(U:∀h:k<l.length,blt p l[k].1):dZ l p i=l.take k++(p,i)::l.drop k:=by
 induction l generalizing k with
 |nil=>simp[dZ]
 |cons x l ih=>
  cases k with
  |zero=>
   have d:=U (by simp);simp only[List.getElem_cons_zero]at d
   rw[dZ,if_neg (fun e=>mG d e.symm),if_pos d];rfl
  |succ k=>
   have d:=n 0 (by simp) (by omega);simp only[List.getElem_cons_zero]at d;rw[dZ,if_neg (mG d),if_neg (oz d),List.take_succ_cons,List.drop_succ_cons,List.cons_append];congr 1;exact ih (by simpa using o) (fun j h q=>by have:=n (j+1) (by simp;omega) (by omega);simpa using this) (fun h=>by have:=U (by simp;omega);simpa using this)
end
def _root_.Go.Proofs.YtfjmpninmdjcaaaGreatDoor.ey.cY.p(x:cY):cY:={x with cM:=cO}
abbrev dP:=List (aH×cX)
abbrev ke:=List (aH×List cA)
abbrev jJ:=List (aH×List UInt8)
structure dU where
 al:List UInt8
 b5:dP
 dJ:ke
 q:cY
 gB:jJ
def bN(l:List cw):dP:=l.map (fun x=>(x.n,x.i))
def cm(l:List e5):ke:=l.map (fun x=>(x.n,x.l))
def cl(l:List bA):jJ:=l.map (fun x=>(x.k.1,x.d))
def _root_.Go.Proofs.YtfjmpninmdjcaaaGreatDoor.ey.c2.m(s:c2):dU:=⟨s.al,bN s.bb,cm s.bW,s.q.p,cl s.el⟩
def dK(l:dP)(m:bF):dP:=if m.w=bz then d_ l m.n else dZ l m.n m.w
def hX(l:List cA):List cA:=l.drop (l.length-100)
def hl(l:ke)(m:bF):ke:=if m.w=bz then d_ l m.n else dZ l m.n (hX ((aL l m.n).getD []++[⟨m.J,m.w,m.y⟩]))
def gA(l:jJ)(el:List bA):jJ:=el.foldl (fun l x=>dZ l x.k.1 x.d) l
def dU.ap(s:dU)(t:b0):dU:=⟨if t.bE=true then t.al else s.al,t.ml.foldl dK s.b5,t.ml.foldl hl s.dJ,if t.ao=true then(if t.q.k=0 then hN else t.q.p)else s.q,gA s.gB t.el⟩
def jr:dU:=⟨[],[],[],hN,[]⟩
def hG(l:dP)(n:aH):cX:=(aL l n).getD bz
def gQ(l:dP)(pre:List bF)(m:bF):Int:=if c8 m.n≠0 then 7 else if m.n∈pre.map (·.n)then 18 else if hG l m.n≠m.J then 21 else if m.w=m.J then 26 else 0
def h0(l:dP):List bF→List bF→Int
 |_,[]=>0
 |pre,m::r=>if gQ l pre m≠0 then gQ l pre m else h0 l (pre++[m]) r
def hI(u:dP)(m:bF):Bool:=decide (m.J=bz∧m.w≠bz)&&(u.map (·.1)).any (fun x=>decide (x≠m.n)&&i_ m.n x)
def nC(u:dP)(l:List bF):Int:=if l.any (hI u)=true then 13 else 0
def ft(l:dP)(ml:List bF):Int:=if h0 l [] ml≠0 then h0 l [] ml else if 200<(ml.foldl dK l).length then 4 else nC (ml.foldl dK l) ml
def ie(l:jJ)(el:List bA):Int:=if ic el≠0 then ic el else if 500<(gA l el).length then 4 else 0
def fr(t:b0):Int:=if t.bE=true∧t.al≠[]then c8 t.al else 0
def gj(t:b0):Int:=if t.ao=true∧t.q.k≠0 then gH t.q else 0
def eC(t:b0):Int:=if t.bE=false∧t.ao=false∧t.ml=[]∧t.el=[]then 1 else 0
def eE(s:dU)(t:b0):Int:=if eC t≠0 then eC t else if fr t≠0 then fr t else if ft s.b5 t.ml≠0 then ft s.b5 t.ml else if gj t≠0 then gj t else ie s.gB t.el
structure dU.Ok (s:dU):Prop where
 e9:dc s.b5
 Fy:∀x∈s.b5,x.2≠bz
 cK:s.dJ.map (·.1)=s.b5.map (·.1)
 sy:dc s.gB
 g_:s.b5.length≤200
 iM:s.gB.length≤500
 bb:∀x∈s.b5,x.1.length≤60
 bW:∀x∈s.dJ,x.2.length≤100
 md:∀x∈s.gB,x.2.length≤65536
 iT:s.q.a6.length≤100
theorem rl:jr.Ok:=⟨dc.nil,(fun x h=>by cases h),rfl,dc.nil,by simp[jr],by simp[jr],(fun x h=>by cases h),(fun x h=>by cases h),(fun x h=>by cases h),by simp[jr,hN]⟩
theorem dU.Ok.c9{s:dU}(h:s.Ok):dc s.dJ:=by
 have d:=h.e9.qT;rw[←h.cK]at d;unfold jL at d;rw[List.pairwise_map]at d;exact d
theorem o2{l:dP}(h:dc l)(m:bF)(q:aH):aL (dK l m) q=if q=m.n then(if m.w=bz then none else some m.w)else aL l q:=by
 unfold dK;split
 ·rw[jg]
 ·rw[o0 _ _ _ _ h]
theorem qm{l:dP}(h:dc l)(m:bF):dc (dK l m):=by
 unfold dK;split
 ·exact sg h _
 ·exact nF h _ _
theorem Dx{l:ke}(h:dc l)(m:bF):dc (hl l m):=by
 unfold hl;split
 ·exact sg h _
 ·exact nF h _ _
theorem kr:∀{ml:List bF} {l:dP},dc l→dc (ml.foldl dK l)
 |[],_,h=>h
 |m::ml,l,h=>kr (ml:=ml) (qm h m)
theorem ql:∀{ml:List bF} {l:ke},dc l→dc (ml.foldl hl l)
 |[],_,h=>h
 |m::ml,l,h=>ql (ml:=ml) (Dx h m)
theorem qk:∀{el:List bA} {l:jJ},dc l→dc (gA l el)
 |[],_,h=>h
 |m::el,l,h=>qk (el:=el) (nF h _ _)
theorem wX{β γ:Type}:∀{l:List (aH×β)} {k:List (aH×γ)} (p:aH) (b:β) (c:γ),l.map (·.1)=k.map (·.1)→(dZ l p b).map (·.1)=(dZ k p c).map (·.1)
 |[],[],p,b,c,_=>rfl
 |x::l,[],p,b,c,h=>by simp at h
 |[],y::k,p,b,c,h=>by simp at h
 |x::l,y::k,p,b,c,h=>by
  simp only[List.map_cons,List.cons.injEq]at h;have ih:=wX p b c h.2;unfold dZ;rw[h.1];split
  ·simp[h.2]
  ·split
   ·simp[h.1,h.2]
   ·simp[h.1,ih]
theorem wW{β γ:Type}:∀{l:List (aH×β)} {k:List (aH×γ)} (p:aH),l.map (·.1)=k.map (·.1)→(d_ l p).map (·.1)=(d_ k p).map (·.1)
 |[],[],p,_=>rfl
 |x::l,[],p,h=>by simp at h
 |[],y::k,p,h=>by simp at h
 |x::l,y::k,p,h=>by
  simp only[List.map_cons,List.cons.injEq]at h;have ih:=wW p h.2;unfold d_ at ih⊢;by_cases d:y.1=p
  ·rw[List.filter_cons_of_neg (by simp[h.1,d]),List.filter_cons_of_neg (by simp[d]),ih]
  ·rw[List.filter_cons_of_pos (by simp[h.1,d]),List.filter_cons_of_pos (by simp[d]),List.map_cons,List.map_cons,h.1,ih]
theorem qs:∀{ml:List bF} {l:ke} {k:dP},l.map (·.1)=k.map (·.1)→(ml.foldl hl l).map (·.1)=(ml.foldl dK k).map (·.1)
 |[],_,_,h=>h
 |m::ml,l,k,h=>by
  refine qs (ml:=ml) (l:=hl l m) (k:=dK k m) ?_;unfold hl dK;split
  ·exact wW _ h
  ·exact wX _ _ _ h
theorem E3{l:dP}{m:bF}{x:aH×cX}(h:x∈dK l m):x∈l∨(x=(m.n,m.w)∧m.w≠bz):=by
 unfold dK at h;split at h
 ·exact .inl (qz h).1
 ·rename_i d
  rcases qA h with e|h
  ·exact .inr ⟨e,d⟩
  ·exact .inl h
theorem qH:∀{ml:List bF} {l:dP} {x:aH×cX},x∈ml.foldl dK l→x∈l∨∃m∈ml,x=(m.n,m.w)∧m.w≠bz
 |[],_,_,h=> .inl h
 |m::ml,l,x,h=>by
  rcases qH (ml:=ml) (l:=dK l m) h with h|⟨y,hy,h⟩
  ·rcases E3 h with h|h
   ·exact .inl h
   ·exact .inr ⟨m,List.mem_cons_self,h⟩
  ·exact .inr ⟨y,List.mem_cons_of_mem _ hy,h⟩
theorem qt(l:List cA):(hX l).length≤100:=by unfold hX;rw[List.length_drop];omega
theorem sO:∀{ml:List bF} {l:ke},(∀x∈l,x.2.length≤100)→∀x∈ml.foldl hl l,x.2.length≤100
 |[],_,h=>h
 |m::ml,l,h=>by
  refine sO (ml:=ml) (l:=hl l m) (fun x d=>?_);unfold hl at d;split at d
  ·exact h x (qz d).1
  ·rcases qA d with e|d
   ·rw[e];exact qt _
   ·exact h x d
theorem uk:∀{el:List bA} {l:jJ} {x:aH×List UInt8},x∈gA l el→x∈l∨∃m∈el,x=(m.k.1,m.d)
 |[],_,_,h=> .inl h
 |m::el,l,x,h=>by
  rcases uk (el:=el) (l:=dZ l m.k.1 m.d) h with h|⟨y,hy,h⟩
  ·rcases qA h with h|h
   ·exact .inr ⟨m,List.mem_cons_self,h⟩
   ·exact .inl h
  ·exact .inr ⟨y,List.mem_cons_of_mem _ hy,h⟩
theorem nR:∀{ml:List bF} {l:dP} {pre:List bF},h0 l pre ml=0→∀m∈ml,c8 m.n=0
 |[],_,_,_,m,h=>by cases h
 |x::ml,l,pre,h,m,hm=>by
  rw[h0]at h;by_cases d:gQ l pre x≠0
  ·rw[if_pos d]at h;exact absurd h d
  ·rw[if_neg d]at h
   rcases List.mem_cons.1 hm with rfl|hm
   ·unfold gQ at d
    refine Classical.byContradiction (fun U=>d ?_);rw[if_pos U];decide
   ·exact nR h m hm
theorem oZ:∀{el:List bA},ic el=0→∀y∈el,gC y=0
 |[],_,y,h=>by cases h
 |x::el,h,y,hy=>by
  rw[ic]at h;by_cases d:gC x≠0
  ·rw[if_pos d]at h;exact absurd h d
  ·rw[if_neg d]at h
   rcases List.mem_cons.1 hy with rfl|hy
   ·simpa using d
   ·exact oZ h y hy
theorem GZ{x:cY}(h:gH x=0):x.a6.length≤100:=by
 unfold gH at h;split at h
 ·cases h
 split at h
 ·rename_i d U;cases h
 split at h
 ·cases h
 split at h
 ·cases h
 ·omega
structure zL (s:dU) (t:b0):Prop where
 no:eC t=0
 al:fr t=0
 eL:h0 s.b5 [] t.ml=0
 g_:(t.ml.foldl dK s.b5).length≤200
 Dv:nC (t.ml.foldl dK s.b5) t.ml=0
 h5:gj t=0
 gB:ic t.el=0
 iM:(gA s.gB t.el).length≤500
theorem p0{s:dU}{t:b0}(h:eE s t=0):zL s t:=by
 unfold eE at h;split at h
 ·rename_i i;exact absurd h i
 rename_i i;split at h
 ·rename_i U;exact absurd h U
 rename_i U;split at h
 ·rename_i j;exact absurd h j
 rename_i j;split at h
 ·rename_i k;exact absurd h k
 rename_i k;have d:ft s.b5 t.ml=0:=by simpa using j
 unfold ft at d;split at d
 ·rename_i n;exact absurd d n
 rename_i n;split at d
 ·cases d
 rename_i q;unfold ie at h;split at h
 ·rename_i o;exact absurd h o
 rename_i o;split at h
 ·cases h
 rename_i r;exact⟨by simpa using i,by simpa using U,by simpa using n,by omega,d,by simpa using k,by simpa using o,by omega⟩
theorem dU.Ok.ap{s:dU}{t:b0}(h:s.Ok)(av:eE s t=0):(s.ap t).Ok:=by
 have c:=p0 av;refine⟨kr h.e9,fun x i=>?_,qs h.cK,qk h.sy,c.g_,c.iM,fun x i=>?_,sO h.bW,fun x i=>?_,?_⟩
 ·rcases qH i with i|⟨m,_,e,d⟩
  ·exact h.Fy x i
  ·rw[e];exact d
 ·rcases qH i with i|⟨m,hm,e,d⟩
  ·exact h.bb x i
  ·rw[e];exact((mJ m.n).1 (nR c.eL m hm)).1
 ·rcases uk i with i|⟨m,hm,e⟩
  ·exact h.md x i
  ·rw[e]
   have d:=oZ c.gB m hm;unfold gC at d;split at d
   ·cases d
   ·split at d
    ·cases d
    ·show m.d.length≤65536;omega
 ·show(if t.ao=true then(if t.q.k=0 then hN else t.q.p)else s.q).a6.length≤100
  by_cases d:t.ao=true
  ·rw[if_pos d]
   by_cases U:t.q.k=0
   ·rw[if_pos U];simp[hN]
   ·rw[if_neg U]
    have j:=c.h5;unfold gj at j;rw[if_pos ⟨d,U⟩]at j;exact GZ j
  ·rw[if_neg d];exact h.iT
theorem sJ(m:List (aH×cX))(x:bF)(q:aH):aL (j2 m x) q=if q=x.n then(if x.w=bz then none else some x.w)else aL m q:=by
 unfold j2;split
 ·rw[jg]
 ·rw[kU]
theorem xk:∀(l:List cw),((bN l).map (·.1)).Nodup→∀q,aL (lD l) q=aL (bN l) q:=by
 have key:∀(k:List cw),((bN k.reverse).map (·.1)).Nodup→∀q,aL (lD k.reverse) q=aL (bN k.reverse) q:=by
  intro k
  induction k with
  |nil=>intro _ q;rfl
  |cons x k ih=>
   intro aA q;rw[List.reverse_cons]at aA⊢;rw[y3,kU];have e:bN (k.reverse++[x])=bN k.reverse++[(x.n,x.i)]:=by simp[bN]
   rw[e]at aA⊢;rw[List.map_append,List.nodup_append]at aA;rw[ru.sK,ih aA.1];by_cases d:q=x.n
   ·subst d
    have:aL (bN k.reverse) x.n=none:=by
     cases i:aL (bN k.reverse) x.n with
     |none=>rfl
     |some z=>exact absurd rfl (aA.2.2 x.n (gP.1 (by rw[i];rfl)) x.n (by simp))
    rw[this];simp
   ·simp[d]
 intro l aA q;have:=key l.reverse (by rwa[List.reverse_reverse]) q;rwa[List.reverse_reverse]at this
theorem kq{α β:Type}{f:β→α→β}{l:List α}{b:β}{j:Nat}(h:j<l.length):(l.take (j+1)).foldl f b=f ((l.take j).foldl f b) l[j]:=by
 rw[List.take_succ_eq_append_getElem h,List.foldl_append];rfl
theorem pL{l:jJ}{el:List bA}{j:Nat}(h:j<el.length):gA l (el.take (j+1))=dZ (gA l (el.take j)) el[j].k.1 el[j].d:=kq h
theorem rG:∀(el:List bA) (l:jJ),(gA l el).length≤l.length+el.length
 |[],l=>Nat.le_refl _
 |x::el,l=>by
  have d:=rG el (dZ l x.k.1 x.d);have U:=wJ l x.k.1 x.d;show(gA (dZ l x.k.1 x.d) el).length≤_;simp only[List.length_cons];omega
theorem uj:∀{el:List bA} {l:jJ},dc l→∀(k:aH),(k∈(gA l el).map (·.1)↔k∈l.map (·.1)∨∃x∈el,x.k.1=k)
 |[],l,_,k=>by simp[gA]
 |x::el,l,h,k=>by
  have ih:=uj (el:=el) (nF h x.k.1 x.d) k;show k∈(gA (dZ l x.k.1 x.d) el).map (·.1)↔_;rw[ih,←gP,←gP,o0 _ _ _ _ h];by_cases d:k=x.k.1
  ·subst d;simp
  ·rw[if_neg d]
   have i:¬x.k.1=k:=fun e=>d e.symm;simp[i]
theorem D3{s el:List bA}(ao:dc (cl s)){m:List (cX×Int)}(aA:(m.map (·.1)).Nodup)(hm:∀k,k∈m.map (·.1)↔(∃x∈s,x.k=k)∨∃x∈el,x.k=k):m.length=(gA (cl s) el).length:=by
 have o:=(qk (el:=el) ao).nodup
 have r:((m.map (·.1)).map (·.1)).Nodup:=by
  rw[List.nodup_iff_pairwise_ne]at aA⊢;rw[List.pairwise_map];exact aA.imp (fun h e=>h (Subtype.ext e))
 have e:∀k,k∈(m.map (·.1)).map (·.1)↔k∈(gA (cl s) el).map (·.1):=by
  intro k;rw[uj ao];constructor
  ·intro h
   obtain⟨i,q,rfl⟩:=List.mem_map.1 h;rcases(hm i).1 q with⟨x,d,e⟩|⟨x,d,e⟩
   ·exact .inl (List.mem_map.2 ⟨(x.k.1,x.d),List.mem_map.2 ⟨x,d,rfl⟩,by rw[e]⟩)
   ·exact .inr ⟨x,d,by rw[e]⟩
  ·rintro(h|⟨x,d,rfl⟩)
   ·obtain⟨y,hy,rfl⟩:=List.mem_map.1 h
    obtain⟨x,d,rfl⟩:=List.mem_map.1 hy;exact List.mem_map.2 ⟨x.k,(hm _).2 (.inl ⟨x,d,rfl⟩),rfl⟩
   ·exact List.mem_map.2 ⟨x.k,(hm _).2 (.inr ⟨x,d,rfl⟩),rfl⟩
 have n:=nT r (fun k j=>(e k).1 j);have U:=nT o (fun k j=>(e k).2 j);rw[List.length_map,List.length_map,List.length_map]at n;rw[List.length_map,List.length_map,List.length_map]at U;omega
theorem sP:∀{ml:List bF} {l:dP} {pre:List bF} {j:Nat} (d:j<ml.length),(∀i (h:i<j),gQ l (pre++ml.take i) (ml[i]'(by omega))=0)→gQ l (pre++ml.take j) ml[j]≠0→h0 l pre ml=gQ l (pre++ml.take j) ml[j]
 |x::ml,l,pre,0,d,_,h=>by
  simp only[List.take_zero,List.append_nil,List.getElem_cons_zero]at h⊢
  rw[h0,if_pos h]
 |x::ml,l,pre,j+1,d,h,U=>by
  have k:=h 0 (by omega);simp only[List.take_zero,List.append_nil,List.getElem_cons_zero]at k;rw[h0,if_neg (by rw[k];decide)];have ih:=sP (ml:=ml) (l:=l) (pre:=pre++[x]) (j:=j) (by simpa using d) (fun i n=>by have:=h (i+1) (by omega);simpa using this) (by simpa using U)
  simpa using ih
theorem sQ:∀{ml:List bF} {l:dP} {pre:List bF},(∀i (h:i<ml.length),gQ l (pre++ml.take i) ml[i]=0)→h0 l pre ml=0
 |[],_,_,_=>rfl
 |x::ml,l,pre,h=>by
  have d:=h 0 (by simp);simp only[List.take_zero,List.append_nil,List.getElem_cons_zero]at d;rw[h0,if_neg (by rw[d];decide)];exact sQ (fun i j=>by have:=h (i+1) (by simp;omega);simpa using this)
theorem E1(l:dP)(pre:List bF)(m:bF):hV [c8 m.n,dj (!(pre.any (fun x=>decide (x.n=m.n)))) 18,dj (decide (hG l m.n=m.J)) 21,dj (decide (¬m.w=m.J)) 26]=gQ l pre m:=by
 unfold gQ
 have e:(pre.any (fun x=>decide (x.n=m.n)))=decide (m.n∈pre.map (·.n)):=by
  rw[Bool.eq_iff_iff];simp
 rw[e];simp only[hV,dj,decide_eq_true_eq,Bool.not_eq_true',decide_eq_false_iff_not];rcases p3 m.n with av|av<;>by_cases U:m.n∈pre.map (·.n)<;>by_cases d:hG l m.n=m.J<;>by_cases i:m.w=m.J<;>simp[av,U,d,i]
theorem wz{s:aH}{l:List aH}(av:c8 s=0)(aA:s∉l):iH s l=if l.any (i_ s)=true then 13 else 0:=by
 have e:base s l=0:=by unfold base;rw[if_neg (by rw[av];decide),if_neg aA]
 unfold iH;rw[e,if_neg (by decide)]
end eY

namespace dz
open E Go.RowKit
set_option maxRecDepth 100000 in
theorem dv:c6 Tryz.prog 57 5 1 1:=⟨Tryz.underlying57,_,_,rfl,rfl,rfl,rfl,rfl⟩
def cj:Nat→UInt64→List UInt8
 |0,_=>[]
 |j+1,x=>UInt8.ofNat (iR x (8*j)).toNat::cj j x
theorem dR:∀(n:Nat) (x:UInt64),(cj n x).length=n
 |0,_=>rfl
 |n+1,x=>by rw[cj,List.length_cons,dR]
theorem l5(k:Nat)(v:Value)(xs:List UInt8)(n:Nat)(x:UInt64)(w0:World)(I:Heap)
 (i:aU k 5 I a1 1 v xs) (aA:n≤8) (aY:xs.length≤1099511627776):
 aC Tryz.prog w0 120 #[v,.int .i64 n,.int .u64 x.toNat] I (fun r L=>∃v2:Value,∃a8:Nat,r=v2∧(aU a8 5 L a1 1 v2 (xs++cj n x))∧(T k I.size a8)∧V (aE [k]) I L):=by
 refine aC.aK [v,.int .i64 n,.int .u64 x.toNat] Tryz.func120 ?_;intro aL aI;have C:V (aE [k]) I I:=V.refl _ _;have M:=T.refl k I.size;have ad:=i.le;refine G.L (fun an=>?_);refine o.aj ?_;refine an (G.t1 (fun ar=>G.L (fun ay=>?_)));refine o.W ?_;refine o.v1 fE ?_;refine o.aj ?_;refine ay (G.aB (fun _ az _=>?_))
 refine G.bd (fun(aJ:(Nat)×(Value)×(Nat)×(List UInt8))=>match aJ with|(j,A,t,ys)=>[(0,A),(2,.int .u64 x.toNat),(7,.int .i64 ((j:Int)-1))])
  (fun(j,A,t,ys) (H:Heap)=>(j≤n)∧(aU t 5 H a1 1 A ys)∧(ys++cj j x=xs++cj n x)∧(T k I.size (t))∧V (aE [k]) I H)
  (fun(j,A,t,ys)=>j) (n,v,k,xs) ⟨rfl,rfl,rfl,trivial⟩ ?_ ?_
 ·
  exact⟨(by omega),i,rfl,T.refl _ _,V.refl _ _⟩
 rintro⟨j,A,t,ys⟩ aB aF aK aH P;obtain⟨aX,i,E,ac,d⟩:=aF;have Q:T k I.size (t):=T.L (M) ac C.size;replace C:=C.aJ d (ag.J (aq.r M));have aN:=d.size;have ad:=i.le;have O:=ac;have aZ:ys.length+j=xs.length+n:=by have:=congrArg List.length E;simpa[dR]using this
 refine G.t2 (fun R S=>G.L (fun W=>?_));refine o.W ?_;refine o.v1 dH (o.nil (W ?_));refine aT (fun X=>?_) (fun X=>?_)
 ·
  obtain⟨j,rfl⟩:∃q,j=q+1:=⟨j-1,by omega⟩;refine G.skip (R (G.t1 (fun Z=>G.aB (fun aa _ _=>G.region ?_))));refine o.ax 3 ?_;refine o.v1 (Y.jz rfl rfl rfl (by omega)) ?_;refine o.v1 (Y.ph (8*j) rfl rfl rfl (by first|rfl|omega) (by omega)) ?_;refine o.v1 (Y.oF rfl gT jF rfl) ?_;refine o.aO (cU _ ([UInt8.ofNat (iR x (8*j)).toNat]) dv eB fH (rfl)) fun aO ap ab=>?_;obtain⟨ai,F,aM,aj⟩:=ab;have aW:ap.size=aB.size+1:=by rw[aj];simp
  replace i:=i.M F;replace d:=d.bc F;have aQ:=F.size;refine o.aO (dO i ai.rd dv (by first|omega|(simp;omega)) (by first|omega|(simp;omega))) fun ae aR af=>?_;obtain⟨au,N,K,B⟩:=af;replace K:T (t) ap.size au:=K;replace B:=B.md;have ah:T k I.size au:=T.L (O) K d.size;replace d:=d.aJ B (ag.J (aq.r O));have aS:=B.size;have aV:=N.le;refine o.aj ?_;refine aa (Z (G.region ?_));refine o.W ?_;refine o.v1 fE ?_;refine o.aj ?_;refine aP.sub (aH (j,ae,au,ys++[UInt8.ofNat (iR x (8*j)).toNat]) _ ?_ ?_) ⟨rfl,(aD (by omega)),(aD (by omega)),trivial⟩
  ·exact⟨(by omega),N,by rw[←E,List.append_assoc];rfl,ah,d⟩
  ·first|omega|(simp only;omega)|(simp;omega)
 ·
  obtain rfl:j=0:=by omega
  rw[cj,List.append_nil]at E;subst E;refine G.exit (S (P (az ?_)));refine ar (G.L (fun am=>?_));refine o.aR 2 ?_;refine am ?_;refine G.ret (aI ?_);exact⟨A,t,rfl,i,Q,C⟩
end dz

namespace fF
open E Go.RowKit eJ eN eW e3 ey eX eY dz
set_option maxRecDepth 100000 in
theorem dv:c6 Tryz.prog 57 5 1 1:=⟨Tryz.underlying57,_,_,rfl,rfl,rfl,rfl,rfl⟩
def fU(n:Nat)(s:List UInt8):List UInt8:=cj n (UInt64.ofNat s.length)++s
def iN(m:bF):List UInt8:=fU 1 m.n++(m.J.1++(m.w.1++fU 2 m.y))
def kb(t:fA):List UInt8:=cj 1 (UInt64.ofNat t.d.toNat)++t.i.1
def ka(q:cY):List UInt8:=cj 1 (UInt64.ofNat q.k.toNat)++(if q.k=0 then[]else fU 1 q.br++(q.bX.1++(q.bo.1++(cj 2 (UInt64.ofNat q.a6.length)++(q.a6.flatMap kb++(cj 2 (UInt64.ofNat q.dn.toNat)++(cj 2 (UInt64.ofNat q.md.toNat)++cj 1 (if q.st=true then 1 else 0))))))))
def iL(m:bA):List UInt8:=m.k.1++fU 4 m.d
def qj(t:b0):UInt64:=(if t.bE=true then 1 else 0)|||(if t.ao=true then 2 else 0)
def fi(t:b0):List UInt8:=cj 1 (qj t)++((if t.bE=true then fU 1 t.al else[])++(cj 2 (UInt64.ofNat t.ml.length)++(t.ml.flatMap iN++((if t.ao=true then ka t.q else[])++(cj 2 (UInt64.ofNat t.el.length)++t.el.flatMap iL)))))
theorem hc(n:Nat)(s:List UInt8):(fU n s).length=n+s.length:=by unfold fU;rw[List.length_append,dR]
theorem nQ(m:bF):(iN m).length=67+m.n.length+m.y.length:=by
 unfold iN;simp only[List.length_append,hc,m.J.2,m.w.2];omega
theorem q8(t:fA):(kb t).length=33:=by unfold kb;rw[List.length_append,dR,t.i.2]
theorem xp(m:bA):(iL m).length=36+m.d.length:=by unfold iL;rw[List.length_append,hc,m.k.2];omega
theorem nE{α:Type}{f:α→List UInt8}{l:List α}{j:Nat}(h:j<l.length):(l.take (j+1)).flatMap f=(l.take j).flatMap f++f l[j]:=by
 rw[List.take_succ_eq_append_getElem h,List.flatMap_append];simp
theorem mP{α:Type}{f:α→List UInt8}{n:Nat}:∀{l:List α},(∀x∈l,(f x).length≤n)→(l.flatMap f).length≤n*l.length
 |[],_=>by simp
 |x::l,h=>by
  rw[List.flatMap_cons,List.length_append,List.length_cons,Nat.mul_succ];have d:=h x List.mem_cons_self;have U:=mP (l:=l) (fun y hy=>h y (List.mem_cons_of_mem _ hy));omega
structure oa (x:cY):Prop where
 k:0≤x.k∧x.k≤255
 br:x.br.length≤255
 a6:x.a6.length≤65535
 dn:0≤x.dn∧x.dn≤65535
 md:0≤x.md∧x.md≤65535
 dd:∀t∈x.a6,0≤t.d∧t.d≤255
structure k_ (t:b0):Prop where
 ml:t.ml.length≤65535
 el:t.el.length≤65535
 al:t.bE=true→t.al.length≤255
 iM:∀m∈t.ml,m.n.length≤255∧m.y.length≤65535
 md:∀m∈t.el,m.d.length≤65536
 kR:t.ao=true→0≤t.q.k∧t.q.k≤255
 h5:t.ao=true→t.q.k≠0→oa t.q
theorem tA{q:cY}(h:q.k=0):ka q=cj 1 (UInt64.ofNat q.k.toNat):=by unfold ka;rw[if_pos h,List.append_nil]
theorem tB{q:cY}(h:q.k≠0):ka q=cj 1 (UInt64.ofNat q.k.toNat)++(fU 1 q.br++(q.bX.1++(q.bo.1++(cj 2 (UInt64.ofNat q.a6.length)++(q.a6.flatMap kb++(cj 2 (UInt64.ofNat q.dn.toNat)++(cj 2 (UInt64.ofNat q.md.toNat)++cj 1 (if q.st=true then 1 else 0)))))))):=by unfold ka;rw[if_neg h]
theorem Hj{q:cY}(h:oa q):(ka q).length≤3000000:=by
 have d:=mP (f:=kb) (n:=33) (l:=q.a6) (fun x _=>by rw[q8];omega);have U:=h.a6;have i:=h.br;unfold ka;split<;>simp only[List.length_append,dR,hc,q.bX.2,q.bo.2,List.length_nil]<;>omega
theorem oX (w0:World)(I:Heap)
 :
 aC Tryz.prog w0 183 #[.int .i64 1] I (fun r d=>r= .int .i64 255∧ak I d):=by
 refine aC.aK [.int .i64 1] Tryz.func183 ?_;intro q n;have k:ak I I:=V.refl _ _;refine G.L (fun i=>?_);refine o.aj ?_;refine i (G.L (fun j=>?_));refine o.W ?_;refine o.v1 (Y.cast (v2:= .int .i64 8) (Y.jz rfl rfl rfl (by decide)) (rfl)) ?_;refine o.v1 (Y.cast (v2:= .int .i64 256) (Y.k1 (8) rfl rfl rfl rfl (by decide) (by decide)) (rfl)) ?_;refine o.v1 (Y.q7 rfl rfl rfl (by decide)) ?_;refine o.aj ?_;refine j ?_;refine G.ret (n ?_);exact⟨rfl,k⟩
theorem xa (w0:World)(I:Heap)
 :
 aC Tryz.prog w0 183 #[.int .i64 2] I (fun r d=>r= .int .i64 65535∧ak I d):=by
 refine aC.aK [.int .i64 2] Tryz.func183 ?_;intro q n;have k:ak I I:=V.refl _ _;refine G.L (fun i=>?_);refine o.aj ?_;refine i (G.L (fun j=>?_));refine o.W ?_;refine o.v1 (Y.cast (v2:= .int .i64 16) (Y.jz rfl rfl rfl (by decide)) (rfl)) ?_;refine o.v1 (Y.cast (v2:= .int .i64 65536) (Y.k1 (16) rfl rfl rfl rfl (by decide) (by decide)) (rfl)) ?_;refine o.v1 (Y.q7 rfl rfl rfl (by decide)) ?_;refine o.aj ?_;refine j ?_;refine G.ret (n ?_);exact⟨rfl,k⟩
theorem EA (w0:World)(I:Heap)
 :
 aC Tryz.prog w0 183 #[.int .i64 4] I (fun r d=>r= .int .i64 4294967295∧ak I d):=by
 refine aC.aK [.int .i64 4] Tryz.func183 ?_;intro q n;have k:ak I I:=V.refl _ _;refine G.L (fun i=>?_);refine o.aj ?_;refine i (G.L (fun j=>?_));refine o.W ?_;refine o.v1 (Y.cast (v2:= .int .i64 32) (Y.jz rfl rfl rfl (by decide)) (rfl)) ?_;refine o.v1 (Y.cast (v2:= .int .i64 4294967296) (Y.k1 (32) rfl rfl rfl rfl (by decide) (by decide)) (rfl)) ?_;refine o.v1 (Y.q7 rfl rfl rfl (by decide)) ?_;refine o.aj ?_;refine j ?_;refine G.ret (n ?_);exact⟨rfl,k⟩
theorem tL(b:Bool)(n:UInt64)(w0:World)(I:Heap)
 :
 aC Tryz.prog w0 100 #[.bool b,.int .u64 n.toNat] I (fun r j=>r= .int .u64 (if b=true then n else 0:UInt64).toNat∧ak I j):=by
 refine aC.aK [.bool b,.int .u64 n.toNat] Tryz.func100 ?_;intro B i;have d:ak I I:=V.refl _ _;refine G.L (fun k=>?_);refine o.aj ?_;refine k (G.t2 (fun q ac=>G.L (fun ad=>?_)));refine o.W (o.nil (ad ?_));refine cI (fun A=>?_) (fun A=>?_)
 ·
  refine G.L (fun t=>?_);refine o.aR 2 ?_;refine t ?_;refine G.ret (ac (i ?_));exact⟨by first|(rw[if_pos (by assumption)])|(rw[if_neg (by simp_all)];rfl),d⟩
 ·
  refine G.skip (q (G.L (fun x=>?_)));refine o.aj ?_;refine x ?_;refine G.ret (i ?_);exact⟨by first|(rw[if_pos (by assumption)])|(rw[if_neg (by simp_all)];rfl),d⟩
theorem j_(v:Value)(e:Int)(w0:World)(I:Heap)
 :
 aC Tryz.prog w0 93 #[v,.bool true,.int .i64 e] I (fun r d=>r= .tuple #[]∧ak I d):=by
 refine aC.enter (args:=[v,.bool true,.int .i64 e]) Tryz.func93 rfl rfl rfl ?_;intro n k;have j:ak I I:=V.refl _ _;refine G.L (fun i=>?_);refine o.W ?_;refine o.v1 eI (o.nil (i ?_));refine dB ?_;refine G.skip ?_;refine k .normal (.inl rfl) _ _ _ (iQ rfl) ?_;exact⟨rfl,j⟩
theorem k9(t k:Nat)(s:aM)(xs:List UInt8)(n:Nat)(x:UInt64)(w0:World)(I:Heap)
 (i:Var 223 I t [s.v,.int .i64 0,.int .i64 0]) (B:aU k 5 I a1 1 s.v xs) (al:af (t+1) k) (aA:n≤8) (bm:xs.length≤1099511627776):
 aC Tryz.prog w0 99 #[.pointer (some ⟨t,0,none⟩),.int .i64 n,.int .u64 x.toNat] I (fun r R=>∃s2:aM,∃a8:Nat,r= .tuple #[]∧(Var 223 R t [s2.v,.int .i64 0,.int .i64 0])∧(aU a8 5 R a1 1 s2.v (xs++cj n x))∧(T k I.size a8)∧(af (t+1) a8)∧V (aE [(t+1),k]) I R):=by
 refine aC.enter (args:=[.pointer (some ⟨t,0,none⟩),.int .i64 n,.int .u64 x.toNat]) Tryz.func99 rfl rfl rfl ?_;intro bb a7;have P:V (aE [(t+1),k]) I I:=V.refl _ _;have aV:=T.refl (t+1) I.size;have bk:=i.lt;have ad:=T.refl k I.size;have X:=B.le;refine G.L (fun ai=>?_);refine o.W ?_;refine o.v1 (Y.cast (v2:= .int .i64 ((n:Int)-1)) fE (rfl)) ?_;refine o.aj ?_;refine ai (G.aB (fun _ aj _=>?_))
 refine G.bd (fun(ba:(Nat)×(aM)×(Nat)×(List UInt8))=>match ba with|(j,s1,A,ys)=>[(0,.pointer (some ⟨t,0,none⟩)),(2,.int .u64 x.toNat),(6,.int .i64 ((j:Int)-1))])
  (fun(j,s1,A,ys) (H:Heap)=>(j≤n)∧(Var 223 H t [s1.v,.int .i64 0,.int .i64 0])∧(aU A 5 H a1 1 s1.v ys)∧(ys++cj j x=xs++cj n x)∧(T k I.size A)∧(af (t+1) A)∧V (aE [(t+1),k]) I H)
  (fun(j,s1,A,ys)=>j) (n,s,k,xs) ⟨rfl,rfl,rfl,trivial⟩ ?_ ?_
 ·
  exact⟨(by omega),i,B,rfl,T.refl _ _,al,V.refl _ _⟩
 rintro⟨j,s1,A,ys⟩ C an oc ar ay;obtain⟨bl,i,B,Q,Z,aW,ac⟩:=an;have az:T k I.size A:=T.L (ad) Z P.size;replace P:=P.aJ ac (ag.cons (aq.r aV) (ag.J (aq.r ad)));have bh:=ac.size;have X:=B.le;have ap:=aW;have aS:=T.refl (t+1) I.size;have S:=Z;have bn:ys.length+j=xs.length+n:=by have:=congrArg List.length Q;simpa[dR]using this
 refine G.t2 (fun aB aF=>G.L (fun aH=>?_));refine o.W ?_;refine o.v1 dH (o.nil (aH ?_));refine aT (fun aI=>?_) (fun aI=>?_)
 ·
  obtain⟨j,rfl⟩:∃q,j=q+1:=⟨j-1,by omega⟩;refine G.skip (aB (G.t1 (fun aJ=>G.aB (fun aK _ _=>?_))));refine dC (fun F=>V (aE [A]) C F) [13,14,15,16] ?_;have d:V (aE [A]) C C:=V.refl _ _;have aL:=T.refl A C.size;refine O.W 0 rfl d ?_;refine O.W 1 rfl d ?_;refine O.bI 2 rfl d ?_;refine O.t1 3 rfl (fun F E=>Y.fieldAddr (i.ab E (ah.J ap)).N rfl mb rfl rfl l_ (by decide) rfl) d ?_;refine O.t1 4 rfl (fun F E=>Y.fieldAddr (i.ab E (ah.J ap)).N rfl k7 rfl rfl da (by decide) rfl) d ?_;refine O.t1 5 rfl (fun F E=>Y.fQ (i.ab E (ah.J ap)).N rfl eA rfl) d ?_;refine O.W 6 rfl d ?_;refine O.W 7 rfl d ?_;refine O.t1 8 rfl (fun F E=>Y.jz rfl rfl rfl (by omega)) d ?_;refine O.t1 9 rfl (fun F E=>Y.ph (8*j) rfl rfl rfl (by first|rfl|omega) (by omega)) d ?_;refine O.t1 10 rfl (fun F E=>Y.oF rfl gT jF rfl) d ?_;refine O.aY 11 ?_;refine ep rfl (cU _ ([UInt8.ofNat (iR x (8*j)).toNat]) dv eB fH (rfl)) (fun bj K aN=>?_);obtain⟨a_,au,bf,aY⟩:=aN;have bc:K.size=C.size+1:=by rw[aY];simp
  have aO:T 0 C.size (C.size+1):=T.new d.size;replace B:=B.M au;replace i:=i.M au;replace ac:=ac.bc au;replace d:=d.bc au;have a0:=au.size;refine O.b3 d (ag.cons (aq.r aL) (ag.J (aq.q aO))) ?_;have d:V (aE [A,(C.size+1)]) K K:=V.refl _ _;have aa:=T.refl A K.size;have aZ:=T.refl (C.size+1) K.size;refine O.aY 12 ?_;refine ep rfl (dO B a_.rd dv (by simp;omega) (by simp;omega)) (fun W bg aQ=>?_);obtain⟨N,B,am,L⟩:=aQ;replace am:T A K.size N:=am;replace L:=L.md;have ab:af (t+1) N:=af.app (ap) i.lt am;have a6:T k I.size N:=T.L (S) am ac.size;have ae:T A K.size N:=T.L (aa) am d.size;replace i:=i.ab L (ah.J ap);replace ac:=ac.aJ L (ag.J (aq.r S));replace d:=d.aJ L (ag.J (aq.r aa));have b2:=L.size;have X:=B.le;obtain⟨aR,rfl⟩:∃s:aM,W=s.v:=⟨cg W,B.bm.symm⟩;refine O.b3 d (ag.cons (aq.r ae) (ag.J (aq.r aZ))) ?_;refine O.aY 13 ?_;refine hg rfl (Y.nilCheck rfl rfl) (.inl rfl) ?_;refine O.aY 14 ?_;refine hg rfl (Y.ai i.N rfl mb rfl l_) (.inl rfl) ?_;refine O.aY 15 ?_;refine hg rfl (Y.ai i.N rfl k7 rfl da) (.inl rfl) ?_;refine O.aY 16 ?_;refine gJ rfl (dh i 0 (_) (rfl) da (by simp) (rfl)) (fun bd aX=>?_);obtain⟨i,M⟩:=aX;replace M:=M.bp;replace B:=B.ab M (ah.J ab.symm);replace ac:=ac.aJ M (ag.J (aq.r aS));have a2:=M.size;refine⟨.inl rfl,?_⟩;refine cD ?_;refine aK (aJ (G.region ?_));refine o.W ?_;refine o.v1 fE ?_;refine o.aj ?_;refine aP.sub (ar (j,aR,N,ys++[UInt8.ofNat (iR x (8*j)).toNat]) _ ?_ ?_) ⟨rfl,(aD (by omega)),(aD (by omega)),trivial⟩
  ·exact⟨(by omega),i,B,by rw[←Q,List.append_assoc];rfl,a6,ab,ac⟩
  ·first|omega|(simp only;omega)|(simp;omega)
 ·
  obtain rfl:j=0:=by omega
  rw[cj,List.append_nil]at Q;subst Q;refine G.exit (aF (ay (aj ?_)));refine a7 .normal (.inl rfl) _ _ _ (iQ rfl) ?_;exact⟨s1,A,rfl,i,B,az,ap,P⟩
theorem py(i k:Nat)(s:aM)(xs:List UInt8)(n:Nat)(t:List UInt8)(w0:World)(I:Heap)
 (d:Var 223 I i [s.v,.int .i64 0,.int .i64 0]) (j:aU k 5 I a1 1 s.v xs) (al:af (i+1) k) (aB:xs.length≤549755813888) (aA:n≤8) (az:t.length≤549755813888):
 aC Tryz.prog w0 101 #[.pointer (some ⟨i,0,none⟩),.int .i64 n,aI t] I (fun r B=>∃s2:aM,∃a8:Nat,r= .tuple #[]∧(Var 223 B i [s2.v,.int .i64 0,.int .i64 0])∧(aU a8 5 B a1 1 s2.v (xs++fU n t))∧(T k I.size a8)∧(af (i+1) a8)∧V (aE [(i+1),k]) I B):=by
 refine aC.enter (args:=[.pointer (some ⟨i,0,none⟩),.int .i64 n,aI t]) Tryz.func101 rfl rfl rfl ?_;intro aa X;have q:V (aE [(i+1),k]) I I:=V.refl _ _;have C:=T.refl (i+1) I.size;have ai:=d.lt;have E:=T.refl k I.size;have L:=j.le;refine G.L (fun O=>?_);refine o.ax 3 ?_;refine o.v1 (fy dN) ?_;refine o.v1 (Y.hx rfl gl gT rfl) ?_;refine aV kL (k9 _ _ _ _ n _ w0 _ d j (al) aA (by omega)) (fun an P Q=>?_);obtain⟨ay,au,rfl,d,j,N,K,F⟩:=Q;have am:T k I.size au:=T.L (E) N q.size;replace q:=q.aJ F (ag.cons (aq.r C) (ag.J (aq.r E)));have ab:=F.size;have L:=j.le;refine o.nil (O (G.region ?_));refine o.ax 3 ?_;refine o.v1 (Y.ai d.N rfl mb rfl l_) ?_;refine o.v1 (Y.ai d.N rfl k7 rfl da) ?_;refine o.v1 (ar d.N eA) ?_;refine o.W ?_;refine o.aO (Z.pN j rfl dv Tryz.underlying9 rfl rfl (by simp[dR];omega)) fun aj ae R=>?_;obtain⟨A,j,ad,x⟩:=R;replace ad:T au P.size A:=ad;replace x:=x.md;have H:af (i+1) A:=af.app (K) d.lt ad;have S:T k I.size A:=T.L (am) ad q.size;replace d:=d.ab x (ah.J K);replace q:=q.aJ x (ag.J (aq.r am));obtain⟨W,rfl⟩:∃s:aM,aj=s.v:=⟨cg aj,j.bm.symm⟩;refine o.bI ?_;refine o.v1 (Y.ai d.N rfl mb rfl l_) ?_;refine o.v1 (Y.ai d.N rfl k7 rfl da) ?_;refine o.s1 (dh d 0 (_) (rfl) da (by simp) (rfl)) fun ap M=>?_;obtain⟨d,ac⟩:=M;replace ac:=ac.bp;replace j:=j.ab ac (ah.J H.symm);replace q:=q.aJ ac (ag.J (aq.r C));refine o.nil ?_;refine X .normal (.inl rfl) _ _ _ (iQ rfl) ?_;exact⟨W,A,rfl,d,by rw[fU,←List.append_assoc];exact j,S,(H),q⟩
theorem n6(j k:Nat)(s:aM)(xs:List UInt8)(i:cX)(w0:World)(I:Heap)
 (d:Var 223 I j [s.v,.int .i64 0,.int .i64 0]) (n:aU k 5 I a1 1 s.v xs) (al:af (j+1) k) (aH:xs.length≤549755813888):
 aC Tryz.prog w0 102 #[.pointer (some ⟨j,0,none⟩),bs i] I (fun r N=>∃s2:aM,∃a8:Nat,r= .tuple #[]∧(Var 223 N j [s2.v,.int .i64 0,.int .i64 0])∧(aU a8 5 N a1 1 s2.v (xs++i.1))∧(T k I.size a8)∧(af (j+1) a8)∧V (aE [(j+1),k]) I N):=by
 refine aC.enter (args:=[.pointer (some ⟨j,0,none⟩),bs i]) Tryz.func102 rfl rfl rfl ?_;intro ai ae;have t:V (aE [(j+1),k]) I I:=V.refl _ _;have ac:=T.refl (j+1) I.size;have ay:=d.lt;have P:=T.refl k I.size;have az:=n.le;have aF:=i.2;refine G.L (fun W=>?_);refine o.aO cr ?_;rintro v3 q ⟨rfl,M,L,aD,X⟩;have aA:q.size=I.size+1:=by rw[X];simp
 replace d:=d.M L;replace n:=n.M L;replace t:=t.bc L;have an:=L.size;replace M:Var 26 q I.size (i.1.map (fun b=>Value.int .u8 b.toNat)):=M;refine o.nil (W ?_);refine dC (fun H=>V (aE [k]) q H) [8,9,10,11] ?_;have ad:V (aE [k]) q q:=V.refl _ _;have au:=T.refl k q.size;refine O.W 0 rfl ad ?_;refine O.W 1 rfl ad ?_;refine O.bI 2 rfl ad ?_;refine O.t1 3 rfl (fun H E=>Y.fieldAddr (d.ab E (ah.J al)).N rfl mb rfl rfl l_ (by decide) rfl) ad ?_;refine O.t1 4 rfl (fun H E=>Y.fieldAddr (d.ab E (ah.J al)).N rfl k7 rfl rfl da (by decide) rfl) ad ?_;refine O.t1 5 rfl (fun H E=>Y.fQ (d.ab E (ah.J al)).N rfl eA rfl) ad ?_;refine O.e (g:=fun v=>v) 6 (by kernel_rfl) rfl (by kernel_rfl) (by kernel_rfl) (by kernel_rfl) (Y.pk (F:=fun c=>c=I.size) (f:=a1) (xs:=i.1) M.N rfl M.lt (i.2) (fun i x h=>⟨by simp[h],rfl⟩) (0) (32) rfl (fun w=> .inl (k8 w)) cL rfl (.inl ⟨rfl,rfl⟩) (.inl ⟨rfl,rfl⟩) (by omega) (by omega) (by decide)) cR rfl rfl ad (fun ar R=>?_);rw[List.drop_zero,List.take_of_length_le (by omega)]at R;refine O.aY 7 ?_;refine ep rfl (dO n R dv (by omega) (by omega)) (fun am aB Z=>?_);obtain⟨C,n,A,B⟩:=Z;replace A:T k q.size C:=A;replace B:=B.md;have aj:af (j+1) C:=af.app (al) d.lt A;have aa:T k I.size C:=T.L (P) A t.size;have ab:T k q.size C:=T.L (au) A ad.size;replace d:=d.ab B (ah.J al);replace t:=t.aJ B (ag.J (aq.r P));replace ad:=ad.aJ B (ag.J (aq.r au));obtain⟨Q,rfl⟩:∃s:aM,am=s.v:=⟨cg am,n.bm.symm⟩;refine O.b3 ad (ag.J (aq.r ab)) ?_;refine O.aY 8 ?_;refine hg rfl (Y.nilCheck rfl rfl) (.inl rfl) ?_;refine O.aY 9 ?_;refine hg rfl (Y.ai d.N rfl mb rfl l_) (.inl rfl) ?_;refine O.aY 10 ?_;refine hg rfl (Y.ai d.N rfl k7 rfl da) (.inl rfl) ?_;refine O.aY 11 ?_;refine gJ rfl (dh d 0 ([Q.v,.int .i64 0,.int .i64 0]) (rfl) da (by simp) (rfl)) (fun ap S=>?_);obtain⟨d,K⟩:=S;replace K:=K.bp;replace n:=n.ab K (ah.J aj.symm);replace t:=t.aJ K (ag.J (aq.r ac));refine⟨.inl rfl,?_⟩;refine cD ?_;refine ae .normal (.inl rfl) _ _ _ (iQ rfl) ?_;exact⟨Q,C,rfl,d,n,aa,(aj),t⟩
theorem H6(i:Nat)(s:aM)(w0:World)(I:Heap)
 (d:Var 223 I i [s.v,.int .i64 0,.int .i64 0]):
 aC Tryz.prog w0 104 #[.pointer (some ⟨i,0,none⟩)] I (fun r k=>r= .tuple #[s.v,.int .i64 0]∧ak I k):=by
 refine aC.aK [.pointer (some ⟨i,0,none⟩)] Tryz.func104 ?_;intro A x;have t:ak I I:=V.refl _ _;refine G.L (fun n=>?_);refine o.aR 2 ?_;refine n (G.t1 (fun q=>G.L (fun ac=>?_)));refine o.ax 2 ?_;refine o.v1 (Y.ai d.N rfl mb rfl l_) ?_;refine o.v1 (Y.ai d.N rfl k7 rfl qX) ?_;refine o.v1 (ar (d.N.drop 2) pI) ?_;refine o.v1 c1 (o.nil (ac ?_));refine aT (fun j=>?_) (fun j=>?_)
 ·
  exact absurd rfl j
 ·
  refine G.skip (q (G.L (fun ad=>?_)));refine o.ax 2 ?_;refine o.v1 (Y.ai d.N rfl mb rfl l_) ?_;refine o.v1 (Y.ai d.N rfl k7 rfl da) ?_;refine o.v1 (ar d.N eA) ?_;refine o.aR 2 ?_;refine ad ?_;refine G.ret (x ?_);exact⟨rfl,t⟩
theorem Ii(C k:Nat)(s:aM)(xs:List UInt8)(x:cY)(F:Nat→Prop)(w0:World)(I:Heap)
 (A:Var 223 I C [s.v,.int .i64 0,.int .i64 0]) (d:aU k 5 I a1 1 s.v xs) (al:af (C+1) k) (eI:xs.length≤274877906944) (B:Rd F I c4 33 x.cM.v x.a6) (R:bg F I.size) (f1:ay F (C+1)) (f2:ay F k) (aK:0≤x.k∧x.k≤255) (dp:x.k≠0→oa x):
 aC Tryz.prog w0 103 #[.pointer (some ⟨C,0,none⟩),eo x] I (fun r aa=>∃s2:aM,∃a8:Nat,r= .tuple #[]∧(Var 223 aa C [s2.v,.int .i64 0,.int .i64 0])∧(aU a8 5 aa a1 1 s2.v (xs++ka x))∧(T k I.size a8)∧(af (C+1) a8)∧V (aE [(C+1),k]) I aa):=by
 refine aC.enter (args:=[.pointer (some ⟨C,0,none⟩),eo x]) Tryz.func103 rfl rfl rfl ?_;intro dv bQ;have q:V (aE [(C+1),k]) I I:=V.refl _ _;have K:=T.refl (C+1) I.size;have b2:=A.lt;have bx:=T.refl k I.size;have E:=d.le;have eH:=B.len;refine G.L (fun cg=>?_);refine o.aO cr ?_;rintro v3 aO ⟨rfl,j,Q,ep,ch⟩;have dz:aO.size=I.size+1:=by rw[ch];simp
 have ap:af (C+1) (I.size+1):=af.new A.lt;have bz:af k (I.size+1):=af.new d.le;replace A:=A.M Q;replace d:=d.M Q;replace B:=B.M Q;replace q:=q.bc Q;have er:=Q.size;replace j:Var 29 aO I.size (dT x):=j;refine o.nil (cg (G.L (fun cl=>?_)));refine o.W ?_;refine o.v1 (Y.ai j.N rfl bu rfl b1) ?_;refine o.v1 (Y.cast (v2:= .int .i64 ((x.k).toNat:Nat)) (ar j.N cd) (fJ (by omega))) ?_;refine o.v1 (Y.hx rfl gl gT rfl) ?_;refine aV kL (k9 _ _ _ _ 1 _ w0 _ A d (al) (by decide) (by omega)) (fun et cs cn=>?_);have cp:=j.lt;obtain⟨cq,a5,rfl,A,d,an,bN,S⟩:=cn;have bA:=ay.app (f2) (R.mono q.size) an;have aQ:af (I.size+1) a5:=af.app (bz.symm) cp an;have aA:T k I.size a5:=T.L (bx) an q.size;replace B:=B.ab S (az.cons f1 (az.J f2));replace j:=j.ab S (ah.cons ap.symm (ah.J bz.symm));replace q:=q.aJ S (ag.cons (aq.r K) (ag.J (aq.r bx)));have eu:=S.size;have E:=d.le;refine o.nil (cl (G.t2 (fun ct cu=>G.L (fun cv=>?_))));refine o.v1 (Y.ai j.N rfl bu rfl b1) ?_;refine o.v1 (ar j.N cd) ?_;refine o.v1 b9 (o.nil (cv ?_));refine aT (fun cw=>?_) (fun cw=>?_)
 ·
  have a2:x.k=0:=by omega
  refine G.ret (cu (bQ .ret (.inr rfl) _ _ _ (iQ rfl) ?_));exact⟨cq,a5,rfl,A,by rw[tA a2];exact d,aA,(bN),q⟩
 ·
  have a2:x.k≠0:=by omega
  have he:=dp a2;have eA:=he.br;have eB:=he.a6;have eC:=he.dn;have eD:=he.md;refine G.skip (ct (G.L (fun cy=>?_)));refine o.W ?_;refine o.v1 (Y.ai j.N rfl bu rfl bO) ?_;refine o.v1 (ar (j.N.drop 1) bL) ?_;refine aV oB (py _ _ _ _ 1 x.br w0 _ A d (bN) (by simp only[List.length_append,dR,hc,x.bX.2,x.bo.2];omega) (by decide) (by omega)) (fun dA ev cz=>?_);have bS:=j.lt;obtain⟨ew,bC,rfl,A,d,aF,dc,W⟩:=cz;have aR:=ay.app (bA) (R.mono q.size) aF;have aS:af (I.size+1) bC:=af.app (aQ) bS aF;have aX:T k I.size bC:=T.L (aA) aF q.size;replace B:=B.ab W (az.cons f1 (az.J bA));replace j:=j.ab W (ah.cons ap.symm (ah.J aQ));replace q:=q.aJ W (ag.cons (aq.r K) (ag.J (aq.r aA)));have ey:=W.size;have E:=d.le;refine o.nil (cy (G.L (fun cB=>?_)));refine o.W ?_;refine o.v1 (Y.ai j.N rfl bu rfl a_) ?_;refine o.v1 (Y.cast (v2:=bs x.bX) (aW ((j.N.drop 2).take 32) b_ a_ (by rw[hA];exact bB _)) (b6 (hA _))) ?_;refine aV ns (n6 _ _ _ _ x.bX w0 _ A d (dc) (by simp only[List.length_append,dR,hc,x.bX.2,x.bo.2];omega)) (fun ez dF cC=>?_);have bU:=j.lt;obtain⟨dG,bE,rfl,A,d,aH,de,au⟩:=cC;have aY:=ay.app (aR) (R.mono q.size) aH;have aZ:af (I.size+1) bE:=af.app (aS) bU aH;have a6:T k I.size bE:=T.L (aX) aH q.size;replace B:=B.ab au (az.cons f1 (az.J aR));replace j:=j.ab au (ah.cons ap.symm (ah.J aS));replace q:=q.aJ au (ag.cons (aq.r K) (ag.J (aq.r aX)));have dH:=au.size;have E:=d.le;refine o.nil (cB (G.L (fun cD=>?_)));refine o.W ?_;refine o.v1 (Y.ai j.N rfl bu rfl a_) ?_;refine o.v1 (Y.cast (v2:=bs x.bo) (aW ((j.N.drop 34).take 32) b_ a_ (by rw[hz];exact bB _)) (b6 (hz _))) ?_;refine aV ns (n6 _ _ _ _ x.bo w0 _ A d (de) (by simp only[List.length_append,dR,hc,x.bX.2,x.bo.2];omega)) (fun dI dJ b0=>?_);have bV:=j.lt;obtain⟨dK,bF,rfl,A,d,aI,df,am⟩:=b0;have a7:=ay.app (aY) (R.mono q.size) aI;have bb:af (I.size+1) bF:=af.app (aZ) bV aI;have bc:T k I.size bF:=T.L (a6) aI q.size;replace B:=B.ab am (az.cons f1 (az.J aY));replace j:=j.ab am (ah.cons ap.symm (ah.J aZ));replace q:=q.aJ am (ag.cons (aq.r K) (ag.J (aq.r a6)));have dL:=am.size;have E:=d.le;refine o.nil (cD (G.L (fun b3=>?_)));refine o.W ?_;refine o.v1 (Y.ai j.N rfl bu rfl en) ?_;refine o.v1 (ar j.N.fL ff) ?_;refine o.v1 (ba B fm) ?_;refine o.v1 (Y.hx rfl gl gT rfl) ?_;refine aV kL (k9 _ _ _ _ 2 _ w0 _ A d (df) (by decide) (by simp only[List.length_append,dR,hc,x.bX.2,x.bo.2];omega)) (fun dM O b4=>?_);have a9:=j.lt;obtain⟨b5,N,rfl,A,d,aJ,dg,aj⟩:=b4;have bX:=ay.app (a7) (R.mono q.size) aJ;have bd:af (I.size+1) N:=af.app (bb) a9 aJ;have bf:T k I.size N:=T.L (bc) aJ q.size;replace B:=B.ab aj (az.cons f1 (az.J a7));replace j:=j.ab aj (ah.cons ap.symm (ah.J bb));replace q:=q.aJ aj (ag.cons (aq.r K) (ag.J (aq.r bc)));have dN:=aj.size;have E:=d.le;refine o.nil (b3 (G.t1 (fun b7=>G.L (fun cE=>?_))));refine o.v1 (Y.ai j.N rfl bu rfl en) ?_;refine o.v1 (ar j.N.fL ff) ?_;refine o.v1 (ba B fm) ?_;refine o.W (o.nil (cE ?_));refine G.aB (fun _ cG _=>?_)
  refine G.bd (fun(dt:(Nat)×(aM)×(Nat)×(List UInt8))=>match dt with|(i,s1,L,ys)=>[(0,.pointer (some ⟨C,0,none⟩)),(3,.pointer (some ⟨I.size,0,none⟩)),(33,x.cM.v),(34,.int .i64 x.a6.length),(35,.int .i64 i)])
   (fun(i,s1,L,ys) (H:Heap)=>(i≤x.a6.length)∧(Var 223 H C [s1.v,.int .i64 0,.int .i64 0])∧(aU L 5 H a1 1 s1.v ys)∧(ys=xs++cj 1 (UInt64.ofNat x.k.toNat)++fU 1 x.br++x.bX.1++x.bo.1++cj 2 (UInt64.ofNat x.a6.length)++(x.a6.take i).flatMap kb)∧(T N O.size L)∧(af (C+1) L)∧V (aE [(C+1),N]) O H)
   (fun(i,s1,L,ys)=>x.a6.length-i) (0,b5,N,xs++cj 1 (UInt64.ofNat x.k.toNat)++fU 1 x.br++x.bX.1++x.bo.1++cj 2 (UInt64.ofNat x.a6.length)) ⟨rfl,rfl,rfl,rfl,rfl,trivial⟩ ?_ ?_
  ·
   exact⟨(by omega),A,d,(by simp),T.refl _ _,dg,V.refl _ _⟩
  rintro⟨i,s1,L,ys⟩ a3 b8 dO cH bT;obtain⟨eG,A,d,Z,ai,bZ,ac⟩:=b8;have bh:af (I.size+1) L:=af.app (bd) j.lt ai;have bj:T k I.size L:=T.L (bf) ai q.size;replace B:=B.ab ac (az.cons f1 (az.J bX));replace j:=j.ab ac (ah.cons ap.symm (ah.J bd));replace q:=q.aJ ac (ag.cons (aq.r K) (ag.J (aq.r bf)));have dP:=ac.size;have E:=d.le;have bk:=bZ;have bw:=T.refl (C+1) O.size;have bl:=ai;have eJ:ys.length≤xs.length+3000000:=by have dq:=mP (f:=kb) (n:=33) (l:=x.a6.take i) (fun x _=>by rw[q8];omega);rw[List.length_take]at dq;rw[Z];simp only[List.length_append,dR,hc,x.bX.2,x.bo.2];omega
  refine G.L (fun be=>?_);refine o.v1 bG (o.nil (be ?_));refine G.t2 (fun bY cI=>?_);refine aT (fun ca=>?_) (fun ca=>?_)
  ·
   refine G.skip (bY (G.t1 (fun cJ=>G.aB (fun bi _ _=>G.L (fun cK=>?_)))));have bP:i<x.a6.length:=by omega
   obtain⟨t,aN⟩:∃t,t=x.a6[i]:=⟨_,rfl⟩;have eF:=he.dd t (by rw[aN];exact List.getElem_mem bP);refine o.bR (Y.bJ B (i) rfl fm ha rfl rfl) fun dw aB=>?_;refine o.v1 (Y.cast (v2:= .agg (c4 t).toArray) (aW aB.N mA ha (hU _)) (by rw[aN])) ?_;refine o.aO (cQ tV) ?_;rintro v5 bR ⟨rfl,M,a4,dQ,cb⟩;have dx:bR.size=a3.size+1:=by rw[cb];simp
   have bm:af L (a3.size+1):=af.new d.le;have bn:af (C+1) (a3.size+1):=af.new A.lt;have cL:T 0 O.size (a3.size+1):=T.new ac.size;replace d:=d.M a4;replace A:=A.M a4;replace ac:=ac.bc a4;have dS:=a4.size;refine o.s1 (dy M (_) (c4 t) (mM t) ha (hU _) ((c0 (hU _).symm))) fun dB cM=>?_;obtain⟨M,P⟩:=cM;replace P:=P.bp;replace d:=d.ab P (ah.J bm);replace A:=A.ab P (ah.J bn);replace ac:=ac.aJ P (ag.J (aq.q cL));have dU:=P.size;refine o.nil (cK (G.L (fun cN=>?_)));refine o.W ?_;refine o.v1 (Y.ai M.N rfl jE rfl b1) ?_;refine o.v1 (Y.cast (v2:= .int .i64 ((t.d).toNat:Nat)) (ar M.N cd) (fJ (by omega))) ?_;refine o.v1 (Y.hx rfl gl gT rfl) ?_;refine aV kL (k9 _ _ _ _ 1 _ w0 _ A d (bk) (by decide) (by omega)) (fun dV dW c2=>?_);obtain⟨dY,c3,rfl,A,d,cO,dh,aL⟩:=c2;have bo:T N O.size c3:=T.L (bl) cO ac.size;replace M:=M.ab aL (ah.cons bn.symm (ah.J bm.symm));replace ac:=ac.aJ aL (ag.cons (aq.r bw) (ag.J (aq.r bl)));have eh:=aL.size;have E:=d.le;refine o.nil (cN (G.region ?_));refine o.W ?_;refine o.v1 (Y.ai M.N rfl jE rfl a_) ?_;refine o.v1 (Y.cast (v2:=bs t.i) (aW ((M.N.drop 1).take 32) b_ a_ (by rw[kP];exact bB _)) (b6 (kP _))) ?_;refine aV ns (n6 _ _ _ _ t.i w0 _ A d (dh) (by rw[List.length_append,dR];omega)) (fun dZ d_ c5=>?_);obtain⟨ce,bH,rfl,A,d,cP,di,bp⟩:=c5;have cS:T N O.size bH:=T.L (bo) cP ac.size;replace ac:=ac.aJ bp (ag.cons (aq.r bw) (ag.J (aq.r bo)));have ei:=bp.size;have E:=d.le;refine o.nil (bi (cJ (G.region ?_)));refine o.v1 bD ?_;refine o.W (o.nil ?_);refine aP.sub (cH (i+1,ce,bH,ys++cj 1 (UInt64.ofNat t.d.toNat)++t.i.1) _ ?_ ?_) ⟨rfl,rfl,rfl,(aD (by omega)),(aD (by omega)),trivial⟩
   ·exact⟨(by omega),A,d,(by rw[nE bP,←aN,Z,kb];simp only[List.append_assoc]),cS,di,ac⟩
   ·first|omega|(simp only;omega)|(simp;omega)
  ·
   obtain rfl:i=x.a6.length:=by omega
   rw[List.take_length]at Z;refine G.exit (cI (bT (cG ?_)));refine b7 (G.L (fun cT=>?_));refine o.W ?_;refine o.v1 (Y.ai j.N rfl bu rfl b1) ?_;refine o.v1 (Y.cast (v2:= .int .i64 ((x.dn).toNat:Nat)) (ar j.N.ir cd) (fJ (by omega))) ?_;refine o.v1 (Y.hx rfl gl gT rfl) ?_;refine aV kL (k9 _ _ _ _ 2 _ w0 _ A d (bk) (by decide) (by omega)) (fun ea eb c6=>?_);have cU:=j.lt;obtain⟨ec,bJ,rfl,A,d,bq,dj,ab⟩:=c6;have cV:af (I.size+1) bJ:=af.app (bh) cU bq;have bt:T k I.size bJ:=T.L (bj) bq q.size;replace j:=j.ab ab (ah.cons ap.symm (ah.J bh));replace q:=q.aJ ab (ag.cons (aq.r K) (ag.J (aq.r bj)));have dX:=ab.size;have E:=d.le;refine o.nil (cT (G.L (fun bv=>?_)));refine o.W ?_;refine o.v1 (Y.ai j.N rfl bu rfl b1) ?_;refine o.v1 (Y.cast (v2:= .int .i64 ((x.md).toNat:Nat)) (ar j.N.jD cd) (fJ (by omega))) ?_;refine o.v1 (Y.hx rfl gl gT rfl) ?_;refine aV kL (k9 _ _ _ _ 2 _ w0 _ A d (dj) (by decide) (by rw[List.length_append,dR];omega)) (fun ed ee ci=>?_);obtain⟨ef,c_,rfl,A,d,cZ,dk,ae⟩:=ci;have a0:T k I.size c_:=T.L (bt) cZ q.size;replace j:=j.ab ae (ah.cons ap.symm (ah.J cV));replace q:=q.aJ ae (ag.cons (aq.r K) (ag.J (aq.r bt)));have ej:=ae.size;have E:=d.le;refine o.nil (bv (G.region ?_));refine o.W ?_;refine o.v1 (Y.ai j.N rfl bu rfl cW) ?_;refine o.v1 (ar j.N.k3 dr) ?_;refine aV rU (tL x.st 1 w0 _) (fun eg dC da=>?_);obtain⟨rfl,X⟩:=da;replace d:=d.M X;replace A:=A.M X;replace q:=q.bc X;have ek:=X.size;refine aV kL (k9 _ _ _ _ 1 _ w0 _ A d (dk) (by decide) (by simp only[List.length_append,dR];omega)) (fun dD dE db=>?_);obtain⟨co,bM,rfl,A,d,c1,dm,cc⟩:=db;have cf:T k I.size bM:=T.L (a0) c1 q.size;replace q:=q.aJ cc (ag.cons (aq.r K) (ag.J (aq.r a0)));refine o.nil ?_;refine bQ .normal (.inl rfl) _ _ _ (iQ rfl) ?_;exact⟨co,bM,rfl,A,by rw[tB a2];rw[Z]at d;simpa only[List.append_assoc]using d,cf,(dm),q⟩
end fF

namespace fG
open E Go.RowKit eJ eN eW e3 ey eX eY fF dz
set_option maxRecDepth 100000 in
theorem DS:c6 Tryz.prog 83 3 1 8:=⟨Tryz.underlying83,_,_,rfl,rfl,rfl,rfl,rfl⟩
def jk(t:b0):List UInt8:=cj 1 (qj t)++(if t.bE=true then fU 1 t.al else[])
theorem pa{t:b0}(h:k_ t):(jk t).length≤257:=by
 unfold jk;rw[List.length_append,dR];split
 ·rename_i d;rw[hc];have:=h.al d;omega
 ·simp
def jh(t:b0):List UInt8:=jk t++cj 2 (UInt64.ofNat t.ml.length)++t.ml.flatMap iN++(if t.ao=true then ka t.q else[])
theorem sM{t:b0}(h:k_ t)(i:Nat):((t.ml.take i).flatMap iN).length≤66000*i:=by
 have j:=mP (f:=iN) (n:=66000) (l:=t.ml.take i) (fun x d=>by rw[nQ];have:=h.iM x (List.mem_of_mem_take d);omega);have U:(t.ml.take i).length≤i:=by rw[List.length_take];exact Nat.min_le_left _ _
 have k:66000*(t.ml.take i).length≤66000*i:=Nat.mul_le_mul_left _ U;omega
theorem vO{t:b0}(h:k_ t)(i:Nat):((t.el.take i).flatMap iL).length≤66000*i:=by
 have j:=mP (f:=iL) (n:=66000) (l:=t.el.take i) (fun x d=>by rw[xp];have:=h.md x (List.mem_of_mem_take d);omega);have U:(t.el.take i).length≤i:=by rw[List.length_take];exact Nat.min_le_left _ _
 have k:66000*(t.el.take i).length≤66000*i:=Nat.mul_le_mul_left _ U;omega
theorem qE{t:b0}(h:k_ t):(jh t).length≤4400000000:=by
 have j:=pa h;have U:=sM h t.ml.length;rw[List.take_length]at U;have k:=h.ml;unfold jh;simp only[List.length_append,dR];split
 ·rename_i i
  by_cases d:t.q.k=0
  ·rw[tA d,dR];omega
  ·have:=Hj (h.h5 i d);omega
 ·rw[List.length_nil];omega
theorem vR(t:b0):fi t=jh t++cj 2 (UInt64.ofNat t.el.length)++t.el.flatMap iL:=by unfold fi jh jk;simp only[List.append_assoc]
section
variable {H : Heap} {ad : Addr}
theorem _root_.Go.Proofs.YtfjmpninmdjcaaaGreatDoor.E.cc.ra{x:b0}(h:cc H ad (df x)):cc H (ad.add 4) (dT x.q++[x.cB.v]):=h.drop 4
theorem _root_.Go.Proofs.YtfjmpninmdjcaaaGreatDoor.E.cc.n2{x:b0}(h:cc H ad (df x)):cc H ((ad.add 4).add 0) (dT x.q++[x.cB.v]):=h.ra.drop 0
end
theorem rN(x:b0)(w0:World)(I:Heap)
 :
 aC Tryz.prog w0 141 #[eg x] I (fun r A=>r= .tuple #[eo x.q,.bool (x.ao&&decide (x.q.k≠0))]∧ak I A):=by
 refine aC.enter (args:=[eg x]) Tryz.func141 rfl rfl rfl ?_;intro Q M;have t:ak I I:=V.refl _ _;refine G.L (fun N=>?_);refine o.aO cr ?_;rintro v1 H1 ⟨rfl,n,H,R,au⟩;have am:H1.size=I.size+1:=by rw[au];simp
 replace t:=t.L H;have S:=H.size;replace n:Var 32 H1 I.size (df x):=n;refine o.aO (cQ rk) ?_;rintro v2 A ⟨rfl,C,F,W,P⟩;have ap:A.size=H1.size+1:=by rw[P];simp
 have B:af (I.size+1) (H1.size+1):=af.new n.lt;have K:T 0 I.size (H1.size+1):=T.new t.size;replace n:=n.M F;replace t:=t.L F;have X:=F.size;refine o.aj ?_;refine N (G.t1 (fun L=>?_));refine dC (fun k=>V (aE [(H1.size+1)]) A k) [] ?_;have i:V (aE [(H1.size+1)]) A A:=V.refl _ _;have E:=T.refl (H1.size+1) A.size;refine O.t1 0 rfl (fun k j=>Y.fieldAddr (n.ab j (ah.J B)).N rfl bx rfl rfl cT (by decide) rfl) i ?_;refine O.t1 1 rfl (fun k j=>Y.cast (v2:=eo x.q) (aW (((n.ab j (ah.J B)).N.drop 4).take 70) h8 cT (by rw[jc];exact ef _)) (b6 (jc x))) i ?_;refine O.t1 2 rfl (fun k j=>Y.fieldAddr (n.ab j (ah.J B)).N rfl bx rfl rfl cW (by decide) rfl) i ?_;refine O.t1 3 rfl (fun k j=>ar ((n.ab j (ah.J B)).N.drop 3) dr) i ?_;refine O.W 4 rfl i ?_;refine O.split (d:=8) rfl (fun g8=>?_) (fun g8=>?_)
 ·
  refine O.bQ 5 rfl (fun k j=>Y.fieldAddr (n.ab j (ah.J B)).N rfl bx rfl rfl cT (by decide) rfl) bh i ?_;refine O.bQ 6 rfl (fun k j=>Y.fieldAddr ((n.ab j (ah.J B)).N.drop 4) rfl bu rfl rfl b1 (by decide) rfl) bh i ?_;refine O.bQ 7 rfl (fun k j=>Y.fQ (n.ab j (ah.J B)).N.n2 rfl cd rfl) bh i ?_;refine O.bQ 8 rfl (fun k j=>c1) bh i ?_;refine O.t1 9 rfl (fun k j=>eh) i ?_;refine O.aY 10 ?_;refine gJ rfl (dy C (_) (dT x.q) (kp x.q) cT (ef _) ((c0 (ef _).symm))) (fun ac ad=>?_);obtain⟨C,q⟩:=ad;replace q:=q.bp;replace t:=t.bl q (ag.J (aq.q K));replace i:=i.aJ q (ag.J (aq.r E));have Z:=q.size;refine O.b3 i (ag.J (aq.r E)) ?_;have i:V (aE [(H1.size+1)]) ac ac:=V.refl _ _;refine O.t1 11 rfl (fun k j=>ev) i ?_;refine cD ?_;refine L ?_;refine G.ret (M .ret (.inr rfl) _ _ _ (yi rfl rfl C.N h8 cT (ef _) rfl) ?_);exact⟨by first|(rw[show x.ao=true by assumption];rfl)|(rw[show x.ao=false by simp_all];rfl),t⟩
 ·
  refine O.g1 5 rfl rfl rfl rfl i ?_;refine O.g1 6 rfl rfl rfl rfl i ?_;refine O.g1 7 rfl rfl rfl rfl i ?_;refine O.g1 8 rfl rfl rfl rfl i ?_;refine O.t1 9 rfl (fun k j=>dI) i ?_;refine O.aY 10 ?_;refine gJ rfl (dy C (_) (dT x.q) (kp x.q) cT (ef _) ((c0 (ef _).symm))) (fun ac ad=>?_);obtain⟨C,q⟩:=ad;replace q:=q.bp;replace t:=t.bl q (ag.J (aq.q K));replace i:=i.aJ q (ag.J (aq.r E));have aa:=q.size;refine O.b3 i (ag.J (aq.r E)) ?_;have i:V (aE [(H1.size+1)]) ac ac:=V.refl _ _;refine O.t1 11 rfl (fun k j=>ev) i ?_;refine cD ?_;refine L ?_;refine G.ret (M .ret (.inr rfl) _ _ _ (yi rfl rfl C.N h8 cT (ef _) rfl) ?_);exact⟨by first|(rw[show x.ao=true by assumption];rfl)|(rw[show x.ao=false by simp_all];rfl),t⟩
theorem Ih(x:b0)(w0:World)(I:Heap)
 (hm:bw I dt 66 x.eL.v x.ml) (C:bw I c4 33 x.q.cM.v x.q.a6) (he:bw I bM 33 x.cB.v x.el) (al:∀y∈x.el,bw I a1 1 y.v.v y.d) (X:k_ x):
 aC Tryz.prog w0 98 #[eg x] I (fun r cw=>r= .int .i64 0∧ak I cw):=by
 refine aC.aK [eg x] Tryz.func98 ?_;intro fX cv;have A:ak I I:=V.refl _ _;replace hm:=hm.bt;have dP:=hm.bY;replace C:=C.bt;have dQ:=C.bY;replace he:=he.bt;have dR:=he.bY;replace al:=fun y K=>(al y K).bt;have a2:bg (fun b=>True∧b<I.size) I.size:=fun b h=>h.2;have hK:=hm.len;have hI:=C.len;have hG:=he.len;have aK:=X.ml;have gw:=X.el;obtain⟨aH,cu⟩:∃b,b=(x.ao&&decide (x.q.k≠0)):=⟨_,rfl⟩;have bV:aH=true→x.ao=true∧x.q.k≠0:=fun h=>by rw[cu,Bool.and_eq_true,decide_eq_true_eq]at h;exact h
 refine G.L (fun fJ=>?_);refine o.aO cr ?_;rintro v1 H1 ⟨rfl,B,aN,gN,fK⟩;have gb:H1.size=I.size+1:=by rw[fK];simp
 replace hm:=hm.M aN;replace C:=C.M aN;replace he:=he.M aN;replace al:=fun y K=>(al y K).M aN;replace A:=A.L aN;have gP:=aN.size;replace B:Var 32 H1 I.size (df x):=B;refine o.aj ?_;refine fJ (G.L (fun ds=>?_));refine o.v1 (Y.build (v:= .agg #[(.slice none 0 0),.int .i64 0,.int .i64 0]) rfl rfl (by intro w;kernel_rfl)) ?_;refine o.aO cr fun gQ dE fL=>?_;obtain⟨rfl,F,aj,gq,dq⟩:=fL;have fY:dE.size=H1.size+1:=by rw[dq];simp
 replace hm:=hm.M aj;replace C:=C.M aj;replace he:=he.M aj;replace al:=fun y K=>(al y K).M aj;replace B:=B.M aj;replace A:=A.L aj;have gR:=aj.size;replace F:Var 213 dE H1.size ([(.slice none 0 0),.int .i64 0,.int .i64 0]):=F;refine o.aj ?_;refine ds (G.L (fun fM=>?_));refine o.v1 (aW B.N gM fk (dY _)) ?_;refine aV rV (rN x w0 _) (fun gS P fN=>?_);obtain⟨rfl,aa⟩:=fN;replace hm:=hm.M aa;replace C:=C.M aa;replace he:=he.M aa;replace al:=fun y K=>(al y K).M aa;replace B:=B.M aa;replace F:=F.M aa;replace A:=A.L aa;have gT:=aa.size;rw[←cu];refine o.W ?_;refine o.v1 cN ?_;refine o.v1 cN ?_;refine o.aO (cQ rk) ?_;rintro v4 cz ⟨rfl,E,a3,gU,fO⟩;have gr:cz.size=P.size+1:=by rw[fO];simp
 have dv:=(ay.new (dP.mono A.size):ay _ (P.size+1));have dw:=(ay.new (dQ.mono A.size):ay _ (P.size+1));have dx:=(ay.new (dR.mono A.size):ay _ (P.size+1));have dz:=(ay.new (a2.mono A.size):ay _ (P.size+1));have dB:af (I.size+1) (P.size+1):=af.new B.lt;have dF:af (H1.size+1) (P.size+1):=af.new F.lt;have cO:T 0 I.size (P.size+1):=T.new A.size;replace hm:=hm.M a3;replace C:=C.M a3;replace he:=he.M a3;replace al:=fun y K=>(al y K).M a3;replace B:=B.M a3;replace F:=F.M a3;replace A:=A.L a3;have gV:=a3.size;refine o.s1 (dy E (_) (dT x.q) (kp x.q) cT (ef _) ((c0 (ef _).symm))) fun bH cP=>?_;obtain⟨E,R⟩:=cP;replace R:=R.bp;replace hm:=hm.ab R (az.J dv);replace C:=C.ab R (az.J dw);replace he:=he.ab R (az.J dx);replace al:=fun y K=>(al y K).ab R (az.J dz);replace B:=B.ab R (ah.J dB);replace F:=F.ab R (ah.J dF);replace A:=A.bl R (ag.J (aq.q cO));have gY:=R.size;refine o.aj ?_;refine fM ?_
 refine G.cut (fun(_:Unit)=>[(1,.pointer (some ⟨I.size,0,none⟩)),(3,.pointer (some ⟨H1.size,0,none⟩)),(4,.pointer (some ⟨P.size,0,none⟩)),(5,.bool aH)])
  (fun(_:Unit) (H:Heap)=>(True)∧ak bH H) (fun _ cc _=>?_) ?_
 ·
  have aI:ak bH bH:=V.refl _ _;refine G.region ?_;refine o.W ?_;refine o.v1 (Y.ai B.N rfl bx rfl ek) ?_;refine o.v1 (ar (B.N.drop 2) ez) ?_;refine o.v1 (ba hm dG) ?_;refine o.v1 ((eH).gq (by omega)) ?_;refine o.W ?_;refine o.an (Y.ai B.N rfl bx rfl dp) ?_;refine o.an (ar B.N.fT dS) ?_;refine o.an (ba he cq) ?_;refine o.an ((eH).gq (by omega)) ?_;refine o.ax 3 ?_;refine o.an eI ?_;refine o.bU ?_;refine o.split (d:=35) rfl (fun cg=>?_) (fun cg=>?_)
  ·
   refine o.ax 4 ?_;refine o.an eh ?_;refine o.N ?_;refine aV jQ (j_ _ 4 w0 _) (fun fP fi bE=>?_);obtain⟨rfl,aR⟩:=bE;replace aI:=aI.L aR;have gZ:=aR.size;refine o.nil ?_;refine aP.sub (cc () _ ?_) ⟨rfl,rfl,rfl,rfl,trivial⟩;exact⟨trivial,aI⟩
  ·
   have k:=bV (by simpa using cg);have N:=X.h5 k.1 k.2;have fV:=N.a6;refine o.an (Y.ai E.N rfl bu rfl en) ?_;refine o.an (ar E.N.fL ff) ?_;refine o.an (ba C fm) ?_;refine o.an ((eH).gq (by omega)) ?_;refine o.an dI ?_;refine o.N ?_;refine aV jQ (j_ _ 4 w0 _) (fun fP fi bE=>?_);obtain⟨rfl,aR⟩:=bE;replace aI:=aI.L aR;have g_:=aR.size;refine o.nil ?_;refine aP.sub (cc () _ ?_) ⟨rfl,rfl,rfl,rfl,trivial⟩;exact⟨trivial,aI⟩
 ·
  intro _ aX cL;obtain⟨bX,S⟩:=cL;replace hm:=hm.M S;replace C:=C.M S;replace he:=he.M S;replace al:=fun y K=>(al y K).M S;replace B:=B.M S;replace F:=F.M S;replace E:=E.M S;replace A:=A.L S;have hb:=S.size
  refine G.cut (fun(_:Unit)=>[(1,.pointer (some ⟨I.size,0,none⟩)),(3,.pointer (some ⟨H1.size,0,none⟩)),(4,.pointer (some ⟨P.size,0,none⟩)),(5,.bool aH)])
   (fun(_:Unit) (H:Heap)=>(True)∧ak aX H) (fun _ cE _=>?_) ?_
  ·
   have ab:ak aX aX:=V.refl _ _;refine dC (fun t=>ak aX t) [] ?_;have n:=ak.refl aX;refine O.W 0 rfl n ?_;refine O.t1 1 rfl (fun t k=>Y.ai (B.N.M k) rfl bx rfl cW) n ?_;refine O.t1 2 rfl (fun t k=>ar (B.N.M k) dr) n ?_;refine O.t1 3 rfl (fun t k=>eI) n ?_;refine O.W 4 rfl n ?_;refine O.split (d:=47) rfl (fun cj=>?_) (fun cj=>?_)
   ·
    refine O.g1 5 rfl rfl rfl rfl n ?_;refine O.g1 6 rfl rfl rfl rfl n ?_;refine O.g1 7 rfl rfl rfl rfl n ?_;refine O.g1 8 rfl rfl rfl rfl n ?_;refine O.g1 9 rfl rfl rfl rfl n ?_;refine O.t1 10 rfl (fun t k=>eh) n ?_;refine O.aY 11 ?_;refine ch jQ (j_ _ 5 w0 _) (fun fj bS bF=>?_);obtain⟨rfl,an⟩:=bF;replace ab:=ab.L an;have hc:=an.size;have bl:=n.L an;refine O.cn bl ?_;have bm:=ak.refl bS;refine cD ?_;have N:=bm;refine aP.sub (cE () _ ?_) ⟨rfl,rfl,rfl,rfl,trivial⟩;exact⟨trivial,ab⟩
   ·
    have hH:=X.al (by simpa using cj);refine O.bQ 5 rfl (fun t k=>Y.ai (B.N.M k) rfl bx rfl bO) bh n ?_;refine O.bQ 6 rfl (fun t k=>ar ((B.N.drop 1).M k) bL) bh n ?_;refine O.bQ 7 rfl (fun t k=>fy dN) bh n ?_;refine O.aY 8 ?_;refine dD.call rfl rfl lU rfl bh rfl rfl (oX w0 _) (fun hd ec fl=>?_);obtain⟨rfl,bT⟩:=fl;replace ab:=ab.L bT;have f_:=bT.size;have dU:=n.L bT;refine O.cn dU ?_;have bn:=ak.refl ec;refine O.bQ 9 rfl (fun t k=>(eH).gq (by omega)) bh bn ?_;refine O.t1 10 rfl (fun t k=>dI) bn ?_;refine O.aY 11 ?_;refine ch jQ (j_ _ 5 w0 _) (fun fj bS bF=>?_);obtain⟨rfl,an⟩:=bF;replace ab:=ab.L an;have ga:=an.size;have bl:=bn.L an;refine O.cn bl ?_;have bm:=ak.refl bS;refine cD ?_;have N:=bm;refine aP.sub (cE () _ ?_) ⟨rfl,rfl,rfl,rfl,trivial⟩;exact⟨trivial,ab⟩
  ·
   intro _ b3 cM;obtain⟨bX,W⟩:=cM;replace hm:=hm.M W;replace C:=C.M W;replace he:=he.M W;replace al:=fun y K=>(al y K).M W;replace B:=B.M W;replace F:=F.M W;replace E:=E.M W;replace A:=A.L W;have gd:=W.size;refine G.t1 (fun fo=>G.L (fun fq=>?_));refine o.v1 (Y.ai B.N rfl bx rfl ek) ?_;refine o.v1 (ar (B.N.drop 2) ez) ?_;refine o.v1 (ba hm dG) ?_;refine o.W (o.nil (fq ?_));refine G.aB (fun _ fr _=>?_)
   refine G.bd (fun(i:(Nat))=>[(1,.pointer (some ⟨I.size,0,none⟩)),(3,.pointer (some ⟨H1.size,0,none⟩)),(4,.pointer (some ⟨P.size,0,none⟩)),(5,.bool aH),(56,x.eL.v),(57,.int .i64 (x.ml.length:Int)),(58,.int .i64 i)])
    (fun(i:(Nat)) (H:Heap)=>(i≤x.ml.length)∧ak b3 H)
    (fun(i:(Nat))=>x.ml.length-i) 0 ⟨rfl,rfl,rfl,rfl,rfl,rfl,rfl,trivial⟩ ?_ ?_
   ·
    exact⟨(by omega),V.refl _ _⟩
   intro i a8 ft fW fu fz;obtain⟨bU,L⟩:=ft;replace hm:=hm.M L;replace C:=C.M L;replace he:=he.M L;replace al:=fun y K=>(al y K).M L;replace B:=B.M L;replace F:=F.M L;replace E:=E.M L;replace A:=A.L L;have gf:=L.size;refine G.L (fun cS=>?_);refine o.v1 bG (o.nil (cS ?_));refine G.t2 (fun cV cY=>?_);refine aT (fun fA=>?_) (fun fA=>?_)
   ·
    refine G.skip (cV (G.t1 (fun c1=>G.aB (fun c2 _ _=>G.L (fun c3=>?_)))));have aF:i<x.ml.length:=by omega
    obtain⟨y,ae⟩:∃q,q=x.ml[i]:=⟨_,rfl⟩;have aO:y∈x.ml:=by rw[ae];exact List.getElem_mem aF
    have hL:=X.iM y aO;refine o.bR (Y.bJ hm (i) rfl dG dM rfl rfl) fun gg dJ=>?_;refine o.v1 (Y.cast (v2:= .agg (dt y).toArray) (aW dJ.N iE dM (e0 _)) (by rw[ae])) ?_;refine o.aO (cQ mi) ?_;rintro hP cB ⟨rfl,ai,cl,hf,fB⟩;have gh:cB.size=a8.size+1:=by rw[fB];simp
    have eW:T 0 b3.size (a8.size+1):=T.new L.size;replace L:=L.L cl;have gi:=cl.size;refine o.s1 (dy ai (_) (dt y) (kO y) dM (e0 _) ((c0 (e0 _).symm))) fun cb eX=>?_;obtain⟨ai,aZ⟩:=eX;replace aZ:=aZ.bp;replace L:=L.bl aZ (ag.J (aq.q eW));have gj:=aZ.size;refine o.nil (c3 ?_);refine dC (fun t=>ak cb t) [] ?_;have n:=ak.refl cb;refine O.W 0 rfl n ?_;refine O.t1 1 rfl (fun t k=>Y.ai (ai.N.M k) rfl cy rfl bO) n ?_;refine O.t1 2 rfl (fun t k=>ar (ai.N.M k) bL) n ?_;refine O.t1 3 rfl (fun t k=>fy dN) n ?_;refine O.aY 4 ?_;refine ch lU (oX w0 _) (fun hg fG fC=>?_);obtain⟨rfl,a0⟩:=fC;replace ai:=ai.M a0;replace L:=L.L a0;have gk:=a0.size;have bv:=n.L a0;refine O.cn bv ?_;have aL:=ak.refl fG;refine O.t1 5 rfl (fun t k=>(eH).gq (by omega)) aL ?_;refine O.W 6 rfl aL ?_;refine O.bQ 7 rfl (fun t k=>Y.ai (ai.N.M k) rfl cy rfl bO) bh aL ?_;refine O.bQ 8 rfl (fun t k=>ar (ai.N.mV.M k) bL) bh aL ?_;refine O.bQ 9 rfl (fun t k=>fy dN) bh aL ?_;refine O.aY 10 ?_;refine dD.call rfl rfl lU rfl bh rfl rfl (xa w0 _) (fun hh bf fD=>?_);obtain⟨rfl,be⟩:=fD;replace L:=L.L be;have gl:=be.size;have dV:=aL.L be;refine O.cn dV ?_;have bp:=ak.refl bf;refine O.bQ 11 rfl (fun t k=>(eH).gq (by omega)) bh bp ?_;refine O.t1 12 rfl (fun t k=>eh) bp ?_;refine O.aY 13 ?_;refine ch jQ (j_ _ 5 w0 _) (fun hi ee fE=>?_);obtain⟨rfl,bJ⟩:=fE;replace L:=L.L bJ;have gm:=bJ.size;have dW:=bp.L bJ;refine O.cn dW ?_;have dZ:=ak.refl ee;refine cD ?_;have N:=dZ;refine c2 (c1 (G.region ?_));refine o.v1 bD ?_;refine o.W (o.nil ?_);refine aP.sub (fu (i+1) _ ?_ ?_) ⟨rfl,rfl,rfl,rfl,rfl,(aD (by omega)),(aD (by omega)),trivial⟩
    ·exact⟨(by omega),L⟩
    ·first|omega|(simp only;omega)|(simp;omega)
   ·
    refine G.exit (cY (fz (fr ?_)));refine fo (G.t1 (fun eY=>G.L (fun eZ=>?_)));refine o.v1 (Y.ai B.N rfl bx rfl dp) ?_;refine o.v1 (ar B.N.fT dS) ?_;refine o.v1 (ba he cq) ?_;refine o.W (o.nil (eZ ?_));refine G.aB (fun _ ce _=>?_)
    refine G.bd (fun(i:(Nat))=>[(1,.pointer (some ⟨I.size,0,none⟩)),(3,.pointer (some ⟨H1.size,0,none⟩)),(4,.pointer (some ⟨P.size,0,none⟩)),(5,.bool aH),(78,x.cB.v),(79,.int .i64 (x.el.length:Int)),(80,.int .i64 i)])
     (fun(i:(Nat)) (H:Heap)=>(i≤x.el.length)∧ak a8 H)
     (fun(i:(Nat))=>x.el.length-i) 0 ⟨rfl,rfl,rfl,rfl,rfl,rfl,rfl,trivial⟩ ?_ ?_
    ·
     exact⟨(by omega),V.refl _ _⟩
    intro i a4 fF hj e1 e2;obtain⟨bU,M⟩:=fF;replace hm:=hm.M M;replace C:=C.M M;replace he:=he.M M;replace al:=fun y K=>(al y K).M M;replace B:=B.M M;replace F:=F.M M;replace E:=E.M M;replace A:=A.L M;have d0:=M.size;refine G.L (fun dX=>?_);refine o.v1 bG (o.nil (dX ?_));refine G.t2 (fun ci e3=>?_);refine aT (fun d1=>?_) (fun d1=>?_)
    ·
     refine G.skip (ci (G.t1 (fun e4=>G.aB (fun e5 _ _=>G.L (fun e6=>?_)))));have aF:i<x.el.length:=by omega
     obtain⟨y,ae⟩:∃q,q=x.el[i]:=⟨_,rfl⟩;have aO:y∈x.el:=by rw[ae];exact List.getElem_mem aF
     have fU:=X.md y aO;refine o.bR (Y.bJ he (i) rfl cq cf rfl rfl) fun d2 e7=>?_;refine o.v1 (Y.cast (v2:= .agg (bM y).toArray) (aW e7.N hF cf (cZ _)) (by rw[ae])) ?_;refine o.aO (cQ kD) ?_;rintro v9 cC ⟨rfl,a_,co,gv,d3⟩;have d4:cC.size=a4.size+1:=by rw[d3];simp
     have e8:=(ay.new (a2.mono A.size):ay _ (a4.size+1));have e_:T 0 a8.size (a4.size+1):=T.new M.size;replace al:=fun y K=>(al y K).M co;replace M:=M.L co;have d5:=co.size;refine o.s1 (dy a_ (_) (bM y) (gX y) cf (cZ _) ((c0 (cZ _).symm))) fun a5 c5=>?_;obtain⟨a_,ap⟩:=c5;replace ap:=ap.bp;replace al:=fun y K=>(al y K).ab ap (az.J e8);replace M:=M.bl ap (ag.J (aq.q e_));have d6:=ap.size;refine o.nil (e6 ?_);refine dC (fun t=>ak a5 t) [] ?_;have n:=ak.refl a5;refine O.W 0 rfl n ?_;refine O.t1 1 rfl (fun t k=>Y.ai (a_.N.M k) rfl eS rfl da) n ?_;refine O.t1 2 rfl (fun t k=>ar (a_.N.ji.M k) eA) n ?_;refine O.t1 3 rfl (fun t k=>ba ((al y aO).M k) db) n ?_;refine O.aY 4 ?_;refine ch lU (EA w0 _) (fun gx fH d7=>?_);obtain⟨rfl,bN⟩:=d7;replace M:=M.L bN;have d8:=bN.size;have c6:=n.L bN;refine O.cn c6 ?_;have bY:=ak.refl fH;refine O.t1 5 rfl (fun t k=>(eH).gq (by omega)) bY ?_;refine O.aY 6 ?_;refine ch jQ (j_ _ 5 w0 _) (fun gy gO d9=>?_);obtain⟨rfl,bi⟩:=d9;replace M:=M.L bi;have gn:=bi.size;have c_:=bY.L bi;refine O.cn c_ ?_;have dc:=ak.refl gO;refine cD ?_;have N:=dc;refine e5 (e4 (G.region ?_));refine o.v1 bD ?_;refine o.W (o.nil ?_);refine aP.sub (e1 (i+1) _ ?_ ?_) ⟨rfl,rfl,rfl,rfl,rfl,(aD (by omega)),(aD (by omega)),trivial⟩
     ·exact⟨(by omega),M⟩
     ·first|omega|(simp only;omega)|(simp;omega)
    ·
     refine G.exit (e3 (e2 (ce ?_)));refine eY ?_
     refine G.cut (fun(_:Unit)=>[(1,.pointer (some ⟨I.size,0,none⟩)),(3,.pointer (some ⟨H1.size,0,none⟩)),(4,.pointer (some ⟨P.size,0,none⟩)),(5,.bool aH)])
      (fun(_:Unit) (H:Heap)=>(True)∧ak a4 H) (fun _ b5 _=>?_) ?_
     ·
      have Z:ak a4 a4:=V.refl _ _;refine dC (fun t=>ak a4 t) [] ?_;have n:=ak.refl a4;refine O.W 0 rfl n ?_;refine O.W 1 rfl n ?_;refine O.t1 2 rfl (fun t k=>eI) n ?_;refine O.W 3 rfl n ?_;refine O.split (d:=95) rfl (fun cn=>?_) (fun cn=>?_)
      ·
       refine O.g1 4 rfl rfl rfl rfl n ?_;refine O.g1 5 rfl rfl rfl rfl n ?_;refine O.g1 6 rfl rfl rfl rfl n ?_;refine O.g1 7 rfl rfl rfl rfl n ?_;refine O.g1 8 rfl rfl rfl rfl n ?_;refine O.t1 9 rfl (fun t k=>eh) n ?_;refine O.aY 10 ?_;refine ch jQ (j_ _ 5 w0 _) (fun fa bq bP=>?_);obtain⟨rfl,aA⟩:=bP;replace Z:=Z.L aA;have hk:=aA.size;have bb:=n.L aA;refine O.cn bb ?_;have bd:=ak.refl bq;refine cD ?_;have N:=bd;refine aP.sub (b5 () _ ?_) ⟨rfl,rfl,rfl,rfl,trivial⟩;exact⟨trivial,Z⟩
      ·
       have k:=bV (by simpa using cn);have N:=X.h5 k.1 k.2;have fV:=N.br;refine O.bQ 4 rfl (fun t k=>Y.ai (E.N.M k) rfl bu rfl bO) bh n ?_;refine O.bQ 5 rfl (fun t k=>ar ((E.N.drop 1).M k) bL) bh n ?_;refine O.bQ 6 rfl (fun t k=>fy dN) bh n ?_;refine O.aY 7 ?_;refine dD.call rfl rfl lU rfl bh rfl rfl (oX w0 _) (fun gz fI fQ=>?_);obtain⟨rfl,aB⟩:=fQ;replace Z:=Z.L aB;have hl:=aB.size;have de:=n.L aB;refine O.cn de ?_;have bs:=ak.refl fI;refine O.bQ 8 rfl (fun t k=>(eH).gq (by omega)) bh bs ?_;refine O.t1 9 rfl (fun t k=>dI) bs ?_;refine O.aY 10 ?_;refine ch jQ (j_ _ 5 w0 _) (fun fa bq bP=>?_);obtain⟨rfl,aA⟩:=bP;replace Z:=Z.L aA;have hn:=aA.size;have bb:=bs.L aA;refine O.cn bb ?_;have bd:=ak.refl bq;refine cD ?_;have N:=bd;refine aP.sub (b5 () _ ?_) ⟨rfl,rfl,rfl,rfl,trivial⟩;exact⟨trivial,Z⟩
     ·
      intro _ aS cH;obtain⟨bX,ac⟩:=cH;replace hm:=hm.M ac;replace C:=C.M ac;replace B:=B.M ac;replace F:=F.M ac;replace E:=E.M ac;replace A:=A.L ac;have ho:=ac.size
      refine G.cut (fun(_:Unit)=>[(3,.pointer (some ⟨H1.size,0,none⟩)),(4,.pointer (some ⟨P.size,0,none⟩)),(5,.bool aH)])
       (fun(_:Unit) (H:Heap)=>(True)∧ak aS H) (fun _ b6 _=>?_) ?_
      ·
       have au:ak aS aS:=V.refl _ _;refine dC (fun t=>ak aS t) [] ?_;have n:=ak.refl aS;refine O.W 0 rfl n ?_;refine O.t1 1 rfl (fun t k=>Y.ai (B.N.M k) rfl bx rfl cW) n ?_;refine O.t1 2 rfl (fun t k=>ar ((B.N.drop 3).M k) dr) n ?_;refine O.t1 3 rfl (fun t k=>eI) n ?_;refine O.W 4 rfl n ?_;refine O.split (d:=107) rfl (fun b7=>?_) (fun b7=>?_)
       ·
        refine O.g1 5 rfl rfl rfl rfl n ?_;refine O.g1 6 rfl rfl rfl rfl n ?_;refine O.g1 7 rfl rfl rfl rfl n ?_;refine O.g1 8 rfl rfl rfl rfl n ?_;refine O.jV 9 rfl rfl rfl rfl n ?_;refine O.jV 10 rfl rfl rfl rfl n ?_;refine O.jV 11 rfl rfl rfl rfl n ?_;refine O.jV 12 rfl rfl rfl rfl n ?_;refine O.g1 13 rfl rfl rfl rfl n ?_;refine O.t1 14 rfl (fun t k=>eh) n ?_;refine O.aY 15 ?_;refine ch jQ (j_ _ 1 w0 _) (fun cs bt bQ=>?_);obtain⟨rfl,aE⟩:=bQ;replace au:=au.L aE;have hp:=aE.size;have bc:=n.L aE;refine O.cn bc ?_;have bj:=ak.refl bt;refine cD ?_;have N:=bj;refine aP.sub (b6 () _ ?_) ⟨rfl,rfl,rfl,trivial⟩;exact⟨trivial,au⟩
       ·
        have gA:=X.kR (by simpa using b7);refine O.bQ 5 rfl (fun t k=>Y.ai (E.N.M k) rfl bu rfl b1) bh n ?_;refine O.bQ 6 rfl (fun t k=>ar (E.N.M k) cd) bh n ?_;refine O.bQ 7 rfl (fun t k=>(dH).gq (by omega)) bh n ?_;refine O.bQ 8 rfl (fun t k=>fp) bh n ?_;refine O.bQ 9 rfl (fun t k=>Y.ai (E.N.M k) rfl bu rfl b1) bh n ?_;refine O.bQ 10 rfl (fun t k=>ar (E.N.M k) cd) bh n ?_;refine O.aY 11 ?_;refine dD.call rfl rfl lU rfl bh rfl rfl (oX w0 _) (fun hs dg fc=>?_);obtain⟨rfl,bz⟩:=fc;replace au:=au.L bz;have ht:=bz.size;have cG:=n.L bz;refine O.cn cG ?_;have a6:=ak.refl dg;refine O.bQ 12 rfl (fun t k=>(eH).gq (by omega)) bh a6 ?_;refine O.bQ 13 rfl (fun t k=>eh) bh a6 ?_;refine O.t1 14 rfl (fun t k=>dI) a6 ?_;refine O.aY 15 ?_;refine ch jQ (j_ _ 1 w0 _) (fun cs bt bQ=>?_);obtain⟨rfl,aE⟩:=bQ;replace au:=au.L aE;have hv:=aE.size;have bc:=a6.L aE;refine O.cn bc ?_;have bj:=ak.refl bt;refine cD ?_;have N:=bj;refine aP.sub (b6 () _ ?_) ⟨rfl,rfl,rfl,trivial⟩;exact⟨trivial,au⟩
      ·
       intro _ b2 cK;obtain⟨bX,aJ⟩:=cK;replace hm:=hm.M aJ;replace C:=C.M aJ;replace F:=F.M aJ;replace E:=E.M aJ;replace A:=A.L aJ;have hx:=aJ.size;refine G.t1 (fun b8=>G.L (fun bo=>?_));refine o.W (o.nil (bo ?_));refine cI (fun b9=>?_) (fun b9=>?_)
       ·
        have k:=bV b9;have N:=X.h5 k.1 k.2;have hM:=N.a6;have hN:=N.dn;have hO:=N.md;refine G.t1 (fun dA=>G.L (fun fe=>?_));refine o.v1 (Y.ai E.N rfl bu rfl b1) ?_;refine o.v1 (ar E.N.ir cd) ?_;refine o.v1 (Y.ai E.N rfl bu rfl b1) ?_;refine o.v1 (ar E.N.jD cd) ?_;refine o.aO (cU _ ([x.q.dn,x.q.md]) DS kn ko (rfl)) fun fg b_ fh=>?_;obtain⟨aY,aM,gp,dh⟩:=fh;have fZ:b_.size=b2.size+1:=by rw[dh];simp
        replace hm:=hm.M aM;replace C:=C.M aM;replace F:=F.M aM;replace E:=E.M aM;replace A:=A.L aM;have hz:=aM.size;refine o.v1 (ba aY.rd zl) ?_;refine o.W (o.nil (fe ?_));refine G.aB (fun _ ed _=>?_)
        refine G.bd (fun(i:(Nat))=>[(3,.pointer (some ⟨H1.size,0,none⟩)),(4,.pointer (some ⟨P.size,0,none⟩)),(124,fg),(125,.int .i64 2),(126,.int .i64 i)])
         (fun(i:(Nat)) (H:Heap)=>(i≤2)∧ak b_ H)
         (fun(i:(Nat))=>2-i) 0 ⟨rfl,rfl,rfl,rfl,rfl,trivial⟩ ?_ ?_
        ·
         exact⟨(by omega),V.refl _ _⟩
        intro i cp em gB ei ej;obtain⟨bU,am⟩:=em;replace hm:=hm.M am;replace C:=C.M am;replace F:=F.M am;replace E:=E.M am;replace aY:=aY.M am;replace A:=A.L am;have gW:=am.size;refine G.L (fun eo=>?_);refine o.v1 bG (o.nil (eo ?_));refine G.t2 (fun ep er=>?_);refine aT (fun et=>?_) (fun et=>?_)
        ·
         refine G.skip (ep (G.t1 (fun eu=>G.aB (fun ev _ _=>G.L (fun ew=>?_)))));have aF:i<[x.q.dn,x.q.md].length:=by simp;omega
         have k:0≤[x.q.dn,x.q.md][i]∧[x.q.dn,x.q.md][i]≤65535:=by
          have hm:=List.getElem_mem aF;rcases List.mem_cons.1 hm with h|h
          ·rw[h];omega
          ·rw[List.mem_singleton.1 h];omega
         refine o.v1 (mh aY (i) zl b1) ?_;refine o.v1 (ar (aY.N (j:=i) (by first|omega|(simp;omega)|(simp;done))) cd) ?_;refine o.aj ?_;refine ew (G.region ?_);refine o.ax 2 ?_;refine o.v1 ((dH).gq (by omega)) ?_;refine o.ax 2 ?_;refine o.call rfl lU rfl bh rfl rfl (xa w0 _) (fun hA bR ey=>?_);obtain⟨rfl,bZ⟩:=ey;replace am:=am.L bZ;have hB:=bZ.size;refine o.an ((eH).gq (by omega)) ?_;refine o.N ?_;refine aV jQ (j_ _ 1 w0 _) (fun es hC eB=>?_);obtain⟨rfl,a9⟩:=eB;replace am:=am.L a9;have hD:=a9.size;refine o.nil (ev (eu (G.region ?_)));refine o.v1 bD ?_;refine o.W (o.nil ?_);refine aP.sub (ei (i+1) _ ?_ ?_) ⟨rfl,rfl,rfl,(aD (by omega)),(aD (by omega)),trivial⟩
         ·exact⟨(by omega),am⟩
         ·first|omega|(simp only;omega)|(simp;omega)
        ·
         refine G.exit (er (ej (ed ?_)));refine dA (G.L (fun eC=>?_));refine o.v1 (Y.ai E.N rfl bu rfl en) ?_;refine o.v1 (ar E.N.fL ff) ?_;refine o.v1 (ba C fm) ?_;refine o.W (o.nil (eC ?_));refine G.aB (fun _ eD _=>?_)
         refine G.bd (fun(i:(Nat))=>[(3,.pointer (some ⟨H1.size,0,none⟩)),(141,x.q.cM.v),(142,.int .i64 (x.q.a6.length:Int)),(143,.int .i64 i)])
          (fun(i:(Nat)) (H:Heap)=>(i≤x.q.a6.length)∧ak cp H)
          (fun(i:(Nat))=>x.q.a6.length-i) 0 ⟨rfl,rfl,rfl,rfl,trivial⟩ ?_ ?_
         ·
          exact⟨(by omega),V.refl _ _⟩
         intro i ct fR gC eF eG;obtain⟨bU,Q⟩:=fR;replace C:=C.M Q;replace F:=F.M Q;replace A:=A.L Q;have ex:=Q.size;refine G.L (fun eJ=>?_);refine o.v1 bG (o.nil (eJ ?_));refine G.t2 (fun eK eL=>?_);refine aT (fun eM=>?_) (fun eM=>?_)
         ·
          refine G.skip (eK (G.t1 (fun eN=>G.aB (fun eO _ _=>G.L (fun eR=>?_)))));have aF:i<x.q.a6.length:=by omega
          obtain⟨y,ae⟩:∃q,q=x.q.a6[i]:=⟨_,rfl⟩;have aO:y∈x.q.a6:=by rw[ae];exact List.getElem_mem aF
          have fU:=N.dd y aO;refine o.bR (Y.bJ C (i) rfl fm ha rfl rfl) fun dl di=>?_;refine o.v1 (Y.cast (v2:= .agg (c4 y).toArray) (aW di.N mA ha (hU _)) (by rw[ae])) ?_;refine o.aO (cQ tV) fun gE fS fT=>?_;obtain⟨rfl,aQ,ca,gF,eT⟩:=fT;have cJ:fS.size=ct.size+1:=by rw[eT];simp
          have eU:T 0 cp.size (ct.size+1):=T.new Q.size;replace Q:=Q.L ca;have gG:=ca.size;refine o.s1 (dy aQ (_) (c4 y) (mM y) ha (hU _) ((c0 (hU _).symm))) fun b4 dj=>?_;obtain⟨aQ,a7⟩:=dj;replace a7:=a7.bp;replace Q:=Q.bl a7 (ag.J (aq.q eU));have gH:=a7.size;refine o.nil (eR ?_);refine dC (fun t=>ak b4 t) [] ?_;have n:=ak.refl b4;refine O.W 0 rfl n ?_;refine O.t1 1 rfl (fun t k=>Y.ai (aQ.N.M k) rfl jE rfl b1) n ?_;refine O.t1 2 rfl (fun t k=>ar (aQ.N.M k) cd) n ?_;refine O.t1 3 rfl (fun t k=>(dH).gq (by omega)) n ?_;refine O.W 4 rfl n ?_;refine O.bQ 5 rfl (fun t k=>Y.ai (aQ.N.M k) rfl jE rfl b1) bh n ?_;refine O.bQ 6 rfl (fun t k=>ar (aQ.N.M k) cd) bh n ?_;refine O.aY 7 ?_;refine dD.call rfl rfl lU rfl bh rfl rfl (oX w0 _) (fun gI dk eV=>?_);obtain⟨rfl,bA⟩:=eV;replace Q:=Q.L bA;have gJ:=bA.size;have dK:=n.L bA;refine O.cn dK ?_;have bk:=ak.refl dk;refine O.bQ 8 rfl (fun t k=>(eH).gq (by omega)) bh bk ?_;refine O.t1 9 rfl (fun t k=>eh) bk ?_;refine O.aY 10 ?_;refine ch jQ (j_ _ 1 w0 _) (fun gK dm d_=>?_);obtain⟨rfl,bC⟩:=d_;replace Q:=Q.L bC;have gL:=bC.size;have dL:=bk.L bC;refine O.cn dL ?_;have dO:=ak.refl dm;refine cD ?_;have N:=dO;refine eO (eN (G.region ?_));refine o.v1 bD ?_;refine o.W (o.nil ?_);refine aP.sub (eF (i+1) _ ?_ ?_) ⟨rfl,rfl,(aD (by omega)),(aD (by omega)),trivial⟩
          ·exact⟨(by omega),Q⟩
          ·first|omega|(simp only;omega)|(simp;omega)
         ·
          refine G.exit (eL (eG (eD ?_)));refine b8 (G.L (fun ea=>?_));refine o.ax 2 ?_;refine o.v1 (Y.ai F.N rfl k7 rfl qX) ?_;refine o.v1 (ar (F.N.drop 2) pI) ?_;refine o.aj ?_;refine ea ?_;refine G.ret (cv ?_);exact⟨rfl,A⟩
       ·
        refine G.skip (b8 (G.L (fun eb=>?_)));refine o.ax 2 ?_;refine o.v1 (Y.ai F.N rfl k7 rfl qX) ?_;refine o.v1 (ar (F.N.drop 2) pI) ?_;refine o.aj ?_;refine eb ?_;refine G.ret (cv ?_);exact⟨rfl,A⟩
theorem vU(x:b0)(F:Nat→Prop)(w0:World)(I:Heap)
 (t:e6 F I x) (R:bg F I.size) (L:k_ x):
 aC Tryz.prog w0 37 #[eg x] I (fun r bN=>∃s2:aM,∃a8:Nat,r= .tuple #[s2.v,.int .i64 0]∧(aU a8 5 bN a1 1 s2.v (fi x))∧(T 0 I.size a8)∧ak I bN):=by
 refine aC.aK [eg x] Tryz.func37 ?_;intro fM fL;have n:ak I I:=V.refl _ _;have ha:=t.m.len;have gZ:=t.e.len;have aK:=L.ml;have gz:=L.el;have fK:=pa L;refine G.L (fun en=>?_);refine o.aO cr ?_;rintro v1 H1 ⟨rfl,k,bJ,gd,ep⟩;have fS:H1.size=I.size+1:=by rw[ep];simp
 replace t:=t.M bJ;replace n:=n.L bJ;have gf:=bJ.size;replace k:Var 32 H1 I.size (df x):=k;refine o.aR 2 ?_;refine en (G.t1 (fun er=>G.L (fun et=>?_)));refine o.v1 (aW k.N gM fk (dY _)) ?_;refine aV Ca (Ih x w0 _ t.m.any t.q.any t.e.any (fun y hy=>(t.d y hy).any) L) (fun gg A eu=>?_);obtain⟨rfl,bc⟩:=eu;replace t:=t.M bc;replace k:=k.M bc;replace n:=n.L bc;have gh:=bc.size;refine o.aj ?_;refine et (G.L (fun ev=>?_));refine o.W ?_;refine o.v1 ((c1).fC (by simp)) (o.nil (ev ?_));refine dB ?_;refine G.skip (er (G.L (fun ew=>?_)));refine o.v1 (Y.build (v:= .agg #[(.slice none 0 0),.int .i64 0,.int .i64 0]) rfl rfl (by intro w;kernel_rfl)) ?_;refine o.aO cr fun gi aI ey=>?_;obtain⟨rfl,j,bd,fT,dF⟩:=ey;have fP:aI.size=A.size+1:=by rw[dF];simp
 have W:=(ay.new (R.mono n.size):ay _ (A.size+1));have Q:af (I.size+1) (A.size+1):=af.new k.lt;have aj:T 0 I.size (A.size+1):=T.new n.size;replace t:=t.M bd;replace k:=k.M bd;replace n:=n.L bd;have gj:=bd.size;replace j:Var 223 aI A.size ([(⟨none,0,0⟩:aM).v,.int .i64 0,.int .i64 0]):=j;refine o.aj ?_;refine ew (G.t1 (fun eC=>?_));refine dC (fun aH=>V (aE [(A.size+1)]) aI aH) [] ?_;have C:V (aE [(A.size+1)]) aI aI:=V.refl _ _;have dU:=T.refl (A.size+1) aI.size;refine O.W 0 rfl C ?_;refine O.t1 1 rfl (fun aH ab=>Y.fieldAddr (k.ab ab (ah.J Q)).N rfl bx rfl rfl cW (by decide) rfl) C ?_;refine O.t1 2 rfl (fun aH ab=>Y.fQ (k.ab ab (ah.J Q)).N rfl dr rfl) C ?_;refine O.t1 4 rfl (fun aH ab=>Y.fieldAddr (k.ab ab (ah.J Q)).N rfl bx rfl rfl cW (by decide) rfl) C ?_;refine O.t1 5 rfl (fun aH ab=>ar ((k.ab ab (ah.J Q)).N.drop 3) dr) C ?_;refine O.aY 3 ?_;refine ch rU (tL x.bE 1 w0 _) (fun gk bH dV=>?_);obtain⟨rfl,aO⟩:=dV;replace t:=t.M aO;replace k:=k.M aO;replace j:=j.M aO;replace n:=n.L aO;replace C:=C.bc aO;have gm:=aO.size;refine O.b3 C (ag.J (aq.r dU)) ?_;have C:V (aE [(A.size+1)]) bH bH:=V.refl _ _;have dW:=T.refl (A.size+1) bH.size;refine O.aY 6 ?_;refine ch rU (tL x.ao 2 w0 _) (fun gn a9 dE=>?_);obtain⟨rfl,aQ⟩:=dE;replace t:=t.M aQ;replace k:=k.M aQ;replace j:=j.M aQ;replace n:=n.L aQ;replace C:=C.bc aQ;have d0:=aQ.size;refine O.b3 C (ag.J (aq.r dW)) ?_;have C:V (aE [(A.size+1)]) a9 a9:=V.refl _ _;have cB:=T.refl (A.size+1) a9.size;refine O.t1 7 rfl (fun aH ab=>Y.FJ rfl rfl rfl) C ?_;refine O.aY 8 ?_;refine ch kL (k9 _ _ _ [] 1 _ w0 _ j (aU.nil eB fH) af.z (by decide) (by simp)) (fun d1 ai dZ=>?_);have d_:=k.lt;obtain⟨ea,S,rfl,j,d,bh,cP,aZ⟩:=dZ;have b1:=ay.app (ay.z) (R.mono n.size) bh;have b5:af (I.size+1) S:=af.app (af.z) d_ bh;have b8:T 0 I.size S:=T.L (T.refl 0 _) bh n.size;have dH:T 0 a9.size S:=T.L (T.refl 0 _) bh C.size;replace t:=t.ab aZ (az.cons W (az.J ay.z));replace k:=k.ab aZ (ah.cons Q (ah.J af.z));replace n:=n.bl aZ (ag.cons (aq.q aj) (ag.cons aq.z ag.nil));replace C:=C.aJ aZ (ag.cons (aq.r cB) (ag.cons aq.z ag.nil));have d2:=aZ.size;have N:=d.le;refine O.b3 C (ag.cons (aq.r cB) (ag.J (aq.q dH))) ?_;refine cD ?_;refine eC ?_
 refine G.cut (fun(aF:(aM)×(Nat))=>match aF with|(s1,aA)=>[(1,.pointer (some ⟨I.size,0,none⟩)),(5,.pointer (some ⟨A.size,0,none⟩))])
  (fun(s1,aA) (H:Heap)=>(Var 223 H A.size [s1.v,.int .i64 0,.int .i64 0])∧(aU aA 5 H a1 1 s1.v (jk x))∧(T S ai.size aA)∧(af (A.size+1) aA)∧V (aE [(A.size+1),S]) ai H) (fun _ cC _=>?_) ?_
 ·
  have aX:V (aE [(A.size+1),S]) ai ai:=V.refl _ _;have c5:=T.refl (A.size+1) ai.size;have bF:=T.refl S ai.size;refine G.L (fun cE=>?_);refine o.v1 (Y.ai k.N rfl bx rfl cW) ?_;refine o.v1 (ar k.N dr) (o.nil (cE ?_));refine cI (fun bt=>?_) (fun bt=>?_)
  ·
   refine G.region ?_;refine o.W ?_;refine o.v1 (Y.ai k.N rfl bx rfl bO) ?_;refine o.v1 (ar (k.N.drop 1) bL) ?_;refine aV oB (py _ _ _ _ 1 x.al w0 _ j d (cP) (by simp[dR]) (by decide) (by have:=L.al bt;omega)) (fun d3 d4 eb=>?_);obtain⟨ec,cG,rfl,j,d,dI,fu,b9⟩:=eb;have dJ:T S ai.size cG:=T.L (bF) dI aX.size;replace aX:=aX.aJ b9 (ag.cons (aq.r c5) (ag.J (aq.r bF)));have d5:=b9.size;have N:=d.le;refine o.nil ?_;refine aP.sub (cC (ec,cG) _ ?_) ⟨rfl,rfl,trivial⟩;exact⟨j,(by rw[jk,if_pos bt];exact d),dJ,fu,aX⟩
  ·
   refine G.skip ?_;refine aP.sub (cC (ea,S) _ ?_) ⟨rfl,rfl,trivial⟩;exact⟨j,(by rw[jk,if_neg (by simp[bt]),List.append_nil];exact d),bF,cP,aX⟩
 ·
  rintro⟨s1,aA⟩ fN cY;obtain⟨j,d,K,ac,bp⟩:=cY;have bT:=ay.app (b1) (R.mono n.size) K;have be:af (I.size+1) aA:=af.app (b5) k.lt K;have bY:T 0 I.size aA:=T.L (b8) K n.size;replace t:=t.ab bp (az.cons W (az.J b1));replace k:=k.ab bp (ah.cons Q (ah.J b5));replace n:=n.bl bp (ag.cons (aq.q aj) (ag.J (aq.q b8)));have d6:=bp.size;have N:=d.le;have dK:=ac;refine G.L (fun eD=>?_);refine o.W ?_;refine o.v1 (Y.ai k.N rfl bx rfl ek) ?_;refine o.v1 (ar (k.N.drop 2) ez) ?_;refine o.v1 (ba t.m dG) ?_;refine o.v1 (Y.hx rfl gl gT rfl) ?_;refine aV kL (k9 _ _ _ _ 2 _ w0 _ j d (dK) (by decide) (by omega)) (fun d7 aa fg=>?_);have dL:=k.lt;obtain⟨bf,X,rfl,j,d,bA,fy,bj⟩:=fg;have ca:=ay.app (bT) (R.mono n.size) bA;have cb:af (I.size+1) X:=af.app (be) dL bA;have bi:T 0 I.size X:=T.L (bY) bA n.size;replace t:=t.ab bj (az.cons W (az.J bT));replace k:=k.ab bj (ah.cons Q (ah.J be));replace n:=n.bl bj (ag.cons (aq.q aj) (ag.J (aq.q bY)));have d8:=bj.size;have N:=d.le;refine o.nil (eD (G.t1 (fun dN=>G.L (fun dO=>?_))));refine o.v1 (Y.ai k.N rfl bx rfl ek) ?_;refine o.v1 (ar (k.N.drop 2) ez) ?_;refine o.v1 (ba t.m dG) ?_;refine o.W (o.nil (dO ?_));refine G.aB (fun _ c6 _=>?_)
  refine G.bd (fun(aF:(Nat)×(aM)×(Nat))=>match aF with|(i,aR,M)=>[(1,.pointer (some ⟨I.size,0,none⟩)),(5,.pointer (some ⟨A.size,0,none⟩)),(39,x.eL.v),(40,.int .i64 (x.ml.length:Int)),(41,.int .i64 i)])
   (fun(i,aR,M) (H:Heap)=>(i≤x.ml.length)∧(Var 223 H A.size [aR.v,.int .i64 0,.int .i64 0])∧(aU M 5 H a1 1 aR.v ((jk x++cj 2 (UInt64.ofNat x.ml.length)++(x.ml.take i).flatMap iN)))∧(T X aa.size M)∧(af (A.size+1) M)∧V (aE [(A.size+1),X]) aa H)
   (fun(i,aR,M)=>x.ml.length-i) (0,bf,X) ⟨rfl,rfl,rfl,rfl,rfl,trivial⟩ ?_ ?_
  ·
   exact⟨(by omega),j,(by simpa using d),T.refl _ _,fy,V.refl _ _⟩
  rintro⟨i,aR,M⟩ P ee d9 c_ db;obtain⟨fI,j,d,K,ac,B⟩:=ee;have bC:=ay.app (ca) (R.mono n.size) K;have cc:af (I.size+1) M:=af.app (cb) k.lt K;have aB:T 0 I.size M:=T.L (bi) K n.size;replace t:=t.ab B (az.cons W (az.J ca));replace k:=k.ab B (ah.cons Q (ah.J cb));replace n:=n.bl B (ag.cons (aq.q aj) (ag.J (aq.q bi)));have dd:=B.size;have N:=d.le;have a0:=ac;have bn:=T.refl (A.size+1) aa.size;have cd:=K;have fJ:=sM L i;have cS:(jk x++cj 2 (UInt64.ofNat x.ml.length)++(x.ml.take i).flatMap iN).length≤4400000000:=by simp only[List.length_append,dR];omega
  refine G.L (fun dc=>?_);refine o.v1 bG (o.nil (dc ?_));refine G.t2 (fun de dg=>?_);refine aT (fun fh=>?_) (fun fh=>?_)
  ·
   refine G.skip (de (G.t1 (fun dh=>G.aB (fun di _ _=>G.L (fun dj=>?_)))));have bb:i<x.ml.length:=by omega
   obtain⟨y,an⟩:∃q,q=x.ml[i]:=⟨_,rfl⟩;have bw:y∈x.ml:=by rw[an];exact List.getElem_mem bb
   have hf:=L.iM y bw;refine o.bR (Y.bJ t.m (i) rfl dG dM rfl rfl) fun gO dk=>?_;refine o.v1 (Y.cast (v2:= .agg (dt y).toArray) (aW dk.N iE dM (e0 _)) (by rw[an])) ?_;refine o.aO (cQ mi) ?_;rintro hg cU ⟨rfl,E,bu,gp,fj⟩;have gq:cU.size=P.size+1:=by rw[fj];simp
   have a2:af M (P.size+1):=af.new d.le;have bk:af (A.size+1) (P.size+1):=af.new j.lt;have dP:T 0 aa.size (P.size+1):=T.new B.size;replace d:=d.M bu;replace j:=j.M bu;replace B:=B.bc bu;have gr:=bu.size;refine o.s1 (dy E (_) (dt y) (kO y) dM (e0 _) ((c0 (e0 _).symm))) fun fQ dQ=>?_;obtain⟨E,aN⟩:=dQ;replace aN:=aN.bp;replace d:=d.ab aN (ah.J a2);replace j:=j.ab aN (ah.J bk);replace B:=B.aJ aN (ag.J (aq.q dP));have gv:=aN.size;refine o.nil (dj (G.L (fun eF=>?_)));refine o.W ?_;refine o.v1 (Y.ai E.N rfl cy rfl bO) ?_;refine o.v1 (ar E.N bL) ?_;refine aV oB (py _ _ _ _ 1 y.n w0 _ j d (a0) (by omega) (by decide) (by omega)) (fun gA gB fl=>?_);have eG:=E.lt;obtain⟨gC,cH,rfl,j,d,cg,fz,a3⟩:=fl;have cl:af (P.size+1) cH:=af.app (a2.symm) eG cg;have cn:T X aa.size cH:=T.L (cd) cg B.size;replace E:=E.ab a3 (ah.cons bk.symm (ah.J a2.symm));replace B:=B.aJ a3 (ag.cons (aq.r bn) (ag.J (aq.r cd)));have dl:=a3.size;have N:=d.le;refine o.nil (eF (G.L (fun eH=>?_)));refine o.W ?_;refine o.v1 (Y.ai E.N rfl cy rfl a_) ?_;refine o.v1 (Y.cast (v2:=bs y.J) (aW ((E.N.drop 1).take 32) b_ a_ (by rw[gY];exact bB _)) (b6 (gY _))) ?_;refine aV ns (n6 _ _ _ _ y.J w0 _ j d (fz) (by rw[List.length_append,hc];omega)) (fun gE gF cJ=>?_);have eI:=E.lt;obtain⟨gG,cK,rfl,j,d,cp,fA,a4⟩:=cJ;have ce:af (P.size+1) cK:=af.app (cl) eI cp;have br:T X aa.size cK:=T.L (cn) cp B.size;replace E:=E.ab a4 (ah.cons bk.symm (ah.J cl));replace B:=B.aJ a4 (ag.cons (aq.r bn) (ag.J (aq.r cn)));have dn:=a4.size;have N:=d.le;refine o.nil (eH (G.L (fun eJ=>?_)));refine o.W ?_;refine o.v1 (Y.ai E.N rfl cy rfl a_) ?_;refine o.v1 (Y.cast (v2:=bs y.w) (aW ((E.N.drop 33).take 32) b_ a_ (by rw[e1];exact bB _)) (b6 (e1 _))) ?_;refine aV ns (n6 _ _ _ _ y.w w0 _ j d (fA) (by rw[List.length_append,List.length_append,hc,y.J.2];omega)) (fun gH gI fm=>?_);obtain⟨gJ,fo,rfl,j,d,eL,fB,a5⟩:=fm;have ct:T X aa.size fo:=T.L (br) eL B.size;replace E:=E.ab a5 (ah.cons bk.symm (ah.J ce));replace B:=B.aJ a5 (ag.cons (aq.r bn) (ag.J (aq.r br)));have gb:=a5.size;have N:=d.le;refine o.nil (eJ (G.region ?_));refine o.W ?_;refine o.v1 (Y.ai E.N rfl cy rfl bO) ?_;refine o.v1 (ar E.N.mV bL) ?_;refine aV oB (py _ _ _ _ 2 y.y w0 _ j d (fB) (by rw[List.length_append,List.length_append,List.length_append,hc,y.J.2,y.w.2];omega) (by decide) (by omega)) (fun gK gL ds=>?_);obtain⟨fp,cL,rfl,j,d,dX,fC,cu⟩:=ds;have ci:T X aa.size cL:=T.L (ct) dX B.size;replace B:=B.aJ cu (ag.cons (aq.r bn) (ag.J (aq.r ct)));have gw:=cu.size;have N:=d.le;refine o.nil (di (dh (G.region ?_)));refine o.v1 bD ?_;refine o.W (o.nil ?_);refine aP.sub (c_ (i+1,fp,cL) _ ?_ ?_) ⟨rfl,rfl,rfl,(aD (by omega)),(aD (by omega)),trivial⟩
   ·exact⟨(by omega),j,(by rw[nE bb,←an,iN];simpa only[List.append_assoc]using d),ci,fC,B⟩
   ·first|omega|(simp only;omega)|(simp;omega)
  ·
   obtain rfl:i=x.ml.length:=by omega
   rw[List.take_length]at d cS;have fK:=pa L;refine G.exit (dg (db (c6 ?_)));refine dN ?_
   refine G.cut (fun(aF:(aM)×(Nat))=>match aF with|(bz,ib)=>[(1,.pointer (some ⟨I.size,0,none⟩)),(5,.pointer (some ⟨A.size,0,none⟩))])
    (fun(bz,ib) (H:Heap)=>(Var 223 H A.size [bz.v,.int .i64 0,.int .i64 0])∧(aU ib 5 H a1 1 bz.v (jh x))∧(T M P.size ib)∧(af (A.size+1) ib)∧V (aE [(A.size+1),M]) P H) (fun _ cv _=>?_) ?_
   ·
    have aY:V (aE [(A.size+1),M]) P P:=V.refl _ _;have c3:=T.refl (A.size+1) P.size;have bE:=T.refl M P.size;refine G.L (fun eM=>?_);refine o.v1 (Y.ai k.N rfl bx rfl cW) ?_;refine o.v1 (ar (k.N.drop 3) dr) (o.nil (eM ?_));refine cI (fun bv=>?_) (fun bv=>?_)
    ·
     refine G.region ?_;refine o.W ?_;refine o.v1 (Y.ai k.N rfl bx rfl cT) ?_;refine o.v1 (Y.cast (v2:=eo x.q) (aW ((k.N.drop 4).take 70) h8 cT (by rw[jc];exact ef _)) (b6 (jc x))) ?_;refine aV AN (Ii _ _ _ _ x.q F w0 _ j d (a0) (by omega) t.q (R.mono n.size) (W) (bC) (L.kR bv) (L.h5 bv)) (fun em gW fq=>?_);obtain⟨fr,cM,rfl,j,d,eN,fD,cw⟩:=fq;have eO:T M P.size cM:=T.L (bE) eN aY.size;replace aY:=aY.aJ cw (ag.cons (aq.r c3) (ag.J (aq.r bE)));have gx:=cw.size;have N:=d.le;refine o.nil ?_;refine aP.sub (cv (fr,cM) _ ?_) ⟨rfl,rfl,trivial⟩;exact⟨j,(by rw[jh,if_pos bv];exact d),eO,fD,aY⟩
    ·
     refine G.skip ?_;refine aP.sub (cv (aR,M) _ ?_) ⟨rfl,rfl,trivial⟩;exact⟨j,(by rw[jh,if_neg (by simp[bv]),List.append_nil];exact d),bE,a0,aY⟩
   ·
    rintro⟨bz,ib⟩ fO c2;obtain⟨j,d,K,ac,bq⟩:=c2;have cz:=ay.app (bC) (R.mono n.size) K;have eR:af (I.size+1) ib:=af.app (cc) k.lt K;have bP:T 0 I.size ib:=T.L (aB) K n.size;replace t:=t.ab bq (az.cons W (az.J bC));replace k:=k.ab bq (ah.cons Q (ah.J cc));replace n:=n.bl bq (ag.cons (aq.q aj) (ag.J (aq.q aB)));have gy:=bq.size;have N:=d.le;have dT:=ac;refine G.L (fun eT=>?_);refine o.W ?_;refine o.v1 (Y.ai k.N rfl bx rfl dp) ?_;refine o.v1 (ar k.N.fT dS) ?_;refine o.v1 (ba t.e cq) ?_;refine o.v1 (Y.hx rfl gl gT rfl) ?_;refine aV kL (k9 _ _ _ _ 2 _ w0 _ j d (dT) (by decide) (by have:=qE L;omega)) (fun gN aJ ft=>?_);obtain⟨e4,aL,rfl,j,d,b2,fE,bl⟩:=ft;have bQ:=ay.app (cz) (R.mono n.size) b2;have bS:T 0 I.size aL:=T.L (bP) b2 n.size;replace t:=t.ab bl (az.cons W (az.J cz));replace k:=k.ab bl (ah.cons Q (ah.J eR));replace n:=n.bl bl (ag.cons (aq.q aj) (ag.J (aq.q bP)));have fU:=bl.size;have N:=d.le;refine o.nil (eT (G.t1 (fun co=>G.L (fun eU=>?_))));refine o.v1 (Y.ai k.N rfl bx rfl dp) ?_;refine o.v1 (ar k.N.fT dS) ?_;refine o.v1 (ba t.e cq) ?_;refine o.W (o.nil (eU ?_));refine G.aB (fun _ eV _=>?_)
    refine G.bd (fun(aF:(Nat)×(aM)×(Nat))=>match aF with|(i,aS,Z)=>[(5,.pointer (some ⟨A.size,0,none⟩)),(75,x.cB.v),(76,.int .i64 (x.el.length:Int)),(77,.int .i64 i)])
     (fun(i,aS,Z) (H:Heap)=>(i≤x.el.length)∧(Var 223 H A.size [aS.v,.int .i64 0,.int .i64 0])∧(aU Z 5 H a1 1 aS.v (jh x++cj 2 (UInt64.ofNat x.el.length)++(x.el.take i).flatMap iL))∧(T aL aJ.size Z)∧(af (A.size+1) Z)∧V (aE [(A.size+1),aL]) aJ H)
     (fun(i,aS,Z)=>x.el.length-i) (0,e4,aL) ⟨rfl,rfl,rfl,rfl,trivial⟩ ?_ ?_
    ·
     exact⟨(by omega),j,(by simpa using d),T.refl _ _,fE,V.refl _ _⟩
    rintro⟨i,aS,Z⟩ a6 e5 bR eW cs;obtain⟨fI,j,d,K,ac,au⟩:=e5;have dm:=ay.app (bQ) (R.mono n.size) K;have dq:T 0 I.size Z:=T.L (bS) K n.size;replace t:=t.ab au (az.cons W (az.J bQ));replace n:=n.bl au (ag.cons (aq.q aj) (ag.J (aq.q bS)));have fV:=au.size;have N:=d.le;have dv:=ac;have ap:=T.refl (A.size+1) aJ.size;have bU:=K;have fJ:=vO L i;have hb:=qE L;have g_:=L.el;have cS:(jh x++cj 2 (UInt64.ofNat x.el.length)++(x.el.take i).flatMap iL).length≤8800000000:=by simp only[List.length_append,dR];omega
    refine G.L (fun eX=>?_);refine o.v1 bG (o.nil (eX ?_));refine G.t2 (fun bo dA=>?_);refine aT (fun e7=>?_) (fun e7=>?_)
    ·
     refine G.skip (bo (G.t1 (fun eY=>G.aB (fun eZ _ _=>G.L (fun e2=>?_)))));have bb:i<x.el.length:=by omega
     obtain⟨y,an⟩:∃q,q=x.el[i]:=⟨_,rfl⟩;have bw:y∈x.el:=by rw[an];exact List.getElem_mem bb
     have hd:=L.md y bw;refine o.bR (Y.bJ t.e (i) rfl cq cf rfl rfl) fun fW e3=>?_;refine o.v1 (Y.cast (v2:= .agg (bM y).toArray) (aW e3.N hF cf (cZ _)) (by rw[an])) ?_;refine o.aO (cQ kD) ?_;rintro v9 cV ⟨rfl,ae,a7,gP,e8⟩;have fX:cV.size=a6.size+1:=by rw[e8];simp
     have dw:=(ay.new (R.mono n.size):ay _ (a6.size+1));have bV:af Z (a6.size+1):=af.new d.le;have bX:af (A.size+1) (a6.size+1):=af.new j.lt;have dx:T 0 aJ.size (a6.size+1):=T.new au.size;replace t:=t.M a7;replace d:=d.M a7;replace j:=j.M a7;replace au:=au.bc a7;have fY:=a7.size;refine o.s1 (dy ae (_) (bM y) (gX y) cf (cZ _) ((c0 (cZ _).symm))) fun fR dz=>?_;obtain⟨ae,am⟩:=dz;replace am:=am.bp;replace t:=t.ab am (az.J dw);replace d:=d.ab am (ah.J bV);replace j:=j.ab am (ah.J bX);replace au:=au.aJ am (ag.J (aq.q dx));have fZ:=am.size;refine o.nil (e2 (G.L (fun ed=>?_)));refine o.W ?_;refine o.v1 (Y.ai ae.N rfl eS rfl a_) ?_;refine o.v1 (Y.cast (v2:=bs y.k) (aW (ae.N.take 32) b_ a_ (by rw[show(bM y).take 32=b7 y.k from eK y];exact bB _)) (b6 (show(bM y).take 32=b7 y.k from eK y))) ?_;refine aV ns (n6 _ _ _ _ y.k w0 _ j d (dv) (by omega)) (fun es gQ e_=>?_);obtain⟨gR,fa,rfl,j,d,eh,fF,bm⟩:=e_;have bZ:T aL aJ.size fa:=T.L (bU) eh au.size;replace t:=t.ab bm (az.cons W (az.J dm));replace ae:=ae.ab bm (ah.cons bX.symm (ah.J bV.symm));replace au:=au.aJ bm (ag.cons (aq.r ap) (ag.J (aq.r bU)));have f_:=bm.size;have N:=d.le;refine o.nil (ed (G.region ?_));refine o.W ?_;refine o.v1 (Y.ai ae.N rfl eS rfl da) ?_;refine o.v1 (ar ae.N.ji eA) ?_;refine o.v1 (Y.nr (t.d y bw) rfl Tryz.underlying57 Tryz.underlying9 Tryz.underlying5 rfl) ?_;refine aV oB (py _ _ _ _ 4 y.d w0 _ j d (fF) (by rw[List.length_append,y.k.2];omega) (by decide) (by omega)) (fun gS ex fc=>?_);obtain⟨fe,cO,rfl,j,d,ei,fG,b3⟩:=fc;have dD:T aL aJ.size cO:=T.L (bZ) ei au.size;replace au:=au.aJ b3 (ag.cons (aq.r ap) (ag.J (aq.r bZ)));have ga:=b3.size;have N:=d.le;refine o.nil (eZ (eY (G.region ?_)));refine o.v1 bD ?_;refine o.W (o.nil ?_);refine aP.sub (eW (i+1,fe,cO) _ ?_ ?_) ⟨rfl,rfl,(aD (by omega)),(aD (by omega)),trivial⟩
     ·exact⟨(by omega),j,(by rw[nE bb,←an,iL];simpa only[List.append_assoc]using d),dD,fG,au⟩
     ·first|omega|(simp only;omega)|(simp;omega)
    ·
     obtain rfl:i=x.el.length:=by omega
     rw[List.take_length]at d;refine G.exit (dA (cs (eV ?_)));refine co (G.L (fun ej=>?_));refine o.W ?_;refine aV AO (H6 _ _ w0 _ j) (fun gU gV ff=>?_);obtain⟨rfl,b4⟩:=ff;replace d:=d.M b4;replace n:=n.L b4;refine o.v1 cN ?_;refine o.v1 cN ?_;refine o.aR 2 ?_;refine ej ?_;refine G.ret (fL ?_);exact⟨aS,Z,rfl,by rw[vR];exact d,dq,n⟩
end fG

namespace fz
open E Go.RowKit
theorem aC.still{P:Program}{w0:World}{f:FuncId}{args:Array Value}{H:Heap}{v:Value}(h:∀w,At w0 H w→Calls P f args w fun e i=>e= .returned v∧i=w):aC P w0 f args H (fun r j=>r=v∧ak H j):=
 fun w d=>(h w d).mono (fun e i ⟨he,hw⟩=>⟨v,H,he,by rw[hw];exact d,rfl,ak.refl _⟩)
abbrev dV(m:Int)(H:Heap):Prop:=kE (fun b=>b=0) H ⟨0,0,none⟩ [.int .i64 m]
theorem dV.cell{m:Int}{H:Heap}{w0 w:World}(h:dV m H)(d:At w0 H w):w.cell? ⟨0,0,none⟩=some (.int .i64 m):=by
 have:=h.N.cells 0 (.int .i64 m) rfl;rw[d.cell];exact this
theorem r2(s sub:List UInt8)(bk:Int)(w0:World)(I:Heap)(aN:dV bk I)(ao:s.length<4294967281):aC Tryz.prog w0 166 #[aI s,aI sub] I (fun r d=>r= .bool (Lib.contains s sub)∧ak I d):=
 aC.still (fun w i=>by
  have h:Calls Tryz.prog 166 #[aI s,aI sub] w fun e j=>e= .returned (.bool (Lib.contains s sub))∧j=w:=Any.strings_Contains Tryz.lays144 ⟨s.toArray⟩ ⟨sub.toArray⟩ bk w (by simpa[ByteArray.size]using ao) (aN.cell i);exact h)
theorem jx(s:List UInt8)(c:UInt8)(w0:World)(I:Heap):aC Tryz.prog w0 167 #[aI s,.int .u8 c.toNat] I (fun r d=>r= .int .i64 (Lib.indexByte s c)∧ak I d):=
 aC.still (fun w j=>by
  have h:Calls Tryz.prog 167 #[aI s,.int .u8 c.toNat] w fun e i=>e= .returned (.int .i64 (Lib.indexByte s ((c.toNat:Int)).toNat.toUInt8))∧i=w:=Any.strings_IndexByte Tryz.lays137 ⟨s.toArray⟩ c.toNat w;have e:((c.toNat:Int)).toNat.toUInt8=c:=by simp
  rw[e]at h;exact h)
def nK(p:List UInt8):List UInt8:=(p.reverse.takeWhile (fun c=>c≠47)).reverse
theorem wZ{p:List UInt8}{j:Nat}(t:j≤p.length)(o:∀q (h:q<p.length),j≤q→p[q]≠47)(U:∀h:0<j,p[j-1]'(by omega)=47):nK p=p.drop j:=by
 have e:p.reverse=(p.drop j).reverse++(p.take j).reverse:=by rw[←List.reverse_append,List.take_append_drop]
 have al:∀c∈(p.drop j).reverse,(decide (c≠47))=true:=by
  intro c av;rw[List.mem_reverse,List.mem_iff_getElem]at av;obtain⟨q,r,rfl⟩:=av;rw[List.getElem_drop]
  simpa using o (j+q) (by simpa using(by rw[List.length_drop]at r;omega)) (by omega)
 unfold nK;rw[e,List.takeWhile_append_of_pos al];rcases Nat.eq_zero_or_pos j with d|d
 ·subst d;simp
 ·have n:(p.take j).reverse=47::(p.take (j-1)).reverse:=by
   have:p.take j=p.take (j-1)++[47]:=by
    have k:=List.take_succ_eq_append_getElem (l:=p) (i:=j-1) (by omega);rw[show j-1+1=j by omega,U d]at k;exact k
   rw[this];simp
  rw[n,List.takeWhile_cons];simp
theorem aC.Ht{P:Program}{w0:World}{f:FuncId}{args:Array Value}{H:Heap}{v:Value}(h:∀w,At w0 H w→Calls P f args w fun e i=>e= .returned v∧(i=w∨i=w.drew)):aC P w0 f args H (fun r j=>r=v∧ak H j):=
 fun w d=>(h w d).mono (fun e i ⟨he,hw⟩=>by
  rcases hw with rfl|rfl
  ·exact⟨v,H,he,d,rfl,ak.refl _⟩
  ·exact⟨v,H,he,d.drew,rfl,ak.refl _⟩)
theorem HK(s:List UInt8)(w0:World)(I:Heap)(ao:s.length≤9223372036854775807):aC Tryz.prog w0 165 #[aI s,aI [47]] I (fun r i=>r=aI (Lib.trimB s 47)∧ak I i):=
 aC.Ht (fun w j=>by
  have h:Calls Tryz.prog 165 #[aI s,aI [47]] w fun e d=>e= .returned (.string ⟨(Lib.trimB (⟨s.toArray⟩:ByteArray).data.toList 47).toArray⟩)∧(d=w∨d=w.drew):=Any.strings_Trim_one Tryz.lays160 ⟨s.toArray⟩ 47 (by decide) w (by simpa[ByteArray.size]using ao);exact h)
def dd:List UInt8→Bool
 |[]=>false
 |[_]=>false
 |a::b::l=>(a==47&&b==47)||dd (b::l)
theorem vH:∀s:List UInt8,(0≤Lib.index s [47,47])↔dd s=true
 |[]=>by simp[Lib.index,dd]
 |[a]=>by simp[Lib.index,dd,List.isPrefixOf]
 |a::b::l=>by
  have ih:=vH (b::l);have j:=Lib.index_ge (b::l) [47,47];rw[Lib.index];by_cases h:a=47∧b=47
  ·obtain⟨rfl,rfl⟩:=h
   simp[List.isPrefixOf,dd]
  ·have i:([47,47]:List UInt8).isPrefixOf (a::b::l)=false:=by
    simp only[List.isPrefixOf,Bool.and_true,Bool.and_eq_false_iff,beq_eq_false_iff_ne];by_cases d:a=47
    ·exact .inr (fun e=>h ⟨d,e.symm⟩)
    ·exact .inl (fun e=>d e.symm)
   have al:dd (a::b::l)=dd (b::l):=by
    rw[dd]
    have:(a==47&&b==47)=false:=by
     rw[Bool.and_eq_false_iff,beq_eq_false_iff_ne,beq_eq_false_iff_ne];by_cases d:a=47
     ·exact .inr (fun e=>h ⟨d,e⟩)
     ·exact .inl d
    rw[this,Bool.false_or]
   rw[i,al,←ih];simp only[Bool.false_eq_true,if_false];by_cases hm:Lib.index (b::l) [47,47]= -1
   ·simp[hm]
   ·simp[hm];omega
theorem r5:∀s:List UInt8,dd s=true↔∃i,i+1<s.length∧s.getD i 0=47∧s.getD (i+1) 0=47
 |[]=>by simp[dd]
 |[a]=>by simp[dd]
 |a::b::l=>by
  rw[dd,Bool.or_eq_true,r5 (b::l),Bool.and_eq_true,beq_iff_eq,beq_iff_eq];constructor
  ·rintro(⟨d,U⟩|⟨i,d,U,j⟩)
   ·exact⟨0,by simp,by simpa using d,by simpa using U⟩
   ·exact⟨i+1,by simp at d⊢;omega,by simpa using U,by simpa using j⟩
  ·rintro⟨i,d,U,j⟩
   cases i with
   |zero=>exact .inl ⟨by simpa using U,by simpa using j⟩
   |succ i=>exact .inr ⟨i,by simp at d⊢;omega,by simpa using U,by simpa using j⟩
theorem yN{p:List UInt8}(n:1≤p.length):tt p=true↔p.getD 0 0≠47∧p.getD (p.length-1) 0≠47∧dd p=false:=by
 unfold tt;rw[List.all_eq_true];simp only[List.mem_range,Bool.not_eq_true',Bool.and_eq_false_iff,beq_eq_false_iff_ne,Bool.or_eq_false_iff];constructor
 ·intro h
  refine⟨?_,?_,?_⟩
  ·rcases h 0 (by omega)with h|h
   ·exact h
   ·exact absurd rfl h.1.1
  ·rcases h (p.length-1) (by omega)with h|h
   ·exact h
   ·exact absurd rfl h.1.2
  ·cases al:dd p with
   |false=>rfl
   |true=>
    obtain⟨i,j,U,k⟩:=(r5 p).1 al;rcases h (i+1) j with h|h
    ·exact absurd k h
    ·exact absurd U (by simpa using h.2)
 ·rintro⟨j,U,k⟩ i o
  by_cases e:p.getD i 0=47
  ·refine .inr ⟨⟨fun d=>?_,fun d=>?_⟩,fun d=>?_⟩
   ·subst d;exact j e
   ·subst d;exact U e
   ·have:dd p=true:=(r5 p).2 ⟨i-1,by
     rcases Nat.eq_zero_or_pos i with h|h
     ·subst h;exact absurd e j
     ·omega,d,by
     rcases Nat.eq_zero_or_pos i with h|h
     ·subst h;exact absurd e j
     ·rw[show i-1+1=i by omega];exact e⟩
    rw[k]at this;cases this
  ·exact .inl e
theorem ze{p:List UInt8}(i:1≤p.length):Lib.trimB p 47=p↔p.getD 0 0≠47∧p.getD (p.length-1) 0≠47:=by
 have o:∀q:List UInt8,(Lib.trimLeftB q 47).length≤q.length:=fun q=>(List.dropWhile_suffix _).length_le;have t:∀q:List UInt8,(Lib.trimRightB q 47).length≤q.length:=fun q=>by unfold Lib.trimRightB;rw[List.length_reverse];have:=(List.dropWhile_suffix (l:=q.reverse) (fun x:UInt8=>x==47)).length_le;rwa[List.length_reverse]at this
 have d:∀q:List UInt8,1≤q.length→(Lib.trimLeftB q 47=q↔q.getD 0 0≠47):=by
  intro q r
  cases q with
  |nil=>simp at r
  |cons a l=>
   unfold Lib.trimLeftB;rw[List.dropWhile_cons];by_cases k:a=47
   ·have:(List.dropWhile (fun x:UInt8=>x==47) l).length≤l.length:=(List.dropWhile_suffix _).length_le
    simp only[k,beq_self_eq_true,if_true,List.getD_cons_zero,ne_eq,not_true,iff_false];intro e;rw[e]at this;simp only[List.length_cons]at this;omega
   ·simp[k]
 have n:Lib.trimRightB p 47=p↔p.getD (p.length-1) 0≠47:=by
  have h:=d p.reverse (by rw[List.length_reverse];omega)
  have aK:p.reverse.getD 0 0=p.getD (p.length-1) 0:=by
   simp[List.getD,List.getElem?_reverse (show 0<p.length by omega)]
  rw[←aK,←h];unfold Lib.trimRightB Lib.trimLeftB;constructor
  ·intro h;have:=congrArg List.reverse h;rwa[List.reverse_reverse]at this
  ·intro h;rw[h,List.reverse_reverse]
 unfold Lib.trimB;constructor
 ·intro h
  have e:Lib.trimRightB p 47=p:=by
   refine(List.IsPrefix.eq_of_length_le ?_ ?_)
   ·unfold Lib.trimRightB
    rw[←List.reverse_suffix,List.reverse_reverse];exact List.dropWhile_suffix _
   ·have j:=congrArg List.length h
    have U:=o (Lib.trimRightB p 47);omega
  rw[e]at h;exact⟨(d p i).1 h,n.1 e⟩
 ·rintro⟨j,U⟩
  rw[n.2 U];exact(d p i).2 j
theorem sT(p:List UInt8):cv p=true↔p≠[]∧p.length≤100∧Lib.trimB p 47=p∧Lib.contains p [47,47]=false∧∀i (h:i<p.length),m0 p[i]=true:=by
 have av:Lib.contains p [47,47]=dd p:=by
  unfold Lib.contains;rw[Bool.eq_iff_iff,decide_eq_true_iff];exact vH p
 unfold cv;simp only[Bool.and_eq_true,decide_eq_true_eq,List.all_eq_true];rw[av];constructor
 ·rintro⟨⟨⟨d,U⟩,n⟩,o⟩
  have j:=(yN d).1 o;exact⟨fun e=>by rw[e]at d;simp at d,U,(ze d).2 ⟨j.1,j.2.1⟩,j.2.2,fun i h=>n _ (List.getElem_mem h)⟩
 ·rintro⟨d,U,n,o,j⟩
  have k:1≤p.length:=by cases p with
   |nil=>exact absurd rfl d
   |cons a l=>simp
  have q:=(ze k).1 n;refine⟨⟨⟨k,U⟩,fun x t=>?_⟩,(yN k).2 ⟨q.1,q.2,o⟩⟩;obtain⟨i,r,rfl⟩:=List.mem_iff_getElem.1 t;exact j i r
theorem l4{p:List UInt8}(h:¬(p≠[]∧p.length≤100∧Lib.trimB p 47=p∧Lib.contains p [47,47]=false∧∀i (h:i<p.length),m0 p[i]=true)):cv p=false:=by
 cases aA:cv p with
 |false=>rfl
 |true=>exact absurd ((sT p).1 aA) h
theorem kx(c:UInt8):m0 c=true↔(97≤c.toNat∧c.toNat≤122)∨(48≤c.toNat∧c.toNat≤57)∨0≤Lib.indexByte [46,95,45,47] c:=by
 have h:∀n:Fin 256,(m0 (UInt8.ofNat n.val)=decide ((97≤n.val∧n.val≤122)∨(48≤n.val∧n.val≤57)∨0≤Lib.indexByte [46,95,45,47] (UInt8.ofNat n.val))):=by decide+kernel
 have:=h ⟨c.toNat,c.toNat_lt⟩;simp only[UInt8.ofNat_toNat]at this;rw[this,decide_eq_true_iff]
theorem DK{s:List UInt8}{j:Nat}(i:j≤s.length)(h:nK s=s.drop j):mQ s=s.take (j-1):=by
 unfold mQ;have d:=congrArg List.length h;unfold nK at d;rw[List.length_reverse,List.length_drop]at d;rw[d];congr 1;omega
theorem El(s:List UInt8)(w0:World)(I:Heap)
 (ae:s.length≤9223372036854775807):
 aC Tryz.prog w0 255 #[aI s,.int .u8 (47:UInt8).toNat] I (fun r B=>∃j:Nat,r= .int .i64 ((j:Int)-1)∧(j≤s.length)∧(nK s=s.drop j)∧ak I B):=by
 refine aC.aK [aI s,.int .u8 (47:UInt8).toNat] Tryz.func255 ?_;intro Z A;have d:ak I I:=V.refl _ _;refine G.L (fun F=>?_);refine o.aj ?_;refine F (G.t2 (fun K L=>G.L (fun M=>?_)));refine o.W ?_;refine o.v1 (fy dN) ?_;refine o.v1 fE ?_;refine o.aj ?_;refine M (G.aB (fun _ N au=>?_))
 refine G.bd (fun(j:(Nat))=>[(0,aI s),(1,.int .u8 (47:UInt8).toNat),(5,.int .i64 ((j:Int)-1))])
  (fun(j:(Nat)) (H:Heap)=>(j≤s.length)∧(∀q (h:q<s.length),j≤q→s[q]≠47)∧ak I H)
  (fun(j:(Nat))=>j) s.length ⟨rfl,rfl,rfl,trivial⟩ ?_ ?_
 ·
  exact⟨(by omega),(fun q h U=>absurd U (by omega)),V.refl _ _⟩
 intro j ab am Y O n;obtain⟨x,k,i⟩:=am;replace d:=d.L i;have aa:=i.size;refine G.t2 (fun ap P=>G.L (fun Q=>?_));refine o.W ?_;refine o.v1 dH (o.nil (Q ?_));refine aT (fun R=>?_) (fun R=>?_)
 ·
  refine G.skip (ap (G.t2 (fun S T=>G.aB (fun W _ X=>G.L (fun C=>?_)))));refine o.ax 2 ?_;refine o.v1 (jo (j-1) dN) ?_;refine o.W ?_;refine o.v1 b9 (o.nil (C ?_));refine aT (fun ac=>?_) (fun ac=>?_)
  ·
   refine G.L (fun ad=>?_);refine o.aR 2 ?_;refine ad ?_;refine G.ret (X (T (n (au (L (A ?_))))));exact⟨j,rfl,(by omega),wZ x k (fun h=>by apply UInt8.toNat_inj.1;have:=ac;simp at this⊢;omega),d⟩
  ·
   refine G.skip (W (S (G.region ?_)));refine o.W ?_;refine o.v1 fE ?_;refine o.aj ?_;refine aP.sub (O (j-1) _ ?_ ?_) ⟨rfl,(aD (by omega)),(aD (by omega)),trivial⟩
   ·exact⟨(by omega),(fun q h U=>by rcases Nat.lt_or_ge q j with t|t;(obtain rfl:q=j-1:=by omega);exact(fun e=>ac (by first|(rw[e];done)|(rw[e];rfl)));exact k q h t),i⟩
   ·first|omega|(simp only;omega)|(simp;omega)
 ·
  refine G.exit (P (n (N ?_)));refine K (G.L (fun E=>?_));refine o.aj ?_;refine E ?_;refine G.ret (A ?_);obtain rfl:j=0:=by omega
  exact⟨0,rfl,(by omega),wZ x k (fun h=>absurd h (Nat.lt_irrefl _)),d⟩
theorem Ek(s:List UInt8)(w0:World)(I:Heap)
 (t:s.length≤9223372036854775807):
 aC Tryz.prog w0 223 #[aI s,.int .u8 (47:UInt8).toNat] I (fun r i=>∃j:Nat,r= .int .i64 ((j:Int)-1)∧(j≤s.length)∧(nK s=s.drop j)∧ak I i):=by
 refine aC.aK [aI s,.int .u8 (47:UInt8).toNat] Tryz.func223 ?_;intro E A;have d:ak I I:=V.refl _ _;refine G.L (fun k=>?_);refine o.aj ?_;refine k (G.L (fun n=>?_));refine o.ax 2 ?_;refine aV BF (El s w0 _ t) ?_;rintro F C ⟨B,rfl,q,x,ac⟩;replace d:=d.L ac;refine o.aj ?_;refine n ?_;refine G.ret (A ?_);exact⟨B,rfl,q,x,d⟩
theorem mW(bk:Int)(l:List UInt8)(w0:World)(I:Heap)
 (aN:dV bk I) (bp:bg (fun b=>b=0) I.size) (bx:l.length≤4294967280):
 aC Tryz.prog w0 88 #[aI l] I (fun r az=>r= .bool (cv l)∧ak I az):=by
 refine aC.aK [aI l] Tryz.func88 ?_;intro bd A;have k:ak I I:=V.refl _ _;refine G.L (fun aW=>?_);refine o.aj ?_;refine aW (G.t2 (fun aX S=>G.L (fun T=>?_)));refine o.W ?_;refine o.v1 (Y.jB rfl rfl rfl) ?_;refine o.W ?_;refine o.bj (d:=7) rfl (fun g7=>?_) (fun g7=>?_)
 ·
  refine o.ax 14 ?_;refine o.nil (T ?_);refine G.ix rfl ?_;refine G.L (fun aY=>?_);refine o.aj ?_;refine aY ?_;refine G.ret (S (A ?_));exact⟨congrArg Value.bool (l4 (fun h=>by obtain⟨E,U,F,K,N⟩:=h;first|exact E g7|omega|exact M F|(rw[K]at x;cases x))).symm,k⟩
 ·
  refine o.bU ?_;refine o.an (fy dN) ?_;refine o.an eT ?_;refine o.ax 2 ?_;refine o.bj (d:=12) rfl (fun aZ=>?_) (fun aZ=>?_)
  ·
   refine o.ax 9 ?_;refine o.nil (T ?_);refine G.ix rfl ?_;refine G.L (fun a1=>?_);refine o.aj ?_;refine a1 ?_;refine G.ret (S (A ?_));exact⟨congrArg Value.bool (l4 (fun h=>by obtain⟨E,U,F,K,N⟩:=h;first|exact E g7|omega|exact M F|(rw[K]at x;cases x))).symm,k⟩
  ·
   refine o.bU ?_;refine o.call rfl Bf rfl bh rfl rfl (HK l w0 _ (by omega)) (fun a9 bl a6=>?_);obtain⟨rfl,am⟩:=a6;replace aN:=aN.M am;replace k:=k.L am;have bm:=am.size;refine o.bU ?_;refine o.an (Y.iS rfl rfl rfl) ?_;refine o.ax 2 ?_;refine o.bj (d:=18) rfl (fun M=>?_) (fun M=>?_)
   ·
    refine o.ax 3 ?_;refine o.nil (T ?_);refine G.ix rfl ?_;refine G.L (fun a7=>?_);refine o.aj ?_;refine a7 ?_;refine G.ret (S (A ?_));exact⟨congrArg Value.bool (l4 (fun h=>by obtain⟨E,U,F,K,N⟩:=h;first|exact E g7|omega|exact M F|(rw[K]at x;cases x))).symm,k⟩
   ·
    refine o.bU ?_;refine o.call rfl u5 rfl bh rfl rfl (r2 l [47,47] bk w0 _ aN (by omega)) (fun bn bo a8=>?_);obtain⟨rfl,an⟩:=a8;replace k:=k.L an;have bT:=an.size;refine o.dF ?_;refine o.nil (T ?_);refine cI (fun x=>?_) (fun x=>?_)
    ·
     refine G.L (fun a0=>?_);refine o.aj ?_;refine a0 ?_;refine G.ret (S (A ?_));exact⟨congrArg Value.bool (l4 (fun h=>by obtain⟨E,U,F,K,N⟩:=h;first|exact E g7|omega|exact M F|(rw[K]at x;cases x))).symm,k⟩
    ·
     refine G.skip (aX (G.t2 (fun b2 W=>G.L (fun a2=>?_))));refine o.W ?_;refine o.aO (Z.y0 rfl Tryz.underlying9 Tryz.underlying57 Tryz.underlying5 rfl (by omega)) fun ai a3 a4=>?_;obtain⟨P,aq,bf⟩:=a4;replace k:=k.L aq;have be:=aq.size;refine o.v1 (ba P.rd db) ?_;refine o.W (o.nil (a2 ?_));refine G.aB (fun _ bb Q=>?_)
     refine G.bd (fun(i:(Nat))=>[(23,ai),(24,.int .i64 l.length),(25,.int .i64 i)])
      (fun(i:(Nat)) (H:Heap)=>(i≤l.length)∧(∀q (h:q<l.length),q<i→m0 l[q]=true)∧ak a3 H)
      (fun(i:(Nat))=>l.length-i) 0 ⟨rfl,rfl,rfl,trivial⟩ ?_ ?_
     ·
      exact⟨(by omega),(fun q h U=>absurd U (by omega)),V.refl _ _⟩
     intro i aa a5 bY aH O;obtain⟨bw,ay,L⟩:=a5;replace P:=P.M L;replace k:=k.L L;have bq:=L.size;refine G.L (fun aJ=>?_);refine o.v1 bG (o.nil (aJ ?_));refine G.t2 (fun aK aL=>?_);refine aT (fun aA=>?_) (fun aA=>?_)
     ·
      have X:i<l.length:=by omega
      refine G.skip (aK ?_)
      refine G.bo (fun(_:Unit)=>[(23,ai),(24,.int .i64 l.length),(25,.int .i64 i)])
       (fun(_:Unit) (H:Heap)=>(m0 l[i]=true)∧ak aa H) (fun _ ac R=>?_) ?_
      ·
       have n:ak aa aa:=V.refl _ _;refine G.aB (fun ad _ au=>G.L (fun aM=>?_));refine o.v1 (mh P (i) db cL) ?_;refine o.v1 (ar (P.N (j:=i) (by first|omega|(simp;omega)|(simp;done))) dQ) ?_;refine o.aj ?_;refine aM (G.L (fun B=>?_));refine o.W ?_;refine o.v1 dH ?_;refine o.W ?_;refine o.bj (d:=31) rfl (fun aE=>?_) (fun aE=>?_)
       ·
        refine o.bU ?_;refine o.an eH ?_;refine o.ax 2 ?_;refine o.bj (d:=35) rfl (fun aF=>?_) (fun aF=>?_)
        ·
         refine o.ax 3 ?_;refine gv ?_;refine gv ?_;refine o.ax 7 ?_;refine o.v1 eI (o.nil (B ?_));refine dB ?_;refine G.skip (ad ?_);refine aP.sub (ac () _ ?_) ⟨rfl,(aD (by omega)),(aD (by omega)),trivial⟩;exact⟨(kx _).2 (by simp at*;omega),n⟩
        ·
         refine o.bU ?_;refine o.an dH ?_;refine o.bU ?_;refine o.bj (d:=38) rfl (fun ab=>?_) (fun ab=>?_)
         ·
          refine o.bU ?_;refine o.an eH ?_;refine o.an eh ?_;refine o.ax 2 ?_;refine o.bj (d:=43) rfl (fun ae=>?_) (fun ae=>?_)
          ·
           refine o.ax 4 ?_;refine o.v1 eI (o.nil (B ?_));refine dB ?_;refine G.skip (ad ?_);refine aP.sub (ac () _ ?_) ⟨rfl,(aD (by omega)),(aD (by omega)),trivial⟩;exact⟨(kx _).2 (by simp at*;omega),n⟩
          ·
           refine o.bU ?_;refine o.call rfl jP rfl bh rfl rfl (jx [46,95,45,47] l[i] w0 _) (fun af ag C=>?_);obtain⟨rfl,t⟩:=C;replace k:=k.L t;replace n:=n.L t;have bs:=t.size;refine o.an dH ?_;refine o.dF ?_;refine o.v1 (Y.h2 rfl rfl) (o.nil (B ?_));refine aT (fun ap=>?_) (fun ap=>?_)
           ·
            refine G.L (fun aO=>?_);refine o.aj ?_;refine aO ?_;refine G.ret (au (R (O (Q (W (A ?_))))));exact⟨congrArg Value.bool (l4 (fun h=>by have ah:=(kx _).1 (h.2.2.2.2 i X);simp at*;omega)).symm,k⟩
           ·
            refine G.skip (ad ?_);refine aP.sub (ac () _ ?_) ⟨rfl,(aD (by omega)),(aD (by omega)),trivial⟩;exact⟨(kx _).2 (by simp at*;omega),n⟩
         ·
          refine o.ax 2 ?_;refine o.an dI ?_;refine o.ax 3 ?_;refine o.call rfl jP rfl bh rfl rfl (jx [46,95,45,47] l[i] w0 _) (fun af ag C=>?_);obtain⟨rfl,t⟩:=C;replace k:=k.L t;replace n:=n.L t;have bi:=t.size;refine o.an dH ?_;refine o.dF ?_;refine o.v1 (Y.h2 rfl rfl) (o.nil (B ?_));refine aT (fun ap=>?_) (fun ap=>?_)
          ·
           refine G.L (fun aQ=>?_);refine o.aj ?_;refine aQ ?_;refine G.ret (au (R (O (Q (W (A ?_))))));exact⟨congrArg Value.bool (l4 (fun h=>by have ah:=(kx _).1 (h.2.2.2.2 i X);simp at*;omega)).symm,k⟩
          ·
           refine G.skip (ad ?_);refine aP.sub (ac () _ ?_) ⟨rfl,(aD (by omega)),(aD (by omega)),trivial⟩;exact⟨(kx _).2 (by simp at*;omega),n⟩
       ·
        refine o.ax 5 ?_;refine o.an dH ?_;refine o.bU ?_;refine o.bj (d:=38) rfl (fun ab=>?_) (fun ab=>?_)
        ·
         refine o.bU ?_;refine o.an eH ?_;refine o.an eh ?_;refine o.ax 2 ?_;refine o.bj (d:=43) rfl (fun ae=>?_) (fun ae=>?_)
         ·
          refine o.ax 4 ?_;refine o.v1 eI (o.nil (B ?_));refine dB ?_;refine G.skip (ad ?_);refine aP.sub (ac () _ ?_) ⟨rfl,(aD (by omega)),(aD (by omega)),trivial⟩;exact⟨(kx _).2 (by simp at*;omega),n⟩
         ·
          refine o.bU ?_;refine o.call rfl jP rfl bh rfl rfl (jx [46,95,45,47] l[i] w0 _) (fun af ag C=>?_);obtain⟨rfl,t⟩:=C;replace k:=k.L t;replace n:=n.L t;have bt:=t.size;refine o.an dH ?_;refine o.dF ?_;refine o.v1 (Y.h2 rfl rfl) (o.nil (B ?_));refine aT (fun ap=>?_) (fun ap=>?_)
          ·
           refine G.L (fun aR=>?_);refine o.aj ?_;refine aR ?_;refine G.ret (au (R (O (Q (W (A ?_))))));exact⟨congrArg Value.bool (l4 (fun h=>by have ah:=(kx _).1 (h.2.2.2.2 i X);simp at*;omega)).symm,k⟩
          ·
           refine G.skip (ad ?_);refine aP.sub (ac () _ ?_) ⟨rfl,(aD (by omega)),(aD (by omega)),trivial⟩;exact⟨(kx _).2 (by simp at*;omega),n⟩
        ·
         refine o.ax 2 ?_;refine o.an dI ?_;refine o.ax 3 ?_;refine o.call rfl jP rfl bh rfl rfl (jx [46,95,45,47] l[i] w0 _) (fun af ag C=>?_);obtain⟨rfl,t⟩:=C;replace k:=k.L t;replace n:=n.L t;have aB:=t.size;refine o.an dH ?_;refine o.dF ?_;refine o.v1 (Y.h2 rfl rfl) (o.nil (B ?_));refine aT (fun ap=>?_) (fun ap=>?_)
         ·
          refine G.L (fun aS=>?_);refine o.aj ?_;refine aS ?_;refine G.ret (au (R (O (Q (W (A ?_))))));exact⟨congrArg Value.bool (l4 (fun h=>by have ah:=(kx _).1 (h.2.2.2.2 i X);simp at*;omega)).symm,k⟩
         ·
          refine G.skip (ad ?_);refine aP.sub (ac () _ ?_) ⟨rfl,(aD (by omega)),(aD (by omega)),trivial⟩;exact⟨(kx _).2 (by simp at*;omega),n⟩
      ·
       intro _ bj a_;obtain⟨bc,aj⟩:=a_;replace L:=L.L aj;have bu:=aj.size;refine G.region ?_;refine o.v1 bD ?_;refine o.W (o.nil ?_);refine aP.sub (aH (i+1) _ ?_ ?_) ⟨rfl,(aD (by omega)),(aD (by omega)),trivial⟩
       ·exact⟨(by omega),(fun q h U=>by rcases Nat.lt_or_ge q i with N|N;exact ay q h N;(obtain rfl:q=i:=by omega);exact bc),L⟩
       ·first|omega|(simp only;omega)|(simp;omega)
     ·
      refine G.exit (aL (O (bb ?_)));refine b2 (G.L (fun aV=>?_));refine o.aj ?_;refine aV ?_;refine G.ret (A ?_);obtain rfl:i=l.length:=by omega
      exact⟨congrArg Value.bool ((sT l).2 ⟨g7,by omega,by simpa using M,by simpa using x,fun i h=>ay i h h⟩).symm,k⟩
theorem nw(bk:Int)(l:List UInt8)(w0:World)(I:Heap)
 (aN:dV bk I) (E:bg (fun b=>b=0) I.size) (H:l.length≤4294967280):
 aC Tryz.prog w0 177 #[aI l] I (fun r t=>r=aI (cp l)∧ak I t):=by
 refine aC.aK [aI l] Tryz.func177 ?_;intro N n;have d:ak I I:=V.refl _ _;refine G.L (fun ac=>?_);refine o.aj ?_;refine ac (G.t2 (fun ad x=>G.L (fun A=>?_)));refine o.W ?_;refine aV mH (mW bk l w0 _ aN (E.mono (by omega)) H) ?_;rintro v4 L ⟨rfl,j⟩;replace d:=d.L j;have O:=j.size;refine o.v1 eI (o.nil (A ?_));refine cI (fun i=>?_) (fun i=>?_)
 ·
  refine G.L (fun B=>?_);refine o.aj ?_;refine B ?_;refine G.ret (x (n ?_));exact⟨by rw[cp,if_neg (by simpa using i)];rfl,d⟩
 ·
  refine G.skip (ad (G.L (fun C=>?_)));refine o.ax 2 ?_;refine aV By (Ek l w0 _ (by omega)) ?_;rintro Q M ⟨q,rfl,F,K,k⟩;replace d:=d.L k;have P:=k.size;refine o.v1 (Y.cast (v2:= .int .i64 ((q-1:Nat):Int)) (Y.sD rfl rfl rfl) (fJ (by omega))) ?_;refine o.v1 (Y.yU (0) (q-1) rfl dN rfl (.inl ⟨rfl,rfl⟩) (.inr ⟨_,_,_,rfl,rfl,by first|rfl|omega⟩) (by omega) (by omega)) ?_;refine o.aj ?_;refine C ?_;refine G.ret (n ?_);exact⟨by rw[cp,if_pos (by simpa using i),DK F K];simp,d⟩
end fz

namespace E
open Go.ChangeShapes Go.WideShapes Go.ChangeAt Go.RowKit Go.Deep
theorem AK{H:Type}(l r:List (DataW H)):Rows.uptoBulkAll (l++r)=Rows.uptoBulkAll l+Rows.uptoBulkAll r:=by
 induction l with
 |nil=>simp[Rows.uptoBulkAll]
 |cons x l ih=>simp only[List.cons_append,Rows.uptoBulkAll,ih];omega
theorem w5{α:Type}{n:Nat}{p:Nat→α→Prop}(h:∀i,i<n→∃x,p i x):∃l:List α,l.length=n∧∀i x,l[i]?=some x→p i x:=by
 induction n with
 |zero=>exact⟨[],rfl,fun i x h=>by simp at h⟩
 |succ n ih=>
  obtain⟨l,j,k⟩:=ih (fun i d=>h i (by omega));obtain⟨x,o⟩:=h n (by omega);refine⟨l++[x],by simp[j],fun i y hy=>?_⟩;by_cases d:i<l.length
  ·rw[List.getElem?_append_left d]at hy;exact k i y hy
  ·rw[List.getElem?_append_right (by omega)]at hy
   have:i-l.length=0:=by have:=(List.getElem?_eq_some_iff.1 hy).1;simp at this;omega
   rw[this]at hy;simp only[List.getElem?_cons_zero,Option.some.injEq]at hy;subst hy;have:i=n:=by omega
   subst this;exact o
theorem Hy{α:Type}{H:Type}(B:α→Nat)(D:Nat→DataW H)(l:List α)(h:∀i x,l[i]?=some x→B x≤Rows.uptoBulk (D i)):∀k,k≤l.length→((l.take k).map B).sum≤Rows.uptoBulkAll ((List.range k).map D):=by
 intro k
 induction k with
 |zero=>intro _;simp
 |succ k ih=>
  intro d;rw[List.range_succ,List.map_append,AK,List.take_succ_eq_append_getElem (show k<l.length from d),List.map_append,List.sum_append];have j:=ih (by omega);have U:=h k l[k] (by simp[show k<l.length from d]);simp only[List.map_cons,List.map_nil,List.sum_cons,List.sum_nil,Rows.uptoBulkAll];omega
section
variable {H : Type} {enc : TypeId × Value → H} {P : Program} {ck : World} {base : Nat} {sp : Nat → Bool} {held : Bool}
theorem pc{α:Type}(f:α→List Value)(sz:Nat)(B:α→Nat)(Φ:α→Prop){t e:TypeId}{v:Value}{d:DataW H}{p:List MemPlace}(ae:v.cells= #[v])(aa:P.underlying t=some (.slice e))(av:P.cellsOf e=sz)(ai:∀x,(f x).length=sz)(an:0<sz)
 (elem:∀n k y eR,DataW.trod enc P ck base sp held n e k=some (y,eR)→k.length=sz→∃x,k=f x∧Φ x∧B x≤Rows.uptoBulk y) (h:DataW.Trod enc P ck base sp held t v d p):
 ∃l:List α,bw ck.heap f sz v l∧(∀x∈l,Φ x)∧(l.map B).sum+1≤Rows.uptoBulk d:=by
 obtain⟨fuel,h⟩:=h;rw[ae]at h;rcases open_slice aa h with⟨q,U⟩|⟨a,len,cap,m,n,D,af,q,U,ag,M,N,E,O⟩
 ·simp only[Array.toList,List.cons.injEq,and_true]at q
  simp only[Prod.mk.injEq]at U;obtain⟨rfl,rfl⟩:=U;subst q;exact⟨[],Rd.nil _ _ _ _,by simp,by simp[Rows.uptoBulk]⟩
 ·simp only[List.cons.injEq,and_true]at q
  simp only[Prod.mk.injEq]at E;obtain⟨rfl,rfl⟩:=E;subst q;have hm:len≤m:=by rw[N];split<;>omega
  have:∀i,i<len→∃x:α,∃k,ck.cells? base (a.add (i*sz)) sz=some k∧k=f x∧Φ x∧B x≤Rows.uptoBulk (D i):=by
   intro i G;obtain⟨k,C,ab⟩:=O i (by omega);rw[av]at C;obtain⟨_,r,_⟩:=World.cells?_some C;obtain⟨x,o⟩:=elem n k _ _ ab r;exact⟨x,k,C,o⟩
  obtain⟨l,r,A⟩:=w5 this;refine⟨l,⟨some a,cap,by rw[r],by omega,M,fun Z=>?_⟩,fun x o=>?_,?_⟩
  ·have hlen:0<l.length:=List.length_pos_iff.2 Z
   obtain⟨L,W,ah,_⟩:=A 0 l[0] (by simp[hlen]);obtain⟨_,aj,T⟩:=World.cells?_some W;have F:=T 0 (by omega)
   have bE:ck.cell? a=some (L[0]'(by omega)):=by
    simp only[Nat.zero_mul]at F;rw[←List.getElem?_eq_getElem,←F];simp[Addr.add]
   have K:a.spot=none:=World.cell?_spot bE;refine⟨a,rfl,K,trivial,World.block_lt_of_cell? ck a bE,fun i x o=>⟨rfl,fun j c I=>?_⟩⟩;obtain⟨k,V,rfl,_,_⟩:=A i x o;obtain⟨_,Y,S⟩:=World.cells?_some V;have X:=(List.getElem?_eq_some_iff.1 I).1;have:=S j (by rw[←Y];exact X);rw[I]at this;rw[add_eq K,add_eq rfl]at this;show cell ck.heap _=_;rw[←(At.cell (w0:=ck) ⟨rfl,rfl,rfl,rfl,Nat.le_refl _⟩ _)];exact this
  ·obtain⟨i,G⟩:=List.mem_iff_getElem?.1 o
   obtain⟨_,_,_,Q,_⟩:=A i x G;exact Q
  ·have:=Hy B D l (fun i x o=>by obtain⟨_,_,_,_,R⟩:=A i x o;exact R) l.length (Nat.le_refl _)
   rw[List.take_length,r]at this;simp only[Rows.uptoBulk];omega
theorem tF{α:Type}(B:α→Nat)(d:∀x,1≤B x):∀(l:List α),l.length≤(l.map B).sum
 |[]=>by simp
 |y::l=>by simp only[List.map_cons,List.sum_cons,List.length_cons];have:=d y;have:=tF B d l;omega
theorem Iy{t e:TypeId}{v:Value}{d:DataW H}{p:List MemPlace}(o:v.cells= #[v])(k:P.underlying t=some (.slice e))(he:P.underlying e=some .string)(av:P.cellsOf e=1)(h:DataW.Trod enc P ck base sp held t v d p):
 ∃l:List (List UInt8),bw ck.heap gd 1 v l∧(l.map (fun s=>s.length+1)).sum+1≤Rows.uptoBulk d:=by
 obtain⟨l,j,_,U⟩:=pc gd 1 (fun s=>s.length+1) (fun _=>True) o k av mL (by omega) (fun n q y eR hy r=>by
  obtain⟨s,rfl,i⟩:=DataW.trod_string he hy;simp only[Prod.mk.injEq]at i;refine⟨s.data.toList,rfl,trivial,?_⟩;rw[i.1.1];simp[Rows.uptoBulk]) h
 exact⟨l,j,U⟩
theorem zm{x:Int}(h:(Lit.int .u8 x).wf=true):∃b:UInt8,x=b.toNat:=by
 simp only[Lit.wf,Bool.and_eq_true,decide_eq_true_eq,show IntKind.u8.min=0 by decide,show IntKind.u8.max=255 by decide]at h;refine⟨UInt8.ofNat x.toNat,?_⟩;rw[UInt8.toNat_ofNat'];omega
theorem Gb{t e:TypeId}{v:Value}{d:DataW H}{p:List MemPlace}(q:v.cells= #[v])(o:P.underlying t=some (.slice e))(he:P.underlying e=some (.int .u8))(av:P.cellsOf e=1)(h:DataW.Trod enc P ck base sp held t v d p):
 ∃l:List UInt8,bw ck.heap a1 1 v l∧l.length+1≤Rows.uptoBulk d:=by
 obtain⟨l,j,_,U⟩:=pc a1 1 (fun _=>1) (fun _=>True) q o av eB (by omega) (fun n r y eR hy A=>by
  obtain⟨x,rfl,i,k⟩:=DataW.trod_int he hy;obtain⟨b,rfl⟩:=zm k;simp only[Prod.mk.injEq]at i;refine⟨b,rfl,trivial,?_⟩;rw[i.1];simp[Rows.uptoBulk]) h
 exact⟨l,j,by have:=tF (fun _:UInt8=>1) (fun _=>by omega) l;omega⟩
abbrev oI(b:Bool):List Value:=[.bool b]
theorem Ga{t e:TypeId}{v:Value}{d:DataW H}{p:List MemPlace}(o:v.cells= #[v])(k:P.underlying t=some (.slice e))(he:P.underlying e=some .bool)(av:P.cellsOf e=1)(h:DataW.Trod enc P ck base sp held t v d p):
 ∃l:List Bool,bw ck.heap oI 1 v l∧l.length+1≤Rows.uptoBulk d:=by
 obtain⟨l,j,_,U⟩:=pc oI 1 (fun _=>1) (fun _=>True) o k av (fun _=>rfl) (by omega) (fun n q y eR hy r=>by
  obtain⟨x,rfl,i⟩:=DataW.trod_bool he hy;simp only[Prod.mk.injEq]at i;refine⟨x,rfl,trivial,?_⟩;rw[i.1];simp[Rows.uptoBulk]) h
 exact⟨l,j,by have:=tF (fun _:Bool=>1) (fun _=>by omega) l;omega⟩
abbrev iF{β:Type}(x:aM×β):List Value:=[x.1.v]
theorem ny{β:Type}(x:aM×β):(iF x).length=1:=rfl
theorem nz{β:Type}(x:aM×β):∀u∈iF x,u.oneCell'=true:=by intro u hu;simp only[List.mem_singleton]at hu;subst hu;rfl
end
end E

namespace E
open Go.Lib
section
variable {P : Program} {w0 : World} {n : Nat} {l : bZ} {H : Heap} {J : Oper} {α : Type} {f : α → List Value} {sz : Nat} {v : Value} {e : TypeId}
theorem It{z:Value}{z0:α}(h:z.cells.toList=f z0):∀m,(Builtin.zeroCells z.cells m).toList=(List.replicate m z0).flatMap f:=by
 have o:(f z0).length=z.cells.size:=by rw[←h,Array.length_toList]
 have k:∀m,(Builtin.zeroCells z.cells m).toList=(List.range (m*z.cells.size)).map (fun i=>z.cells[i%z.cells.size]!):=fun m=>by
  unfold Builtin.zeroCells;rw[Array.toList_map,Array.toList_range]
 have aK:(List.range z.cells.size).map (fun i=>z.cells[i%z.cells.size]!)=f z0:=by
  rw[←h];apply List.ext_getElem
  ·simp
  ·intro j n U
   have d:j<z.cells.size:=by simpa using n
   simp[Nat.mod_eq_of_lt d,getElem!_pos z.cells j d]
 intro m;rw[k]
 induction m with
 |zero=>simp
 |succ m ih=>
  rw[Nat.succ_mul,Nat.add_comm,List.range_add,List.map_append,List.map_map,aK,List.replicate_succ,List.flatMap_cons,←ih];congr 1;apply List.map_congr_left;intro j _;simp
theorem Z.Am{aS:Nat→Prop}{xs:List α}{s x:Operand}{t iT:TypeId}{X Q:IntKind}{bytes m:Nat}{Y:Value}(h:Own aS e H f sz v xs)(z0:α)(L:J.op= .call {callee:= .builtin .append,args:= #[s,x],argTypes:= #[t,iT]})
 (au:c6 P t e sz bytes) (F:P.underlying iT=some (.int X)) (aE:∀w,(zeroValue e).run P w= .ok Y w) (aC:Y.cells.toList=f z0) (af:0<sz) (ao:aF l s=some v) (N:aF l x=some (.int Q (m:Nat)))
 (aw:(xs.length+m)*bytes≤140737488355328) (hm:xs.length+m≤9223372036854775807):
 Z P w0 n l H J (fun r aa=>Own (fun b=>aS b∨H.size≤b) e aa f sz r (xs++List.replicate m z0)∧V aS H aa):=by
 obtain⟨E,i,z,q,O,aB,ai,aD⟩:=au;subst aB;subst ai;intro a w o d
 have aH:z=Y:=by
  have G:=aE w;simp[zeroValue,typeInfo,q,O]at G;exact G
 subst aH;have ae:((List.replicate m z0).flatMap f).length=m*i.size:=by rw[length_flatMap h.cells,List.length_replicate]
 have G:∀c∈(List.replicate m z0).flatMap f,c.oneCell'=true:=by
  intro c av;obtain⟨y,hy,av⟩:=List.mem_flatMap.1 av;exact h.one y c av
 have ag:Builtin.zeroCells z.cells m=((List.replicate m z0).flatMap f).toArray:=by apply Array.ext';rw[It aC]
 have hw:IntKind.i64.wrap (m:Int)=m:=by rw[IntKind.wrap_i64];omega
 have az:¬((m:Int)<0):=by omega
 have ah:¬(281474976710656<(m:Int)*(i.bytes:Int)):=by
  have:m*i.bytes≤(xs.length+m)*i.bytes:=Nat.mul_le_mul_right _ (by omega);rw[←Int.natCast_mul];omega
 have grown:∀(A:Nat) (r:Value),A<xs.length+m→r= .slice (some ⟨w.heap.size,0,none⟩) (xs.length+m) (grownCap w (xs.length+m) A e)→∀B,B=Obj.cells ((xs.flatMap f).toArray++Builtin.zeroCells z.cells m++Builtin.zeroCells z.cells (grownCap w (xs.length+m) A e-(xs.length+m))) e→
  At w0 (w.drew.alloc B).heap (w.drew.alloc B)∧Own (fun b=>aS b∨H.size≤b) e (w.drew.alloc B).heap f i.size r (xs++List.replicate m z0)∧V aS H (w.drew.alloc B).heap:=by
  rintro A r aM rfl B rfl;have aq:=grownCap_ge w (xs.length+m) A e;have aj:grownCap w (xs.length+m) A e≤maxLen:=grownCap_le_maxLen w (xs.length+m) A e (by unfold maxLen;omega);have S:At w0 H w.drew:=d.drew;refine⟨⟨rfl,d.os,d.tape,d.output,S.gb⟩,?_,?_⟩
  ·have:=Own.new (e:=e) (G':=fun b=>aS b∨H.size≤b) (w:=w.drew) (z:=z) (cap:=grownCap w (xs.length+m) A e) (zs:=xs++List.replicate m z0) h.cells h.one aD (.inr (by rw[S.heap];exact Nat.le_refl _)) (by simpa using aq) aj
   rw[ag]
   simpa using this
  ·rw[(S.alloc _).heap];exact V.push _ _ _
 rcases h.ex with⟨rfl,rfl⟩|⟨g,k,cur,rfl,I,bE,aI,aJ,aK,aL⟩
 ·by_cases K:m=0
  ·subst K
   refine⟨.slice none 0 0,H,w,?_,d,by simpa using h.imp (fun b _ I=> .inl I),V.refl _ _⟩;simp[execOp,L,resolve,invoke,builtin,o.eval ao,o.eval N,Builtin.append_,run_underlying E,run_underlying F,sizeOf,typeInfo,q,asInt,asIntOf,IntKind.wrap_i64]
  ·simp only[List.length_nil,Nat.zero_add]at aw hm
   have C:=run_append_nil_zeros (P:=P) w t iT J.type e i z Q X E F q O m (by omega) af (by omega) (by omega);have:=grown 0 _ (by simp;omega) rfl _ rfl;simp only[List.length_nil,Nat.zero_add,List.flatMap_nil,List.nil_append,Array.empty_append]at this;exact⟨_,_,_,by simp[execOp,L,resolve,invoke,builtin,o.eval ao,o.eval N,C],this.1,this.2.1,this.2.2⟩
 ·obtain⟨R,ar,W⟩:=id bE
  have ab:w.heap[g]?=some (.cells cur e R):=by rw[d.heap];exact ar
  by_cases T:xs.length+m≤k
  ·have an:xs.length*i.size+((List.replicate m z0).flatMap f).length≤cur.size:=by rw[ae,aK,←Nat.add_mul];exact Nat.mul_le_mul_right _ T
   have M:=m3 P g (xs.length*i.size) e R ((List.replicate m z0).flatMap f) 0 cur w ab W (by simpa using an) G;simp only[Nat.add_zero]at M
   have C:(Builtin.append_ #[t,iT] J.type #[.slice (some ⟨g,0,none⟩) xs.length k,.int Q m]).run P w= .ok (.slice (some ⟨g,0,none⟩) (xs.length+m) k) (w.setRow g (cur.toList.take (xs.length*i.size)++(List.replicate m z0).flatMap f++cur.toList.drop (xs.length*i.size+((List.replicate m z0).flatMap f).length)).toArray):=by
    by_cases K:m=0
    ·subst K
     simp only[List.replicate_zero,List.flatMap_nil]at M;simp[Builtin.append_,run_underlying E,run_underlying F,sizeOf,typeInfo,q,asInt,asIntOf,IntKind.wrap_i64,aI,Addr.add_lit,M]
    ·have aA:¬(m*i.size=0):=Nat.mul_ne_zero K (by omega)
     simp[Builtin.append_,run_underlying E,run_underlying F,sizeOf,typeInfo,zeroValue,q,O,asInt,asIntOf,hw,az,ah,aA,T,ag,Addr.add_lit,M]
   refine⟨.slice (some ⟨g,0,none⟩) (xs.length+m) k,(w.setRow g (cur.toList.take (xs.length*i.size)++(List.replicate m z0).flatMap f++cur.toList.drop (xs.length*i.size+((List.replicate m z0).flatMap f).length)).toArray).heap,w.setRow g (cur.toList.take (xs.length*i.size)++(List.replicate m z0).flatMap f++cur.toList.drop (xs.length*i.size+((List.replicate m z0).flatMap f).length)).toArray,by simp[execOp,L,resolve,invoke,builtin,o.eval ao,o.eval N,C],⟨rfl,d.os,d.tape,d.output,d.gb⟩,⟨h.cells,h.one,.inr ⟨g,k,_,by rw[List.length_append,List.length_replicate],.inl I,⟨R,setRow_heap w g cur _ e _ ab,W.1,fun i q=>W.2 i (by simp only[List.size_toArray,List.length_append,List.length_take,List.length_drop,Array.length_toList]at q;omega)⟩,by rw[List.length_append,List.length_replicate];exact T,aJ,?_,?_⟩⟩,?_⟩
   ·simp only[List.size_toArray,List.length_append,List.length_take,List.length_drop,Array.length_toList]
    omega
   ·have ay:=length_flatMap h.cells xs
    rw[aL,←List.flatMap_append,List.length_append,Nat.add_mul,List.length_replicate,←ae,←ay,←List.length_append,←List.flatMap_append];exact List.take_left
   ·exact(pg d g _).weaken (fun b _ e=>by rw[e];exact I)
  ·have holds:∀j c,(xs.flatMap f)[j]?=some c→w.drew.cell? ((⟨g,0,none⟩:Addr).add j)=some c:=h.rd.lx h.cells rfl d.drew
   have hold:(Builtin.firstCells i.size xs.length (.slice (some ⟨g,0,none⟩) xs.length k)).run P w.drew= .ok (xs.flatMap f).toArray w.drew:=run_firstCells_some (P:=P) w.drew i.size xs.length ⟨g,0,none⟩ xs.length k _ (length_flatMap h.cells xs) holds
   have C:=Lib.run_append_grow_zeros (P:=P) w t iT J.type e i z Q X E F q O (some ⟨g,0,none⟩) xs.length k (xs.flatMap f) hold m (by omega) af (by omega) (by omega) (by
    have:m*i.bytes≤(xs.length+m)*i.bytes:=Nat.mul_le_mul_right _ (by omega);omega) (growslice_fits (by omega) aw)
   have:=grown k _ (by omega) rfl _ rfl;exact⟨_,_,_,by simp[execOp,L,resolve,invoke,builtin,o.eval ao,o.eval N,C],this.1,this.2.1,this.2.2⟩
theorem Z.Al{k:Nat}{xs:List α}{s x:Operand}{t iT:TypeId}{K L:IntKind}{bytes m:Nat}{i:Value}(h:aU k e H f sz v xs)(z0:α)(B:J.op= .call {callee:= .builtin .append,args:= #[s,x],argTypes:= #[t,iT]})
 (A:c6 P t e sz bytes) (E:P.underlying iT=some (.int K)) (I:∀w,(zeroValue e).run P w= .ok i w) (G:i.cells.toList=f z0) (C:0<sz) (ao:aF l s=some v) (F:aF l x=some (.int L (m:Nat)))
 (aw:(xs.length+m)*bytes≤140737488355328) (hm:xs.length+m≤9223372036854775807):
 Z P w0 n l H J (fun r aa=>∃d,aU d e aa f sz r (xs++List.replicate m z0)∧(d=0∨d=k∨H.size<d)∧V (fun b=>b+1=k) H aa):=
 (Z.Am h.own z0 B A E I G C ao F aw hm).mono fun r aa ⟨j,U⟩=>by
  obtain⟨d,o,q⟩:=aU.of j;refine⟨d,o,?_,U⟩;rcases q with rfl|⟨g,rfl,M⟩
  ·exact .inl rfl
  ·omega
theorem Y.G5{x:Operand}{o d:Option Operand}{t e:TypeId}{a:Option Addr}{len cap sz:Nat}(i j:Nat)(B:J.op= .slice t x o d none)(C:∀w,(underlying t).run P w= .ok (.slice e) w)(ao:∀w,(sizeOf e).run P w= .ok sz w)(E:aF l x=some (.slice a len cap))
 (A:o=none∧i=0∨∃p k aD,o=some p∧aF l p=some (.int k aD)∧aD=(i:Int)) (r:d=none∧j=len∨∃p k aD,d=some p∧aF l p=some (.int k aD)∧aD=(j:Int)) (K:i≤j) (L:j≤cap):
 Y P w0 n l H J (.slice (if cap=i then a else a.map (·.add (i*sz))) (j-i) (cap-i)):=by
 intro ac w q I
 have aK:∀w,(Instr.sliceBounds true len cap (o.map ac.eval) (d.map ac.eval) none).run P w= .ok (i,j,cap) w:=by
  intro w
  rcases A with⟨rfl,rfl⟩|⟨p,k,aD,rfl,F,rfl⟩<;>rcases r with⟨rfl,rfl⟩|⟨N,a8,M,rfl,G,rfl⟩<;>
   simp[Instr.sliceBounds,Instr.sliceBound,asIntOf,q.eval, *]
 have hu:∀w,(underlying t).run P w= .ok (.slice e) w:=C;simp[execOp,B,q.eval E,Instr.sliceAt,Instr.slice,hu,ao,aK]
theorem Y.vt{x:Operand}{t e:TypeId}{a:Option Addr}{len cap:Nat}(i:J.op= .call {callee:= .builtin .cap,args:= #[x],argTypes:= #[t]})(j:∀w,(underlying t).run P w= .ok (.slice e) w)(k:aF l x=some (.slice a len cap)):Y P w0 n l H J (.int .i64 cap):=by
 intro ac w d o;simp[execOp,i,d.eval k,resolve,invoke,builtin,Builtin.cap_,j,goInt]
end
end E

namespace f_
open E Go.RowKit fz
set_option maxRecDepth 100000 in
theorem dv:c6 Tryz.prog 57 5 1 1:=⟨Tryz.underlying57,_,_,rfl,rfl,rfl,rfl,rfl⟩
set_option maxRecDepth 100000 in
theorem lq:c6 Tryz.prog 104 57 1 24:=⟨Tryz.underlying104,_,_,rfl,rfl,rfl,rfl,rfl⟩
theorem mE(v1:Value)(a:List UInt8)(w0:World)(I:Heap)
 (i:bw I a1 1 v1 a) (ae:a.length≤140737488355328):
 aC Tryz.prog w0 59 #[v1] I (fun r x=>∃s:aM,∃k:Nat,r=s.v∧(aU k 5 x a1 1 s.v a)∧(T 0 I.size k)∧ak I x):=by
 refine aC.aK [v1] Tryz.func59 ?_;intro X E;have d:ak I I:=V.refl _ _;replace i:=i.bt;obtain⟨p,ab,rfl,_,_,R⟩:=id i.ex;refine G.L (fun H=>?_);refine o.aj ?_;refine H (G.t2 (fun K L=>G.L (fun M=>?_)));refine o.W ?_;refine o.v1 (Y.pj rfl Tryz.underlying57 rfl rfl) (o.nil (M ?_));refine cI (fun q=>?_) (fun q=>?_)
 ·
  obtain rfl:a=[]:=by
   apply Decidable.byContradiction;intro h;obtain⟨ad,Q,_⟩:=R h;rw[Q]at q;cases q
  refine G.L (fun N=>?_);refine o.aj ?_;refine N ?_;refine G.ret (L (E ?_));exact⟨⟨none,0,0⟩,0,rfl,aU.nil eB fH,T.refl _ _,d⟩
 ·
  refine G.skip (K (G.L (fun au=>?_)));refine o.aO (cU _ (([]:List UInt8)) dv eB fH (rfl)) ?_;rintro v5 A ⟨am,j,Z,O⟩;have ap:A.size=I.size+1:=by rw[O];simp
  have B:T 0 I.size (I.size+1):=T.new d.size;replace i:=i.M j;replace d:=d.L j;have aa:=j.size;refine o.W ?_;refine o.aO (dO am i dv (by first|omega|(simp;omega)) (by first|omega|(simp;omega))) ?_;rintro F W ⟨t,C,n,ac⟩;replace n:T (I.size+1) A.size t:=n;replace ac:=ac.md;have P:T 0 I.size t:=T.L (B) n d.size;replace d:=d.bl ac (ag.J (aq.q B));refine o.aj ?_;refine au ?_;refine G.ret (E ?_);obtain⟨S,rfl⟩:∃s:aM,F=s.v:=⟨cg F,C.bm.symm⟩;exact⟨S,t,rfl,by simpa using C,P,d⟩
def gp(l:List (aM×List UInt8)):List UInt8:=l.flatMap (·.2)
theorem pY{l:List (aM×List UInt8)}{i:Nat}(h:i<l.length):gp (l.take (i+1))=gp (l.take i)++l[i].2:=by
 unfold gp;rw[List.take_succ_eq_append_getElem h,List.flatMap_append];simp
theorem Cj(l:List (aM×List UInt8))(i:Nat):(gp (l.take i)).length≤(gp l).length:=by
 have:gp l=gp (l.take i)++gp (l.drop i):=by unfold gp;rw[←List.flatMap_append,List.take_append_drop]
 rw[this,List.length_append];omega
theorem vu{l:List (aM×List UInt8)}{i:Nat}(h:i<l.length):(gp (l.take i)).length+l[i].2.length≤(gp l).length:=by
 have:=Cj l (i+1);rw[pY h,List.length_append]at this;exact this
theorem DB(m:Nat)(w0:World)(I:Heap)
 (hm:m≤1099511627776):
 aC Tryz.prog w0 227 #[.slice none 0 0,.int .i64 (m:Int)] I (fun r q=>∃s:aM,∃k:Nat,r=s.v∧(aU k 5 q a1 1 s.v [])∧(T 0 I.size k)∧ak I q):=by
 refine aC.aK [.slice none 0 0,.int .i64 (m:Int)] Tryz.func227 ?_;intro P B;have d:ak I I:=V.refl _ _;refine G.L (fun C=>?_);refine o.aj ?_;refine C (G.t1 (fun E=>G.L (fun F=>?_)));refine o.W ?_;refine o.v1 ((bG).fC (by omega)) (o.nil (F ?_));refine dB ?_;refine G.skip (E (G.t1 (fun x=>G.L (fun au=>?_))));refine o.ax 2 ?_;refine o.v1 (Y.vt rfl db rfl) ?_;refine o.W ?_;refine o.v1 (Y.cast (v2:= .int .i64 ((0:Nat):Int)) (ba (Rd.nil (fun _=>False) _ a1 1) db) (rfl)) ?_;refine o.v1 (Y.cast (v2:= .int .i64 ((0:Nat):Int)) fE (rfl)) ?_;refine o.v1 (Y.cast (v2:= .int .i64 (m:Int)) fE (fJ (by simp))) ?_;refine o.aj ?_;refine au (G.L (fun am=>?_));refine o.W ?_;refine o.v1 eT (o.nil (am ?_));refine aT (fun H=>?_) (fun H=>?_)
 ·
  refine G.region ?_;refine o.ax 2 ?_;refine o.v1 (Y.vt rfl db rfl) ?_;refine o.v1 (Y.G5 0 0 rfl db cL rfl (.inl ⟨rfl,rfl⟩) (.inr ⟨_,_,_,rfl,rfl,rfl⟩) (by omega) (by omega)) ?_;refine o.W ?_;have O:aU 0 5 I a1 1 (.slice none 0 0) []:=aU.nil eB fH;refine o.aO (Z.Al (m:=m) O (0:UInt8) rfl dv Tryz.underlying3 zH rfl (by decide) rfl rfl (by simp;omega) (by simp;omega)) fun Q R ap=>?_;obtain⟨n,ac,j,i⟩:=ap;replace j:T 0 I.size n:=j;replace i:=i.md;have K:T 0 I.size n:=T.L (T.refl 0 _) j d.size;replace d:=d.bl i (ag.cons aq.z ag.nil);have S:=i.size;have ad:=ac.le;refine o.W ?_;refine o.v1 (Y.cast (v2:= .int .i64 ((0:Nat):Int)) (ba (Rd.nil (fun _=>False) _ a1 1) db) (rfl)) ?_;refine o.aK (g:=fun v=>v) (Y.FM ac (0) rfl db cL rfl rfl (by first|rfl|omega) (by omega)) fun A t=>?_;refine o.aj ?_;refine x (G.L (fun L=>?_));refine o.aR 2 ?_;refine L ?_;refine G.ret (B ?_);obtain⟨M,rfl⟩:∃s:aM,A=s.v:=⟨cg A,t.bm.symm⟩;exact⟨M,n,rfl,by simpa using t,K,d⟩
 ·
  refine G.skip (x (G.L (fun N=>?_)));refine o.aR 2 ?_;refine N ?_;refine G.ret (B ?_);exact⟨⟨none,0,0⟩,0,rfl,aU.nil eB fH,T.refl _ _,d⟩
theorem vD(v:Value)(l:List (aM×List UInt8))(w0:World)(I:Heap)
 (d:bw I iF 1 v l) (t:∀x∈l,bw I a1 1 x.1.v x.2) (av:(gp l).length≤1099511627776):
 aC Tryz.prog w0 186 #[v] I (fun r W=>∃s:aM,∃k:Nat,r=s.v∧(aU k 5 W a1 1 s.v (gp l))∧(T 0 I.size k)∧ak I W):=by
 refine aC.aK [v] Tryz.func186 ?_;intro bt bn;have n:ak I I:=V.refl _ _;replace d:=d.bt;have au:=d.bY;replace t:=fun x C=>(t x C).bt;have am:bg (fun b=>True∧b<I.size) I.size:=fun b h=>h.2;have bM:=d.len;refine G.L (fun aQ=>?_);refine o.aj ?_;refine aQ (G.L (fun aR=>?_));refine o.aj ?_;refine aR (G.t1 (fun aS=>G.L (fun aW=>?_)));refine o.W ?_;refine o.v1 (ba d h6) ?_;refine o.W (o.nil (aW ?_));refine G.aB (fun _ aX _=>?_)
 refine G.bd (fun(i:(Nat))=>[(0,v),(3,.int .i64 ((gp (l.take i)).length:Int)),(9,v),(10,.int .i64 l.length),(11,.int .i64 i)])
  (fun(i:(Nat)) (H:Heap)=>(i≤l.length)∧ak I H)
  (fun(i:(Nat))=>l.length-i) 0 ⟨rfl,rfl,rfl,rfl,rfl,trivial⟩ ?_ ?_
 ·
  exact⟨(by omega),V.refl _ _⟩
 intro i be aY bs aZ a6;obtain⟨bL,F⟩:=aY;replace d:=d.M F;replace t:=fun x C=>(t x C).M F;replace n:=n.L F;have bx:=F.size;refine G.L (fun a7=>?_);refine o.v1 bG (o.nil (a7 ?_));refine G.t2 (fun a8 a0=>?_);refine aT (fun b2=>?_) (fun b2=>?_)
 ·
  have N:i<l.length:=by omega
  have bF:=vu N;have bo:=t l[i] (List.getElem_mem N);refine G.skip (a8 (G.t1 (fun a2=>G.aB (fun ap _ _=>G.L (fun bb=>?_)))));refine o.bR (Y.bJ d (i) rfl h6 da rfl rfl) fun a3 bc=>?_;refine o.v1 (ar bc.N eA) ?_;refine o.aj ?_;refine bb (G.L (fun bd=>?_));refine o.ax 2 ?_;refine o.v1 (ba bo db) ?_;refine o.v1 (Y.cast (v2:= .int .i64 ((gp (l.take (i+1))).length:Int)) bD (fJ (by rw[pY N,List.length_append];omega))) ?_;refine o.aj ?_;refine bd (G.L (fun bf=>?_));refine o.W ?_;refine o.v1 ((bG).fC (by omega)) (o.nil (bf ?_));refine dB ?_;refine G.skip (ap (a2 (G.region ?_)));refine o.v1 bD ?_;refine o.W (o.nil ?_);have bJ:=pY N;refine aP.sub (aZ (i+1) _ ?_ ?_) ⟨rfl,(aD (by omega)),rfl,(aD (by omega)),(aD (by omega)),trivial⟩
  ·exact⟨(by omega),F⟩
  ·first|omega|(simp only;omega)|(simp;omega)
 ·
  obtain rfl:i=l.length:=by omega
  refine G.exit (a0 (a6 (aX ?_)));refine aS (G.L (fun bh=>?_));refine o.v1 (Y.cast (v2:= .int .i64 ((gp l).length:Int)) fp (by rw[List.take_length])) ?_;refine aV BA (DB (gp l).length w0 _ av) (fun bz R a4=>?_);obtain⟨a5,K,rfl,j,P,L⟩:=a4;have ae:=ay.app (ay.z) (au.mono n.size) P;have af:=ay.app (ay.z) (am.mono n.size) P;have X:T 0 I.size K:=T.L (T.refl 0 _) P n.size;replace d:=d.M L;replace t:=fun x C=>(t x C).M L;replace n:=n.L L;have bi:=L.size;have ab:=j.le;refine o.aj ?_;refine bh (G.t1 (fun bj=>G.L (fun bk=>?_)));refine o.W ?_;refine o.v1 (ba d h6) ?_;refine o.W (o.nil (bk ?_));refine G.aB (fun _ ai _=>?_)
  refine G.bd (fun(bq:(Nat)×(aM)×(Nat))=>match bq with|(q,E,B)=>[(6,E.v),(25,v),(26,.int .i64 l.length),(27,.int .i64 q)])
   (fun(q,E,B) (H:Heap)=>(q≤l.length)∧(aU B 5 H a1 1 E.v (gp (l.take q)))∧(T K R.size B)∧V (aE [K]) R H)
   (fun(q,E,B)=>l.length-q) (0,a5,K) ⟨rfl,rfl,rfl,rfl,trivial⟩ ?_ ?_
  ·
   exact⟨(by omega),by simpa[gp]using j,T.refl _ _,V.refl _ _⟩
  rintro⟨q,E,B⟩ ah a9 bA aj an;obtain⟨bN,j,ac,A⟩:=a9;have a_:T 0 I.size B:=T.L (X) ac n.size;replace d:=d.ab A (az.J ae);replace t:=fun x C=>(t x C).ab A (az.J af);replace n:=n.bl A (ag.J (aq.q X));have aB:=A.size;have ab:=j.le;have Z:=ac;refine G.L (fun aA=>?_);refine o.v1 bG (o.nil (aA ?_));refine G.t2 (fun aF aH=>?_);refine aT (fun bl=>?_) (fun bl=>?_)
  ·
   have S:q<l.length:=by omega
   have bH:=vu S;have bp:=t l[q] (List.getElem_mem S);refine G.skip (aF (G.t1 (fun aI=>G.aB (fun aJ _ _=>G.L (fun aK=>?_)))));refine o.bR (Y.bJ d (q) rfl h6 da rfl rfl) fun bu aL=>?_;refine o.v1 (ar aL.N eA) ?_;refine o.aj ?_;refine aK (G.region ?_);refine o.ax 2 ?_;refine o.aO (dO j bp dv (by first|omega|(simp;omega)) (by first|omega|(simp;omega))) fun aa bC bm=>?_;obtain⟨O,j,Q,M⟩:=bm;replace Q:T B ah.size O:=Q;replace M:=M.md;have aN:T K R.size O:=T.L (Z) Q A.size;replace A:=A.aJ M (ag.J (aq.r Z));have bE:=M.size;have ab:=j.le;refine o.aj ?_;refine aJ (aI (G.region ?_));refine o.v1 bD ?_;refine o.W (o.nil ?_);obtain⟨bT,rfl⟩:∃s:aM,aa=s.v:=⟨cg aa,j.bm.symm⟩;refine aP.sub (aj (q+1,bT,O) _ ?_ ?_) ⟨rfl,rfl,(aD (by omega)),(aD (by omega)),trivial⟩
   ·exact⟨(by omega),by rw[pY S];exact j,aN,A⟩
   ·first|omega|(simp only;omega)|(simp;omega)
  ·
   refine G.exit (aH (an (ai ?_)));refine bj (G.L (fun aO=>?_));refine o.aR 2 ?_;refine aO ?_;refine G.ret (bn ?_);obtain rfl:q=l.length:=by omega
   rw[List.take_length]at j;exact⟨E,B,rfl,j,a_,n⟩
abbrev lN:=dW×aM
abbrev lV(x:lN):List Value:=[.bool x.1.b,x.2.v]
theorem qd(x:lN):(lV x).length=2:=rfl
theorem qe(x:lN):∀u∈lV x,u.oneCell'=true:=by intro u hu;simp only[List.mem_cons,List.not_mem_nil,or_false]at hu;rcases hu with rfl|rfl<;>rfl
abbrev n4(x:lN):Value:= .agg (lV x).toArray
theorem xQ(w:dW)(b:List UInt8)(n:Nat):(w.on b n).length≤b.length+n:=by
 unfold dW.on;rw[List.length_append,List.length_take];split<;>simp<;>omega
theorem xP(x:lN)(cV:aM)(b:List UInt8)(n:Nat)(w0:World)(I:Heap)
 (al:bw I a1 1 x.2.v x.1.d) (aw:bw I a1 1 cV.v b) (aA:n≤x.1.d.length) (aO:b.length+n≤1099511627776):
 aC Tryz.prog w0 160 #[n4 x,cV.v,.int .i64 (n:Int)] I (fun r F=>∃s:aM,∃k:Nat,r=s.v∧(aU k 5 F a1 1 s.v (x.1.on b n))∧(T 0 I.size k)∧ak I F):=by
 refine aC.aK [n4 x,cV.v,.int .i64 (n:Int)] Tryz.func160 ?_;intro ay an;have d:ak I I:=V.refl _ _;replace al:=al.bt;replace aw:=aw.bt;refine G.L (fun ae=>?_);refine o.aO cr ?_;rintro v3 q ⟨rfl,j,A,aB,af⟩;have aL:q.size=I.size+1:=by rw[af];simp
 replace al:=al.M A;replace aw:=aw.M A;replace d:=d.L A;have aE:=A.size;replace j:Var 275 q I.size (lV x):=j;refine o.aj ?_;refine ae ?_
 refine G.cut (fun(aq:(aM)×(List UInt8))=>match aq with|(s1,i)=>[(1,s1.v),(2,.int .i64 (n:Int)),(3,.pointer (some ⟨I.size,0,none⟩))])
  (fun(s1,i) (H:Heap)=>(bw H a1 1 s1.v i)∧(i=if x.1.b=true then b else[])∧ak q H) (fun _ L _=>?_) ?_
 ·
  have K:ak q q:=V.refl _ _;refine G.L (fun ag=>?_);refine o.v1 (Y.ai j.N rfl kc rfl cW) ?_;refine o.v1 (ar j.N dr) ?_;refine o.v1 eI (o.nil (ag ?_));refine cI (fun E=>?_) (fun E=>?_)
  ·
   refine G.region ?_;refine o.aj ?_;refine aP.sub (L (⟨none,0,0⟩,[]) _ ?_) ⟨rfl,(aD (by omega)),rfl,trivial⟩;exact⟨Rd.nil _ _ _ _,by rw[if_neg (by simpa using E)],K⟩
  ·
   refine G.skip ?_;refine aP.sub (L (cV,b) _ ?_) ⟨rfl,(aD (by omega)),rfl,trivial⟩;exact⟨aw.any,by rw[if_pos (by simpa using E)],K⟩
 ·
  rintro⟨s1,i⟩ ad W;obtain⟨aj,N,t⟩:=W;replace al:=al.M t;replace j:=j.M t;replace d:=d.L t;have aF:=t.size;have aN:i.length≤b.length:=by rw[N];split<;>simp
  refine G.L (fun ah=>?_);refine o.W ?_;refine o.v1 (Y.ai j.N rfl kc rfl da) ?_;refine o.v1 (ar (j.N.drop 1) eA) ?_;refine o.W ?_;refine o.aK (g:=fun v=>v) (Y.slice al (0) (n) rfl db cL rfl (.inl ⟨rfl,rfl⟩) (.inr ⟨_,_,_,rfl,rfl,by first|rfl|omega⟩) (by omega) (by omega)) fun ap B=>?_;obtain⟨C,rfl⟩:∃s:aM,ap=s.v:=⟨cg ap,B.bm.symm⟩;refine o.aO (cU _ ([(s1,i),(C,(x.1.d.take n).drop 0)]) lq ny nz (rfl)) fun ai P Q=>?_;obtain⟨X,ac,az,Z⟩:=Q;have aK:P.size=ad.size+1:=by rw[Z];simp
  replace B:=B.M ac;replace d:=d.L ac;have aH:=ac.size;refine aV u_ (vD ai [(s1,i),(C,(x.1.d.take n).drop 0)] w0 _ X.rd.any (fun x O=>by simp only[List.mem_cons,List.not_mem_nil,or_false]at O;rcases O with rfl|rfl;exact aj.M ac;exact B.any) (by simp[gp];omega)) (fun aI aJ R=>?_);obtain⟨S,M,rfl,aa,ab,au⟩:=R;have am:T 0 I.size M:=T.L (T.refl 0 _) ab d.size;replace d:=d.L au;refine o.aj ?_;refine ah ?_;refine G.ret (an ?_);exact⟨S,M,rfl,by have e:gp [(s1,i),(C,(x.1.d.take n).drop 0)]=x.1.on b n:=(by unfold dW.on;rw[←N];simp[gp]);rw[←e];exact aa,am,d⟩
end f_

namespace E
section
variable {P : Program} {w0 : World} {n : Nat} {l : bZ} {H : Heap} {J : Oper}
theorem Z.ext{f:FuncId}{fn:Func}{e:Array Value→Sem Value}{args:List Operand}{o:Array TypeId}{j:List Value}{k:Value→Heap→Prop}(B:J.op= .call {callee:= .value (.func f),args:=args.toArray,argTypes:=o})(t:P.funcs[f]?=some fn)
 (A:(fn.name== "runtime.NumGoroutine")=false) (aw:fn.body.isNone=true) (aA:Extern.findNext fn=none) (he:Extern.find fn=some e) (E:gG l args=some j) (C:∀w,At w0 H w→∃v aa d,(e j.toArray).run P w= .ok v d∧At w0 aa d∧k v aa):Z P w0 n l H J k:=by
 intro a w x r;have q:a.eval (.func f)= .func (.func f) #[] #[]:=rfl;have U:=x.jS E;have i:=run_callFunc_extern (P:=P) t A aw aA he j.toArray w;obtain⟨v,aa,d,F,G,I⟩:=C w r;rw[F]at i;simp only[Result.andThen]at i;exact⟨v,aa,d,by simp[execOp,B,resolve,Deferred.ofValue,q,invoke,U,i],G,I⟩
theorem Var.cell{e:TypeId}{b:Nat}{cs:List Value}(h:Var e H b cs){w:World}(n:At w0 H w){i:Nat}{c:Value}(av:cs[i]?=some c):w.cell? ⟨b,i,none⟩=some c∧w.frozen? ⟨b,i,none⟩=false∧∃d,w.heap[b]?=some (.cells cs.toArray e d):=by
 obtain⟨d,k,U⟩:=id h.row;have o:=(List.getElem?_eq_some_iff.1 av).1;have j:w.heap[b]?=some (.cells cs.toArray e d):=by rw[n.heap];exact k
 refine⟨by simp[World.cell?,j,av],?_,d,j⟩;obtain⟨r,q⟩:=d;have:=U.2 i (by simpa using o);simp only at this;simp[World.frozen?,j];omega
theorem Z.zU{f:FuncId}{fn:Func}{args:List Operand}{o:Array TypeId}{e:TypeId}{b i:Nat}{cs:List Value}{x y:Int}(h:Var e H b cs)(av:cs[i]?=some (.int .i64 x))(E:J.op= .call {callee:= .value (.func f),args:=args.toArray,argTypes:=o})(B:P.funcs[f]?=some fn)
 (C:(fn.name== "runtime.NumGoroutine")=false) (aw:fn.body.isNone=true) (aA:Extern.findNext fn=none) (he:Extern.find fn=some (Extern.Atomic.update (Op.intArith .add) .i64 true)) (F:gG l args=some [.pointer (some ⟨b,i,none⟩),.int .i64 y]) (I: -9223372036854775808≤x+y∧x+y≤9223372036854775807):
 Z P w0 n l H J (fun r aa=>r= .int .i64 (x+y)∧Var e aa b (cs.set i (.int .i64 (x+y)))∧V (fun c=>c=b) H aa):=by
 refine Z.ext E B C aw aA he F (fun w d=>?_);obtain⟨j,U,t,A⟩:=h.cell d av;have hw:IntKind.i64.wrap (x+y)=x+y:=by rw[IntKind.wrap_i64];omega
 have G:=(List.getElem?_eq_some_iff.1 av).1;refine⟨.int .i64 (x+y),_,w.setRow b (cs.toArray.setIfInBounds i (.int .i64 (x+y))),?_,d.row _ _,rfl,?_,pg d _ _⟩
 ·have ao:(store ⟨b,i,none⟩ (.int .i64 (x+y)) .atomic).run P w= .ok () (w.setRow b (cs.toArray.setIfInBounds i (.int .i64 (x+y)))):=by
   rw[Go.run_store P w _ _ _ rfl,j];simp only[U,Bool.false_eq_true,if_false];rw[setCell_eq_setRow w b i cs.toArray e t _ A]
  have aK:Extern.Atomic.update (Op.intArith .add) .i64 true #[.pointer (some ⟨b,i,none⟩),.int .i64 y]=(asAddr (.pointer (some ⟨b,i,none⟩))>>=fun a=>Extern.Atomic.read (.int .i64) a>>=fun k=>asInt k>>=fun p=>asInt (.int .i64 y)>>=fun q=>Op.intArith .add .i64 p q>>=fun new=>store a new .atomic>>=fun _=>pure (if true then new else k)):=rfl;show(Extern.Atomic.update (Op.intArith .add) .i64 true #[.pointer (some ⟨b,i,none⟩),.int .i64 y]).run P w=_;rw[aK];simp[Extern.Atomic.read,asAddr,j,asInt,asIntOf,Op.intArith,hw,ao]
 ·have:=q2 d h.row (c:=cs.toArray.setIfInBounds i (.int .i64 (x+y))) (by simp)
  exact⟨by simpa using this⟩
end
end E
end Go.Proofs.YtfjmpninmdjcaaaGreatDoor
