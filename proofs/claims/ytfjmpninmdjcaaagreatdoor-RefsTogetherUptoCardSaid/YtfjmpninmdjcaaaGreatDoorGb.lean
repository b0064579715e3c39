/-
  Contracts of functions of the program, and plain laws: put together of several texts.
-/
import Derived.Test.YtfjmpninmdjcaaaGreatDoorGa
import Derived.Test.YtfjmpninmdjcaaaGreatDoorRows
import Derived.Lib.SplitLaws
import Derived.Test.YtfjmpninmdjcaaaGreatDoorShelf
import Derived.Test.YtfjmpninmdjcaaaGreatDoorMcl
import Derived.ProofKit
import Derived.OpenShut
import Derived.ShutString
import Derived.ChangeOld
import Derived.Below
import Derived.JoinedCond
import Derived.Deep.Slices
import Derived.ChangeSame
import Derived.Lib.AppendZerosOnto
set_option linter.unusedVariables false
set_option linter.unusedSimpArgs false
set_option linter.unusedSectionVars false
set_option linter.defProp false
set_option maxHeartbeats 8000000
set_option maxRecDepth 20000
namespace Go.Proofs.YtfjmpninmdjcaaaGreatDoor

namespace fA
open E Go.RowKit eY fm fw
theorem rM:∀(up s:List UInt8),(up++[47]).isPrefixOf s=decide (up.length<s.length∧s.take up.length=up∧(s.getD up.length 0).toNat=47)
 |[],[]=>by simp
 |[],c::s=>by
  have e:(47=c)↔(c.toNat=47):=⟨fun h=>by rw[←h];rfl,fun h=>by apply UInt8.toNat.inj;rw[h];rfl⟩;by_cases h:47=c
  ·rw[decide_eq_true]
   ·simp[List.isPrefixOf,h]
   ·exact⟨by simp,rfl,e.1 h⟩
  ·rw[decide_eq_false]
   ·simp[List.isPrefixOf,h]
   ·rintro⟨_,_,V⟩;exact h (e.2 (by simpa using V))
 |d::up,[]=>by simp
 |d::up,c::s=>by
  have ih:=rM up s;rw[List.cons_append,List.isPrefixOf,ih];by_cases h:d=c
  ·subst h;simp
  ·have V:¬c=d:=fun e=>h e.symm
   simp[h,V]
theorem Ag{s up:List UInt8}(h:up.length<s.length)(V:s.take up.length=up):Value.bool (decide (((s[up.length]).toNat:Int)=47))= .bool ((up++[47]).isPrefixOf s):=by
 rw[rM];exact cQ ⟨fun e=>⟨h,V,by rw[ic h];omega⟩,fun e=>by have:=e.2.2;rw[ic h]at this;omega⟩
theorem uL{s up:List UInt8}(h:¬(up.length<s.length∧s.take up.length=up)):Value.bool false= .bool ((up++[47]).isPrefixOf s):=by
 rw[rM,decide_eq_false (fun e=>h ⟨e.1,e.2.1⟩)]
def iP(s I:List UInt8):Bool:=(s++[47]).isPrefixOf I||(I++[47]).isPrefixOf s
def base(s:List UInt8)(l:List (List UInt8)):Int:=if cU s≠0 then cU s else if s∈l then 8 else 0
def iy(s:List UInt8)(l:List (List UInt8)):Int:=if base s l≠0 then base s l else if l.any (iP s)=true then 13 else 0
theorem w5{s:List UInt8}{l:List (List UInt8)}{j:Nat}(h:s∉l.take j)(d:j<l.length)(V:s≠l[j]):s∉l.take (j+1):=by
 rw[List.take_succ_eq_append_getElem d];simp only[List.mem_append,List.mem_singleton,not_or];exact⟨h,V⟩
theorem Dn(v:Value)(x:List UInt8)(l:List (List UInt8))(w0:World)(J:Heap)
 (d:bM J fy 1 v l):
 aG Tryz.prog w0 230 #[v,aK x] J (fun r E=>∃n:Int,r= .int .i64 n∧((0≤n↔x∈l)∧ -1≤n∧n≤9223372036854775807)∧aq J E):=by
 refine aG.aN [v,aK x] Tryz.func230 ?_;intro ag C;have k:aq J J:=W.refl _ _;have d:=d.b2;have ar:=d.len;refine G.L (fun O=>?_);refine o.al ?_;refine O (G.t2 (fun P aw=>G.L (fun am=>?_)));refine o.aa ?_;refine o.v1 (bf d jw) ?_;refine o.aa (o.nil (am ?_));refine G.aD (fun _ Q ap=>?_)
 refine G.bc (fun(j:(Nat))=>[(0,v),(1,aK x),(7,.int .i64 l.length),(8,.int .i64 j)])
  (fun(j:(Nat)) (H:Heap)=>(j≤l.length)∧(x∉l.take j)∧aq J H)
  (fun(j:(Nat))=>l.length-j) 0 ⟨rfl,rfl,rfl,rfl,trivial⟩ ?_ ?_
 ·
  exact⟨(by omega),(fun h=>by simp at h),W.refl _ _⟩
 intro j ai R af S B;obtain⟨an,A,i⟩:=R;have d:=d.N i;have k:=k.L i;have al:=i.size;refine G.L (fun T=>?_);refine o.v1 bH (o.nil (T ?_));refine G.t2 (fun U X=>?_);refine aW (fun ae=>?_) (fun ae=>?_)
 ·
  refine G.skip (U (G.t2 (fun Z aa=>G.aD (fun ab _ F=>G.L (fun K=>?_)))));refine o.aP 2 ?_;refine K (G.L (fun ac=>?_));refine o.az 3 ?_;refine o.b1 (Y.bU d (j) rfl jw bV rfl rfl) fun ah L=>?_;refine o.v1 (au L.O bR) ?_;refine o.v1 (Y.lr rfl rfl rfl) (o.nil (ac ?_));refine aW (fun q=>?_) (fun q=>?_)
  ·
   refine G.L (fun M=>?_);refine o.aP 2 ?_;refine M ?_;refine G.ret (F (aa (B (ap (aw (C ?_))))));exact⟨j,rfl,⟨⟨fun _=>by rw[q];exact List.getElem_mem _,fun _=>by omega⟩,by omega,by omega⟩,k⟩
  ·
   refine G.skip (ab (Z (G.region ?_)));refine o.v1 bD ?_;refine o.aa (o.nil ?_);refine aR.sub (S (j+1) _ ?_ ?_) ⟨rfl,rfl,(aF (by omega)),(aF (by omega)),trivial⟩
   ·exact⟨(by omega),w5 A (by omega) (by simpa using q),i⟩
   ·first|omega|(simp only;omega)|(simp;omega)
 ·
  refine G.exit (X (B (Q ?_)));refine P (G.L (fun N=>?_));refine o.al ?_;refine N ?_;refine G.ret (C ?_);exact⟨-1,rfl,⟨⟨fun h=>by omega,fun h=>by rw[List.take_of_length_le (by omega)]at A;exact absurd h A⟩,by omega,by omega⟩,k⟩
theorem Cc(v:Value)(x:List UInt8)(l:List (List UInt8))(w0:World)(J:Heap)
 (d:bM J fy 1 v l):
 aG Tryz.prog w0 194 #[v,aK x] J (fun r j=>r= .bool (decide (x∈l))∧aq J j):=by
 refine aG.aN [v,aK x] Tryz.func194 ?_;intro C A;have i:aq J J:=W.refl _ _;have d:=d.b2;have E:=d.len;refine G.L (fun k=>?_);refine o.al ?_;refine k (G.L (fun n=>?_));refine o.az 2 ?_;refine aV Bl (Dn _ x l w0 _ d.any) ?_;rintro F B ⟨n7,rfl,q,ac⟩;have i:=i.L ac;refine o.v1 dq ?_;refine o.al ?_;refine n ?_;refine G.ret (A ?_);exact⟨cQ q.1,i⟩
theorem C5(c:UInt8)(w0:World)(J:Heap)
 :
 aG Tryz.prog w0 115 #[.int .u8 c.toNat] J (fun r C=>r= .bool (cp c)∧aq J C):=by
 refine aG.aN [.int .u8 c.toNat] Tryz.func115 ?_;intro F k;have j:aq J J:=W.refl _ _;refine G.L (fun E=>?_);refine o.al ?_;refine E (G.L (fun i=>?_));refine o.aa ?_;refine o.v1 dq ?_;refine o.aa ?_;refine o.bp (d:=5) rfl (fun g5=>?_) (fun g5=>?_)
 ·
  refine o.bJ ?_;refine o.ar eF ?_;refine o.az 2 ?_;refine o.bp (d:=9) rfl (fun g9=>?_) (fun g9=>?_)
  ·
   refine o.az 3 ?_;refine gv ?_;refine gv ?_;refine o.az 6 ?_;refine gv ?_;refine gv ?_;refine o.aP 19 ?_;refine i ?_;refine G.ret (k ?_);exact⟨by first|exact c2 (by omega)|exact ek (by omega)|(rw[cp];exact cQ (by omega)),j⟩
  ·
   refine o.bJ ?_;refine o.ar dq ?_;refine o.bJ ?_;refine o.bp (d:=12) rfl (fun A=>?_) (fun A=>?_)
   ·
    refine o.bJ ?_;refine o.ar eF ?_;refine o.ar eS ?_;refine o.az 2 ?_;refine o.bp (d:=17) rfl (fun B=>?_) (fun B=>?_)
    ·
     refine o.az 3 ?_;refine gv ?_;refine gv ?_;refine o.aP 19 ?_;refine i ?_;refine G.ret (k ?_);exact⟨by first|exact c2 (by omega)|exact ek (by omega)|(rw[cp];exact cQ (by omega)),j⟩
    ·
     refine o.bJ ?_;refine o.ar dq ?_;refine o.bJ ?_;refine o.bp (d:=20) rfl (fun q=>?_) (fun q=>?_)
     ·
      refine o.bJ ?_;refine o.ar eF ?_;refine o.ar eS ?_;refine o.az 2 ?_;refine o.bp (d:=25) rfl (fun x=>?_) (fun x=>?_)
      ·
       refine o.aP 16 ?_;refine i ?_;refine G.ret (k ?_);exact⟨by first|exact c2 (by omega)|exact ek (by omega)|(rw[cp];exact cQ (by omega)),j⟩
      ·
       refine o.bJ ?_;refine o.ar cb ?_;refine o.az 2 ?_;refine o.bp (d:=29) rfl (fun n=>?_) (fun n=>?_)
       ·
        refine o.aP 12 ?_;refine i ?_;refine G.ret (k ?_);exact⟨by first|exact c2 (by omega)|exact ek (by omega)|(rw[cp];exact cQ (by omega)),j⟩
       ·
        refine o.bJ ?_;refine o.ar cb ?_;refine o.az 2 ?_;refine o.bp (d:=33) rfl (fun ac=>?_) (fun ac=>?_)
        ·
         refine o.aP 8 ?_;refine i ?_;refine G.ret (k ?_);exact⟨by first|exact c2 (by omega)|exact ek (by omega)|(rw[cp];exact cQ (by omega)),j⟩
        ·
         refine o.bJ ?_;refine o.ar cb ?_;refine o.az 2 ?_;refine o.bp (d:=37) rfl (fun ad=>?_) (fun ad=>?_)
         ·
          refine o.aP 4 ?_;refine i ?_;refine G.ret (k ?_);exact⟨by first|exact c2 (by omega)|exact ek (by omega)|(rw[cp];exact cQ (by omega)),j⟩
         ·
          refine o.bJ ?_;refine o.ar cb ?_;refine o.aP 2 ?_;refine i ?_;refine G.ret (k ?_);exact⟨by first|exact c2 (by omega)|exact ek (by omega)|(rw[cp];exact cQ (by omega)),j⟩
     ·
      refine o.az 2 ?_;refine o.ar er ?_;refine o.az 3 ?_;refine o.ar cb ?_;refine o.az 2 ?_;refine o.bp (d:=29) rfl (fun n=>?_) (fun n=>?_)
      ·
       refine o.aP 12 ?_;refine i ?_;refine G.ret (k ?_);exact⟨by first|exact c2 (by omega)|exact ek (by omega)|(rw[cp];exact cQ (by omega)),j⟩
      ·
       refine o.bJ ?_;refine o.ar cb ?_;refine o.az 2 ?_;refine o.bp (d:=33) rfl (fun ac=>?_) (fun ac=>?_)
       ·
        refine o.aP 8 ?_;refine i ?_;refine G.ret (k ?_);exact⟨by first|exact c2 (by omega)|exact ek (by omega)|(rw[cp];exact cQ (by omega)),j⟩
       ·
        refine o.bJ ?_;refine o.ar cb ?_;refine o.az 2 ?_;refine o.bp (d:=37) rfl (fun ad=>?_) (fun ad=>?_)
        ·
         refine o.aP 4 ?_;refine i ?_;refine G.ret (k ?_);exact⟨by first|exact c2 (by omega)|exact ek (by omega)|(rw[cp];exact cQ (by omega)),j⟩
        ·
         refine o.bJ ?_;refine o.ar cb ?_;refine o.aP 2 ?_;refine i ?_;refine G.ret (k ?_);exact⟨by first|exact c2 (by omega)|exact ek (by omega)|(rw[cp];exact cQ (by omega)),j⟩
   ·
    refine o.az 2 ?_;refine o.ar er ?_;refine o.az 3 ?_;refine o.ar dq ?_;refine o.bJ ?_;refine o.bp (d:=20) rfl (fun q=>?_) (fun q=>?_)
    ·
     refine o.bJ ?_;refine o.ar eF ?_;refine o.ar eS ?_;refine o.az 2 ?_;refine o.bp (d:=25) rfl (fun x=>?_) (fun x=>?_)
     ·
      refine o.aP 16 ?_;refine i ?_;refine G.ret (k ?_);exact⟨by first|exact c2 (by omega)|exact ek (by omega)|(rw[cp];exact cQ (by omega)),j⟩
     ·
      refine o.bJ ?_;refine o.ar cb ?_;refine o.az 2 ?_;refine o.bp (d:=29) rfl (fun n=>?_) (fun n=>?_)
      ·
       refine o.aP 12 ?_;refine i ?_;refine G.ret (k ?_);exact⟨by first|exact c2 (by omega)|exact ek (by omega)|(rw[cp];exact cQ (by omega)),j⟩
      ·
       refine o.bJ ?_;refine o.ar cb ?_;refine o.az 2 ?_;refine o.bp (d:=33) rfl (fun ac=>?_) (fun ac=>?_)
       ·
        refine o.aP 8 ?_;refine i ?_;refine G.ret (k ?_);exact⟨by first|exact c2 (by omega)|exact ek (by omega)|(rw[cp];exact cQ (by omega)),j⟩
       ·
        refine o.bJ ?_;refine o.ar cb ?_;refine o.az 2 ?_;refine o.bp (d:=37) rfl (fun ad=>?_) (fun ad=>?_)
        ·
         refine o.aP 4 ?_;refine i ?_;refine G.ret (k ?_);exact⟨by first|exact c2 (by omega)|exact ek (by omega)|(rw[cp];exact cQ (by omega)),j⟩
        ·
         refine o.bJ ?_;refine o.ar cb ?_;refine o.aP 2 ?_;refine i ?_;refine G.ret (k ?_);exact⟨by first|exact c2 (by omega)|exact ek (by omega)|(rw[cp];exact cQ (by omega)),j⟩
    ·
     refine o.az 2 ?_;refine o.ar er ?_;refine o.az 3 ?_;refine o.ar cb ?_;refine o.az 2 ?_;refine o.bp (d:=29) rfl (fun n=>?_) (fun n=>?_)
     ·
      refine o.aP 12 ?_;refine i ?_;refine G.ret (k ?_);exact⟨by first|exact c2 (by omega)|exact ek (by omega)|(rw[cp];exact cQ (by omega)),j⟩
     ·
      refine o.bJ ?_;refine o.ar cb ?_;refine o.az 2 ?_;refine o.bp (d:=33) rfl (fun ac=>?_) (fun ac=>?_)
      ·
       refine o.aP 8 ?_;refine i ?_;refine G.ret (k ?_);exact⟨by first|exact c2 (by omega)|exact ek (by omega)|(rw[cp];exact cQ (by omega)),j⟩
      ·
       refine o.bJ ?_;refine o.ar cb ?_;refine o.az 2 ?_;refine o.bp (d:=37) rfl (fun ad=>?_) (fun ad=>?_)
       ·
        refine o.aP 4 ?_;refine i ?_;refine G.ret (k ?_);exact⟨by first|exact c2 (by omega)|exact ek (by omega)|(rw[cp];exact cQ (by omega)),j⟩
       ·
        refine o.bJ ?_;refine o.ar cb ?_;refine o.aP 2 ?_;refine i ?_;refine G.ret (k ?_);exact⟨by first|exact c2 (by omega)|exact ek (by omega)|(rw[cp];exact cQ (by omega)),j⟩
 ·
  refine o.az 5 ?_;refine o.ar dq ?_;refine o.bJ ?_;refine o.bp (d:=12) rfl (fun A=>?_) (fun A=>?_)
  ·
   refine o.bJ ?_;refine o.ar eF ?_;refine o.ar eS ?_;refine o.az 2 ?_;refine o.bp (d:=17) rfl (fun B=>?_) (fun B=>?_)
   ·
    refine o.az 3 ?_;refine gv ?_;refine gv ?_;refine o.aP 19 ?_;refine i ?_;refine G.ret (k ?_);exact⟨by first|exact c2 (by omega)|exact ek (by omega)|(rw[cp];exact cQ (by omega)),j⟩
   ·
    refine o.bJ ?_;refine o.ar dq ?_;refine o.bJ ?_;refine o.bp (d:=20) rfl (fun q=>?_) (fun q=>?_)
    ·
     refine o.bJ ?_;refine o.ar eF ?_;refine o.ar eS ?_;refine o.az 2 ?_;refine o.bp (d:=25) rfl (fun x=>?_) (fun x=>?_)
     ·
      refine o.aP 16 ?_;refine i ?_;refine G.ret (k ?_);exact⟨by first|exact c2 (by omega)|exact ek (by omega)|(rw[cp];exact cQ (by omega)),j⟩
     ·
      refine o.bJ ?_;refine o.ar cb ?_;refine o.az 2 ?_;refine o.bp (d:=29) rfl (fun n=>?_) (fun n=>?_)
      ·
       refine o.aP 12 ?_;refine i ?_;refine G.ret (k ?_);exact⟨by first|exact c2 (by omega)|exact ek (by omega)|(rw[cp];exact cQ (by omega)),j⟩
      ·
       refine o.bJ ?_;refine o.ar cb ?_;refine o.az 2 ?_;refine o.bp (d:=33) rfl (fun ac=>?_) (fun ac=>?_)
       ·
        refine o.aP 8 ?_;refine i ?_;refine G.ret (k ?_);exact⟨by first|exact c2 (by omega)|exact ek (by omega)|(rw[cp];exact cQ (by omega)),j⟩
       ·
        refine o.bJ ?_;refine o.ar cb ?_;refine o.az 2 ?_;refine o.bp (d:=37) rfl (fun ad=>?_) (fun ad=>?_)
        ·
         refine o.aP 4 ?_;refine i ?_;refine G.ret (k ?_);exact⟨by first|exact c2 (by omega)|exact ek (by omega)|(rw[cp];exact cQ (by omega)),j⟩
        ·
         refine o.bJ ?_;refine o.ar cb ?_;refine o.aP 2 ?_;refine i ?_;refine G.ret (k ?_);exact⟨by first|exact c2 (by omega)|exact ek (by omega)|(rw[cp];exact cQ (by omega)),j⟩
    ·
     refine o.az 2 ?_;refine o.ar er ?_;refine o.az 3 ?_;refine o.ar cb ?_;refine o.az 2 ?_;refine o.bp (d:=29) rfl (fun n=>?_) (fun n=>?_)
     ·
      refine o.aP 12 ?_;refine i ?_;refine G.ret (k ?_);exact⟨by first|exact c2 (by omega)|exact ek (by omega)|(rw[cp];exact cQ (by omega)),j⟩
     ·
      refine o.bJ ?_;refine o.ar cb ?_;refine o.az 2 ?_;refine o.bp (d:=33) rfl (fun ac=>?_) (fun ac=>?_)
      ·
       refine o.aP 8 ?_;refine i ?_;refine G.ret (k ?_);exact⟨by first|exact c2 (by omega)|exact ek (by omega)|(rw[cp];exact cQ (by omega)),j⟩
      ·
       refine o.bJ ?_;refine o.ar cb ?_;refine o.az 2 ?_;refine o.bp (d:=37) rfl (fun ad=>?_) (fun ad=>?_)
       ·
        refine o.aP 4 ?_;refine i ?_;refine G.ret (k ?_);exact⟨by first|exact c2 (by omega)|exact ek (by omega)|(rw[cp];exact cQ (by omega)),j⟩
       ·
        refine o.bJ ?_;refine o.ar cb ?_;refine o.aP 2 ?_;refine i ?_;refine G.ret (k ?_);exact⟨by first|exact c2 (by omega)|exact ek (by omega)|(rw[cp];exact cQ (by omega)),j⟩
  ·
   refine o.az 2 ?_;refine o.ar er ?_;refine o.az 3 ?_;refine o.ar dq ?_;refine o.bJ ?_;refine o.bp (d:=20) rfl (fun q=>?_) (fun q=>?_)
   ·
    refine o.bJ ?_;refine o.ar eF ?_;refine o.ar eS ?_;refine o.az 2 ?_;refine o.bp (d:=25) rfl (fun x=>?_) (fun x=>?_)
    ·
     refine o.aP 16 ?_;refine i ?_;refine G.ret (k ?_);exact⟨by first|exact c2 (by omega)|exact ek (by omega)|(rw[cp];exact cQ (by omega)),j⟩
    ·
     refine o.bJ ?_;refine o.ar cb ?_;refine o.az 2 ?_;refine o.bp (d:=29) rfl (fun n=>?_) (fun n=>?_)
     ·
      refine o.aP 12 ?_;refine i ?_;refine G.ret (k ?_);exact⟨by first|exact c2 (by omega)|exact ek (by omega)|(rw[cp];exact cQ (by omega)),j⟩
     ·
      refine o.bJ ?_;refine o.ar cb ?_;refine o.az 2 ?_;refine o.bp (d:=33) rfl (fun ac=>?_) (fun ac=>?_)
      ·
       refine o.aP 8 ?_;refine i ?_;refine G.ret (k ?_);exact⟨by first|exact c2 (by omega)|exact ek (by omega)|(rw[cp];exact cQ (by omega)),j⟩
      ·
       refine o.bJ ?_;refine o.ar cb ?_;refine o.az 2 ?_;refine o.bp (d:=37) rfl (fun ad=>?_) (fun ad=>?_)
       ·
        refine o.aP 4 ?_;refine i ?_;refine G.ret (k ?_);exact⟨by first|exact c2 (by omega)|exact ek (by omega)|(rw[cp];exact cQ (by omega)),j⟩
       ·
        refine o.bJ ?_;refine o.ar cb ?_;refine o.aP 2 ?_;refine i ?_;refine G.ret (k ?_);exact⟨by first|exact c2 (by omega)|exact ek (by omega)|(rw[cp];exact cQ (by omega)),j⟩
   ·
    refine o.az 2 ?_;refine o.ar er ?_;refine o.az 3 ?_;refine o.ar cb ?_;refine o.az 2 ?_;refine o.bp (d:=29) rfl (fun n=>?_) (fun n=>?_)
    ·
     refine o.aP 12 ?_;refine i ?_;refine G.ret (k ?_);exact⟨by first|exact c2 (by omega)|exact ek (by omega)|(rw[cp];exact cQ (by omega)),j⟩
    ·
     refine o.bJ ?_;refine o.ar cb ?_;refine o.az 2 ?_;refine o.bp (d:=33) rfl (fun ac=>?_) (fun ac=>?_)
     ·
      refine o.aP 8 ?_;refine i ?_;refine G.ret (k ?_);exact⟨by first|exact c2 (by omega)|exact ek (by omega)|(rw[cp];exact cQ (by omega)),j⟩
     ·
      refine o.bJ ?_;refine o.ar cb ?_;refine o.az 2 ?_;refine o.bp (d:=37) rfl (fun ad=>?_) (fun ad=>?_)
      ·
       refine o.aP 4 ?_;refine i ?_;refine G.ret (k ?_);exact⟨by first|exact c2 (by omega)|exact ek (by omega)|(rw[cp];exact cQ (by omega)),j⟩
      ·
       refine o.bJ ?_;refine o.ar cb ?_;refine o.aP 2 ?_;refine i ?_;refine G.ret (k ?_);exact⟨by first|exact c2 (by omega)|exact ek (by omega)|(rw[cp];exact cQ (by omega)),j⟩
theorem uM(s up:List UInt8)(w0:World)(J:Heap)
 :
 aG Tryz.prog w0 188 #[aK s,aK up] J (fun r q=>r= .bool ((up++[47]).isPrefixOf s)∧aq J q):=by
 refine aG.aN [aK s,aK up] Tryz.func188 ?_;intro x n;have k:aq J J:=W.refl _ _;refine G.L (fun ac=>?_);refine o.al ?_;refine ac (G.L (fun i=>?_));refine o.aa ?_;refine o.v1 (fu dC) ?_;refine o.aa ?_;refine o.v1 (fu dC) ?_;refine o.v1 eX ?_;refine o.aa ?_;refine o.bp (d:=10) rfl (fun ad=>?_) (fun ad=>?_)
 ·
  refine o.az 2 ?_;refine o.ar (fu dC) ?_;refine o.ar (Y.yF (0) (up.length) rfl dC rfl (.inl ⟨rfl,rfl⟩) (.inr ⟨_,_,_,rfl,rfl,by first|rfl|omega⟩) (by omega) (by omega)) ?_;refine o.bJ ?_;refine o.ar (Y.lr rfl rfl rfl) ?_;refine o.az 2 ?_;refine o.bp (d:=18) rfl (fun j=>?_) (fun j=>?_)
  ·
   refine o.az 2 ?_;refine o.ar (fu dC) ?_;refine o.ar (jc (up.length) dC) ?_;refine o.ar cb ?_;refine o.aP 2 ?_;refine i ?_;refine G.ret (n ?_);exact⟨Ag (by omega) (by simpa using j),k⟩
  ·
   refine o.aP 7 ?_;refine i ?_;refine G.ret (n ?_);exact⟨uL (fun h=>j (by simpa using h.2)),k⟩
 ·
  refine o.aP 15 ?_;refine i ?_;refine G.ret (n ?_);exact⟨uL (fun h=>by omega),k⟩
theorem qY(s:List UInt8)(w0:World)(J:Heap)
 (aj:s.length≤9223372036854775807):
 aG Tryz.prog w0 40 #[aK s] J (fun r a6=>r= .int .i64 (cU s)∧aq J a6):=by
 refine aG.aN [aK s] Tryz.func40 ?_;intro bL q;have k:aq J J:=W.refl _ _;refine G.L (fun bT=>?_);refine o.al ?_;refine bT (G.t2 (fun be aQ=>G.L (fun aS=>?_)));refine o.aa ?_;refine o.v1 (fu dC) ?_;refine o.v1 bH ?_;refine o.aa ?_;refine o.bp (d:=9) rfl (fun g9=>?_) (fun g9=>?_)
 ·
  refine o.az 4 ?_;refine o.nil (aS ?_);refine G.h9 rfl ?_;refine G.L (fun b5=>?_);refine o.al ?_;refine b5 ?_;refine G.ret (aQ (q ?_));exact⟨by rw[B8 (by omega)],k⟩
 ·
  refine o.bJ ?_;refine o.ar (fu dC) ?_;refine o.ar eX ?_;refine o.dy ?_;refine o.nil (aS ?_);refine aW (fun bq=>?_) (fun bq=>?_)
  ·
   refine G.L (fun bs=>?_);refine o.al ?_;refine bs ?_;refine G.ret (aQ (q ?_));exact⟨by rw[B7 (by omega)],k⟩
  ·
   refine G.skip (be (G.t2 (fun bi B=>G.L (fun bt=>?_))));refine o.al ?_;refine bt (G.aD (fun _ aD C=>?_))
   refine G.bc (fun(i:(Nat))=>[(0,aK s),(3,.int .i64 i)])
    (fun(i:(Nat)) (H:Heap)=>(i≤s.length)∧(∀j,j<i→nP s j)∧aq J H)
    (fun(i:(Nat))=>s.length-i) 0 ⟨rfl,rfl,trivial⟩ ?_ ?_
   ·
    exact⟨(by omega),(fun j h=>by omega),W.refl _ _⟩
   intro i ab bu bK bw x;obtain⟨bX,a1,n⟩:=bu;have k:=k.L n;have bv:=n.size;refine G.t2 (fun ba bb=>G.L (fun bc=>?_));refine o.az 2 ?_;refine o.v1 (fu dC) ?_;refine o.v1 bH (o.nil (bc ?_));refine aW (fun bx=>?_) (fun bx=>?_)
   ·
    have A:i<s.length:=by omega
    have ex:s.getD i 0=s[i]:=ic A;refine G.skip (ba (G.t2 (fun bd aw=>G.aD (fun a0 _ am=>?_))))
    refine G.cut (fun(fb:(Bool))=>[(0,aK s),(3,.int .i64 i),(4,.bool fb)])
     (fun(fb:(Bool)) (H:Heap)=>(fb=true↔oR s i)∧aq ab H) (fun _ aN _=>?_) ?_
    ·
     have aJ:aq ab ab:=W.refl _ _;refine G.region ?_;refine o.aa ?_;refine o.v1 cb ?_;refine o.aa ?_;refine o.bp (d:=22) rfl (fun bz=>?_) (fun bz=>?_)
     ·
      refine o.aP 7 ?_;refine aR.sub (aN true _ ?_) ⟨rfl,(aF (by omega)),rfl,trivial⟩;exact⟨⟨fun _=> .inl (by omega),fun _=>rfl⟩,aJ⟩
     ·
      refine o.az 2 ?_;refine o.ar (Y.cast (v2:= .int .i64 ((i-1:Nat):Int)) fG (fh (by omega))) ?_;refine o.ar (jc (i-1) dC) ?_;refine o.ar cb ?_;refine o.aP 2 ?_;refine aR.sub (aN (decide (((s[i-1]'(by omega)).toNat:Int)=47)) _ ?_) ⟨rfl,(aF (by omega)),rfl,trivial⟩;exact⟨⟨fun h=> .inr (by rw[ic (by omega)];have:=of_decide_eq_true h;omega),fun h=>decide_eq_true (by rcases h with h|h;omega;rw[ic (by omega)]at h;omega)⟩,aJ⟩
    ·
     intro fb ar bn;obtain⟨aI,ag⟩:=bn;have k:=k.L ag;have n:=n.L ag;have bU:=ag.size
     refine G.cut (fun(aZ:(Bool))=>[(0,aK s),(3,.int .i64 i),(4,.bool fb),(5,.bool aZ)])
      (fun(aZ:(Bool)) (H:Heap)=>(aZ=true↔qB s i)∧aq ar H) (fun _ aO _=>?_) ?_
     ·
      have aL:aq ar ar:=W.refl _ _;refine G.region ?_;refine o.az 2 ?_;refine o.v1 (fu dC) ?_;refine o.v1 (Y.cast (v2:= .int .i64 ((s.length-1:Nat):Int)) fG (fh (by omega))) ?_;refine o.v1 cb ?_;refine o.aa ?_;refine o.bp (d:=34) rfl (fun bA=>?_) (fun bA=>?_)
      ·
       refine o.aP 7 ?_;refine aR.sub (aO true _ ?_) ⟨rfl,(aF (by omega)),rfl,rfl,trivial⟩;exact⟨⟨fun _=> .inl (by omega),fun _=>rfl⟩,aL⟩
      ·
       refine o.az 2 ?_;refine o.ar (Y.cast (v2:= .int .i64 ((i+1:Nat):Int)) bD (fh (by omega))) ?_;refine o.ar (jc (i+1) dC) ?_;refine o.ar cb ?_;refine o.aP 2 ?_;refine aR.sub (aO (decide (((s[i+1]'(by omega)).toNat:Int)=47)) _ ?_) ⟨rfl,(aF (by omega)),rfl,rfl,trivial⟩;exact⟨⟨fun h=> .inr (by rw[ic (by omega)];have:=of_decide_eq_true h;omega),fun h=>decide_eq_true (by rcases h with h|h;omega;rw[ic (by omega)]at h;omega)⟩,aL⟩
     ·
      intro aZ cg bo;obtain⟨aX,ah⟩:=bo;have k:=k.L ah;have n:=n.L ah;have bV:=ah.size;refine G.aD (fun a2 _ F=>G.L (fun a3=>?_));refine o.az 2 ?_;refine o.v1 (jc (i) dC) ?_;refine aV AI (C5 s[i] w0 _) (fun bW a4 bB=>?_);obtain⟨rfl,U⟩:=bB;have k:=k.L U;have n:=n.L U;have bN:=U.size;refine o.v1 eG ?_;refine o.al ?_;refine a3 ?_;refine cL (fun K=>?_) (fun K=>?_)
      ·
       refine G.L (fun a5=>?_);refine o.al ?_;refine a5 ?_;refine G.ret (F (am (aw (x (C (B (q ?_)))))));exact⟨by rw[pf A (fun h=>by have:=h.1;rw[ex]at this;rw[this]at K;cases K)],k⟩
      ·
       refine G.cut (fun(Q:(Bool))=>[(0,aK s),(3,.int .i64 i),(4,.bool fb),(5,.bool aZ),(47,.bool Q)])
        (fun(Q:(Bool)) (H:Heap)=>(Q=true↔((s.getD i 0).toNat=47∧(fb=true∨i+1=s.length)))∧aq a4 H) (fun _ X _=>?_) ?_
       ·
        have ap:aq a4 a4:=W.refl _ _;refine G.region ?_;refine o.az 2 ?_;refine o.v1 (jc (i) dC) ?_;refine o.v1 cb ?_;refine o.aa ?_;refine o.bp (d:=52) rfl (fun br=>?_) (fun br=>?_)
        ·
         refine o.az 2 ?_;refine o.split (d:=54) rfl (fun L=>?_) (fun L=>?_)
         ·
          refine o.az 5 ?_;refine o.ar eS ?_;refine o.aP 2 ?_;refine aR.sub (X true _ ?_) ⟨rfl,(aF (by omega)),rfl,rfl,rfl,trivial⟩;exact⟨⟨fun _=>⟨by rw[ex];omega,.inl L⟩,fun _=>rfl⟩,ap⟩
         ·
          refine o.az 2 ?_;refine o.ar (fu dC) ?_;refine o.ar (Y.cast (v2:= .int .i64 ((s.length-1:Nat):Int)) fG (fh (by omega))) ?_;refine o.ar cb ?_;refine o.ar er ?_;refine o.aP 2 ?_;refine aR.sub (X (decide ((i:Int)=((s.length-1:Nat):Int))) _ ?_) ⟨rfl,(aF (by omega)),rfl,rfl,rfl,trivial⟩;exact⟨⟨fun h=>⟨by rw[ex];omega,.inr (by have:=of_decide_eq_true h;omega)⟩,fun h=>decide_eq_true (by rcases h.2 with h|h;rw[h]at L;cases L;omega)⟩,ap⟩
        ·
         refine o.az 2 ?_;refine gv ?_;refine gv ?_;refine gv ?_;refine gv ?_;refine gv ?_;refine o.aP 3 ?_;refine aR.sub (X false _ ?_) ⟨rfl,(aF (by omega)),rfl,rfl,rfl,trivial⟩;exact⟨⟨fun h=>(by cases h),fun h=>by have:=h.1;rw[ex]at this;omega⟩,ap⟩
       ·
        intro Q ai bg;obtain⟨aB,ae⟩:=bg;have k:=k.L ae;have n:=n.L ae;have bO:=ae.size;refine cL (fun M=>?_) (fun M=>?_)
        ·
         refine G.L (fun a7=>?_);refine o.al ?_;refine a7 ?_;refine G.ret (F (am (aw (x (C (B (q ?_)))))));exact⟨by rw[pf A (fun h=>h.2.1 ⟨(aB.1 M).1,(aB.1 M).2.imp aI.1 id⟩)],k⟩
        ·
         refine G.cut (fun(R:(Bool))=>[(0,aK s),(3,.int .i64 i),(5,.bool aZ),(62,.bool R)])
          (fun(R:(Bool)) (H:Heap)=>(R=true↔(fb=true∧((s.getD i 0).toNat=46∨(s.getD i 0).toNat=45)))∧aq ai H) (fun _ Z _=>?_) ?_
         ·
          have au:aq ai ai:=W.refl _ _;refine G.region ?_;refine o.az 2 ?_;refine o.split (d:=64) rfl (fun E=>?_) (fun E=>?_)
          ·
           refine o.az 2 ?_;refine o.ar (jc (i) dC) ?_;refine o.ar cb ?_;refine o.bJ ?_;refine o.bp (d:=69) rfl (fun bE=>?_) (fun bE=>?_)
           ·
            refine o.az 4 ?_;refine o.ar eS ?_;refine o.aP 2 ?_;refine aR.sub (Z true _ ?_) ⟨rfl,(aF (by omega)),rfl,rfl,trivial⟩;exact⟨⟨fun _=>⟨E,.inl (by rw[ex];omega)⟩,fun _=>rfl⟩,au⟩
           ·
            refine o.az 2 ?_;refine o.ar (jc (i) dC) ?_;refine o.ar cb ?_;refine o.ar er ?_;refine o.aP 2 ?_;refine aR.sub (Z (decide ((s[i].toNat:Int)=45)) _ ?_) ⟨rfl,(aF (by omega)),rfl,rfl,trivial⟩;exact⟨⟨fun h=>⟨E,.inr (by rw[ex];have:=of_decide_eq_true h;omega)⟩,fun h=>decide_eq_true (by have:=h.2;rw[ex]at this;omega)⟩,au⟩
          ·
           refine o.az 5 ?_;refine gv ?_;refine gv ?_;refine gv ?_;refine gv ?_;refine o.aP 3 ?_;refine aR.sub (Z false _ ?_) ⟨rfl,(aF (by omega)),rfl,rfl,trivial⟩;exact⟨⟨fun h=>(by cases h),fun h=>by rw[h.1]at E;cases E⟩,au⟩
         ·
          intro R al bk;obtain⟨aC,ac⟩:=bk;have k:=k.L ac;have n:=n.L ac;have bP:=ac.size;refine cL (fun N=>?_) (fun N=>?_)
          ·
           refine G.L (fun a8=>?_);refine o.al ?_;refine a8 ?_;refine G.ret (F (am (aw (x (C (B (q ?_)))))));exact⟨by rw[pf A (fun h=>h.2.2.1 ⟨aI.1 (aC.1 N).1,(aC.1 N).2⟩)],k⟩
          ·
           refine G.cut (fun(S:(Bool))=>[(0,aK s),(3,.int .i64 i),(76,.bool S)])
            (fun(S:(Bool)) (H:Heap)=>(S=true↔(aZ=true∧(s.getD i 0).toNat=46))∧aq al H) (fun _ aP _=>?_) ?_
           ·
            have aM:aq al al:=W.refl _ _;refine G.region ?_;refine o.az 2 ?_;refine o.split (d:=78) rfl (fun O=>?_) (fun O=>?_)
            ·
             refine o.az 2 ?_;refine o.ar (jc (i) dC) ?_;refine o.ar cb ?_;refine o.aP 2 ?_;refine aR.sub (aP (decide ((s[i].toNat:Int)=46)) _ ?_) ⟨rfl,(aF (by omega)),rfl,trivial⟩;exact⟨⟨fun h=>⟨O,by rw[ex];have:=of_decide_eq_true h;omega⟩,fun h=>decide_eq_true (by have:=h.2;rw[ex]at this;omega)⟩,aM⟩
            ·
             refine o.aP 6 ?_;refine aR.sub (aP false _ ?_) ⟨rfl,(aF (by omega)),rfl,trivial⟩;exact⟨⟨fun h=>(by cases h),fun h=>by rw[h.1]at O;cases O⟩,aM⟩
           ·
            intro S an bl;obtain⟨aH,ad⟩:=bl;have k:=k.L ad;have n:=n.L ad;have bQ:=ad.size;refine cL (fun P=>?_) (fun P=>?_)
            ·
             refine G.L (fun a_=>?_);refine o.al ?_;refine a_ ?_;refine G.ret (F (am (aw (x (C (B (q ?_)))))));exact⟨by rw[pf A (fun h=>h.2.2.2.1 ⟨aX.1 (aH.1 P).1,(aH.1 P).2⟩)],k⟩
            ·
             refine G.cut (fun(T:(Bool))=>[(0,aK s),(3,.int .i64 i),(84,.bool T)])
              (fun(T:(Bool)) (H:Heap)=>(T=true↔((s.getD i 0).toNat=46∧0<i∧(s.getD (i-1) 0).toNat=46))∧aq an H) (fun _ aa _=>?_) ?_
             ·
              have ay:aq an an:=W.refl _ _;refine G.region ?_;refine o.az 2 ?_;refine o.v1 (jc (i) dC) ?_;refine o.v1 cb ?_;refine o.aa ?_;refine o.bp (d:=89) rfl (fun bF=>?_) (fun bF=>?_)
              ·
               refine o.bJ ?_;refine o.ar eX ?_;refine o.az 2 ?_;refine o.bp (d:=93) rfl (fun bJ=>?_) (fun bJ=>?_)
               ·
                refine o.az 2 ?_;refine o.ar (Y.cast (v2:= .int .i64 ((i-1:Nat):Int)) fG (fh (by omega))) ?_;refine o.ar (jc (i-1) dC) ?_;refine o.ar cb ?_;refine o.aP 2 ?_;refine aR.sub (aa (decide (((s[i-1]'(by omega)).toNat:Int)=46)) _ ?_) ⟨rfl,(aF (by omega)),rfl,trivial⟩;exact⟨⟨fun h=>⟨by rw[ex];omega,by omega,by rw[ic (by omega)];have:=of_decide_eq_true h;omega⟩,fun h=>decide_eq_true (by have:=h.2.2;rw[ic (by omega)]at this;omega)⟩,ay⟩
               ·
                refine o.aP 7 ?_;refine aR.sub (aa false _ ?_) ⟨rfl,(aF (by omega)),rfl,trivial⟩;exact⟨⟨fun h=>(by cases h),fun h=>by have az:=h.1;have V:=h.2.1;rw[ex]at az;omega⟩,ay⟩
              ·
               refine o.aP 11 ?_;refine aR.sub (aa false _ ?_) ⟨rfl,(aF (by omega)),rfl,trivial⟩;exact⟨⟨fun h=>(by cases h),fun h=>by have az:=h.1;have V:=h.2.1;rw[ex]at az;omega⟩,ay⟩
             ·
              intro T bM bm;obtain⟨aT,af⟩:=bm;have k:=k.L af;have n:=n.L af;have bR:=af.size;refine cL (fun a9=>?_) (fun a9=>?_)
              ·
               refine G.L (fun bf=>?_);refine o.al ?_;refine bf ?_;refine G.ret (F (am (aw (x (C (B (q ?_)))))));exact⟨by rw[pf A (fun h=>h.2.2.2.2 (aT.1 a9))],k⟩
              ·
               refine G.skip (a2 (a0 (bd (G.region ?_))));refine o.aa ?_;refine o.v1 bD ?_;refine o.al ?_;refine aR.sub (bw (i+1) _ ?_ ?_) ⟨rfl,(aF (by omega)),trivial⟩
               ·exact⟨(by omega),(fun j h=>by rcases Nat.lt_or_ge j i with V|V;exact a1 j V;obtain rfl:j=i:=(by omega);exact E1 (by rw[ex];simpa using K) aI aX aB aC aH aT M N P a9),n⟩
               ·first|omega|(simp only;omega)|(simp;omega)
   ·
    refine G.exit (bb (x (aD ?_)));refine bi (G.L (fun bp=>?_));refine o.al ?_;refine bp ?_;refine G.ret (q ?_);exact⟨by rw[Fx (by omega) (by omega) (fun j bY=>a1 j (by omega))],k⟩
theorem C0(s:List UInt8)(v:Value)(l:List (List UInt8))(bb:Int)(w0:World)(J:Heap)
 (aI:dP bb J) (aZ:bk (fun b=>b=0) J.size) (k:bM J fy 1 v l) (aj:s.length≤140737488355328) (a1:∀x∈l,x.length≤140737488355328):
 aG Tryz.prog w0 132 #[aK s,v] J (fun r S=>r= .int .i64 (iy s l)∧aq J S):=by
 refine aG.aN [aK s,v] Tryz.func132 ?_;intro a7 A;have i:aq J J:=W.refl _ _;have k:=k.b2;have bm:=k.len;refine G.L (fun aa=>?_);refine o.al ?_;refine aa (G.t2 (fun ab ae=>G.L (fun af=>?_)));refine o.aa ?_;refine aV p3 (p7 s bb w0 _ aI aZ (by omega)) ?_;rintro v9 a6 ⟨rfl,K⟩;have k:=k.N K;have i:=i.L K;have bd:=K.size;refine o.al ?_;refine af (G.L (fun ag=>?_));refine o.aa ?_;refine o.v1 da (o.nil (ag ?_));refine aW (fun ah=>?_) (fun ah=>?_)
 ·
  refine G.L (fun ai=>?_);refine o.aP 2 ?_;refine ai ?_;refine G.ret (ae (A ?_));exact⟨by have av:cU s≠0:=(by omega);have q:base s l=cU s:=(by rw[base,if_pos av]);rw[iy,q,if_pos av],i⟩
 ·
  refine G.skip (ab (G.t2 (fun al an=>G.L (fun ar=>?_))));refine o.az 2 ?_;refine aV Bc (Cc _ s l w0 _ k.any) (fun bg ay az=>?_);obtain⟨rfl,C⟩:=az;have k:=k.N C;have i:=i.L C;have a0:=C.size;refine o.nil (ar ?_);refine aW (fun B=>?_) (fun B=>?_)
  ·
   refine G.L (fun aB=>?_);refine o.al ?_;refine aB ?_;refine G.ret (an (A ?_));exact⟨by have q:base s l=8:=(by rw[base,if_neg (by omega),if_pos B]);rw[iy,q,if_pos (by decide)],i⟩
  ·
   refine G.skip (al (G.t2 (fun aC N=>G.L (fun ap=>?_))));refine o.aa ?_;refine o.v1 (bf k jw) ?_;refine o.aa (o.nil (ap ?_));refine G.aD (fun _ aM O=>?_)
   refine G.bc (fun(j:(Nat))=>[(0,aK s),(16,v),(17,.int .i64 l.length),(18,.int .i64 j)])
    (fun(j:(Nat)) (H:Heap)=>(j≤l.length)∧((l.take j).any (iP s)=false)∧aq ay H)
    (fun(j:(Nat))=>l.length-j) 0 ⟨rfl,rfl,rfl,rfl,trivial⟩ ?_ ?_
   ·
    exact⟨(by omega),rfl,W.refl _ _⟩
   intro j cg aD a2 aN ac;obtain⟨bl,L,n⟩:=aD;have k:=k.N n;have i:=i.L n;have a3:=n.size;refine G.L (fun aO=>?_);refine o.v1 bH (o.nil (aO ?_));refine G.t2 (fun aP aQ=>?_);refine aW (fun aH=>?_) (fun aH=>?_)
   ·
    refine G.skip (aP (G.t2 (fun aS P=>G.aD (fun aT _ Q=>G.L (fun aX=>?_)))));have M:j<l.length:=by omega
    have bn:=a1 l[j] (List.getElem_mem M);have q:base s l=0:=by rw[base,if_neg (by omega),if_neg B]
    refine o.b1 (Y.bU k (j) rfl jw bV rfl rfl) fun bc T=>?_;refine o.v1 (au T.O bR) ?_;refine o.al ?_;refine aX (G.L (fun R=>?_));refine o.az 2 ?_;refine o.v1 (Y.q5 rfl rfl rfl (by simp;omega)) ?_;refine aV vd (wD l[j] (s++[47]) w0 _) (fun a4 a5 aJ=>?_);obtain⟨rfl,E⟩:=aJ;have i:=i.L E;have n:=n.L E;have a8:=E.size;refine o.aa ?_;refine o.split (d:=26) rfl (fun aw=>?_) (fun aw=>?_)
    ·
     refine o.az 5 ?_;refine o.nil (R ?_);refine G.h9 rfl ?_;refine G.L (fun U=>?_);refine o.al ?_;refine U ?_;refine G.ret (Q (P (ac (O (N (A ?_))))));exact⟨by rw[iy,q,if_neg (by decide),if_pos (mj M (by unfold iP;first|(rw[aw];rfl)|(rw[am,Bool.or_true])))],i⟩
    ·
     refine o.az 2 ?_;refine o.ar (Y.q5 rfl rfl rfl (by simp;omega)) ?_;refine o.call rfl vd rfl bo rfl rfl (wD s (l[j]++[47]) w0 _) (fun a_ ba aL=>?_);obtain⟨rfl,F⟩:=aL;have i:=i.L F;have n:=n.L F;have a9:=F.size;refine o.dy ?_;refine o.nil (R ?_);refine cL (fun am=>?_) (fun am=>?_)
     ·
      refine G.L (fun X=>?_);refine o.al ?_;refine X ?_;refine G.ret (Q (P (ac (O (N (A ?_))))));exact⟨by rw[iy,q,if_neg (by decide),if_pos (mj M (by unfold iP;first|(rw[aw];rfl)|(rw[am,Bool.or_true])))],i⟩
     ·
      refine G.skip (aT (aS (G.region ?_)));refine o.v1 bD ?_;refine o.aa (o.nil ?_);refine aR.sub (aN (j+1) _ ?_ ?_) ⟨rfl,rfl,(aF (by omega)),(aF (by omega)),trivial⟩
      ·exact⟨(by omega),ou L (by omega) (by unfold iP;rw[Bool.or_eq_false_iff];exact⟨aw,am⟩),n⟩
      ·first|omega|(simp only;omega)|(simp;omega)
   ·
    refine G.exit (aQ (ac (aM ?_)));refine aC (G.L (fun Z=>?_));refine o.al ?_;refine Z ?_;refine G.ret (A ?_);exact⟨by have q:base s l=0:=(by rw[base,if_neg (by omega),if_neg B]);rw[List.take_of_length_le (by omega)]at L;rw[iy,q,if_neg (by decide),if_neg (by rw[L];decide)],i⟩
theorem FY(s:List UInt8)(v:Value)(l:List (List UInt8))(w0:World)(J:Heap)
 (n:bM J fy 1 v l) (aj:s.length≤140737488355328) (bz:∀x∈l,x.length≤140737488355328):
 aG Tryz.prog w0 116 #[aK s,v] J (fun r aD=>r= .int .i64 (iy s l)∧aq J aD):=by
 refine aG.aN [aK s,v] Tryz.func116 ?_;intro bg bc;have B:aq J J:=W.refl _ _;have n:=n.b2;have bx:=n.len;refine G.L (fun aQ=>?_);refine o.al ?_;refine aQ (G.L (fun aS=>?_));refine o.aa ?_;refine aV p2 (qY s w0 _ (by omega)) ?_;rintro v9 E ⟨rfl,U⟩;have n:=n.N U;have B:=B.L U;have bk:=U.size;refine o.al ?_;refine aS ?_
 refine G.cut (fun(e:(Int))=>[(0,aK s),(1,v),(5,.int .i64 e)])
  (fun(e:(Int)) (H:Heap)=>(e=base s l)∧aq E H) (fun _ aa _=>?_) ?_
 ·
  have K:aq E E:=W.refl _ _;refine G.L (fun aT=>?_);refine o.al ?_;refine aT (G.aD (fun _ ab _=>?_))
  refine G.bc (fun(Z:(Nat)×(Int))=>match Z with|(i,e)=>[(0,aK s),(1,v),(5,.int .i64 e),(6,.int .i64 i)])
   (fun(i,e) (H:Heap)=>(i≤l.length)∧((e=0∧cU s=0∧s∉l.take i)∨(e=8∧cU s=0∧s∈l)∨(e=cU s∧cU s≠0))∧aq E H)
   (fun(i,e)=>l.length-i) (0,cU s) ⟨rfl,rfl,rfl,rfl,trivial⟩ ?_ ?_
  ·
   exact⟨(by omega),(by by_cases h:cU s=0;exact .inl ⟨h,h,fun h=>by simp at h⟩;exact .inr (.inr ⟨rfl,h⟩)),W.refl _ _⟩
  rintro⟨i,e⟩ bl aX bd ae af;obtain⟨bb,M,C⟩:=aX;have n:=n.N C;have K:=K.L C;have a9:=C.size;refine G.t2 (fun aZ ag=>G.L (fun ah=>?_));refine o.az 2 ?_;refine o.v1 (bf n jw) ?_;refine o.v1 bH ?_;refine o.aa ?_;refine o.bp (d:=14) rfl (fun a1=>?_) (fun a1=>?_)
  ·
   refine o.bJ ?_;refine o.ar cb ?_;refine o.O ?_;refine o.nil (ah ?_);refine aW (fun a6=>?_) (fun a6=>?_)
   ·
    refine G.skip (aZ (G.t1 (fun ai=>G.aD (fun ap _ _=>G.L (fun aI=>?_)))));refine o.az 2 ?_;refine o.b1 (Y.bU n (i) rfl jw bV rfl rfl) fun bn aJ=>?_;refine o.v1 (au aJ.O bR) ?_;refine o.aa ?_;refine o.v1 (Y.lr rfl rfl rfl) (o.nil (aI ?_));refine aW (fun O=>?_) (fun O=>?_)
    ·
     refine G.region ?_;refine o.al ?_;refine ap (ai (G.region ?_));refine o.aa ?_;refine o.v1 bD ?_;refine o.al ?_;refine aR.sub (ae (i+1,8) _ ?_ ?_) ⟨rfl,rfl,(aF (by omega)),(aF (by omega)),trivial⟩
     ·exact⟨(by omega),(.inr (.inl ⟨rfl,by omega,by rw[←O];exact List.getElem_mem _⟩)),C⟩
     ·first|omega|(simp only;omega)|(simp;omega)
    ·
     refine G.skip (ap (ai (G.region ?_)));refine o.aa ?_;refine o.v1 bD ?_;refine o.al ?_;refine aR.sub (ae (i+1,e) _ ?_ ?_) ⟨rfl,rfl,(aF (by omega)),(aF (by omega)),trivial⟩
     ·exact⟨(by omega),(.inl ⟨by omega,by omega,by rcases M with⟨j,V,k⟩|⟨j,V,k⟩|⟨j,V⟩;exact w5 k (by omega) (fun e=>O e.symm);omega;omega⟩),C⟩
     ·first|omega|(simp only;omega)|(simp;omega)
   ·
    refine G.exit (ag (af (ab ?_)));refine aR.sub (aa e _ ?_) ⟨rfl,rfl,(aF (by omega)),trivial⟩;exact⟨(by unfold base;rcases M with⟨j,V,k⟩|⟨j,V,k⟩|⟨j,V⟩;omega;rw[if_neg (by omega),if_pos k];exact j;rw[if_pos V];exact j),K⟩
  ·
   refine o.az 3 ?_;refine o.nil (ah ?_);refine dK ?_;refine G.exit (ag (af (ab ?_)));refine aR.sub (aa e _ ?_) ⟨rfl,rfl,(aF (by omega)),trivial⟩;exact⟨(by unfold base;rw[List.take_of_length_le (by omega)]at M;rcases M with⟨j,V,k⟩|⟨j,V,k⟩|⟨j,V⟩;rw[if_neg (by omega),if_neg k];exact j;rw[if_neg (by omega),if_pos k];exact j;rw[if_pos V];exact j),K⟩
 ·
  intro e ac a8;obtain⟨he,R⟩:=a8;have n:=n.N R;have B:=B.L R;have bp:=R.size
  refine G.cut (fun(L:(Int))=>[(5,.int .i64 L)])
   (fun(L:(Int)) (H:Heap)=>(L=iy s l)∧aq ac H) (fun _ al _=>?_) ?_
  ·
   have F:aq ac ac:=W.refl _ _;refine G.L (fun aL=>?_);refine o.al ?_;refine aL (G.aD (fun _ an _=>?_))
   refine G.bc (fun(Z:(Nat)×(Int))=>match Z with|(i,A)=>[(0,aK s),(1,v),(5,.int .i64 A),(7,.int .i64 i)])
    (fun(i,A) (H:Heap)=>(i≤l.length)∧((A=0∧base s l=0∧(l.take i).any (iP s)=false)∨(A=13∧base s l=0∧l.any (iP s)=true)∨(A=base s l∧base s l≠0))∧aq ac H)
    (fun(i,A)=>l.length-i) (0,e) ⟨rfl,rfl,rfl,rfl,trivial⟩ ?_ ?_
   ·
    exact⟨(by omega),(by by_cases h:base s l=0;exact .inl ⟨by omega,h,rfl⟩;exact .inr (.inr ⟨he,h⟩)),W.refl _ _⟩
   rintro⟨i,A⟩ bq a0 bs S ar;obtain⟨bb,N,q⟩:=a0;have n:=n.N q;have F:=F.L q;have bt:=q.size;refine G.t2 (fun aM ay=>G.L (fun az=>?_));refine o.az 2 ?_;refine o.v1 (bf n jw) ?_;refine o.v1 bH ?_;refine o.aa ?_;refine o.bp (d:=30) rfl (fun cg=>?_) (fun cg=>?_)
   ·
    refine o.bJ ?_;refine o.ar cb ?_;refine o.O ?_;refine o.nil (az ?_);refine aW (fun a2=>?_) (fun a2=>?_)
    ·
     refine G.skip (aM (G.t1 (fun T=>G.aD (fun aw _ _=>G.L (fun aB=>?_)))));refine o.az 3 ?_;have X:i<l.length:=by omega
     refine o.b1 (Y.bU n (i) rfl jw bV rfl rfl) fun a3 aN=>?_;refine o.v1 (au aN.O bR) ?_;refine aV vc (uM s l[i] w0 _) (fun bT be a4=>?_);obtain⟨rfl,am⟩:=a4;have n:=n.N am;have q:=q.L am;have b5:=am.size;refine o.aa ?_;refine o.split (d:=42) rfl (fun P=>?_) (fun P=>?_)
     ·
      refine o.az 7 ?_;refine o.nil (aB ?_);refine G.h9 rfl ?_;refine G.region ?_;refine o.al ?_;refine aw (T (G.region ?_));refine o.aa ?_;refine o.v1 bD ?_;refine o.al ?_;refine aR.sub (S (i+1,13) _ ?_ ?_) ⟨rfl,rfl,(aF (by omega)),(aF (by omega)),trivial⟩
      ·exact⟨(by omega),(.inr (.inl ⟨rfl,by omega,mj X (by unfold iP;rw[P,Bool.or_true])⟩)),q⟩
      ·first|omega|(simp only;omega)|(simp;omega)
     ·
      refine o.az 2 ?_;refine o.e (g:=fun ad=> .pointer (some ad)) (Y.bU n (i) rfl jw bV rfl rfl) bo rfl rfl (fun a5 aO=>?_);refine o.ar (au aO.O bR) ?_;refine o.bJ ?_;refine o.call rfl vc rfl bo rfl rfl (uM l[i] s w0 _) (fun bu bw aH=>?_);obtain⟨rfl,aC⟩:=aH;have q:=q.L aC;have bi:=aC.size;refine o.dy ?_;refine o.nil (aB ?_);refine cL (fun Q=>?_) (fun Q=>?_)
      ·
       refine G.region ?_;refine o.al ?_;refine aw (T (G.region ?_));refine o.aa ?_;refine o.v1 bD ?_;refine o.al ?_;refine aR.sub (S (i+1,13) _ ?_ ?_) ⟨rfl,rfl,(aF (by omega)),(aF (by omega)),trivial⟩
       ·exact⟨(by omega),(.inr (.inl ⟨rfl,by omega,mj X (by unfold iP;rw[Q];rfl)⟩)),q⟩
       ·first|omega|(simp only;omega)|(simp;omega)
      ·
       refine G.skip (aw (T (G.region ?_)));refine o.aa ?_;refine o.v1 bD ?_;refine o.al ?_;refine aR.sub (S (i+1,A) _ ?_ ?_) ⟨rfl,rfl,(aF (by omega)),(aF (by omega)),trivial⟩
       ·exact⟨(by omega),(.inl ⟨by omega,by omega,by rcases N with⟨j,V,k⟩|⟨j,V,k⟩|⟨j,V⟩;exact ou k X (by unfold iP;rw[P,Q];rfl);omega;omega⟩),q⟩
       ·first|omega|(simp only;omega)|(simp;omega)
    ·
     refine G.exit (ay (ar (an ?_)));refine aR.sub (al A _ ?_) ⟨(aF (by omega)),trivial⟩;exact⟨(by unfold iy;rcases N with⟨j,V,k⟩|⟨j,V,k⟩|⟨j,V⟩;omega;rw[if_neg (by omega),if_pos k];exact j;rw[if_pos V];exact j),F⟩
   ·
    refine o.az 3 ?_;refine o.nil (az ?_);refine dK ?_;refine G.exit (ay (ar (an ?_)));refine aR.sub (al A _ ?_) ⟨(aF (by omega)),trivial⟩;exact⟨(by unfold iy;rw[List.take_of_length_le (by omega)]at N;rcases N with⟨j,V,k⟩|⟨j,V,k⟩|⟨j,V⟩;rw[if_neg (by omega),if_neg (by rw[k];decide)];exact j;rw[if_neg (by omega),if_pos k];exact j;rw[if_pos V];exact j),F⟩
  ·
   intro L bm a_;obtain⟨ba,a7⟩:=a_;have B:=B.L a7;refine G.L (fun aP=>?_);refine o.aP 2 ?_;refine aP ?_;refine G.ret (bc ?_);exact⟨by rw[ba],B⟩
end fA

namespace ez
open E Go.RowKit eY fm fw fA
theorem nF:∀{k:List UInt8},k.length=32→∃d i F R U W X Y Z aa j n o q r x A B C E G H J K L M N O P Q S T:UInt8,k=[d,i,F,R,U,W,X,Y,Z,aa,j,n,o,q,r,x,A,B,C,E,G,H,J,K,L,M,N,O,P,Q,S,T]:=by
 intro k h
 match k,h with
 |[d,i,F,R,U,W,X,Y,Z,aa,j,n,o,q,r,x,A,B,C,E,G,H,J,K,L,M,N,O,P,Q,S,T],_=>exact⟨d,i,F,R,U,W,X,Y,Z,aa,j,n,o,q,r,x,A,B,C,E,G,H,J,K,L,M,N,O,P,Q,S,T,rfl⟩
theorem wL:m2 Tryz.prog 26 bs:=Dz Tryz.underlying26 Tryz.underlying5 cK ed
theorem dJ{a b:List Value}(h:a.length=b.length):dU a 0 b=b:=by simp[dU,h]
abbrev dw:aO:=⟨none,0,0⟩
structure fL where
 d:Int
 i:cw
def dF(x:fL):List Value:= .int .i64 x.d::bX x.i
structure c5 where
 k:Int
 br:List UInt8
 cc:cw
 bw:cw
 cf:aO
 ba:List fL
 dn:Int
 md:Int
 st:Bool
def eC(x:c5):List Value:= .int .i64 x.k::aK x.br::(bX x.cc++(bX x.bw++[x.cf.v,.int .i64 x.dn,.int .i64 x.md,.bool x.st]))
structure bn where
 n:List UInt8
 I:cw
 w:cw
 y:List UInt8
def db(x:bn):List Value:=aK x.n::(bX x.I++(bX x.w++[aK x.y]))
structure bu where
 k:cw
 v:aO
 d:List UInt8
def bQ(x:bu):List Value:=bX x.k++[x.v.v]
structure cx where
 n:List UInt8
 i:cw
def dE(x:cx):List Value:=aK x.n::bX x.i
structure c4 where
 I:cw
 w:cw
 y:List UInt8
def eB(x:c4):List Value:=bX x.I++(bX x.w++[aK x.y])
structure ir where
 n:List UInt8
 v:aO
 l:List c4
def ia(x:ir):List Value:=[aK x.n,x.v.v]
structure bP where
 bz:Bool
 ak:List UInt8
 cN:aO
 ml:List bn
 aj:Bool
 q:c5
 b9:aO
 el:List bu
def dB(x:bP):List Value:= .bool x.bz::aK x.ak::x.cN.v:: .bool x.aj::(eC x.q++[x.b9.v])
structure c1 where
 ak:List UInt8
 fN:aO
 aY:List cx
 cP:aO
 b4:List ir
 q:c5
 b9:aO
 el:List bu
def b3(x:c1):List Value:=aK x.ak::x.fN.v::x.cP.v::(eC x.q++[x.b9.v])
theorem ix(x:fL):(dF x).length=33:=by simp[dF,bC]
theorem fz(x:c5):(eC x).length=70:=by simp[eC,bC]
theorem fc(x:bn):(db x).length=66:=by simp[db,bC]
theorem di(x:bu):(bQ x).length=33:=by simp[bQ,bC]
theorem ib(x:cx):(dE x).length=33:=by simp[dE,bC]
theorem np(x:c4):(eB x).length=65:=by simp[eB,bC]
theorem kB(x:ir):(ia x).length=2:=rfl
theorem dX(x:bP):(dB x).length=75:=by simp[dB,fz]
theorem cO(x:c1):(b3 x).length=74:=by simp[b3,fz]
abbrev hH(l:List Value):Prop:=∀u∈l,u.oneCell'=true
theorem hH.nil:hH []:=fun u h=>by cases h
theorem hH.cons{v:Value}{l:List Value}(h:v.oneCell'=true)(V:hH l):hH (v::l):=fun u hu=>by
 rcases List.mem_cons.1 hu with rfl|hu
 ·exact h
 ·exact V u hu
theorem hH.app{a b:List Value}(h:hH a)(V:hH b):hH (a++b):=fun u hu=>(List.mem_append.1 hu).elim (h u) (V u)
theorem nu(x:fL):hH (dF x):= .cons rfl (jk _)
theorem my(x:c5):hH (eC x):= .cons rfl (.cons rfl (.app (jk _) (.app (jk _) (.cons rfl (.cons rfl (.cons rfl (.cons rfl .nil)))))))
theorem kC(x:bn):hH (db x):= .cons rfl (.app (jk _) (.app (jk _) (.cons rfl .nil)))
theorem hr(x:bu):hH (bQ x):= .app (jk _) (.cons rfl .nil)
theorem k9(x:cx):hH (dE x):= .cons rfl (jk _)
theorem qf(x:c4):hH (eB x):= .app (jk _) (.app (jk _) (.cons rfl .nil))
theorem nn(x:ir):hH (ia x):= .cons rfl (.cons rfl .nil)
theorem nv(x:bP):hH (dB x):= .cons rfl (.cons rfl (.cons rfl (.cons rfl (.app (my _) (.cons rfl .nil)))))
theorem ke(x:c1):hH (b3 x):= .cons rfl (.cons rfl (.cons rfl (.app (my _) (.cons rfl .nil))))
abbrev gu(x:c5):Value:= .agg (eC x).toArray
abbrev kK(x:bn):Value:= .agg (db x).toArray
abbrev jS(x:bu):Value:= .agg (bQ x).toArray
abbrev ep(x:bP):Value:= .agg (dB x).toArray
abbrev eR(x:c1):Value:= .agg (b3 x).toArray
theorem lb{a b:List Value}{n:Nat}(h:a.length=n):(a++b).take n=a:=List.take_left' h
theorem k7{a b:List Value}{n:Nat}(h:a.length=n):(a++b).drop n=b:=List.drop_left' h
def iR(x:c5):List Value:=[x.cf.v,.int .i64 x.dn,.int .i64 x.md,.bool x.st]
theorem jJ(x:c5):((eC x).drop 2).take 32=bX x.cc:=lb (bC _)
theorem vY(x:c5):(eC x).drop 34=bX x.bw++iR x:=by
 rw[show(34:Nat)=2+32 from rfl,←List.drop_drop];exact k7 (bC _)
theorem jI(x:c5):((eC x).drop 34).take 32=bX x.bw:=by rw[vY];exact lb (bC _)
theorem vZ(x:c5):(eC x).drop 66=iR x:=by
 rw[show(66:Nat)=34+32 from rfl,←List.drop_drop,vY];exact k7 (bC _)
theorem hs(x:bn):((db x).drop 1).take 32=bX x.I:=lb (bC _)
theorem sg(x:bn):(db x).drop 33=bX x.w++[aK x.y]:=by
 rw[show(33:Nat)=1+32 from rfl,←List.drop_drop];exact k7 (bC _)
theorem fe(x:bn):((db x).drop 33).take 32=bX x.w:=by rw[sg];exact lb (bC _)
theorem CR(x:bn):(db x).drop 65=[aK x.y]:=by
 rw[show(65:Nat)=33+32 from rfl,←List.drop_drop,sg];exact k7 (bC _)
theorem fa(x:bu):((bQ x).drop 0).take 32=bX x.k:=lb (bC _)
theorem CQ(x:bu):(bQ x).drop 32=[x.v.v]:=k7 (bC _)
theorem CO(x:c4):((eB x).drop 0).take 32=bX x.I:=lb (bC _)
theorem vV(x:c4):(eB x).drop 32=bX x.w++[aK x.y]:=k7 (bC _)
theorem CP(x:c4):((eB x).drop 32).take 32=bX x.w:=by rw[vV];exact lb (bC _)
theorem vW(x:c4):(eB x).drop 64=[aK x.y]:=by
 rw[show(64:Nat)=32+32 from rfl,←List.drop_drop,vV];exact k7 (bC _)
theorem kD(x:fL):((dF x).drop 1).take 32=bX x.i:=List.take_of_length_le (by rw[show(dF x).drop 1=bX x.i from rfl,bC];exact Nat.le_refl _)
theorem qg(x:cx):((dE x).drop 1).take 32=bX x.i:=List.take_of_length_le (by rw[show(dE x).drop 1=bX x.i from rfl,bC];exact Nat.le_refl _)
theorem jK(x:bP):((dB x).drop 4).take 70=eC x.q:=lb (fz _)
theorem CS(x:bP):(dB x).drop 74=[x.b9.v]:=by
 rw[show(74:Nat)=4+70 from rfl,←List.drop_drop];exact k7 (fz _)
theorem nt(x:c1):((b3 x).drop 3).take 70=eC x.q:=lb (fz _)
theorem v7(x:c1):(b3 x).drop 73=[x.b9.v]:=by
 rw[show(73:Nat)=3+70 from rfl,←List.drop_drop];exact k7 (fz _)
section
variable {H : Heap} {ad : Addr}
theorem _root_.Go.Proofs.YtfjmpninmdjcaaaGreatDoor.E.b8.gr{x:c5}(h:b8 H ad (eC x)):b8 H (ad.add 66) (iR x):=by have:=h.drop 66;rwa[vZ]at this
theorem _root_.Go.Proofs.YtfjmpninmdjcaaaGreatDoor.E.b8.js{x:c5}(h:b8 H ad (eC x)):b8 H (ad.add 67) [.int .i64 x.dn,.int .i64 x.md,.bool x.st]:=by
 have:=h.gr.drop 1;rwa[show(ad.add 66).add 1=ad.add 67 from by cases ad;rfl]at this
theorem _root_.Go.Proofs.YtfjmpninmdjcaaaGreatDoor.E.b8.lu{x:c5}(h:b8 H ad (eC x)):b8 H (ad.add 68) [.int .i64 x.md,.bool x.st]:=by
 have:=h.gr.drop 2;rwa[show(ad.add 66).add 2=ad.add 68 from by cases ad;rfl]at this
theorem _root_.Go.Proofs.YtfjmpninmdjcaaaGreatDoor.E.b8.nX{x:c5}(h:b8 H ad (eC x)):b8 H (ad.add 69) [.bool x.st]:=by
 have:=h.gr.drop 3;rwa[show(ad.add 66).add 3=ad.add 69 from by cases ad;rfl]at this
theorem _root_.Go.Proofs.YtfjmpninmdjcaaaGreatDoor.E.b8.nL{x:bn}(h:b8 H ad (db x)):b8 H (ad.add 65) [aK x.y]:=by have:=h.drop 65;rwa[CR]at this
theorem _root_.Go.Proofs.YtfjmpninmdjcaaaGreatDoor.E.b8.jR{x:bu}(h:b8 H ad (bQ x)):b8 H (ad.add 32) [x.v.v]:=by have:=h.drop 32;rwa[CQ]at this
theorem _root_.Go.Proofs.YtfjmpninmdjcaaaGreatDoor.E.b8.DT{x:c4}(h:b8 H ad (eB x)):b8 H (ad.add 64) [aK x.y]:=by have:=h.drop 64;rwa[vW]at this
theorem _root_.Go.Proofs.YtfjmpninmdjcaaaGreatDoor.E.b8.gU{x:bP}(h:b8 H ad (dB x)):b8 H (ad.add 74) [x.b9.v]:=by have:=h.drop 74;rwa[CS]at this
theorem _root_.Go.Proofs.YtfjmpninmdjcaaaGreatDoor.E.b8.i_{x:c1}(h:b8 H ad (b3 x)):b8 H (ad.add 73) [x.b9.v]:=by have:=h.drop 73;rwa[v7]at this
end
def im:c5:=⟨0,[],bq,bq,dw,[],0,0,false⟩
def rp:bP:=⟨false,[],dw,[],false,im,dw,[]⟩
def m1:c1:=⟨[],dw,[],dw,[],im,dw,[]⟩
structure eU (F:Nat→Prop) (H:Heap) (t:bP):Prop where
 m:Rd F H db 66 t.cN.v t.ml
 q:Rd F H dF 33 t.q.cf.v t.q.ba
 e:Rd F H bQ 33 t.b9.v t.el
 d:∀y∈t.el,Rd F H a6 1 y.v.v y.d
structure fo (F:Nat→Prop) (H:Heap) (s:c1):Prop where
 r:Rd F H dE 33 s.fN.v s.aY
 g:Rd F H ia 2 s.cP.v s.b4
 n:∀y∈s.b4,Rd F H eB 65 y.v.v y.l
 q:Rd F H dF 33 s.q.cf.v s.q.ba
 e:Rd F H bQ 33 s.b9.v s.el
 d:∀y∈s.el,Rd F H a6 1 y.v.v y.d
section
variable {F aQ : Nat → Prop} {H ab : Heap} {t : bP} {s : c1} {ks : List Nat} {h : Nat}
theorem eU.N(x:eU F H t)(w:aq H ab):eU F ab t:=⟨x.m.N w,x.q.N w,x.e.N w,fun y hy=>(x.d y hy).N w⟩
theorem eU.ae(x:eU F H t)(w:W (aB ks) H ab)(d:ay F ks):eU F ab t:=⟨x.m.ae w d,x.q.ae w d,x.e.ae w d,fun y hy=>(x.d y hy).ae w d⟩
theorem eU.imp(x:eU F H t)(d:∀b,b<H.size→F b→aQ b):eU aQ H t:=⟨x.m.imp d,x.q.imp d,x.e.imp d,fun y hy=>(x.d y hy).imp d⟩
theorem eU.b2(x:eU F H t):eU (fun b=>F b∧b<H.size) H t:=x.imp (fun b aA h=>⟨h,aA⟩)
theorem eU.b5(x:eU (fun b=>aQ b∧b<h) H t):bk (fun b=>aQ b∧b<h) h:=fun b e=>e.2
theorem fo.N(x:fo F H s)(w:aq H ab):fo F ab s:=⟨x.r.N w,x.g.N w,fun y hy=>(x.n y hy).N w,x.q.N w,x.e.N w,fun y hy=>(x.d y hy).N w⟩
theorem fo.ae(x:fo F H s)(w:W (aB ks) H ab)(d:ay F ks):fo F ab s:=⟨x.r.ae w d,x.g.ae w d,fun y hy=>(x.n y hy).ae w d,x.q.ae w d,x.e.ae w d,fun y hy=>(x.d y hy).ae w d⟩
theorem fo.imp(x:fo F H s)(d:∀b,b<H.size→F b→aQ b):fo aQ H s:=⟨x.r.imp d,x.g.imp d,fun y hy=>(x.n y hy).imp d,x.q.imp d,x.e.imp d,fun y hy=>(x.d y hy).imp d⟩
theorem fo.b2(x:fo F H s):fo (fun b=>F b∧b<H.size) H s:=x.imp (fun b aA h=>⟨h,aA⟩)
theorem fo.b5(x:fo (fun b=>aQ b∧b<h) H s):bk (fun b=>aQ b∧b<h) h:=fun b e=>e.2
end
def c7(b:Bool)(e:Int):Int:=if b=true then 0 else e
def hL:List Int→Int
 |[]=>0
 |e::l=>if e≠0 then e else hL l
theorem CX{l:List Int}{j:Nat}(h:∀x∈l.take j,x=0)(i:j<l.length)(d:l[j]≠0):hL l=l[j]:=by
 induction l generalizing j with
 |nil=>simp at i
 |cons e l ih=>
  cases j with
  |zero=>simp only[List.getElem_cons_zero]at d⊢;rw[hL,if_pos d]
  |succ j=>
   have he:e=0:=h e (by simp);rw[hL,if_neg (by simpa using he)];exact ih (fun x k=>h x (by simp[k])) (by simpa using i) (by simpa using d)
theorem wg:∀{l:List Int},(∀x∈l,x=0)→hL l=0
 |[],_=>rfl
 |e::l,h=>by rw[hL,if_neg (by simpa using h e (by simp)),wg (fun x d=>h x (by simp[d]))]
theorem HT{l:List Int}{j:Nat}(h:∀x∈l.take j,x=0)(k:j<l.length)(i:l[j]=0):∀x∈l.take (j+1),x=0:=by
 intro x d;rw[List.take_succ_eq_append_getElem k]at d;rcases List.mem_append.1 d with d|d
 ·exact h x d
 ·rw[List.mem_singleton]at d;rw[d];exact i
theorem tj(b:Bool)(e:Int)(w0:World)(J:Heap)
 :
 aG Tryz.prog w0 46 #[.bool b,.int .i64 e] J (fun r j=>r= .int .i64 (c7 b e)∧aq J j):=by
 refine aG.aN [.bool b,.int .i64 e] Tryz.func46 ?_;intro B i;have d:aq J J:=W.refl _ _;refine G.L (fun k=>?_);refine o.al ?_;refine k (G.t2 (fun n ac=>G.L (fun ad=>?_)));refine o.aa (o.nil (ad ?_));refine cL (fun A=>?_) (fun A=>?_)
 ·
  refine G.L (fun q=>?_);refine o.al ?_;refine q ?_;refine G.ret (ac (i ?_));exact⟨by first|(rw[c7,if_pos (by assumption)])|(rw[c7,if_neg (by simp_all)]),d⟩
 ·
  refine G.skip (n (G.L (fun x=>?_)));refine o.aP 2 ?_;refine x ?_;refine G.ret (i ?_);exact⟨by first|(rw[c7,if_pos (by assumption)])|(rw[c7,if_neg (by simp_all)]),d⟩
theorem kM(v:Value)(l:List Int)(w0:World)(J:Heap)
 (d:bM J nm 1 v l):
 aG Tryz.prog w0 47 #[v] J (fun r C=>r= .int .i64 (hL l)∧aq J C):=by
 refine aG.aN [v] Tryz.func47 ?_;intro af B;have n:aq J J:=W.refl _ _;have d:=d.b2;have an:=d.len;refine G.L (fun M=>?_);refine o.al ?_;refine M (G.t2 (fun N O=>G.L (fun aw=>?_)));refine o.aa ?_;refine o.v1 (bf d y5) ?_;refine o.aa (o.nil (aw ?_));refine G.aD (fun _ am P=>?_)
 refine G.bc (fun(j:(Nat))=>[(5,v),(6,.int .i64 l.length),(7,.int .i64 j)])
  (fun(j:(Nat)) (H:Heap)=>(j≤l.length)∧(∀x∈l.take j,x=0)∧aq J H)
  (fun(j:(Nat))=>l.length-j) 0 ⟨rfl,rfl,rfl,trivial⟩ ?_ ?_
 ·
  exact⟨(by omega),(fun x h=>by simp at h),W.refl _ _⟩
 intro j ag ap ae Q A;obtain⟨al,k,i⟩:=ap;have d:=d.N i;have n:=n.L i;have ah:=i.size;refine G.L (fun R=>?_);refine o.v1 bH (o.nil (R ?_));refine G.t2 (fun S T=>?_);refine aW (fun ab=>?_) (fun ab=>?_)
 ·
  refine G.skip (S (G.t2 (fun U X=>G.aD (fun Z _ aa=>G.L (fun F=>?_)))));refine o.b1 (Y.bU d (j) rfl y5 q3 rfl rfl) fun ai E=>?_;refine o.v1 (au E.O pN) ?_;refine o.al ?_;refine F (G.L (fun ac=>?_));refine o.aa ?_;refine o.v1 da (o.nil (ac ?_));refine aW (fun q=>?_) (fun q=>?_)
  ·
   refine G.L (fun K=>?_);refine o.aP 2 ?_;refine K ?_;refine G.ret (aa (X (A (P (O (B ?_))))));exact⟨by rw[CX k (by omega) q],n⟩
  ·
   refine G.skip (Z (U (G.region ?_)));refine o.v1 bD ?_;refine o.aa (o.nil ?_);refine aR.sub (Q (j+1) _ ?_ ?_) ⟨rfl,(aF (by omega)),(aF (by omega)),trivial⟩
   ·exact⟨(by omega),HT k (by omega) (by simpa using q),i⟩
   ·first|omega|(simp only;omega)|(simp;omega)
 ·
  refine G.exit (T (A (am ?_)));refine N (G.L (fun L=>?_));refine o.al ?_;refine L ?_;refine G.ret (B ?_);exact⟨by rw[List.take_of_length_le (by omega)]at k;rw[wg k],n⟩
theorem kN(i:cw)(w0:World)(J:Heap)
 :
 aG Tryz.prog w0 55 #[bs i] J (fun r j=>r= .bool (decide (i=bq))∧aq J j):=by
 refine aG.aN [bs i] Tryz.func55 ?_;intro x q;have d:aq J J:=W.refl _ _;refine G.L (fun k=>?_);refine o.aS cY ?_;rintro v1 H1 ⟨rfl,aA,n,ad,A⟩;have d:=d.L n;have aA:Var 26 H1 J.size (bX i):=aA;refine o.al ?_;refine k (G.L (fun ac=>?_));refine o.v1 (a_ aA.O cj bd (bC _)) ?_;refine o.v1 (Y.build (v:=bs bq) rfl rfl (by intro w;kernel_rfl)) ?_;refine o.v1 (Y.ka rfl Tryz.eqGuardType26 (fun w=>gR 9998 Tryz.underlying26 Tryz.underlying5 cK ed (i.2) (bq.2) w) rfl rfl) ?_;refine o.al ?_;refine ac ?_;refine G.ret (q ?_);exact⟨cQ ⟨fun h=>Subtype.ext h,fun h=>by rw[h]⟩,d⟩
end ez

namespace E
section
variable {F : Nat → Prop} {a k a7 h V m : Nat} {K HX bl n9 ks : List Nat}
def dr(K ks:List Nat):Prop:=∀k∈K,ag k ks
def aT(K:List Nat)(h:Nat)(bl:List Nat):Prop:=∀k∈bl,k=0∨k∈K∨h<k
def n3(K:List Nat)(h:Nat):Prop:=∀k∈K,k≤h
theorem ag.jd:ag 0 K:=fun k _=>af.z2
theorem ag.app(d:ag a K)(e:ag a ks):ag a (K++ks):=fun k i=>(List.mem_append.1 i).elim (d k) (e k)
theorem ay.app(d:ay F K)(e:ay F ks):ay F (K++ks):=fun k i=>(List.mem_append.1 i).elim (d k) (e k)
theorem dr.nil:dr K []:=fun k _=>ag.nil
theorem dr.cons(d:ag m K)(e:dr K ks):dr K (m::ks):=fun k i=>ag.cons (d k i).symm (e k i)
theorem ah.app{iA:List Nat}(d:ah ks h K)(e:ah ks h iA):ah ks h (K++iA):=fun k i=>(List.mem_append.1 i).elim (d k) (e k)
theorem ag.gG(b:n3 K h):ag (h+1) K:=fun k d=>(af.new (b k d)).symm
theorem ag.ee(d:ag a K)(n:a≤h)(x:aT K h bl):ag a bl:=fun k i=>by
 rcases x k i with e|e|e
 ·subst e;exact af.z
 ·exact d k e
 ·intro c j V;omega
theorem ay.ee(d:ay F K)(aA:bk F h)(x:aT K h bl):ay F bl:=fun k j b i he=>by
 have:=aA b i;rcases x k j with e|e|e
 ·omega
 ·exact d k e b i he
 ·omega
theorem ag.lM(d:ag k K)(b:n3 K h)(x:U k h a7):ag a7 K:=fun j i=>by
 rcases x with e|e|e
 ·subst e;exact af.z2
 ·subst e;exact d j i
 ·have:=b j i;intro c n V;omega
theorem aT.refl(K:List Nat)(h:Nat):aT K h K:=fun k d=> .inr (.inl d)
theorem aT.L(x:aT K h bl)(y:aT bl V n9)(bz:h≤V):aT K h n9:=fun k d=>by
 rcases y k d with e|e|e
 ·exact .inl e
 ·exact x k e
 ·exact .inr (.inr (by omega))
theorem aT.cons(d:U 0 h a)(x:aT K h bl):aT K h (a::bl):=fun k i=>by
 rcases List.mem_cons.1 i with e|e
 ·subst e;unfold U at d;omega
 ·exact x k e
def gK(K:List Nat)(k:Nat):Prop:=∀c,c+1=k→c+1∈K
theorem gK.of(h:k∈K):gK K k:=fun c e=>by rw[e];exact h
theorem gK.or(h:gK K k):k=0∨k∈K:=by
 cases k with
 |zero=>exact .inl rfl
 |succ c=>exact .inr (h c rfl)
theorem ag.at(d:ag a K)(m:gK K k):af a k:=by
 rcases m.or with e|e
 ·subst e;exact af.z
 ·exact d k e
theorem ay.at(d:ay F K)(m:gK K k):ax F k:=by
 rcases m.or with e|e
 ·subst e;exact ax.z
 ·exact d k e
theorem ah.at(d:ah ks h K)(m:gK K k):ao ks h k:=by
 rcases m.or with e|e
 ·subst e;exact ao.z
 ·exact d k e
theorem aT.app{kF:Nat}(x:aT K h bl)(hm:gK bl kF)(y:U kF V a)(bz:h≤V):aT K h (a::bl):=fun k i=>by
 rcases List.mem_cons.1 i with e|e
 ·subst e
  rcases y with y|y|y
  ·exact .inl y
  ·rcases hm.or with d|d
   ·exact .inl (y.trans d)
   ·rw[y];exact x kF d
  ·exact .inr (.inr (by omega))
 ·exact x k e
theorem ag.qQ(b:n3 K h)(x:U 0 h a):ag a K:=fun k d=>by
 have:=b k d;intro c i V;unfold U at x;omega
theorem ah.ca(x:aT K h bl)(i:∀k∈K,k∈ks):ah ks h bl:=fun k j b aA e=>by
 rcases x k j with d|d|d
 ·omega
 ·unfold aB;rw[e];exact i k d
 ·omega
theorem ah.mK(x:aT [] h bl):ah ks h bl:=fun k i b aA e=>by
 rcases x k i with d|d|d
 ·omega
 ·cases d
 ·omega
theorem ay.iv{n:Nat}(i:∀b,F b→n≤b)(j:n3 K n):ay F K:=fun k o b d e=>by have:=i b d;have:=j k o;omega
end
section
open Go.MapKept
variable {P : Program} {w0 : World} {n : Nat} {l : bO} {H : Heap} {I : Oper} {κ β : Type} [DecidableEq κ] {a1 : κ → Value} {fv : β → Value} {b : Nat} {m : List (κ × β)} {d : TypeDesc}
theorem Z.qb{t u eW T:TypeId}{x i:Operand}{k:κ}(h:c0 H a1 fv b m)(B:kY d a1)(Q:I.op= .call {callee:= .builtin .delete,args:= #[x,i],argTypes:= #[t,u]})(hm:∀w,(underlying t).run P w= .ok (.map eW T) w)(C:P.underlying eW=some d)
 (R:aH l x=some (.map (some b))) (O:aH l i=some (a1 k)):Z P w0 n l H I (fun r ab=>r= .tuple #[]∧c0 ab a1 fv b (eu m k)∧W (fun c=>c=b) H ab):=by
 intro ac w A o;obtain⟨r,es,clock,ag,V,M,E,F⟩:=h.fi.ex;obtain rfl:=V;have q:w.heap[r]?=some (.map es clock):=by rw[o.heap];exact M
 have Y:=(Array.getElem?_eq_some_iff.1 M).1;have N:∀G,(H.setIfInBounds r G)[r]?=some G:=fun G=>by simp[Y]
 rcases qm (k:=k) B es.toList m 0 F with⟨S,J,K⟩|⟨j,L,af,S,J,K,ae,ah⟩
 ·refine⟨_,H.setIfInBounds r (.map es clock),{w with heap:=H.setIfInBounds r (.map es clock)},?_,o.set,rfl,⟨⟨r,_,_,rfl,rfl,N _,E,?_⟩⟩,kf _⟩
  ·simp[execOp,Q,A.eval R,A.eval O,resolve,invoke,builtin,Builtin.delete_,hm,MapKept.run_getObj_map q,MapKept.run_checkKey C (B.key k),MapKept.run_findKey C J,MapKept.run_setObj_map _ q,o.heap]
  ·rw[F]
   congr 1;unfold eu;exact(List.filter_eq_self.2 (fun p aa=>by simpa using w8 S p aa)).symm
 ·have U:es[j]?=some L:=by simpa using K
  refine⟨_,H.setIfInBounds r (.map (es.eraseIdxIfInBounds j) clock),{w with heap:=H.setIfInBounds r (.map (es.eraseIdxIfInBounds j) clock)},?_,o.set,rfl,⟨⟨r,_,_,rfl,rfl,N _,stamped_erase E _,?_⟩⟩,kf _⟩
  ·simp[execOp,Q,A.eval R,A.eval O,resolve,invoke,builtin,Builtin.delete_,hm,MapKept.run_getObj_map q,MapKept.run_checkKey C (B.key k),MapKept.run_findKey C J,MapKept.run_setObj_map _ q,o.heap]
  ·have X:j<es.size:=(Array.getElem?_eq_some_iff.1 U).1
   rw[Array.eraseIdxIfInBounds,dif_pos X,Array.toList_eraseIdx];exact vS B.inj es.toList m j L F E.2.2 K ae
end
end E

namespace E
def jC(l d:bO):Prop:=∀t v,cG l t=some v→cG d t=some v
theorem jC.c{l d:bO}{s:Nat}{u:Value}(aC:cG l s=none)(h:jC l d):jC l ((s,u)::d):=fun t v e=>by
 simp only[cG]
 cases aA:Nat.beq s t with
 |true=>have:=Nat.eq_of_beq_eq_true aA;subst this;rw[aC]at e;cases e
 |false=>exact h t v e
theorem ai {l d : bO} {s : Nat} {u : Value} (h : jC l d) (aC : cG l s=none := by exact rfl) : jC l ((s,u)::d) := jC.c aC h
theorem jC.b{l:bO}{s:Nat}{u v:Value}(av:cG l s=some v)(d:u=v):jC l ((s,u)::l):=fun t w e=>by
 simp only[cG]
 cases aA:Nat.beq s t with
 |true=>have:=Nat.eq_of_beq_eq_true aA;subst this;rw[av]at e;subst d;exact e
 |false=>exact e
theorem bL {l : bO} {s : Nat} {u v : Value} (d : u=v) (av : cG l s=some v := by exact rfl) : jC l ((s,u)::l) := jC.b av d
section
variable {P : Program} {w0 : World} {Q : Exit → Act → World → Prop} {n k : Nat} {dn : List Nat} {l : bO} {H : Heap} {ops : Array Oper} {bK : Heap → Prop} {X : List Nat}
theorem T.join{d:Nat}{v:Value}(a7:Nat)(o:List Nat)(b:(∀j,cG j d=some v→jC l j→T P w0 ops Q bK X n a7 o j H)→T P w0 ops Q bK X n k dn l H)(h:T P w0 ops Q bK X n a7 o ((d,v)::l) H):T P w0 ops Q bK X n k dn l H:=
 b (fun j ak aj a w i q=>h a w ⟨i.defers,i.size,fun t u e=>by
  simp only[cG]at e
  cases aA:Nat.beq d t with
  |true=>have:=Nat.eq_of_beq_eq_true aA;subst this;simp only[aA]at e;exact i.get _ _ (by rw[ak];exact e)
  |false=>simp only[aA]at e;exact i.get _ _ (aj _ _ e)⟩ q)
end
section
variable {P : Program} {w0 : World} {Q : Exit → Act → World → Prop} {n : Nat} {l : bO} {H : Heap} {ops : Array Oper} {rest : List Oper} {m : Bool}
theorem o.join{d:Nat}{v:Value}(k:Nat)(b:(∀j,cG j d=some v→jC l j→o m P w0 ops Q n j (rest.drop k) H)→o m P w0 ops Q n l rest H)(h:o m P w0 ops Q n ((d,v)::l) (rest.drop k) H):o m P w0 ops Q n l rest H:=
 b (fun j ak aj a w i q=>h a w ⟨i.defers,i.size,fun t u e=>by
  simp only[cG]at e
  cases aA:Nat.beq d t with
  |true=>have:=Nat.eq_of_beq_eq_true aA;subst this;simp only[aA]at e;exact i.get _ _ (by rw[ak];exact e)
  |false=>simp only[aA]at e;exact i.get _ _ (aj _ _ e)⟩ q)
end
end E

namespace eZ
open E Go.RowKit eY fm fw fA ez
set_option maxRecDepth 100000 in
theorem jN:c3 Tryz.prog 244 35 1 8:=⟨Tryz.underlying244,_,_,rfl,rfl,rfl,rfl,rfl⟩
def HS:cx:=⟨[],bq⟩
def HR:bu:=⟨bq,dw,[]⟩
def lx(l:List cx):List (List UInt8×cw):=l.foldl (fun m r=>fD m r.n r.i) []
theorem yR(l:List cx)(x:cx):lx (l++[x])=fD (lx l) x.n x.i:=by unfold lx;rw[List.foldl_append];rfl
def jT(m:List (List UInt8×cw))(x:bn):List (List UInt8×cw):=if x.w=bq then eu m x.n else fD m x.n x.w
def hK(x:c5):Bool:=decide (¬x.cc=bq∧¬x.bw=bq∧0≤x.dn∧x.dn≤x.ba.length∧0≤x.md∧x.md≤x.dn∧¬(x.st=true∧x.dn=x.ba.length))
def hj(t:fL):Int:=if ¬(1≤t.d∧t.d≤3)then 3 else if t.i=bq then 1 else 0
def gT:List fL→Int
 |[]=>0
 |t::l=>if hj t≠0 then hj t else gT l
def gI(x:c5):Int:=if ¬(x.k=1∨x.k=2)then 3 else if cU x.br≠0 then 7 else if hK x=false then 1 else if 100<x.ba.length then 4 else gT x.ba
theorem y1:∀(l:List fL) (t:fL),gT (l++[t])=if gT l≠0 then gT l else hj t
 |[],t=>by by_cases h:hj t=0<;>simp[gT,h]
 |a::l,t=>by
  rw[List.cons_append,gT,gT,y1 l t];by_cases h:hj a≠0
  ·rw[if_pos h,if_pos h,if_pos h]
  ·rw[if_neg h,if_neg h]
theorem tK{l:List fL}{i:Nat}(d:i<l.length):gT (l.take (i+1))=if gT (l.take i)≠0 then gT (l.take i)else hj l[i]:=by
 rw[List.take_succ_eq_append_getElem d,y1]
theorem yM(e:Int)(t:fL):hL [e,c7 (decide (1≤t.d∧t.d≤3)) 3,c7 (decide (¬t.i=bq)) 1]=if e≠0 then e else hj t:=by
 unfold hj;simp only[hL,c7,decide_eq_true_eq];by_cases d:e≠0
 ·rw[if_pos d,if_pos d]
 ·rw[if_neg d,if_neg d]
  by_cases i:1≤t.d∧t.d≤3<;>by_cases V:t.i=bq<;>simp[i,V]
def lR(x:c5):Int:=hL [c7 (decide (x.k=1∨x.k=2)) 3,cU x.br,c7 (hK x) 1,c7 (decide (x.ba.length≤100)) 4]
theorem Gq(x:c5):gI x=if lR x≠0 then lR x else gT x.ba:=by
 unfold gI lR;simp only[hL,c7,decide_eq_true_eq];rcases p8 x.br with av|av
 ·by_cases d:x.k=1∨x.k=2<;>cases V:hK x<;>by_cases i:x.ba.length≤100<;>simp[d,i,av]<;>omega
 ·by_cases d:x.k=1∨x.k=2<;>cases V:hK x<;>by_cases i:x.ba.length≤100<;>simp[d,i,av]
theorem hP{b:Bool}(q:Bool)(e:Int)(h:b=q)(w0:World)(J:Heap):aG Tryz.prog w0 46 #[.bool b,.int .i64 e] J (fun r d=>r= .int .i64 (c7 q e)∧aq J d):=by subst h;exact tj b e w0 J
theorem uB{x:c5}(i:¬x.cc=bq):decide (((((¬x.bw=bq∧0≤x.dn)∧x.dn≤x.ba.length)∧0≤x.md)∧x.md≤x.dn)∧¬(x.st=true∧x.dn=x.ba.length))=hK x:=
 decide_eq_decide.2 ⟨fun⟨⟨⟨⟨⟨a,b⟩,c⟩,d⟩,e⟩,f⟩=>⟨i,a,b,c,d,e,f⟩,fun⟨_,a,b,c,d,e,f⟩=>⟨⟨⟨⟨⟨a,b⟩,c⟩,d⟩,e⟩,f⟩⟩
theorem uD{x:c5}(d:¬x.cc=bq)(V:¬x.bw=bq)(i:0≤x.dn)(j:x.dn≤x.ba.length)(k:0≤x.md)(n:x.md≤x.dn)(o:x.st=true):decide (¬x.dn=(x.ba.length:Int))=hK x:=
 decide_eq_decide.2 ⟨fun h=>⟨d,V,i,j,k,n,fun e=>h e.2⟩,fun h e=>h.2.2.2.2.2.2 ⟨o,e⟩⟩
theorem uC{x:c5}(d:¬x.cc=bq)(V:¬x.bw=bq)(i:0≤x.dn)(j:x.dn≤x.ba.length)(k:0≤x.md)(n:x.md≤x.dn)(o:x.st=false):(!false)=hK x:=
 (decide_eq_true ⟨d,V,i,j,k,n,fun e=>by rw[o]at e;cases e.1⟩).symm
def gE(x:bu):Int:=if x.k=bq then 1 else if 65536<x.d.length then 5 else 0
def hW:List bu→Int
 |[]=>0
 |x::l=>if gE x≠0 then gE x else hW l
theorem sH:∀{l:List bu},(∀y∈l,gE y=0)→hW l=0
 |[],_=>rfl
 |x::l,h=>by rw[hW,if_neg (by simpa using h x List.mem_cons_self)];exact sH (fun y hy=>h y (List.mem_cons_of_mem _ hy))
theorem sG:∀{l:List bu} {j:Nat} (d:j<l.length),(∀y∈l.take j,gE y=0)→gE l[j]≠0→hW l=gE l[j]
 |x::l,0,_,_,h=>by
  simp only[List.getElem_cons_zero]at h⊢
  rw[hW,if_pos h]
 |x::l,j+1,d,h,V=>by
  rw[hW,if_neg (by simpa using h x (by simp))];exact sG (l:=l) (j:=j) (by simpa using d) (fun y hy=>h y (by simp[hy])) (by simpa using V)
theorem D_(y:bu):hL [c7 (decide (¬y.k=bq)) 1,c7 (decide (y.d.length≤65536)) 5]=gE y:=by
 unfold gE;simp only[hL,c7,decide_eq_true_eq];by_cases d:y.k=bq<;>by_cases V:y.d.length≤65536<;>simp[d,V]<;>omega
theorem yS(s:c1)(F:Nat→Prop)(w0:World)(J:Heap)
 (aj:fo F J s) (aS:bk F J.size):
 aG Tryz.prog w0 53 #[eR s] J (fun r M=>∃bF:Nat,r= .map (some bF)∧(c0 M aK bs bF (lx s.aY))∧(U 0 J.size (bF+1))∧aq J M):=by
 refine aG.aN [eR s] Tryz.func53 ?_;intro aX aT;have k:aq J J:=W.refl _ _;have bu:=aj.r.len;refine G.L (fun aN=>?_);refine o.aS cY ?_;rintro v1 H1 ⟨rfl,q,L,ba,aO⟩;have bp:H1.size=J.size+1:=by rw[aO];simp
 have aj:=aj.N L;have k:=k.L L;have bb:=L.size;have q:Var 47 H1 J.size (b3 s):=q;refine o.al ?_;refine aN (G.L (fun aP=>?_));refine o.aS (Z.nJ aK bs rfl) ?_;rintro v6 B ⟨rfl,d,E,bc,aQ⟩;have aZ:B.size=H1.size+1:=by rw[aQ];simp
 have Q:=(ax.new (aS.mono k.size):ax _ (H1.size+1));have O:U 0 J.size (H1.size+1):=U.new k.size;have aj:=aj.N E;have q:=q.N E;have k:=k.L E;have bg:=E.size;have bo:=d.lt;refine o.al ?_;refine aP (G.t1 (fun R=>G.L (fun T=>?_)));refine o.v1 (Y.an q.O rfl cH rfl h2) ?_;refine o.v1 (au (q.O.drop 1) jh) ?_;refine o.v1 (bf aj.r hF) ?_;refine o.aa (o.nil (T ?_));refine G.aD (fun _ X _=>?_)
 refine G.bc (fun(j:(Nat))=>[(3,.map (some H1.size)),(8,s.fN.v),(9,.int .i64 (s.aY.length:Int)),(10,.int .i64 (j:Int))])
  (fun(j:(Nat)) (H:Heap)=>(c0 H aK bs H1.size (lx (s.aY.take j)))∧(j≤s.aY.length)∧W (aB [(H1.size+1)]) B H)
  (fun(j:(Nat))=>s.aY.length-j) 0 ⟨rfl,rfl,rfl,rfl,trivial⟩ ?_ ?_
 ·
  exact⟨d,(by omega),W.refl _ _⟩
 intro j K aa aV ab ae;obtain⟨d,bq,i⟩:=aa;have aj:=aj.ae i (ay.I Q);have k:=k.bx i (ah.I (ao.q O));have bl:=i.size;have ac:=U.refl (H1.size+1) B.size;refine G.L (fun ai=>?_);refine o.v1 bH (o.nil (ai ?_));refine G.t2 (fun al an=>?_);refine aW (fun ar=>?_) (fun ar=>?_)
 ·
  have bt:j<s.aY.length:=by omega
  obtain⟨x,P⟩:∃x,x=s.aY[j]:=⟨_,rfl⟩;refine G.skip (al (G.t1 (fun az=>G.aD (fun aH _ _=>G.L (fun aI=>?_)))));refine o.b1 (Y.mD aj.r (j) rfl hF iI rfl rfl (by first|rfl|omega) (by omega)) fun a1 aw=>?_;refine o.v1 (Y.cast (v2:= .agg (dE x).toArray) (a_ aw.O pO iI (ib _)) (by rw[P])) ?_;refine o.aS (dk HP) ?_;rintro v5 N ⟨rfl,n,am,bm,aC⟩;have a6:N.size=K.size+1:=by rw[aC];simp
  have aD:af (H1.size+1) (K.size+1):=af.new d.lt;have aJ:U 0 B.size (K.size+1):=U.new i.size;have d:=d.N am;have i:=i.a8 am;have bn:=am.size;have n:Var 71 N K.size (dE HS):=n;refine o.s1 (S.var n (_) (dE x) rfl rfl rfl rfl (k9 _) iI (ib _) (by simp[ib]) ((dJ ((ib _).trans (ib _).symm)))) fun a7 ap=>?_;obtain⟨n,A⟩:=ap;have A:=A.bB;have d:=d.ae A (ag.I aD);have i:=i.aL A (ah.I (ao.q aJ));have a0:=A.size;refine o.nil (aI (G.region ?_));refine o.aa ?_;refine o.v1 (Y.an n.O rfl l6 rfl bV) ?_;refine o.v1 (au n.O bR) ?_;refine o.v1 (Y.an n.O rfl l6 rfl bd) ?_;refine o.v1 (Y.cast (v2:=bs x.i) (a_ ((n.O.drop 1).take 32) cj bd (by rw[qg];exact bC _)) (cn (qg _))) ?_;refine o.s1 (S.l0 (x.i) d gp rfl kT Tryz.underlying9 rfl rfl rfl) fun a8 aL=>?_;obtain⟨d,C⟩:=aL;have C:=C.bB;have i:=i.aL C (ah.I (ao.r ac));have cg:=C.size;refine o.nil (aH (az (G.region ?_)));refine o.v1 bD ?_;refine o.aa (o.nil ?_);refine aR.sub (ab (j+1) _ ?_ ?_) ⟨rfl,rfl,(aF (by omega)),(aF (by omega)),trivial⟩
  ·exact⟨by rw[List.take_succ_eq_append_getElem (show j<s.aY.length by omega),yR,←P];exact d,(by omega),i⟩
  ·first|omega|(simp only;omega)|(simp;omega)
 ·
  refine G.exit (an (ae (X ?_)));refine R (G.L (fun aM=>?_));refine o.aP 2 ?_;refine aM ?_;refine G.ret (aT ?_);obtain rfl:j=s.aY.length:=by omega
  rw[List.take_length]at d;exact⟨H1.size,rfl,d,O,k⟩
theorem xh(bF:Nat)(m:List (List UInt8×cw))(x:bn)(w0:World)(J:Heap)
 (i:c0 J aK bs bF m):
 aG Tryz.prog w0 54 #[.map (some bF),kK x] J (fun r F=>r= .tuple #[]∧(c0 F aK bs bF (jT m x))∧W (aB [(bF+1)]) J F):=by
 refine aG.enter (args:=[.map (some bF),kK x]) Tryz.func54 rfl rfl rfl ?_;intro aH E;have j:W (aB [(bF+1)]) J J:=W.refl _ _;have q:=U.refl (bF+1) J.size;refine G.L (fun ay=>?_);refine o.aS cY ?_;rintro v3 O ⟨rfl,d,ap,aL,aM⟩;have i:=i.N ap;have j:=j.a8 ap;have d:Var 52 O J.size (db x):=d;refine o.nil (ay (G.aD (fun _ B _=>G.t2 (fun H az=>G.aD (fun aC P Q=>G.aD (fun _ R K=>G.t2 (fun T L=>G.aD (fun _ X M=>G.t2 (fun aa N=>G.t2 (fun ab ae=>G.L (fun ag=>?_)))))))))));refine o.v1 (Y.an d.O rfl cv rfl bd) ?_;refine o.v1 (Y.cast (v2:=bs x.w) (a_ ((d.O.drop 33).take 32) cj bd (by rw[fe];exact bC _)) (cn (fe _))) ?_;refine aV ky (kN x.w w0 _) ?_;rintro aP aF ⟨rfl,C⟩;have i:=i.N C;have d:=d.N C;have j:=j.a8 C;refine o.al ?_;refine ag ?_;refine aW (fun n=>?_) (fun n=>?_)
 ·
  refine G.exit (ae (N (X ?_)));refine T (G.L (fun ai=>?_));refine o.aa ?_;refine o.v1 (Y.an d.O rfl cv rfl bV) ?_;refine o.v1 (au d.O bR) ?_;refine o.rq (Z.qb i gp rfl kT Tryz.underlying9 rfl rfl) cM rfl (fun aI aJ al=>?_);obtain⟨rfl,i,ac⟩:=al;have ac:=ac.bB;have j:=j.aL ac (ah.I (ao.r q));refine o.nil (ai ?_);refine G.exit (K (Q (az (B ?_))));refine E .normal (.inl rfl) _ _ _ (iG rfl) ?_;exact⟨rfl,by first|(unfold jT;rw[if_pos n];exact i)|(unfold jT;rw[if_neg n];exact i),j⟩
 ·
  refine G.skip (ab (G.L (fun an=>?_)));refine o.v1 (Y.an d.O rfl cv rfl bd) ?_;refine o.v1 (Y.cast (v2:=bs x.I) (a_ ((d.O.drop 1).take 32) cj bd (by rw[hs];exact bC _)) (cn (hs _))) ?_;refine aV ky (kN x.I w0 _) (fun aN aO af=>?_);obtain⟨rfl,ad⟩:=af;have i:=i.N ad;have d:=d.N ad;have j:=j.a8 ad;refine o.al ?_;refine an ?_;refine aW (fun aD=>?_) (fun aD=>?_)
  ·
   refine G.exit (N (M (L (R ?_))));refine aC (H (G.L (fun aw=>?_)));refine o.aa ?_;refine o.v1 (Y.an d.O rfl cv rfl bV) ?_;refine o.v1 (au d.O bR) ?_;refine o.v1 (Y.an d.O rfl cv rfl bd) ?_;refine o.v1 (Y.cast (v2:=bs x.w) (a_ ((d.O.drop 33).take 32) cj bd (by rw[fe];exact bC _)) (cn (fe _))) ?_;refine o.s1 (S.l0 (x.w) i gp rfl kT Tryz.underlying9 rfl rfl rfl) fun am A=>?_;obtain⟨i,k⟩:=A;have k:=k.bB;have j:=j.aL k (ah.I (ao.r q));refine o.nil (aw ?_);refine G.exit (B ?_);refine E .normal (.inl rfl) _ _ _ (iG rfl) ?_;exact⟨rfl,by first|(unfold jT;rw[if_pos n];exact i)|(unfold jT;rw[if_neg n];exact i),j⟩
  ·
   refine G.skip (aa ?_);refine G.exit (M (L (K (P ?_))));refine H (G.L (fun ar=>?_));refine o.aa ?_;refine o.v1 (Y.an d.O rfl cv rfl bV) ?_;refine o.v1 (au d.O bR) ?_;refine o.v1 (Y.an d.O rfl cv rfl bd) ?_;refine o.v1 (Y.cast (v2:=bs x.w) (a_ ((d.O.drop 33).take 32) cj bd (by rw[fe];exact bC _)) (cn (fe _))) ?_;refine o.s1 (S.l0 (x.w) i gp rfl kT Tryz.underlying9 rfl rfl rfl) fun am A=>?_;obtain⟨i,k⟩:=A;have k:=k.bB;have j:=j.aL k (ah.I (ao.r q));refine o.nil (ar ?_);refine G.exit (B ?_);refine E .normal (.inl rfl) _ _ _ (iG rfl) ?_;exact⟨rfl,by first|(unfold jT;rw[if_pos n];exact i)|(unfold jT;rw[if_neg n];exact i),j⟩
theorem Gs(x:c5)(bb:Int)(w0:World)(J:Heap)
 (aI:dP bb J) (c1:bk (fun b=>b=0) J.size) (E:bM J dF 33 x.cf.v x.ba) (aA:x.br.length≤9223372036854775807):
 aG Tryz.prog w0 50 #[gu x] J (fun r cc=>r= .int .i64 (if x.k≠0 then gI x else 0)∧aq J cc):=by
 refine aG.aN [gu x] Tryz.func50 ?_;intro dB ca;have Q:aq J J:=W.refl _ _;have E:=E.b2;have eD:=E.len;refine G.L (fun cK=>?_);refine o.aS cY ?_;rintro v1 H1 ⟨rfl,A,aM,dQ,cL⟩;have dI:H1.size=J.size+1:=by rw[cL];simp
 have aI:=aI.N aM;have E:=E.N aM;have Q:=Q.L aM;have dS:=aM.size;have A:Var 29 H1 J.size (eC x):=A;refine o.al ?_;refine cK (G.t2 (fun cO cP=>G.L (fun cQ=>?_)));refine o.v1 (Y.an A.O rfl bN rfl b6) ?_;refine o.v1 (au A.O cE) ?_;refine o.v1 cb (o.nil (cQ ?_));refine aW (fun bE=>?_) (fun bE=>?_)
 ·
  refine G.L (fun cR=>?_);refine o.al ?_;refine cR ?_;refine G.ret (cP (ca ?_));exact⟨by rw[if_neg (by simpa using bE)],Q⟩
 ·
  refine G.skip (cO (G.L (fun cV=>?_)));refine o.v1 (Y.an A.O rfl bN rfl e4) ?_;refine o.v1 (au A.O.gr fU) ?_;refine o.v1 (bf E fZ) ?_;refine o.al ?_;refine cV ?_
  refine G.cut (fun(aB:(Int))=>[(1,.pointer (some ⟨J.size,0,none⟩)),(4,.int .i64 aB)])
   (fun(aB:(Int)) (H:Heap)=>(aB=lR x)∧aq H1 H) (fun _ b0 _=>?_) ?_
  ·
   have C:aq H1 H1:=W.refl _ _;refine dg (fun k=>aq H1 k) [] ?_;have B:=aq.refl H1;refine T.t1 0 rfl (fun k j=>Y.an (A.O.N j) rfl bN rfl b6) B ?_;refine T.t1 1 rfl (fun k j=>au (A.O.N j) cE) B ?_;refine T.t1 2 rfl (fun k j=>cb) B ?_;refine T.aa 3 rfl B ?_;refine T.join (d:=20) (v:= .bool (decide (x.k=1∨x.k=2))) 55 [7,6,5,4,3,2,1,0] (fun bO=>?_) ?_
   ·
    refine T.bp (d:=16) rfl (fun af=>?_) (fun af=>?_)
    ·
     refine T.g1 4 rfl rfl rfl rfl B ?_;refine T.g1 5 rfl rfl rfl rfl B ?_;refine T.g1 6 rfl rfl rfl rfl B ?_;refine T.t1 7 rfl (fun k j=>eS) B ?_;exact bO _ (congrArg (fun b=>some (Value.bool b)) (by simp[af])) (ai (ai (ai (ai (bL (congrArg Value.bool (decide_eq_true af).symm))))))
    ·
     refine T.b0 4 rfl (fun k j=>Y.an (A.O.N j) rfl bN rfl b6) bo B ?_;refine T.b0 5 rfl (fun k j=>au (A.O.N j) cE) bo B ?_;refine T.b0 6 rfl (fun k j=>cb) bo B ?_;refine T.t1 7 rfl (fun k j=>er) B ?_;exact bO _ (congrArg (fun b=>some (Value.bool b)) (by simp[af])) (ai (ai (ai (ai (bL (congrArg Value.bool (decide_eq_false af).symm))))))
   refine T.t1 9 rfl (fun k j=>Y.an (A.O.N j) rfl bN rfl bV) B ?_;refine T.t1 10 rfl (fun k j=>au ((A.O.drop 1).N j) bR) B ?_;refine T.t1 12 rfl (fun k j=>Y.an (A.O.N j) rfl bN rfl bd) B ?_;refine T.t1 13 rfl (fun k j=>Y.cast (v2:=bs x.cc) (a_ (((A.O.drop 2).N j).take 32) cj bd (by rw[jJ];exact bC _)) (cn (jJ _))) B ?_;refine T.aa 57 rfl B ?_;refine T.t1 58 rfl (fun k j=>eF) B ?_;refine T.aX 8 ?_;refine dM.call rfl rfl hp rfl cM rfl rfl (hP (decide (x.k=1∨x.k=2)) 3 (by first|(exact(decide_eq_true (by omega)).symm)|(exact(decide_eq_false (by omega)).symm)|(exact decide_eq_decide.2 (by omega))) w0 _) (fun dT cD cW=>?_);obtain⟨rfl,az⟩:=cW;have aI:=aI.N az;have A:=A.N az;have C:=C.L az;have dU:=az.size;have cf:=B.L az;refine T.cD cf ?_;have ck:=aq.refl cD;refine T.aX 11 ?_;refine b7 p3 (p7 x.br bb w0 _ aI (c1.mono (by omega)) aA) (fun dV cG cp=>?_);obtain⟨rfl,aC⟩:=cp;have A:=A.N aC;have C:=C.L aC;have dW:=aC.size;have a9:=ck.L aC;refine T.cD a9 ?_;have cm:=aq.refl cG;refine T.aX 14 ?_;refine b7 ky (kN x.cc w0 _) (fun dX cH cq=>?_);obtain⟨rfl,aH⟩:=cq;have A:=A.N aH;have C:=C.L aH;have dY:=aH.size;have cX:=cm.L aH;refine T.cD cX ?_;have q:=aq.refl cH;refine T.t1 15 rfl (fun k j=>Y.iE rfl rfl) q ?_;refine T.aa 16 rfl q ?_;refine T.bp (d:=29) rfl (fun R=>?_) (fun R=>?_)
   ·
    refine T.b0 17 rfl (fun k j=>Y.an (A.O.N j) rfl bN rfl bd) bo q ?_;refine T.b0 18 rfl (fun k j=>Y.cast (v2:=bs x.bw) (a_ (((A.O.drop 34).N j).take 32) cj bd (by rw[jI];exact bC _)) (cn (jI _))) bo q ?_;refine T.aX 19 ?_;refine dM.call rfl rfl ky rfl bo rfl rfl (kN x.bw w0 _) (fun dZ cJ cr=>?_);obtain⟨rfl,aJ⟩:=cr;have A:=A.N aJ;have C:=C.L aJ;have ea:=aJ.size;have c0:=q.L aJ;refine T.cD c0 ?_;have n:=aq.refl cJ;refine T.b0 20 rfl (fun k j=>Y.iE rfl rfl) bo n ?_;refine T.t1 21 rfl (fun k j=>eS) n ?_;refine T.aa 22 rfl n ?_;refine T.join (d:=39) (v:= .bool (decide (¬x.bw=bq∧0≤x.dn))) 34 [26,25,24,23,22,21,20,19,18,17,16,15,14,11,8,58,57,13,12,10,9,7,6,5,4,3,2,1,0] (fun bP=>?_) ?_
    ·
     refine T.bp (d:=35) rfl (fun K=>?_) (fun K=>?_)
     ·
      refine T.b0 23 rfl (fun k j=>Y.an (A.O.N j) rfl bN rfl b6) bo n ?_;refine T.b0 24 rfl (fun k j=>au (A.O.js.N j) cE) bo n ?_;refine T.b0 25 rfl (fun k j=>dq) bo n ?_;refine T.t1 26 rfl (fun k j=>eS) n ?_;exact bP _ (congrArg (fun b=>some (Value.bool b)) (by simp[K])) (ai (ai (ai (ai (bL (congrArg Value.bool (decide_eq_true K).symm))))))
     ·
      refine T.g1 23 rfl rfl rfl rfl n ?_;refine T.g1 24 rfl rfl rfl rfl n ?_;refine T.g1 25 rfl rfl rfl rfl n ?_;refine T.t1 26 rfl (fun k j=>er) n ?_;exact bP _ (congrArg (fun b=>some (Value.bool b)) (by simp[K])) (ai (ai (ai (ai (bL (congrArg Value.bool (decide_eq_false K).symm))))))
    refine T.aa 27 rfl n ?_;refine T.join (d:=45) (v:= .bool (decide ((¬x.bw=bq∧0≤x.dn)∧x.dn≤x.ba.length))) 28 [32,31,30,29,28,27,26,25,24,23,22,21,20,19,18,17,16,15,14,11,8,58,57,13,12,10,9,7,6,5,4,3,2,1,0] (fun bQ=>?_) ?_
    ·
     refine T.bp (d:=40) rfl (fun L=>?_) (fun L=>?_)
     ·
      refine T.b0 28 rfl (fun k j=>Y.an (A.O.N j) rfl bN rfl b6) bo n ?_;refine T.b0 29 rfl (fun k j=>au (A.O.js.N j) cE) bo n ?_;refine T.b0 30 rfl (fun k j=>fl) bo n ?_;refine T.b0 31 rfl (fun k j=>eF) bo n ?_;refine T.t1 32 rfl (fun k j=>eS) n ?_;exact bQ _ (congrArg (fun b=>some (Value.bool b)) (by simp[L])) (ai (ai (ai (ai (ai (bL (congrArg Value.bool (decide_eq_true L).symm)))))))
     ·
      refine T.g1 28 rfl rfl rfl rfl n ?_;refine T.g1 29 rfl rfl rfl rfl n ?_;refine T.g1 30 rfl rfl rfl rfl n ?_;refine T.g1 31 rfl rfl rfl rfl n ?_;refine T.t1 32 rfl (fun k j=>er) n ?_;exact bQ _ (congrArg (fun b=>some (Value.bool b)) (by simp[L])) (ai (ai (ai (ai (ai (bL (congrArg Value.bool (decide_eq_false L).symm)))))))
    refine T.aa 33 rfl n ?_;refine T.join (d:=50) (v:= .bool (decide (((¬x.bw=bq∧0≤x.dn)∧x.dn≤x.ba.length)∧0≤x.md))) 23 [37,36,35,34,33,32,31,30,29,28,27,26,25,24,23,22,21,20,19,18,17,16,15,14,11,8,58,57,13,12,10,9,7,6,5,4,3,2,1,0] (fun bU=>?_) ?_
    ·
     refine T.bp (d:=46) rfl (fun M=>?_) (fun M=>?_)
     ·
      refine T.b0 34 rfl (fun k j=>Y.an (A.O.N j) rfl bN rfl b6) bo n ?_;refine T.b0 35 rfl (fun k j=>au (A.O.lu.N j) cE) bo n ?_;refine T.b0 36 rfl (fun k j=>dq) bo n ?_;refine T.t1 37 rfl (fun k j=>eS) n ?_;exact bU _ (congrArg (fun b=>some (Value.bool b)) (by simp[M])) (ai (ai (ai (ai (bL (congrArg Value.bool (decide_eq_true M).symm))))))
     ·
      refine T.g1 34 rfl rfl rfl rfl n ?_;refine T.g1 35 rfl rfl rfl rfl n ?_;refine T.g1 36 rfl rfl rfl rfl n ?_;refine T.t1 37 rfl (fun k j=>er) n ?_;exact bU _ (congrArg (fun b=>some (Value.bool b)) (by simp[M])) (ai (ai (ai (ai (bL (congrArg Value.bool (decide_eq_false M).symm))))))
    refine T.aa 38 rfl n ?_;refine T.join (d:=57) (v:= .bool (decide ((((¬x.bw=bq∧0≤x.dn)∧x.dn≤x.ba.length)∧0≤x.md)∧x.md≤x.dn))) 16 [44,43,42,41,40,39,38,37,36,35,34,33,32,31,30,29,28,27,26,25,24,23,22,21,20,19,18,17,16,15,14,11,8,58,57,13,12,10,9,7,6,5,4,3,2,1,0] (fun bW=>?_) ?_
    ·
     refine T.bp (d:=51) rfl (fun N=>?_) (fun N=>?_)
     ·
      refine T.b0 39 rfl (fun k j=>Y.an (A.O.N j) rfl bN rfl b6) bo n ?_;refine T.b0 40 rfl (fun k j=>au (A.O.lu.N j) cE) bo n ?_;refine T.b0 41 rfl (fun k j=>Y.an (A.O.N j) rfl bN rfl b6) bo n ?_;refine T.b0 42 rfl (fun k j=>au (A.O.js.N j) cE) bo n ?_;refine T.b0 43 rfl (fun k j=>eF) bo n ?_;refine T.t1 44 rfl (fun k j=>eS) n ?_;exact bW _ (congrArg (fun b=>some (Value.bool b)) (by simp[N])) (ai (ai (ai (ai (ai (ai (bL (congrArg Value.bool (decide_eq_true N).symm))))))))
     ·
      refine T.g1 39 rfl rfl rfl rfl n ?_;refine T.g1 40 rfl rfl rfl rfl n ?_;refine T.g1 41 rfl rfl rfl rfl n ?_;refine T.g1 42 rfl rfl rfl rfl n ?_;refine T.g1 43 rfl rfl rfl rfl n ?_;refine T.t1 44 rfl (fun k j=>er) n ?_;exact bW _ (congrArg (fun b=>some (Value.bool b)) (by simp[N])) (ai (ai (ai (ai (ai (ai (bL (congrArg Value.bool (decide_eq_false N).symm))))))))
    refine T.aa 45 rfl n ?_;refine T.join (d:=68) (v:= .bool (decide (((((¬x.bw=bq∧0≤x.dn)∧x.dn≤x.ba.length)∧0≤x.md)∧x.md≤x.dn)∧¬(x.st=true∧x.dn=x.ba.length)))) 5 [55,54,53,52,51,50,49,48,47,46,45,44,43,42,41,40,39,38,37,36,35,34,33,32,31,30,29,28,27,26,25,24,23,22,21,20,19,18,17,16,15,14,11,8,58,57,13,12,10,9,7,6,5,4,3,2,1,0] (fun bX=>?_) ?_
    ·
     refine T.bp (d:=58) rfl (fun O=>?_) (fun O=>?_)
     ·
      refine T.b0 46 rfl (fun k j=>Y.an (A.O.N j) rfl bN rfl dz) bo n ?_;refine T.b0 47 rfl (fun k j=>au (A.O.nX.N j) ec) bo n ?_;refine T.b0 48 rfl (fun k j=>fl) bo n ?_;refine T.join (d:=66) (v:= .bool (decide (x.st=true∧x.dn=x.ba.length))) 7 [53,52,51,50,49,48,47,46,45,44,43,42,41,40,39,38,37,36,35,34,33,32,31,30,29,28,27,26,25,24,23,22,21,20,19,18,17,16,15,14,11,8,58,57,13,12,10,9,7,6,5,4,3,2,1,0] (fun bY=>?_) ?_
      ·
       refine T.split (d:=61) rfl (fun P=>?_) (fun P=>?_)
       ·
        refine T.b0 49 rfl (fun k j=>Y.an (A.O.N j) rfl bN rfl b6) bo n ?_;refine T.b0 50 rfl (fun k j=>au (A.O.js.N j) cE) bo n ?_;refine T.b0 51 rfl (fun k j=>fl) bo n ?_;refine T.b0 52 rfl (fun k j=>cb) bo n ?_;refine T.b0 53 rfl (fun k j=>eS) bo n ?_;exact bY _ (congrArg (fun b=>some (Value.bool b)) (by simp[P])) (ai (ai (ai (ai (ai (bL (congrArg Value.bool P.symm)))))))
       ·
        refine T.g1 49 rfl rfl rfl rfl n ?_;refine T.g1 50 rfl rfl rfl rfl n ?_;refine T.g1 51 rfl rfl rfl rfl n ?_;refine T.g1 52 rfl rfl rfl rfl n ?_;refine T.b0 53 rfl (fun k j=>er) bo n ?_;exact bY _ (congrArg (fun b=>some (Value.bool b)) (by simp[P])) (ai (ai (ai (ai (ai (bL (congrArg Value.bool P.symm)))))))
      refine T.b0 54 rfl (fun k j=>Y.iE rfl rfl) bo n ?_;refine T.t1 55 rfl (fun k j=>eS) n ?_;exact bX _ (congrArg (fun b=>some (Value.bool b)) (by simp[O])) (ai (ai (ai (ai (ai (ai (bL (congrArg Value.bool (decide_eq_true O).symm))))))))
     ·
      refine T.g1 46 rfl rfl rfl rfl n ?_;refine T.g1 47 rfl rfl rfl rfl n ?_;refine T.g1 48 rfl rfl rfl rfl n ?_;refine T.jL 49 rfl rfl rfl rfl n ?_;refine T.jL 50 rfl rfl rfl rfl n ?_;refine T.jL 51 rfl rfl rfl rfl n ?_;refine T.jL 52 rfl rfl rfl rfl n ?_;refine T.g1 53 rfl rfl rfl rfl n ?_;refine T.g1 54 rfl rfl rfl rfl n ?_;refine T.t1 55 rfl (fun k j=>er) n ?_;exact bX _ (congrArg (fun b=>some (Value.bool b)) (by simp[O])) (ai (ai (ai (ai (ai (ai (ai (ai (ai (ai (bL (congrArg Value.bool (decide_eq_false O).symm))))))))))))
    refine T.aX 56 ?_;refine dM.call rfl rfl hp rfl cM rfl rfl (hP (hK x) 1 (by first|exact uB R|exact uD R K L M N O P|exact uC R K L M N O P|exact(decide_eq_false (by rintro⟨bF,V,dr,dt,du,dw,dx⟩;first|(exact absurd bF (by assumption))|(exact absurd V (by assumption))|omega)).symm) w0 _) (fun ct bt bx=>?_);obtain⟨rfl,S⟩:=bx;have C:=C.L S;have ed:=S.size;have a8:=n.L S;refine T.cD a8 ?_;have ba:=aq.refl bt;refine T.aX 59 ?_;refine dM.call rfl rfl hp rfl cM rfl rfl (hP (decide (x.ba.length≤100)) 4 (by first|(exact(decide_eq_true (by omega)).symm)|(exact(decide_eq_false (by omega)).symm)|(exact decide_eq_decide.2 (by omega))) w0 _) (fun cu ag bz=>?_);obtain⟨rfl,X⟩:=bz;have C:=C.L X;have ee:=X.size;have bc:=ba.L X;refine T.cD bc ?_;have aN:=aq.refl ag;refine T.aX 60 ?_;refine ey rfl (cS _ ([c7 (decide (x.k=1∨x.k=2)) 3,cU x.br,c7 (hK x) 1,c7 (decide (x.ba.length≤100)) 4]) jN kc kd (rfl)) (fun cv al bA=>?_);obtain⟨a0,aw,c3,cg⟩:=bA;have bT:al.size=ag.size+1:=by rw[cg];simp
    have C:=C.L aw;have ef:=aw.size;have aO:=aN.L aw;refine T.cD aO ?_;have aP:=aq.refl al;refine T.aX 61 ?_;refine b7 kx (kM _ [c7 (decide (x.k=1∨x.k=2)) 3,cU x.br,c7 (hK x) 1,c7 (decide (x.ba.length≤100)) 4] w0 _ a0.rd.any) (fun cx be bB=>?_);obtain⟨rfl,am⟩:=bB;have C:=C.L am;have eg:=am.size;have aQ:=aP.L am;refine T.cD aQ ?_;have an:=aq.refl be;refine T.t1 62 rfl (fun k j=>e5) an ?_;refine cI ?_;have bJ:=an;refine aR.sub (b0 (lR x) _ ?_) ⟨rfl,rfl,trivial⟩;exact⟨rfl,C⟩
   ·
    refine T.g1 17 rfl rfl rfl rfl q ?_;refine T.g1 18 rfl rfl rfl rfl q ?_;refine T.g1 19 rfl rfl rfl rfl q ?_;refine T.g1 20 rfl rfl rfl rfl q ?_;refine T.t1 21 rfl (fun k j=>er) q ?_;refine T.aa 22 rfl q ?_;refine T.g1 23 rfl rfl rfl rfl q ?_;refine T.g1 24 rfl rfl rfl rfl q ?_;refine T.g1 25 rfl rfl rfl rfl q ?_;refine T.t1 26 rfl (fun k j=>er) q ?_;refine T.aa 27 rfl q ?_;refine T.g1 28 rfl rfl rfl rfl q ?_;refine T.g1 29 rfl rfl rfl rfl q ?_;refine T.g1 30 rfl rfl rfl rfl q ?_;refine T.g1 31 rfl rfl rfl rfl q ?_;refine T.t1 32 rfl (fun k j=>er) q ?_;refine T.aa 33 rfl q ?_;refine T.g1 34 rfl rfl rfl rfl q ?_;refine T.g1 35 rfl rfl rfl rfl q ?_;refine T.g1 36 rfl rfl rfl rfl q ?_;refine T.t1 37 rfl (fun k j=>er) q ?_;refine T.aa 38 rfl q ?_;refine T.g1 39 rfl rfl rfl rfl q ?_;refine T.g1 40 rfl rfl rfl rfl q ?_;refine T.g1 41 rfl rfl rfl rfl q ?_;refine T.g1 42 rfl rfl rfl rfl q ?_;refine T.g1 43 rfl rfl rfl rfl q ?_;refine T.t1 44 rfl (fun k j=>er) q ?_;refine T.aa 45 rfl q ?_;refine T.g1 46 rfl rfl rfl rfl q ?_;refine T.g1 47 rfl rfl rfl rfl q ?_;refine T.g1 48 rfl rfl rfl rfl q ?_;refine T.jL 49 rfl rfl rfl rfl q ?_;refine T.jL 50 rfl rfl rfl rfl q ?_;refine T.jL 51 rfl rfl rfl rfl q ?_;refine T.jL 52 rfl rfl rfl rfl q ?_;refine T.g1 53 rfl rfl rfl rfl q ?_;refine T.g1 54 rfl rfl rfl rfl q ?_;refine T.t1 55 rfl (fun k j=>er) q ?_;refine T.aX 56 ?_;refine dM.call rfl rfl hp rfl cM rfl rfl (hP (hK x) 1 (by first|exact uB R|exact uD R K L M N O P|exact uC R K L M N O P|exact(decide_eq_false (by rintro⟨bF,V,dr,dt,du,dw,dx⟩;first|(exact absurd bF (by assumption))|(exact absurd V (by assumption))|omega)).symm) w0 _) (fun ct bt bx=>?_);obtain⟨rfl,S⟩:=bx;have C:=C.L S;have dC:=S.size;have a8:=q.L S;refine T.cD a8 ?_;have ba:=aq.refl bt;refine T.aX 59 ?_;refine dM.call rfl rfl hp rfl cM rfl rfl (hP (decide (x.ba.length≤100)) 4 (by first|(exact(decide_eq_true (by omega)).symm)|(exact(decide_eq_false (by omega)).symm)|(exact decide_eq_decide.2 (by omega))) w0 _) (fun cu ag bz=>?_);obtain⟨rfl,X⟩:=bz;have C:=C.L X;have dG:=X.size;have bc:=ba.L X;refine T.cD bc ?_;have aN:=aq.refl ag;refine T.aX 60 ?_;refine ey rfl (cS _ ([c7 (decide (x.k=1∨x.k=2)) 3,cU x.br,c7 (hK x) 1,c7 (decide (x.ba.length≤100)) 4]) jN kc kd (rfl)) (fun cv al bA=>?_);obtain⟨a0,aw,c3,cg⟩:=bA;have bT:al.size=ag.size+1:=by rw[cg];simp
    have C:=C.L aw;have dH:=aw.size;have aO:=aN.L aw;refine T.cD aO ?_;have aP:=aq.refl al;refine T.aX 61 ?_;refine b7 kx (kM _ [c7 (decide (x.k=1∨x.k=2)) 3,cU x.br,c7 (hK x) 1,c7 (decide (x.ba.length≤100)) 4] w0 _ a0.rd.any) (fun cx be bB=>?_);obtain⟨rfl,am⟩:=bB;have C:=C.L am;have dK:=am.size;have aQ:=aP.L am;refine T.cD aQ ?_;have an:=aq.refl be;refine T.t1 62 rfl (fun k j=>e5) an ?_;refine cI ?_;have bJ:=an;refine aR.sub (b0 (lR x) _ ?_) ⟨rfl,rfl,trivial⟩;exact⟨rfl,C⟩
  ·
   intro aB bZ cl;obtain⟨dy,aK⟩:=cl;have E:=E.N aK;have A:=A.N aK;have Q:=Q.L aK;have ek:=aK.size;refine G.t1 (fun da=>G.L (fun db=>?_));refine o.v1 (Y.an A.O rfl bN rfl e4) ?_;refine o.v1 (au A.O.gr fU) ?_;refine o.v1 (bf E fZ) ?_;refine o.aa (o.nil (db ?_));refine G.aD (fun _ dc _=>?_)
   refine G.bc (fun(dA:(Nat)×(Int))=>match dA with|(i,e)=>[(4,.int .i64 e),(76,x.cf.v),(77,.int .i64 x.ba.length),(78,.int .i64 i)])
    (fun(i,e) (H:Heap)=>(i≤x.ba.length)∧(e=if lR x≠0 then lR x else gT (x.ba.take i))∧aq bZ H)
    (fun(i,e)=>x.ba.length-i) (0,aB) ⟨rfl,rfl,rfl,rfl,trivial⟩ ?_ ?_
   ·
    exact⟨(by omega),(by rw[dy];split;rfl;rename_i h;simpa[gT]using h),W.refl _ _⟩
   rintro⟨i,e⟩ b1 ce ei b5 c6;obtain⟨eB,he,ac⟩:=ce;have E:=E.N ac;have Q:=Q.L ac;have eo:=ac.size;refine G.L (fun bv=>?_);refine o.v1 bH (o.nil (bv ?_));refine G.t2 (fun c8 c9=>?_);refine aW (fun de=>?_) (fun de=>?_)
   ·
    refine G.skip (c8 (G.t1 (fun b3=>G.aD (fun b8 _ _=>G.L (fun c_=>?_)))));have b9:i<x.ba.length:=by omega
    obtain⟨t,bK⟩:∃t,t=x.ba[i]:=⟨_,rfl⟩;refine o.b1 (Y.bU E (i) rfl fZ hQ rfl rfl) fun dR cy=>?_;refine o.v1 (Y.cast (v2:= .agg (dF t).toArray) (a_ cy.O oo hQ (ix _)) (by rw[bK])) ?_;refine o.aS (dk t_) ?_;rintro v6 cd ⟨rfl,F,b2,ej,ci⟩;have ep:cd.size=b1.size+1:=by rw[ci];simp
    have cz:U 0 bZ.size (b1.size+1):=U.new ac.size;have ac:=ac.L b2;have et:=b2.size;refine o.s1 (eh F (_) (dF t) (nu t) hQ (ix _) ((dJ (ix _).symm))) fun bi cA=>?_;obtain⟨F,aL⟩:=cA;have aL:=aL.bB;have ac:=ac.bx aL (ah.I (ao.q cz));have eu:=aL.size;refine o.nil (c_ ?_);refine dg (fun k=>aq bi k) [] ?_;have B:=aq.refl bi;refine T.aa 0 rfl B ?_;refine T.t1 1 rfl (fun k j=>Y.an (F.O.N j) rfl jt rfl b6) B ?_;refine T.t1 2 rfl (fun k j=>au (F.O.N j) cE) B ?_;refine T.t1 3 rfl (fun k j=>dq) B ?_;refine T.aa 4 rfl B ?_;refine T.bp (d:=86) rfl (fun df=>?_) (fun df=>?_)
    ·
     refine T.b0 5 rfl (fun k j=>Y.an (F.O.N j) rfl jt rfl b6) bo B ?_;refine T.b0 6 rfl (fun k j=>au (F.O.N j) cE) bo B ?_;refine T.b0 7 rfl (fun k j=>eF) bo B ?_;refine T.t1 8 rfl (fun k j=>eS) B ?_;refine T.t1 10 rfl (fun k j=>Y.an (F.O.N j) rfl jt rfl bd) B ?_;refine T.t1 11 rfl (fun k j=>Y.cast (v2:=bs t.i) (a_ (((F.O.drop 1).N j).take 32) cj bd (by rw[kD];exact bC _)) (cn (kD _))) B ?_;refine T.aX 9 ?_;refine dM.call rfl rfl hp rfl cM rfl rfl (hP (decide (1≤t.d∧t.d≤3)) 3 (by first|(exact(decide_eq_true (by omega)).symm)|(exact(decide_eq_false (by omega)).symm)|(exact decide_eq_decide.2 (by omega))) w0 _) (fun dh bu bg=>?_);obtain⟨rfl,Z⟩:=bg;have ac:=ac.L Z;have co:=Z.size;have aS:=B.L Z;refine T.cD aS ?_;have aT:=aq.refl bu;refine T.aX 12 ?_;refine b7 ky (kN t.i w0 _) (fun di aD bl=>?_);obtain⟨rfl,ap⟩:=bl;have ac:=ac.L ap;have ev:=ap.size;have aV:=aT.L ap;refine T.cD aV ?_;have ar:=aq.refl aD;refine T.t1 13 rfl (fun k j=>Y.iE rfl rfl) ar ?_;refine T.aX 14 ?_;refine b7 hp (hP (decide (¬t.i=bq)) 1 rfl w0 _) (fun dj a2 bm=>?_);obtain⟨rfl,aa⟩:=bm;have ac:=ac.L aa;have cs:=aa.size;have aX:=ar.L aa;refine T.cD aX ?_;have aZ:=aq.refl a2;refine T.aX 15 ?_;refine ey rfl (cS _ ([e,c7 (decide (1≤t.d∧t.d≤3)) 3,c7 (decide (¬t.i=bq)) 1]) jN kc kd (rfl)) (fun dm a3 bn=>?_);obtain⟨a4,ab,cB,a5⟩:=bn;have c2:a3.size=a2.size+1:=by rw[a5];simp
     have ac:=ac.L ab;have cZ:=ab.size;have a1:=aZ.L ab;refine T.cD a1 ?_;have a6:=aq.refl a3;refine T.aX 16 ?_;refine b7 kx (kM _ [e,c7 (decide (1≤t.d∧t.d≤3)) 3,c7 (decide (¬t.i=bq)) 1] w0 _ a4.rd.any) (fun dp bw bp=>?_);obtain⟨rfl,ae⟩:=bp;have ac:=ac.L ae;have ew:=ae.size;rw[yM];have a7:=a6.L ae;refine T.cD a7 ?_;have ay:=aq.refl bw;refine T.t1 17 rfl (fun k j=>e5) ay ?_;refine cI ?_;have bJ:=ay;refine b8 (b3 (G.region ?_));refine o.v1 bD ?_;refine o.aa (o.nil ?_);refine aR.sub (b5 (i+1,if e≠0 then e else hj t) _ ?_ ?_) ⟨(aF (by omega)),rfl,(aF (by omega)),(aF (by omega)),trivial⟩
     ·exact⟨(by omega),(by rw[he,tK b9,←bK];split<;>simp_all),ac⟩
     ·first|omega|(simp only;omega)|(simp;omega)
    ·
     refine T.g1 5 rfl rfl rfl rfl B ?_;refine T.g1 6 rfl rfl rfl rfl B ?_;refine T.g1 7 rfl rfl rfl rfl B ?_;refine T.t1 8 rfl (fun k j=>er) B ?_;refine T.t1 10 rfl (fun k j=>Y.an (F.O.N j) rfl jt rfl bd) B ?_;refine T.t1 11 rfl (fun k j=>Y.cast (v2:=bs t.i) (a_ (((F.O.drop 1).N j).take 32) cj bd (by rw[kD];exact bC _)) (cn (kD _))) B ?_;refine T.aX 9 ?_;refine dM.call rfl rfl hp rfl cM rfl rfl (hP (decide (1≤t.d∧t.d≤3)) 3 (by first|(exact(decide_eq_true (by omega)).symm)|(exact(decide_eq_false (by omega)).symm)|(exact decide_eq_decide.2 (by omega))) w0 _) (fun dh bu bg=>?_);obtain⟨rfl,Z⟩:=bg;have ac:=ac.L Z;have ez:=Z.size;have aS:=B.L Z;refine T.cD aS ?_;have aT:=aq.refl bu;refine T.aX 12 ?_;refine b7 ky (kN t.i w0 _) (fun di aD bl=>?_);obtain⟨rfl,ap⟩:=bl;have ac:=ac.L ap;have eA:=ap.size;have aV:=aT.L ap;refine T.cD aV ?_;have ar:=aq.refl aD;refine T.t1 13 rfl (fun k j=>Y.iE rfl rfl) ar ?_;refine T.aX 14 ?_;refine b7 hp (hP (decide (¬t.i=bq)) 1 rfl w0 _) (fun dj a2 bm=>?_);obtain⟨rfl,aa⟩:=bm;have ac:=ac.L aa;have dL:=aa.size;have aX:=ar.L aa;refine T.cD aX ?_;have aZ:=aq.refl a2;refine T.aX 15 ?_;refine ey rfl (cS _ ([e,c7 (decide (1≤t.d∧t.d≤3)) 3,c7 (decide (¬t.i=bq)) 1]) jN kc kd (rfl)) (fun dm a3 bn=>?_);obtain⟨a4,ab,cB,a5⟩:=bn;have c2:a3.size=a2.size+1:=by rw[a5];simp
     have ac:=ac.L ab;have dN:=ab.size;have a1:=aZ.L ab;refine T.cD a1 ?_;have a6:=aq.refl a3;refine T.aX 16 ?_;refine b7 kx (kM _ [e,c7 (decide (1≤t.d∧t.d≤3)) 3,c7 (decide (¬t.i=bq)) 1] w0 _ a4.rd.any) (fun dp bw bp=>?_);obtain⟨rfl,ae⟩:=bp;have ac:=ac.L ae;have dO:=ae.size;rw[yM];have a7:=a6.L ae;refine T.cD a7 ?_;have ay:=aq.refl bw;refine T.t1 17 rfl (fun k j=>e5) ay ?_;refine cI ?_;have bJ:=ay;refine b8 (b3 (G.region ?_));refine o.v1 bD ?_;refine o.aa (o.nil ?_);refine aR.sub (b5 (i+1,if e≠0 then e else hj t) _ ?_ ?_) ⟨(aF (by omega)),rfl,(aF (by omega)),(aF (by omega)),trivial⟩
     ·exact⟨(by omega),(by rw[he,tK b9,←bK];split<;>simp_all),ac⟩
     ·first|omega|(simp only;omega)|(simp;omega)
   ·
    refine G.exit (c9 (c6 (dc ?_)));refine da (G.L (fun cC=>?_));refine o.aP 2 ?_;refine cC ?_;refine G.ret (ca ?_);exact⟨by rw[if_pos bE,he,Gq,List.take_of_length_le (by omega)],Q⟩
end eZ

namespace E
abbrev aJ:=List UInt8
def blt(a b:aJ):Prop:=Op.bytesLess a b=true
instance (a b:aJ):Decidable (blt a b):=inferInstanceAs (Decidable (_=_))
theorem mn(a:aJ):¬blt a a:=by
 unfold blt
 induction a with
 |nil=>simp[Op.bytesLess]
 |cons x a ih=>simp only[Op.bytesLess];simpa using ih
theorem mo:∀{a b:aJ},¬blt a b→¬blt b a→a=b
 |[],[],_,_=>rfl
 |[],_::_,h,_=>by simp[blt,Op.bytesLess]at h
 |_::_,[],_,h=>by simp[blt,Op.bytesLess]at h
 |x::a,y::b,d,V=>by
  simp only[blt,Op.bytesLess]at d V;by_cases aN:x<y
  ·simp[aN]at d
  ·by_cases i:y<x
   ·simp[i]at V
   ·have:x=y:=by apply UInt8.toNat.inj;rw[UInt8.lt_iff_toNat_lt]at aN i;omega
    subst this;rw[mo (a:=a) (b:=b) (by simpa[blt]using d) (by simpa[blt]using V)]
theorem nb:∀{a b c:aJ},blt a b→blt b c→blt a c
 |[],[],_,h,_=>by simp[blt,Op.bytesLess]at h
 |_::_,[],_,h,_=>by simp[blt,Op.bytesLess]at h
 |_,_::_,[],_,h=>by simp[blt,Op.bytesLess]at h
 |[],_::_,_::_,_,_=>by simp[blt,Op.bytesLess]
 |x::a,y::b,z::c,d,V=>by
  simp only[blt,Op.bytesLess,Bool.or_eq_true,decide_eq_true_eq,Bool.and_eq_true,beq_iff_eq]at d V⊢;rcases d with d|⟨rfl,d⟩
  ·rcases V with V|⟨rfl,V⟩
   ·left;rw[UInt8.lt_iff_toNat_lt]at*;omega
   ·exact .inl d
  ·rcases V with V|⟨rfl,V⟩
   ·exact .inl V
   ·exact .inr ⟨rfl,nb d V⟩
theorem oy{a b:aJ}(h:blt a b):¬blt b a:=fun V=>mn a (nb h V)
theorem na{a b:aJ}(h:blt a b):a≠b:=fun e=>by subst e;exact mn a h
def jB(l:List aJ):Prop:=l.Pairwise blt
theorem ti{l:List aJ}(h:jB l):l.Nodup:=by
 rw[List.nodup_iff_pairwise_ne];exact h.imp (fun h=>na h)
abbrev dc:=List (aJ×Nat)
def e6(l:dc):Prop:=l.Pairwise (fun x y=>blt x.1 y.1)
theorem e6.qZ{l:dc}(h:e6 l):jB (l.map (·.1)):=by unfold jB;rw[List.pairwise_map];exact h
theorem e6.nodup{l:dc}(h:e6 l):(l.map (·.1)).Nodup:=ti h.qZ
theorem e6.filter{l:dc}(h:e6 l)(p:aJ×Nat→Bool):e6 (l.filter p):=List.Pairwise.filter _ h
def hE:dc→aJ→Nat→dc
 |[],p,i=>[(p,i)]
 |x::l,p,i=>if blt x.1 p then x::hE l p i else if x.1=p then(p,i)::l else(p,i)::x::l
theorem qG(l:dc)(p:aJ)(i:Nat)(q:aJ):aM (hE l p i) q=if q=p then some i else aM l q:=by
 induction l with
 |nil=>simp[hE,aM]
 |cons x l ih=>
  unfold hE;split
  ·rename_i h
   simp only[aM,ih];by_cases d:q=x.1
   ·have:¬q=p:=fun e=>na h (by rw[←d,e])
    rw[if_pos d,if_pos d,if_neg this]
   ·rw[if_neg d,if_neg d]
  ·split
   ·rename_i j V
    simp only[aM];by_cases d:q=p
    ·simp[d]
    ·rw[if_neg d,if_neg d,if_neg (fun e=>d (e.trans V))]
   ·simp only[aM]
theorem Ea{l:dc}{p:aJ}{i:Nat}{x:aJ×Nat}(h:x∈hE l p i):x=(p,i)∨x∈l:=by
 induction l with
 |nil=>simp[hE]at h;exact .inl h
 |cons y l ih=>
  unfold hE at h;split at h
  ·rcases List.mem_cons.1 h with e|h
   ·exact .inr (by rw[e];exact List.mem_cons_self)
   ·rcases ih h with e|h
    ·exact .inl e
    ·exact .inr (List.mem_cons_of_mem _ h)
  ·split at h
   ·rcases List.mem_cons.1 h with e|h
    ·exact .inl e
    ·exact .inr (List.mem_cons_of_mem _ h)
   ·rcases List.mem_cons.1 h with e|h
    ·exact .inl e
    ·exact .inr h
theorem uE{l:dc}(h:e6 l)(p:aJ)(i:Nat):e6 (hE l p i):=by
 induction l with
 |nil=>exact List.pairwise_singleton _ _
 |cons x l ih=>
  unfold e6 at h⊢;rw[List.pairwise_cons]at h;unfold hE;split
  ·rename_i j
   rw[List.pairwise_cons];refine⟨fun y hy=>?_,ih h.2⟩;rcases Ea hy with e|hy
   ·rw[e];exact j
   ·exact h.1 y hy
  ·rename_i j
   split
   ·rename_i V
    rw[List.pairwise_cons];exact⟨fun y hy=>by rw[←V];exact h.1 y hy,h.2⟩
   ·rename_i V
    have d:blt p x.1:=Classical.byContradiction (fun d=>V (mo j d));rw[List.pairwise_cons];refine⟨fun y hy=>?_,List.pairwise_cons.2 h⟩;rcases List.mem_cons.1 hy with e|hy
    ·rw[e];exact d
    ·exact nb d (h.1 y hy)
theorem z_{l:dc}(h:e6 l)(p:aJ):e6 (eu l p):=List.Pairwise.filter _ h
theorem sI{l:dc}{f:aJ→Bool}(p:aJ):aM (l.filter (fun x=>f x.1)) p=if f p=true then aM l p else none:=by
 induction l with
 |nil=>simp[aM]
 |cons x l ih=>
  by_cases i:f x.1=true
  ·rw[List.filter_cons_of_pos (by simpa using i)]
   simp only[aM,ih];by_cases d:p=x.1
   ·rw[if_pos d,if_pos d,d,if_pos i]
   ·rw[if_neg d,if_neg d]
  ·rw[List.filter_cons_of_neg (by simpa using i),ih]
   simp only[aM];by_cases d:p=x.1
   ·rw[d,if_neg i,if_neg i]
   ·rw[if_neg d]
def mN(c:UInt8):Bool:=(97≤c&&c≤122)||(48≤c&&c≤57)||c==46||c==95||c==45||c==47
def tv(p:aJ):Bool:=(List.range p.length).all (fun i=> !(p.getD i 0==47&&(i==0||i==p.length-1||p.getD (i-1) 0==47)))
def cl(p:aJ):Bool:=decide (1≤p.length)&&decide (p.length≤100)&&p.all mN&&tv p
def mB(p:aJ):aJ:=p.take (p.length-1-(p.reverse.takeWhile (fun c=>c≠47)).length)
def ck(p:aJ):aJ:=if cl p=true then mB p else[]
structure dA where
 g:aJ
 n:aJ
 f:Option Nat
 deriving DecidableEq
def dA.ap(c:dA)(l:dc):dc:=
 let d:=if c.g=[]then l else eu l c.g
 match c.f with
 |none=>d
 |some i=>hE d c.n i
def dA.dir(c:dA):aJ:=ck (if c.g=[]then c.n else c.g)
def zU(cs:List dA)(l:dc):dc:=cs.foldl (fun l c=>c.ap l) l
theorem z8{l:dc}(h:e6 l)(c:dA):e6 (c.ap l):=by
 unfold dA.ap;have d:e6 (if c.g=[]then l else eu l c.g):=by split;exact h;exact z_ h _
 cases c.f with
 |none=>exact d
 |some i=>exact uE d _ _
def dA.at(c:dA)(q:aJ)(I:Option Nat):Option Nat:=
 match c.f with
 |none=>if c.g≠[]∧q=c.g then none else I
 |some i=>if q=c.n then some i else if c.g≠[]∧q=c.g then none else I
theorem qF(c:dA)(l:dc)(q:aJ):aM (c.ap l) q=c.at q (aM l q):=by
 unfold dA.ap dA.at
 cases c.f with
 |none=>
  simp only;by_cases d:c.g=[]
  ·simp[d]
  ·rw[if_neg d,jm];simp[d]
 |some i=>
  simp only;rw[qG];by_cases d:c.g=[]
  ·simp[d]
  ·rw[if_neg d,jm];simp[d]
structure dQ where
 b:Bool
 d:List UInt8
 deriving DecidableEq,Inhabited
structure fP where
 now:List UInt8
 stays:List UInt8
 w:List dQ
 deriving DecidableEq,Inhabited
def dQ.on(w:dQ)(b:List UInt8)(n:Nat):List UInt8:=(if w.b=true then b else[])++w.d.take n
def dQ.ways(w:dQ):Nat:=max 1 (2*w.d.length)
def dQ.part(w:dQ)(b:List UInt8)(d:Nat):List UInt8:=
 if d<w.d.length∨w.d.length=0 then w.on b (min (d+1) w.d.length)else w.on b (d-w.d.length)++List.replicate (w.d.length-(d-w.d.length)) 0
def Hv(ws:List dQ):Nat:=1+(ws.map dQ.ways).sum
def zd:List dQ→List UInt8→Nat→List UInt8
 |[],b,_=>b
 |w::ws,b,k=>if k=0 then b else if k≤w.ways then w.part b (k-1)else zd ws (w.on b w.d.length) (k-w.ways)
def lj(ws:List dQ)(b:List UInt8):List UInt8:=ws.foldl (fun b w=>w.on b w.d.length) b
structure aE where
 cap:Nat
 most:Nat
 fs:List fP
 now:dc
 stays:dc
 log:List dA
 ops:Nat
 left:Nat
 dead:Bool
def bY(fs:List fP)(i:Nat):fP:=fs.getD i ⟨[],[],[]⟩
def aE.empty(cap most:Nat):aE:=⟨cap,most,[],[],[],[],0,0,false⟩
def aE.begin(d:aE):Bool×aE:=
 if d.dead=true then(false,d)
 else if d.left=1 then(false,{d with left:=0,dead:=true})
 else(true,{d with left:=d.left-1,ops:=d.ops+1})
def aE.look(d:aE)(p:aJ):Nat:=if cl p=true then(if(aM d.now p).isSome then 0 else 2)else 7
def ij(fs:List fP)(l:dc):Nat:=(l.map (fun x=>(bY fs x.2).now.length)).sum
def aE.used(d:aE):Nat:=ij d.fs d.now
def aE.hA(d:aE)(n:aJ):List dA:=d.log.filter (fun c=>c.dir=n)
def aE.change(d:aE)(c:dA):aE:={d with now:=c.ap d.now,log:=d.log++[c]}
def aE.make(d:aE)(p:aJ):aE×Nat:=match aM d.now p with
 |some i=>(d,i)
 |none=>(({d with fs:=d.fs++[⟨[],[],[]⟩]}:aE).change ⟨[],p,some d.fs.length⟩,d.fs.length)
def aE.c_(d:aE)(p:aJ):List UInt8:=match aM d.now p with
 |some i=>(bY d.fs i).now
 |none=>[]
def aE.fq(d:aE)(i:Nat)(x:fP):aE:={d with fs:=d.fs.set i x}
def aE.write(d:aE)(p:aJ)(w:dQ):aE:=
 let(d2,i):=d.make p
 d2.fq i ⟨w.on (bY d2.fs i).now w.d.length,(bY d2.fs i).stays,(bY d2.fs i).w++[w]⟩
def aE.hD(d:aE)(p:aJ)(w:dQ):Nat:=
 if cl p=false then 7
 else if d.most<(w.on (d.c_ p) w.d.length).length then 5
 else if d.cap+(d.c_ p).length<d.used+(w.on (d.c_ p) w.d.length).length then 12
 else 0
def aE.lay(d:aE)(p:aJ)(w:dQ):Nat×aE:=
 let(g,d1):=d.begin
 if g=false then(11,d1)else(d1.hD p w,if d1.hD p w=0 then d1.write p w else d1)
def aE.tG(d:aE)(i:Nat):aE:=d.fq i ⟨(bY d.fs i).now,(bY d.fs i).now,[]⟩
def aE.sync(d:aE)(p:aJ):Nat×aE:=
 let(g,d1):=d.begin
 if g=false then(11,d1)else(d1.look p,if d1.look p=0 then d1.tG ((aM d1.now p).getD 0)else d1)
def aE.jX(d:aE)(a b:aJ):Nat:=
 if cl a=false∨cl b=false then 7 else if ck a≠ck b then 13 else d.look a
def aE.rename(d:aE)(a b:aJ):Nat×aE:=
 let(g,d1):=d.begin
 if g=false then(11,d1)else(d1.jX a b,if d1.jX a b=0∧a≠b then d1.change ⟨a,b,some ((aM d1.now a).getD 0)⟩else d1)
def merge(now stays:dc)(n:aJ):dc:=(now.filter (fun x=>ck x.1=n)).foldl (fun l x=>hE l x.1 x.2) (stays.filter (fun x=> !decide (ck x.1=n)))
def aE.mW(d:aE)(n:aJ):aE:={d with stays:=merge d.now d.stays n,log:=d.log.filter (fun c=> !decide (c.dir=n))}
def iQ(n:aJ):Nat:=if n≠[]∧cl n=false then 7 else 0
def aE.h5(d:aE)(n:aJ):Nat×aE:=
 let(g,d1):=d.begin
 if g=false then(11,d1)else(iQ n,if iQ n=0 then d1.mW n else d1)
def aE.eQ(d:aE)(p:aJ):Nat:=if d.dead=true then 11 else d.look p
def aE.ch(d:aE)(p:aJ):List UInt8:=if d.eQ p=0 then d.c_ p else[]
def xU(d:List Int)(at_ of:Nat):Nat:=if at_<d.length then(d.getD at_ 0%(of:Int)).toNat else 0
def Cj(i:List Int)(d:aE)(s:dc×Nat)(n:aJ):dc×Nat:=
 if d.hA n=[]then s else(zU ((d.hA n).take (xU i s.2 ((d.hA n).length+1))) s.1,s.2+1)
def Ck(d:List Int)(s:List fP×Nat)(x:aJ×Nat):List fP×Nat:=
 let f:=bY s.1 x.2
 if f.w=[]then s
 else
  let b:=zd f.w f.stays (xU d s.2 (Hv f.w))
  (s.1.set x.2 ⟨b,b,[]⟩,s.2+1)
def wK:List aJ→aJ→List aJ
 |[],p=>[p]
 |x::l,p=>if blt x p then x::wK l p else if x=p then x::l else p::x::l
def aE.Cr(d:aE):List aJ:=(d.log.map dA.dir).foldl wK []
def aE.qa(d:aE)(i:List Int):dc×Nat:=d.Cr.foldl (Cj i d) (d.stays,0)
def aE.Ci(d:aE)(i:List Int):List fP×Nat:=(d.qa i).1.foldl (Ck i) (d.fs,(d.qa i).2)
def aE.HY(d:aE)(i:List Int):aE:=
 {d with fs:=(d.Ci i).1,now:=(d.qa i).1,stays:=(d.qa i).1,log:=[],left:=0,dead:=false}
theorem Ei(l:dc):∀(m:dc) (q:aJ),e6 l→aM (l.foldl (fun l x=>hE l x.1 x.2) m) q=match aM l q with|some i=>some i|none=>aM m q:=by
 induction l with
 |nil=>intro m q _;rfl
 |cons x l ih=>
  intro m q h;unfold e6 at h;rw[List.pairwise_cons]at h;rw[List.foldl_cons,ih _ _ h.2,qG];simp only[aM];by_cases d:q=x.1
  ·have:aM l q=none:=Option.not_isSome_iff_eq_none.1 (fun c=>by
    rw[gQ]at c;obtain⟨z,j,e⟩:=List.mem_map.1 c;exact na (h.1 z j) (by rw[e,d]))
   rw[if_pos d,if_pos d,this]
  ·rw[if_neg d,if_neg d]
theorem w7{now stays:dc}(h:e6 now)(n q:aJ):aM (merge now stays n) q=if ck q=n then aM now q else aM stays q:=by
 unfold merge;rw[Ei _ _ _ (h.filter _),sI (f:=fun p=>decide (ck p=n)),sI (f:=fun p=> !decide (ck p=n))];by_cases d:ck q=n
 ·simp only[d,decide_true,if_true,Bool.not_true,Bool.false_eq_true,if_false]
  cases aM now q<;>rfl
 ·simp[d]
theorem Aa(l:dc):∀m:dc,e6 m→e6 (l.foldl (fun l x=>hE l x.1 x.2) m):=by
 induction l with
 |nil=>intro m h;exact h
 |cons x l ih=>intro m h;exact ih _ (uE h _ _)
theorem Ab{now stays:dc}(h:e6 stays)(n:aJ):e6 (merge now stays n):=Aa _ _ (h.filter _)
end E

namespace rz
open E
section
variable {α : Type} [DecidableEq α]
def lcs:List α→List α→Nat
 |[],_=>0
 |_::_,[]=>0
 |x::xs,y::ys=>if x=y then lcs xs ys+1 else max (lcs xs (y::ys)) (lcs (x::xs) ys)
termination_by a b => a.length + b.length
def b_:List α→List α→List Int
 |[],[]=>[]
 |[],_::ys=>2::b_ [] ys
 |_::xs,[]=>1::b_ xs []
 |x::xs,y::ys=>if x=y then 0::b_ xs ys else if lcs xs (y::ys)=lcs (x::xs) (y::ys)then 1::b_ xs (y::ys)else 2::b_ (x::xs) ys
termination_by a b => a.length + b.length
end
theorem sN{κ β:Type}[DecidableEq κ]{k s:κ}{b:β}:∀{m:List (κ×β)},aM (m++[(s,b)]) k=(aM m k).or (if k=s then some b else none)
 |[]=>by by_cases h:k=s<;>simp[aM,h]
 |(a,c)::m=>by
  simp only[List.cons_append,aM];split
  ·rfl
  ·exact sN
end rz

namespace e0
open E Go.RowKit eY fm fw fA ez eZ
section
variable {β : Type}
def dt(l:List (aJ×β)):Prop:=l.Pairwise (fun x y=>blt x.1 y.1)
theorem dt.qZ{l:List (aJ×β)}(h:dt l):jB (l.map (·.1)):=by unfold jB;rw[List.pairwise_map];exact h
theorem dt.nodup{l:List (aJ×β)}(h:dt l):(l.map (·.1)).Nodup:=ti h.qZ
theorem dt.nil:dt ([]:List (aJ×β)):=List.Pairwise.nil
theorem dt.tail{x:aJ×β}{l:List (aJ×β)}(h:dt (x::l)):dt l:=(List.pairwise_cons.1 h).2
def ea:List (aJ×β)→aJ→β→List (aJ×β)
 |[],p,i=>[(p,i)]
 |x::l,p,i=>if x.1=p then(p,i)::l else if blt p x.1 then(p,i)::x::l else x::ea l p i
theorem sJ(l:List (aJ×β))(p:aJ)(i:β)(q:aJ)(h:dt l):aM (ea l p i) q=if q=p then some i else aM l q:=by
 induction l with
 |nil=>simp[ea,aM]
 |cons x l ih=>
  unfold ea;split
  ·rename_i V
   simp only[aM];by_cases d:q=p
   ·simp[d]
   ·rw[if_neg d,if_neg d,if_neg (fun e=>d (e.trans V))]
  ·split
   ·simp only[aM]
   ·simp only[aM,ih h.tail]
    by_cases d:q=x.1
    ·rw[if_pos d,if_pos d,if_neg (fun e=>by rename_i j _;exact j (by rw[←d,e]))]
    ·rw[if_neg d,if_neg d]
theorem qD{l:List (aJ×β)}{p:aJ}{i:β}{x:aJ×β}(h:x∈ea l p i):x=(p,i)∨x∈l:=by
 induction l with
 |nil=>simp[ea]at h;exact .inl h
 |cons y l ih=>
  unfold ea at h;split at h
  ·rcases List.mem_cons.1 h with e|h
   ·exact .inl e
   ·exact .inr (List.mem_cons_of_mem _ h)
  ·split at h
   ·rcases List.mem_cons.1 h with e|h
    ·exact .inl e
    ·exact .inr h
   ·rcases List.mem_cons.1 h with e|h
    ·exact .inr (by rw[e];exact List.mem_cons_self)
    ·rcases ih h with e|h
     ·exact .inl e
     ·exact .inr (List.mem_cons_of_mem _ h)
theorem qq{l:List (aJ×β)}(h:dt l)(p:aJ)(i:β):dt (ea l p i):=by
 induction l with
 |nil=>exact List.pairwise_singleton _ _
 |cons x l ih=>
  have av:=List.pairwise_cons.1 h;unfold ea;split
  ·rename_i V
   exact List.pairwise_cons.2 ⟨fun y hy=>by rw[←V];exact av.1 y hy,av.2⟩
  ·split
   ·rename_i d V
    refine List.pairwise_cons.2 ⟨fun y hy=>?_,h⟩;rcases List.mem_cons.1 hy with e|hy
    ·rw[e];exact V
    ·exact nb V (av.1 y hy)
   ·rename_i d V
    refine List.pairwise_cons.2 ⟨fun y hy=>?_,ih av.2⟩;rcases qD hy with e|hy
    ·rw[e]
     refine Classical.byContradiction (fun j=>d ?_);exact mo j V
    ·exact av.1 y hy
theorem sm{l:List (aJ×β)}(h:dt l)(p:aJ):dt (eu l p):=List.Pairwise.filter _ h
theorem qC{l:List (aJ×β)}{p:aJ}{x:aJ×β}(h:x∈eu l p):x∈l∧x.1≠p:=by
 have:=List.mem_filter.1 h;exact⟨this.1,by simpa using this.2⟩
theorem xZ{α:Type}{R:α→α→Prop}(k:∀x,¬R x x)(pv:∀x y,R x y→¬R y x):∀{a b:List α},a.Pairwise R→b.Pairwise R→(∀x,x∈a↔x∈b)→a=b
 |[],[],_,_,_=>rfl
 |[],y::b,_,_,h=>by have:=(h y).2 List.mem_cons_self;cases this
 |x::a,[],_,_,h=>by have:=(h x).1 List.mem_cons_self;cases this
 |x::a,y::b,j,aA,h=>by
  rw[List.pairwise_cons]at j aA
  have e:x=y:=by
   rcases List.mem_cons.1 ((h x).1 List.mem_cons_self)with e|d
   ·exact e
   ·rcases List.mem_cons.1 ((h y).2 List.mem_cons_self)with e|V
    ·exact e.symm
    ·exact absurd (j.1 _ V) (pv _ _ (aA.1 _ d))
  subst e;congr 1;refine xZ k pv j.2 aA.2 (fun z=>⟨fun i=>?_,fun i=>?_⟩)
  ·rcases List.mem_cons.1 ((h z).1 (List.mem_cons_of_mem _ i))with e|d
   ·subst e;exact absurd (j.1 _ i) (k _)
   ·exact d
  ·rcases List.mem_cons.1 ((h z).2 (List.mem_cons_of_mem _ i))with e|d
   ·subst e;exact absurd (aA.1 _ i) (k _)
   ·exact d
theorem wz{a b:List (aJ×β)}(j:dt a)(aA:dt b)(h:∀q,aM a q=aM b q):a=b:=
 xZ (R:=fun x y:aJ×β=>blt x.1 y.1) (fun x=>mn _) (fun x y=>oy) j aA (fun x=>by
  have i:=h x.1;constructor
  ·intro d
   have V:=lV j.nodup (show(x.1,x.2)∈a from d);rw[i]at V;exact E.o6 V
  ·intro d
   have V:=lV aA.nodup (show(x.1,x.2)∈b from d);rw[←i]at V;exact E.o6 V)
theorem nO{α:Type}[DecidableEq α]:∀{a b:List α},a.Nodup→(∀k∈a,k∈b)→a.length≤b.length
 |[],b,_,_=>Nat.zero_le _
 |x::a,b,aC,aj=>by
  rw[List.nodup_cons]at aC;have h:=nO (b:=b.erase x) aC.2 (fun k d=>(List.mem_erase_of_ne (fun e=>aC.1 (by rw[←e];exact d))).2 (aj k (List.mem_cons_of_mem _ d)));have i:=aj x List.mem_cons_self;rw[List.length_erase_of_mem i]at h;have:=List.length_pos_of_mem i;simp only[List.length_cons];omega
theorem sK{a b:List (aJ×β)}(j:(a.map (·.1)).Nodup)(aA:(b.map (·.1)).Nodup)(h:∀q,aM a q=aM b q):a.length=b.length:=by
 have i:=nO j (fun k d=>by rw[←gQ,←h,gQ];exact d);have V:=nO aA (fun k d=>by rw[←gQ,h,gQ];exact d);rw[List.length_map,List.length_map]at i V;omega
theorem wB(l:List (aJ×β))(p:aJ)(i:β):(ea l p i).length≤l.length+1:=by
 induction l with
 |nil=>simp[ea]
 |cons x l ih=>unfold ea;split<;>(try split)<;>simp<;>omega
theorem C6{l:List (aJ×β)}{p:aJ}{i:β}{k:Nat}(o:k<l.length)(n:∀j (h:j<l.length),j<k→blt l[j].1 p)(V:l[k].1=p):ea l p i=l.set k (p,i):=by
 induction l generalizing k with
 |nil=>simp at o
 |cons x l ih=>
  cases k with
  |zero=>simp only[List.getElem_cons_zero]at V;rw[ea,if_pos V];rfl
  |succ k=>
   have d:=n 0 (by simp) (by omega);simp only[List.getElem_cons_zero]at d;rw[ea,if_neg (na d),if_neg (oy d),List.set_cons_succ];congr 1;exact ih (by simpa using o) (fun j h q=>by have:=n (j+1) (by simp;omega) (by omega);simpa using this) (by simpa using V)
theorem wC{l:List (aJ×β)}{p:aJ}{i:β}{k:Nat}(o:k≤l.length)(n:∀j (h:j<l.length),j<k→blt l[j].1 p)(V:∀h:k<l.length,blt p l[k].1):ea l p i=l.take k++(p,i)::l.drop k:=by
 induction l generalizing k with
 |nil=>simp[ea]
 |cons x l ih=>
  cases k with
  |zero=>
   have d:=V (by simp);simp only[List.getElem_cons_zero]at d
   rw[ea,if_neg (fun e=>na d e.symm),if_pos d];rfl
  |succ k=>
   have d:=n 0 (by simp) (by omega);simp only[List.getElem_cons_zero]at d;rw[ea,if_neg (na d),if_neg (oy d),List.take_succ_cons,List.drop_succ_cons,List.cons_append];congr 1;exact ih (by simpa using o) (fun j h q=>by have:=n (j+1) (by simp;omega) (by omega);simpa using this) (fun h=>by have:=V (by simp;omega);simpa using this)
end
def _root_.Go.Proofs.YtfjmpninmdjcaaaGreatDoor.ez.c5.p(x:c5):c5:={x with cf:=dw}
abbrev dh:=List (aJ×cw)
abbrev j4:=List (aJ×List c4)
abbrev jz:=List (aJ×List UInt8)
structure dZ where
 ak:List UInt8
 bI:dh
 dG:j4
 q:c5
 g_:jz
def bh(l:List cx):dh:=l.map (fun x=>(x.n,x.i))
def dv(l:List ir):j4:=l.map (fun x=>(x.n,x.l))
def cq(l:List bu):jz:=l.map (fun x=>(x.k.1,x.d))
def _root_.Go.Proofs.YtfjmpninmdjcaaaGreatDoor.ez.c1.m(s:c1):dZ:=⟨s.ak,bh s.aY,dv s.b4,s.q.p,cq s.el⟩
def dH(l:dh)(m:bn):dh:=if m.w=bq then eu l m.n else ea l m.n m.w
def jP(l:List c4):List c4:=l.drop (l.length-100)
def ig(l:j4)(m:bn):j4:=if m.w=bq then eu l m.n else ea l m.n (jP ((aM l m.n).getD []++[⟨m.I,m.w,m.y⟩]))
def gA(l:jz)(el:List bu):jz:=el.foldl (fun l x=>ea l x.k.1 x.d) l
def dZ.ap(s:dZ)(t:bP):dZ:=⟨if t.bz=true then t.ak else s.ak,t.ml.foldl dH s.bI,t.ml.foldl ig s.dG,if t.aj=true then(if t.q.k=0 then im else t.q.p)else s.q,gA s.g_ t.el⟩
def lB:dZ:=⟨[],[],[],im,[]⟩
def gd(l:dh)(n:aJ):cw:=(aM l n).getD bq
def fV(l:dh)(pre:List bn)(m:bn):Int:=if cU m.n≠0 then 7 else if m.n∈pre.map (·.n)then 18 else if gd l m.n≠m.I then 21 else if m.w=m.I then 26 else 0
def fW(l:dh):List bn→List bn→Int
 |_,[]=>0
 |pre,m::r=>if fV l pre m≠0 then fV l pre m else fW l (pre++[m]) r
def hC(u:dh)(m:bn):Bool:=decide (m.I=bq∧m.w≠bq)&&(u.map (·.1)).any (fun x=>decide (x≠m.n)&&iP m.n x)
def nx(u:dh)(l:List bn):Int:=if l.any (hC u)=true then 13 else 0
def e3(l:dh)(ml:List bn):Int:=if fW l [] ml≠0 then fW l [] ml else if 200<(ml.foldl dH l).length then 4 else nx (ml.foldl dH l) ml
def hX(l:jz)(el:List bu):Int:=if hW el≠0 then hW el else if 500<(gA l el).length then 4 else 0
def fg(t:bP):Int:=if t.bz=true∧t.ak≠[]then cU t.ak else 0
def gi(t:bP):Int:=if t.aj=true∧t.q.k≠0 then gI t.q else 0
def ef(t:bP):Int:=if t.bz=false∧t.aj=false∧t.ml=[]∧t.el=[]then 1 else 0
def dD(s:dZ)(t:bP):Int:=if ef t≠0 then ef t else if fg t≠0 then fg t else if e3 s.bI t.ml≠0 then e3 s.bI t.ml else if gi t≠0 then gi t else hX s.g_ t.el
structure dZ.Ok (s:dZ):Prop where
 fY:dt s.bI
 EZ:∀x∈s.bI,x.2≠bq
 cG:s.dG.map (·.1)=s.bI.map (·.1)
 sE:dt s.g_
 hi:s.bI.length≤200
 iW:s.g_.length≤500
 aY:∀x∈s.bI,x.1.length≤60
 b4:∀x∈s.dG,x.2.length≤100
 md:∀x∈s.g_,x.2.length≤65536
 iK:s.q.ba.length≤100
theorem rn:lB.Ok:=⟨dt.nil,(fun x h=>by cases h),rfl,dt.nil,by simp[lB],by simp[lB],(fun x h=>by cases h),(fun x h=>by cases h),(fun x h=>by cases h),by simp[lB,im]⟩
theorem dZ.Ok.d_{s:dZ}(h:s.Ok):dt s.dG:=by
 have d:=h.fY.qZ;rw[←h.cG]at d;unfold jB at d;rw[List.pairwise_map]at d;exact d
theorem o7{l:dh}(h:dt l)(m:bn)(q:aJ):aM (dH l m) q=if q=m.n then(if m.w=bq then none else some m.w)else aM l q:=by
 unfold dH;split
 ·rw[jm]
 ·rw[sJ _ _ _ _ h]
theorem qs{l:dh}(h:dt l)(m:bn):dt (dH l m):=by
 unfold dH;split
 ·exact sm h _
 ·exact qq h _ _
theorem C4{l:j4}(h:dt l)(m:bn):dt (ig l m):=by
 unfold ig;split
 ·exact sm h _
 ·exact qq h _ _
theorem kE:∀{ml:List bn} {l:dh},dt l→dt (ml.foldl dH l)
 |[],_,h=>h
 |m::ml,l,h=>kE (ml:=ml) (qs h m)
theorem sn:∀{ml:List bn} {l:j4},dt l→dt (ml.foldl ig l)
 |[],_,h=>h
 |m::ml,l,h=>sn (ml:=ml) (C4 h m)
theorem qp:∀{el:List bu} {l:jz},dt l→dt (gA l el)
 |[],_,h=>h
 |m::el,l,h=>qp (el:=el) (qq h _ _)
theorem wP{β γ:Type}:∀{l:List (aJ×β)} {k:List (aJ×γ)} (p:aJ) (b:β) (c:γ),l.map (·.1)=k.map (·.1)→(ea l p b).map (·.1)=(ea k p c).map (·.1)
 |[],[],p,b,c,_=>rfl
 |x::l,[],p,b,c,h=>by simp at h
 |[],y::k,p,b,c,h=>by simp at h
 |x::l,y::k,p,b,c,h=>by
  simp only[List.map_cons,List.cons.injEq]at h;have ih:=wP p b c h.2;unfold ea;rw[h.1];split
  ·simp[h.2]
  ·split
   ·simp[h.1,h.2]
   ·simp[h.1,ih]
theorem wO{β γ:Type}:∀{l:List (aJ×β)} {k:List (aJ×γ)} (p:aJ),l.map (·.1)=k.map (·.1)→(eu l p).map (·.1)=(eu k p).map (·.1)
 |[],[],p,_=>rfl
 |x::l,[],p,h=>by simp at h
 |[],y::k,p,h=>by simp at h
 |x::l,y::k,p,h=>by
  simp only[List.map_cons,List.cons.injEq]at h;have ih:=wO p h.2;unfold eu at ih⊢;by_cases d:y.1=p
  ·rw[List.filter_cons_of_neg (by simp[h.1,d]),List.filter_cons_of_neg (by simp[d]),ih]
  ·rw[List.filter_cons_of_pos (by simp[h.1,d]),List.filter_cons_of_pos (by simp[d]),List.map_cons,List.map_cons,h.1,ih]
theorem sw:∀{ml:List bn} {l:j4} {k:dh},l.map (·.1)=k.map (·.1)→(ml.foldl ig l).map (·.1)=(ml.foldl dH k).map (·.1)
 |[],_,_,h=>h
 |m::ml,l,k,h=>by
  refine sw (ml:=ml) (l:=ig l m) (k:=dH k m) ?_;unfold ig dH;split
  ·exact wO _ h
  ·exact wP _ _ _ h
theorem Ew{l:dh}{m:bn}{x:aJ×cw}(h:x∈dH l m):x∈l∨(x=(m.n,m.w)∧m.w≠bq):=by
 unfold dH at h;split at h
 ·exact .inl (qC h).1
 ·rename_i d
  rcases qD h with e|h
  ·exact .inr ⟨e,d⟩
  ·exact .inl h
theorem qK:∀{ml:List bn} {l:dh} {x:aJ×cw},x∈ml.foldl dH l→x∈l∨∃m∈ml,x=(m.n,m.w)∧m.w≠bq
 |[],_,_,h=> .inl h
 |m::ml,l,x,h=>by
  rcases qK (ml:=ml) (l:=dH l m) h with h|⟨y,hy,h⟩
  ·rcases Ew h with h|h
   ·exact .inl h
   ·exact .inr ⟨m,List.mem_cons_self,h⟩
  ·exact .inr ⟨y,List.mem_cons_of_mem _ hy,h⟩
theorem qx(l:List c4):(jP l).length≤100:=by unfold jP;rw[List.length_drop];omega
theorem xk:∀{ml:List bn} {l:j4},(∀x∈l,x.2.length≤100)→∀x∈ml.foldl ig l,x.2.length≤100
 |[],_,h=>h
 |m::ml,l,h=>by
  refine xk (ml:=ml) (l:=ig l m) (fun x d=>?_);unfold ig at d;split at d
  ·exact h x (qC d).1
  ·rcases qD d with e|d
   ·rw[e];exact qx _
   ·exact h x d
theorem uu:∀{el:List bu} {l:jz} {x:aJ×List UInt8},x∈gA l el→x∈l∨∃m∈el,x=(m.k.1,m.d)
 |[],_,_,h=> .inl h
 |m::el,l,x,h=>by
  rcases uu (el:=el) (l:=ea l m.k.1 m.d) h with h|⟨y,hy,h⟩
  ·rcases qD h with h|h
   ·exact .inr ⟨m,List.mem_cons_self,h⟩
   ·exact .inl h
  ·exact .inr ⟨y,List.mem_cons_of_mem _ hy,h⟩
theorem nN:∀{ml:List bn} {l:dh} {pre:List bn},fW l pre ml=0→∀m∈ml,cU m.n=0
 |[],_,_,_,m,h=>by cases h
 |x::ml,l,pre,h,m,hm=>by
  rw[fW]at h;by_cases d:fV l pre x≠0
  ·rw[if_pos d]at h;exact absurd h d
  ·rw[if_neg d]at h
   rcases List.mem_cons.1 hm with rfl|hm
   ·unfold fV at d
    refine Classical.byContradiction (fun V=>d ?_);rw[if_pos V];decide
   ·exact nN h m hm
theorem o5:∀{el:List bu},hW el=0→∀y∈el,gE y=0
 |[],_,y,h=>by cases h
 |x::el,h,y,hy=>by
  rw[hW]at h;by_cases d:gE x≠0
  ·rw[if_pos d]at h;exact absurd h d
  ·rw[if_neg d]at h
   rcases List.mem_cons.1 hy with rfl|hy
   ·simpa using d
   ·exact o5 h y hy
theorem Gr{x:c5}(h:gI x=0):x.ba.length≤100:=by
 unfold gI at h;split at h
 ·cases h
 split at h
 ·rename_i d V;cases h
 split at h
 ·cases h
 split at h
 ·cases h
 ·omega
structure zy (s:dZ) (t:bP):Prop where
 no:ef t=0
 ak:fg t=0
 cN:fW s.bI [] t.ml=0
 hi:(t.ml.foldl dH s.bI).length≤200
 sl:nx (t.ml.foldl dH s.bI) t.ml=0
 jZ:gi t=0
 g_:hW t.el=0
 iW:(gA s.g_ t.el).length≤500
theorem oH{s:dZ}{t:bP}(h:dD s t=0):zy s t:=by
 unfold dD at h;split at h
 ·rename_i i;exact absurd h i
 rename_i i;split at h
 ·rename_i V;exact absurd h V
 rename_i V;split at h
 ·rename_i j;exact absurd h j
 rename_i j;split at h
 ·rename_i k;exact absurd h k
 rename_i k;have d:e3 s.bI t.ml=0:=by simpa using j
 unfold e3 at d;split at d
 ·rename_i n;exact absurd d n
 rename_i n;split at d
 ·cases d
 rename_i q;unfold hX at h;split at h
 ·rename_i o;exact absurd h o
 rename_i o;split at h
 ·cases h
 rename_i r;exact⟨by simpa using i,by simpa using V,by simpa using n,by omega,d,by simpa using k,by simpa using o,by omega⟩
theorem dZ.Ok.ap{s:dZ}{t:bP}(h:s.Ok)(av:dD s t=0):(s.ap t).Ok:=by
 have c:=oH av;refine⟨kE h.fY,fun x i=>?_,sw h.cG,qp h.sE,c.hi,c.iW,fun x i=>?_,xk h.b4,fun x i=>?_,?_⟩
 ·rcases qK i with i|⟨m,_,e,d⟩
  ·exact h.EZ x i
  ·rw[e];exact d
 ·rcases qK i with i|⟨m,hm,e,d⟩
  ·exact h.aY x i
  ·rw[e];exact((mv m.n).1 (nN c.cN m hm)).1
 ·rcases uu i with i|⟨m,hm,e⟩
  ·exact h.md x i
  ·rw[e]
   have d:=o5 c.g_ m hm;unfold gE at d;split at d
   ·cases d
   ·split at d
    ·cases d
    ·show m.d.length≤65536;omega
 ·show(if t.aj=true then(if t.q.k=0 then im else t.q.p)else s.q).ba.length≤100
  by_cases d:t.aj=true
  ·rw[if_pos d]
   by_cases V:t.q.k=0
   ·rw[if_pos V];simp[im]
   ·rw[if_neg V]
    have j:=c.jZ;unfold gi at j;rw[if_pos ⟨d,V⟩]at j;exact Gr j
  ·rw[if_neg d];exact h.iK
theorem sM(m:List (aJ×cw))(x:bn)(q:aJ):aM (jT m x) q=if q=x.n then(if x.w=bq then none else some x.w)else aM m q:=by
 unfold jT;split
 ·rw[jm]
 ·rw[kJ]
theorem w9:∀(l:List cx),((bh l).map (·.1)).Nodup→∀q,aM (lx l) q=aM (bh l) q:=by
 have key:∀(k:List cx),((bh k.reverse).map (·.1)).Nodup→∀q,aM (lx k.reverse) q=aM (bh k.reverse) q:=by
  intro k
  induction k with
  |nil=>intro _ q;rfl
  |cons x k ih=>
   intro aC q;rw[List.reverse_cons]at aC⊢;rw[yR,kJ];have e:bh (k.reverse++[x])=bh k.reverse++[(x.n,x.i)]:=by simp[bh]
   rw[e]at aC⊢;rw[List.map_append,List.nodup_append]at aC;rw[rz.sN,ih aC.1];by_cases d:q=x.n
   ·subst d
    have:aM (bh k.reverse) x.n=none:=by
     cases i:aM (bh k.reverse) x.n with
     |none=>rfl
     |some z=>exact absurd rfl (aC.2.2 x.n (gQ.1 (by rw[i];rfl)) x.n (by simp))
    rw[this];simp
   ·simp[d]
 intro l aC q;have:=key l.reverse (by rwa[List.reverse_reverse]) q;rwa[List.reverse_reverse]at this
theorem lQ{α β:Type}{f:β→α→β}{l:List α}{b:β}{j:Nat}(h:j<l.length):(l.take (j+1)).foldl f b=f ((l.take j).foldl f b) l[j]:=by
 rw[List.take_succ_eq_append_getElem h,List.foldl_append];rfl
theorem pQ{l:jz}{el:List bu}{j:Nat}(h:j<el.length):gA l (el.take (j+1))=ea (gA l (el.take j)) el[j].k.1 el[j].d:=lQ h
theorem rI:∀(el:List bu) (l:jz),(gA l el).length≤l.length+el.length
 |[],l=>Nat.le_refl _
 |x::el,l=>by
  have d:=rI el (ea l x.k.1 x.d);have V:=wB l x.k.1 x.d;show(gA (ea l x.k.1 x.d) el).length≤_;simp only[List.length_cons];omega
theorem ur:∀{el:List bu} {l:jz},dt l→∀(k:aJ),(k∈(gA l el).map (·.1)↔k∈l.map (·.1)∨∃x∈el,x.k.1=k)
 |[],l,_,k=>by simp[gA]
 |x::el,l,h,k=>by
  have ih:=ur (el:=el) (qq h x.k.1 x.d) k;show k∈(gA (ea l x.k.1 x.d) el).map (·.1)↔_;rw[ih,←gQ,←gQ,sJ _ _ _ _ h];by_cases d:k=x.k.1
  ·subst d;simp
  ·rw[if_neg d]
   have i:¬x.k.1=k:=fun e=>d e.symm;simp[i]
theorem DA{s el:List bu}(aj:dt (cq s)){m:List (cw×Int)}(aC:(m.map (·.1)).Nodup)(hm:∀k,k∈m.map (·.1)↔(∃x∈s,x.k=k)∨∃x∈el,x.k=k):m.length=(gA (cq s) el).length:=by
 have o:=(qp (el:=el) aj).nodup
 have r:((m.map (·.1)).map (·.1)).Nodup:=by
  rw[List.nodup_iff_pairwise_ne]at aC⊢;rw[List.pairwise_map];exact aC.imp (fun h e=>h (Subtype.ext e))
 have e:∀k,k∈(m.map (·.1)).map (·.1)↔k∈(gA (cq s) el).map (·.1):=by
  intro k;rw[ur aj];constructor
  ·intro h
   obtain⟨i,q,rfl⟩:=List.mem_map.1 h;rcases(hm i).1 q with⟨x,d,e⟩|⟨x,d,e⟩
   ·exact .inl (List.mem_map.2 ⟨(x.k.1,x.d),List.mem_map.2 ⟨x,d,rfl⟩,by rw[e]⟩)
   ·exact .inr ⟨x,d,by rw[e]⟩
  ·rintro(h|⟨x,d,rfl⟩)
   ·obtain⟨y,hy,rfl⟩:=List.mem_map.1 h
    obtain⟨x,d,rfl⟩:=List.mem_map.1 hy;exact List.mem_map.2 ⟨x.k,(hm _).2 (.inl ⟨x,d,rfl⟩),rfl⟩
   ·exact List.mem_map.2 ⟨x.k,(hm _).2 (.inr ⟨x,d,rfl⟩),rfl⟩
 have n:=nO r (fun k j=>(e k).1 j);have V:=nO o (fun k j=>(e k).2 j);rw[List.length_map,List.length_map,List.length_map]at n;rw[List.length_map,List.length_map,List.length_map]at V;omega
theorem sS:∀{ml:List bn} {l:dh} {pre:List bn} {j:Nat} (d:j<ml.length),(∀i (h:i<j),fV l (pre++ml.take i) (ml[i]'(by omega))=0)→fV l (pre++ml.take j) ml[j]≠0→fW l pre ml=fV l (pre++ml.take j) ml[j]
 |x::ml,l,pre,0,d,_,h=>by
  simp only[List.take_zero,List.append_nil,List.getElem_cons_zero]at h⊢
  rw[fW,if_pos h]
 |x::ml,l,pre,j+1,d,h,V=>by
  have k:=h 0 (by omega);simp only[List.take_zero,List.append_nil,List.getElem_cons_zero]at k;rw[fW,if_neg (by rw[k];decide)];have ih:=sS (ml:=ml) (l:=l) (pre:=pre++[x]) (j:=j) (by simpa using d) (fun i n=>by have:=h (i+1) (by omega);simpa using this) (by simpa using V)
  simpa using ih
theorem sT:∀{ml:List bn} {l:dh} {pre:List bn},(∀i (h:i<ml.length),fV l (pre++ml.take i) ml[i]=0)→fW l pre ml=0
 |[],_,_,_=>rfl
 |x::ml,l,pre,h=>by
  have d:=h 0 (by simp);simp only[List.take_zero,List.append_nil,List.getElem_cons_zero]at d;rw[fW,if_neg (by rw[d];decide)];exact sT (fun i j=>by have:=h (i+1) (by simp;omega);simpa using this)
theorem Et(l:dh)(pre:List bn)(m:bn):hL [cU m.n,c7 (!(pre.any (fun x=>decide (x.n=m.n)))) 18,c7 (decide (gd l m.n=m.I)) 21,c7 (decide (¬m.w=m.I)) 26]=fV l pre m:=by
 unfold fV
 have e:(pre.any (fun x=>decide (x.n=m.n)))=decide (m.n∈pre.map (·.n)):=by
  rw[Bool.eq_iff_iff];simp
 rw[e];simp only[hL,c7,decide_eq_true_eq,Bool.not_eq_true',decide_eq_false_iff_not];rcases p8 m.n with av|av<;>by_cases V:m.n∈pre.map (·.n)<;>by_cases d:gd l m.n=m.I<;>by_cases i:m.w=m.I<;>simp[av,V,d,i]
theorem wj{s:aJ}{l:List aJ}(av:cU s=0)(aC:s∉l):iy s l=if l.any (iP s)=true then 13 else 0:=by
 have e:base s l=0:=by unfold base;rw[if_neg (by rw[av];decide),if_neg aC]
 unfold iy;rw[e,if_neg (by decide)]
end e0

namespace dm
open E Go.RowKit
set_option maxRecDepth 100000 in
theorem de:c3 Tryz.prog 57 5 1 1:=⟨Tryz.underlying57,_,_,rfl,rfl,rfl,rfl,rfl⟩
def cd:Nat→UInt64→List UInt8
 |0,_=>[]
 |j+1,x=>UInt8.ofNat (iJ x (8*j)).toNat::cd j x
theorem dI:∀(n:Nat) (x:UInt64),(cd n x).length=n
 |0,_=>rfl
 |n+1,x=>by rw[cd,List.length_cons,dI]
theorem lX(k:Nat)(v:Value)(xs:List UInt8)(n:Nat)(x:UInt64)(w0:World)(J:Heap)
 (i:aU k 5 J a6 1 v xs) (aC:n≤8) (a1:xs.length≤1099511627776):
 aG Tryz.prog w0 120 #[v,.int .i64 n,.int .u64 x.toNat] J (fun r M=>∃v2:Value,∃a7:Nat,r=v2∧(aU a7 5 M a6 1 v2 (xs++cd n x))∧(U k J.size a7)∧W (aB [k]) J M):=by
 refine aG.aN [v,.int .i64 n,.int .u64 x.toNat] Tryz.func120 ?_;intro aM aJ;have E:W (aB [k]) J J:=W.refl _ _;have N:=U.refl k J.size;have ad:=i.le;refine G.L (fun ar=>?_);refine o.al ?_;refine ar (G.t1 (fun au=>G.L (fun ay=>?_)));refine o.aa ?_;refine o.v1 fG ?_;refine o.al ?_;refine ay (G.aD (fun _ az _=>?_))
 refine G.bc (fun(aK:(Nat)×(Value)×(Nat)×(List UInt8))=>match aK with|(j,B,A,ys)=>[(0,B),(2,.int .u64 x.toNat),(7,.int .i64 ((j:Int)-1))])
  (fun(j,B,A,ys) (H:Heap)=>(j≤n)∧(aU A 5 H a6 1 B ys)∧(ys++cd j x=xs++cd n x)∧(U k J.size (A))∧W (aB [k]) J H)
  (fun(j,B,A,ys)=>j) (n,v,k,xs) ⟨rfl,rfl,rfl,trivial⟩ ?_ ?_
 ·
  exact⟨(by omega),i,rfl,U.refl _ _,W.refl _ _⟩
 rintro⟨j,B,A,ys⟩ aD aH aL aI Q;obtain⟨aZ,i,F,ac,d⟩:=aH;have R:U k J.size (A):=U.L (N) ac E.size;have E:=E.aL d (ah.I (ao.r N));have aO:=d.size;have ad:=i.le;have P:=ac;have a8:ys.length+j=xs.length+n:=by have:=congrArg List.length F;simpa[dI]using this
 refine G.t2 (fun S T=>G.L (fun X=>?_));refine o.aa ?_;refine o.v1 dq (o.nil (X ?_));refine aW (fun Z=>?_) (fun Z=>?_)
 ·
  obtain⟨j,rfl⟩:∃q,j=q+1:=⟨j-1,by omega⟩;refine G.skip (S (G.t1 (fun aa=>G.aD (fun ab _ _=>G.region ?_))));refine o.az 3 ?_;refine o.v1 (Y.jo rfl rfl rfl (by omega)) ?_;refine o.v1 (Y.pq (8*j) rfl rfl rfl (by first|rfl|omega) (by omega)) ?_;refine o.v1 (Y.oI rfl gV ju rfl) ?_;refine o.aS (cS _ ([UInt8.ofNat (iJ x (8*j)).toNat]) de et fB (rfl)) fun aP ap ae=>?_;obtain⟨al,K,aN,an⟩:=ae;have aX:ap.size=aD.size+1:=by rw[an];simp
  have i:=i.N K;have d:=d.a8 K;have aQ:=K.size;refine o.aS (eg i al.rd de (by first|omega|(simp;omega)) (by first|omega|(simp;omega))) fun af aS ag=>?_;obtain⟨aw,O,L,C⟩:=ag;have L:U (A) ap.size aw:=L;have C:=C.md;have ai:U k J.size aw:=U.L (P) L d.size;have d:=d.aL C (ah.I (ao.r P));have aT:=C.size;have aV:=O.le;refine o.al ?_;refine ab (aa (G.region ?_));refine o.aa ?_;refine o.v1 fG ?_;refine o.al ?_;refine aR.sub (aI (j,af,aw,ys++[UInt8.ofNat (iJ x (8*j)).toNat]) _ ?_ ?_) ⟨rfl,(aF (by omega)),(aF (by omega)),trivial⟩
  ·exact⟨(by omega),O,by rw[←F,List.append_assoc];rfl,ai,d⟩
  ·first|omega|(simp only;omega)|(simp;omega)
 ·
  obtain rfl:j=0:=by omega
  rw[cd,List.append_nil]at F;subst F;refine G.exit (T (Q (az ?_)));refine au (G.L (fun am=>?_));refine o.aP 2 ?_;refine am ?_;refine G.ret (aJ ?_);exact⟨B,A,rfl,i,R,E⟩
end dm

namespace fI
open E Go.RowKit eY fm fw fA ez eZ e0 dm
set_option maxRecDepth 100000 in
theorem de:c3 Tryz.prog 57 5 1 1:=⟨Tryz.underlying57,_,_,rfl,rfl,rfl,rfl,rfl⟩
def fF(n:Nat)(s:List UInt8):List UInt8:=cd n (UInt64.ofNat s.length)++s
def iD(m:bn):List UInt8:=fF 1 m.n++(m.I.1++(m.w.1++fF 2 m.y))
def j1(t:fL):List UInt8:=cd 1 (UInt64.ofNat t.d.toNat)++t.i.1
def j0(q:c5):List UInt8:=cd 1 (UInt64.ofNat q.k.toNat)++(if q.k=0 then[]else fF 1 q.br++(q.cc.1++(q.bw.1++(cd 2 (UInt64.ofNat q.ba.length)++(q.ba.flatMap j1++(cd 2 (UInt64.ofNat q.dn.toNat)++(cd 2 (UInt64.ofNat q.md.toNat)++cd 1 (if q.st=true then 1 else 0))))))))
def iC(m:bu):List UInt8:=m.k.1++fF 4 m.d
def qo(t:bP):UInt64:=(if t.bz=true then 1 else 0)|||(if t.aj=true then 2 else 0)
def e2(t:bP):List UInt8:=cd 1 (qo t)++((if t.bz=true then fF 1 t.ak else[])++(cd 2 (UInt64.ofNat t.ml.length)++(t.ml.flatMap iD++((if t.aj=true then j0 t.q else[])++(cd 2 (UInt64.ofNat t.el.length)++t.el.flatMap iC)))))
theorem ha(n:Nat)(s:List UInt8):(fF n s).length=n+s.length:=by unfold fF;rw[List.length_append,dI]
theorem nM(m:bn):(iD m).length=67+m.n.length+m.y.length:=by
 unfold iD;simp only[List.length_append,ha,m.I.2,m.w.2];omega
theorem rb(t:fL):(j1 t).length=33:=by unfold j1;rw[List.length_append,dI,t.i.2]
theorem xc(m:bu):(iC m).length=36+m.d.length:=by unfold iC;rw[List.length_append,ha,m.k.2];omega
theorem nz{α:Type}{f:α→List UInt8}{l:List α}{j:Nat}(h:j<l.length):(l.take (j+1)).flatMap f=(l.take j).flatMap f++f l[j]:=by
 rw[List.take_succ_eq_append_getElem h,List.flatMap_append];simp
theorem mA{α:Type}{f:α→List UInt8}{n:Nat}:∀{l:List α},(∀x∈l,(f x).length≤n)→(l.flatMap f).length≤n*l.length
 |[],_=>by simp
 |x::l,h=>by
  rw[List.flatMap_cons,List.length_append,List.length_cons,Nat.mul_succ];have d:=h x List.mem_cons_self;have V:=mA (l:=l) (fun y hy=>h y (List.mem_cons_of_mem _ hy));omega
structure n6 (x:c5):Prop where
 k:0≤x.k∧x.k≤255
 br:x.br.length≤255
 ba:x.ba.length≤65535
 dn:0≤x.dn∧x.dn≤65535
 md:0≤x.md∧x.md≤65535
 dd:∀t∈x.ba,0≤t.d∧t.d≤255
structure kX (t:bP):Prop where
 ml:t.ml.length≤65535
 el:t.el.length≤65535
 ak:t.bz=true→t.ak.length≤255
 iW:∀m∈t.ml,m.n.length≤255∧m.y.length≤65535
 md:∀m∈t.el,m.d.length≤65536
 kF:t.aj=true→0≤t.q.k∧t.q.k≤255
 jZ:t.aj=true→t.q.k≠0→n6 t.q
theorem tC{q:c5}(h:q.k=0):j0 q=cd 1 (UInt64.ofNat q.k.toNat):=by unfold j0;rw[if_pos h,List.append_nil]
theorem tD{q:c5}(h:q.k≠0):j0 q=cd 1 (UInt64.ofNat q.k.toNat)++(fF 1 q.br++(q.cc.1++(q.bw.1++(cd 2 (UInt64.ofNat q.ba.length)++(q.ba.flatMap j1++(cd 2 (UInt64.ofNat q.dn.toNat)++(cd 2 (UInt64.ofNat q.md.toNat)++cd 1 (if q.st=true then 1 else 0)))))))):=by unfold j0;rw[if_neg h]
theorem GL{q:c5}(h:n6 q):(j0 q).length≤3000000:=by
 have d:=mA (f:=j1) (n:=33) (l:=q.ba) (fun x _=>by rw[rb];omega);have V:=h.ba;have i:=h.br;unfold j0;split<;>simp only[List.length_append,dI,ha,q.cc.2,q.bw.2,List.length_nil]<;>omega
theorem o2 (w0:World)(J:Heap)
 :
 aG Tryz.prog w0 183 #[.int .i64 1] J (fun r d=>r= .int .i64 255∧aq J d):=by
 refine aG.aN [.int .i64 1] Tryz.func183 ?_;intro q n;have k:aq J J:=W.refl _ _;refine G.L (fun i=>?_);refine o.al ?_;refine i (G.L (fun j=>?_));refine o.aa ?_;refine o.v1 (Y.cast (v2:= .int .i64 8) (Y.jo rfl rfl rfl (by decide)) (rfl)) ?_;refine o.v1 (Y.cast (v2:= .int .i64 256) (Y.kP (8) rfl rfl rfl rfl (by decide) (by decide)) (rfl)) ?_;refine o.v1 (Y.ra rfl rfl rfl (by decide)) ?_;refine o.al ?_;refine j ?_;refine G.ret (n ?_);exact⟨rfl,k⟩
theorem wZ (w0:World)(J:Heap)
 :
 aG Tryz.prog w0 183 #[.int .i64 2] J (fun r d=>r= .int .i64 65535∧aq J d):=by
 refine aG.aN [.int .i64 2] Tryz.func183 ?_;intro q n;have k:aq J J:=W.refl _ _;refine G.L (fun i=>?_);refine o.al ?_;refine i (G.L (fun j=>?_));refine o.aa ?_;refine o.v1 (Y.cast (v2:= .int .i64 16) (Y.jo rfl rfl rfl (by decide)) (rfl)) ?_;refine o.v1 (Y.cast (v2:= .int .i64 65536) (Y.kP (16) rfl rfl rfl rfl (by decide) (by decide)) (rfl)) ?_;refine o.v1 (Y.ra rfl rfl rfl (by decide)) ?_;refine o.al ?_;refine j ?_;refine G.ret (n ?_);exact⟨rfl,k⟩
theorem D1 (w0:World)(J:Heap)
 :
 aG Tryz.prog w0 183 #[.int .i64 4] J (fun r d=>r= .int .i64 4294967295∧aq J d):=by
 refine aG.aN [.int .i64 4] Tryz.func183 ?_;intro q n;have k:aq J J:=W.refl _ _;refine G.L (fun i=>?_);refine o.al ?_;refine i (G.L (fun j=>?_));refine o.aa ?_;refine o.v1 (Y.cast (v2:= .int .i64 32) (Y.jo rfl rfl rfl (by decide)) (rfl)) ?_;refine o.v1 (Y.cast (v2:= .int .i64 4294967296) (Y.kP (32) rfl rfl rfl rfl (by decide) (by decide)) (rfl)) ?_;refine o.v1 (Y.ra rfl rfl rfl (by decide)) ?_;refine o.al ?_;refine j ?_;refine G.ret (n ?_);exact⟨rfl,k⟩
theorem tL(b:Bool)(n:UInt64)(w0:World)(J:Heap)
 :
 aG Tryz.prog w0 100 #[.bool b,.int .u64 n.toNat] J (fun r j=>r= .int .u64 (if b=true then n else 0:UInt64).toNat∧aq J j):=by
 refine aG.aN [.bool b,.int .u64 n.toNat] Tryz.func100 ?_;intro C i;have d:aq J J:=W.refl _ _;refine G.L (fun k=>?_);refine o.al ?_;refine k (G.t2 (fun q ac=>G.L (fun ad=>?_)));refine o.aa (o.nil (ad ?_));refine cL (fun B=>?_) (fun B=>?_)
 ·
  refine G.L (fun x=>?_);refine o.aP 2 ?_;refine x ?_;refine G.ret (ac (i ?_));exact⟨by first|(rw[if_pos (by assumption)])|(rw[if_neg (by simp_all)];rfl),d⟩
 ·
  refine G.skip (q (G.L (fun A=>?_)));refine o.al ?_;refine A ?_;refine G.ret (i ?_);exact⟨by first|(rw[if_pos (by assumption)])|(rw[if_neg (by simp_all)];rfl),d⟩
theorem jY(v:Value)(e:Int)(w0:World)(J:Heap)
 :
 aG Tryz.prog w0 93 #[v,.bool true,.int .i64 e] J (fun r d=>r= .tuple #[]∧aq J d):=by
 refine aG.enter (args:=[v,.bool true,.int .i64 e]) Tryz.func93 rfl rfl rfl ?_;intro n k;have j:aq J J:=W.refl _ _;refine G.L (fun i=>?_);refine o.aa ?_;refine o.v1 eG (o.nil (i ?_));refine dK ?_;refine G.skip ?_;refine k .normal (.inl rfl) _ _ _ (iG rfl) ?_;exact⟨rfl,j⟩
theorem kV(A k:Nat)(s:aO)(xs:List UInt8)(n:Nat)(x:UInt64)(w0:World)(J:Heap)
 (i:Var 223 J A [s.v,.int .i64 0,.int .i64 0]) (C:aU k 5 J a6 1 s.v xs) (ak:af (A+1) k) (aC:n≤8) (bq:xs.length≤1099511627776):
 aG Tryz.prog w0 99 #[.pointer (some ⟨A,0,none⟩),.int .i64 n,.int .u64 x.toNat] J (fun r R=>∃s2:aO,∃a7:Nat,r= .tuple #[]∧(Var 223 R A [s2.v,.int .i64 0,.int .i64 0])∧(aU a7 5 R a6 1 s2.v (xs++cd n x))∧(U k J.size a7)∧(af (A+1) a7)∧W (aB [(A+1),k]) J R):=by
 refine aG.enter (args:=[.pointer (some ⟨A,0,none⟩),.int .i64 n,.int .u64 x.toNat]) Tryz.func99 rfl rfl rfl ?_;intro bd ba;have P:W (aB [(A+1),k]) J J:=W.refl _ _;have aV:=U.refl (A+1) J.size;have bo:=i.lt;have ad:=U.refl k J.size;have Z:=C.le;refine G.L (fun al=>?_);refine o.aa ?_;refine o.v1 (Y.cast (v2:= .int .i64 ((n:Int)-1)) fG (rfl)) ?_;refine o.al ?_;refine al (G.aD (fun _ an _=>?_))
 refine G.bc (fun(bc:(Nat)×(aO)×(Nat)×(List UInt8))=>match bc with|(j,s1,B,ys)=>[(0,.pointer (some ⟨A,0,none⟩)),(2,.int .u64 x.toNat),(6,.int .i64 ((j:Int)-1))])
  (fun(j,s1,B,ys) (H:Heap)=>(j≤n)∧(Var 223 H A [s1.v,.int .i64 0,.int .i64 0])∧(aU B 5 H a6 1 s1.v ys)∧(ys++cd j x=xs++cd n x)∧(U k J.size B)∧(af (A+1) B)∧W (aB [(A+1),k]) J H)
  (fun(j,s1,B,ys)=>j) (n,s,k,xs) ⟨rfl,rfl,rfl,trivial⟩ ?_ ?_
 ·
  exact⟨(by omega),i,C,rfl,U.refl _ _,ak,W.refl _ _⟩
 rintro⟨j,s1,B,ys⟩ E ar n9 au ay;obtain⟨bp,i,C,Q,aa,aX,ac⟩:=ar;have az:U k J.size B:=U.L (ad) aa P.size;have P:=P.aL ac (ah.cons (ao.r aV) (ah.I (ao.r ad)));have bm:=ac.size;have Z:=C.le;have ap:=aX;have aT:=U.refl (A+1) J.size;have S:=aa;have bs:ys.length+j=xs.length+n:=by have:=congrArg List.length Q;simpa[dI]using this
 refine G.t2 (fun aD aH=>G.L (fun aI=>?_));refine o.aa ?_;refine o.v1 dq (o.nil (aI ?_));refine aW (fun aJ=>?_) (fun aJ=>?_)
 ·
  obtain⟨j,rfl⟩:∃q,j=q+1:=⟨j-1,by omega⟩;refine G.skip (aD (G.t1 (fun aK=>G.aD (fun aL _ _=>?_))));refine dg (fun K=>W (aB [B]) E K) [13,14,15,16] ?_;have d:W (aB [B]) E E:=W.refl _ _;have aM:=U.refl B E.size;refine T.aa 0 rfl d ?_;refine T.aa 1 rfl d ?_;refine T.bG 2 rfl d ?_;refine T.t1 3 rfl (fun K F=>Y.fieldAddr (i.ae F (ag.I ap)).O rfl l4 rfl rfl l2 (by decide) rfl) d ?_;refine T.t1 4 rfl (fun K F=>Y.fieldAddr (i.ae F (ag.I ap)).O rfl kU rfl rfl c8 (by decide) rfl) d ?_;refine T.t1 5 rfl (fun K F=>Y.fM (i.ae F (ag.I ap)).O rfl eI rfl) d ?_;refine T.aa 6 rfl d ?_;refine T.aa 7 rfl d ?_;refine T.t1 8 rfl (fun K F=>Y.jo rfl rfl rfl (by omega)) d ?_;refine T.t1 9 rfl (fun K F=>Y.pq (8*j) rfl rfl rfl (by first|rfl|omega) (by omega)) d ?_;refine T.t1 10 rfl (fun K F=>Y.oI rfl gV ju rfl) d ?_;refine T.aX 11 ?_;refine ey rfl (cS _ ([UInt8.ofNat (iJ x (8*j)).toNat]) de et fB (rfl)) (fun bn L aN=>?_);obtain⟨bb,aw,bk,a1⟩:=aN;have bf:L.size=E.size+1:=by rw[a1];simp
  have aP:U 0 E.size (E.size+1):=U.new d.size;have C:=C.N aw;have i:=i.N aw;have ac:=ac.a8 aw;have d:=d.a8 aw;have a0:=aw.size;refine T.bZ d (ah.cons (ao.r aM) (ah.I (ao.q aP))) ?_;have d:W (aB [B,(E.size+1)]) L L:=W.refl _ _;have ab:=U.refl B L.size;have a8:=U.refl (E.size+1) L.size;refine T.aX 12 ?_;refine ey rfl (eg C bb.rd de (by simp;omega) (by simp;omega)) (fun X bl aQ=>?_);obtain⟨O,C,am,M⟩:=aQ;have am:U B L.size O:=am;have M:=M.md;have ae:af (A+1) O:=af.app (ap) i.lt am;have a_:U k J.size O:=U.L (S) am ac.size;have ai:U B L.size O:=U.L (ab) am d.size;have i:=i.ae M (ag.I ap);have ac:=ac.aL M (ah.I (ao.r S));have d:=d.aL M (ah.I (ao.r ab));have cg:=M.size;have Z:=C.le;obtain⟨aS,rfl⟩:∃s:aO,X=s.v:=⟨cm X,C.bm.symm⟩;refine T.bZ d (ah.cons (ao.r ai) (ah.I (ao.r a8))) ?_;refine T.aX 13 ?_;refine gJ rfl (Y.nilCheck rfl rfl) (.inl rfl) ?_;refine T.aX 14 ?_;refine gJ rfl (Y.an i.O rfl l4 rfl l2) (.inl rfl) ?_;refine T.aX 15 ?_;refine gJ rfl (Y.an i.O rfl kU rfl c8) (.inl rfl) ?_;refine T.aX 16 ?_;refine gW rfl (dL i 0 (_) (rfl) c8 (by simp) (rfl)) (fun bg aZ=>?_);obtain⟨i,N⟩:=aZ;have N:=N.bB;have C:=C.ae N (ag.I ae.symm);have ac:=ac.aL N (ah.I (ao.r aT));have a2:=N.size;refine⟨.inl rfl,?_⟩;refine cI ?_;refine aL (aK (G.region ?_));refine o.aa ?_;refine o.v1 fG ?_;refine o.al ?_;refine aR.sub (au (j,aS,O,ys++[UInt8.ofNat (iJ x (8*j)).toNat]) _ ?_ ?_) ⟨rfl,(aF (by omega)),(aF (by omega)),trivial⟩
  ·exact⟨(by omega),i,C,by rw[←Q,List.append_assoc];rfl,a_,ae,ac⟩
  ·first|omega|(simp only;omega)|(simp;omega)
 ·
  obtain rfl:j=0:=by omega
  rw[cd,List.append_nil]at Q;subst Q;refine G.exit (aH (ay (an ?_)));refine ba .normal (.inl rfl) _ _ _ (iG rfl) ?_;exact⟨s1,B,rfl,i,C,az,ap,P⟩
theorem pD(i k:Nat)(s:aO)(xs:List UInt8)(n:Nat)(t:List UInt8)(w0:World)(J:Heap)
 (d:Var 223 J i [s.v,.int .i64 0,.int .i64 0]) (j:aU k 5 J a6 1 s.v xs) (ak:af (i+1) k) (az:xs.length≤549755813888) (aC:n≤8) (ay:t.length≤549755813888):
 aG Tryz.prog w0 101 #[.pointer (some ⟨i,0,none⟩),.int .i64 n,aK t] J (fun r B=>∃s2:aO,∃a7:Nat,r= .tuple #[]∧(Var 223 B i [s2.v,.int .i64 0,.int .i64 0])∧(aU a7 5 B a6 1 s2.v (xs++fF n t))∧(U k J.size a7)∧(af (i+1) a7)∧W (aB [(i+1),k]) J B):=by
 refine aG.enter (args:=[.pointer (some ⟨i,0,none⟩),.int .i64 n,aK t]) Tryz.func101 rfl rfl rfl ?_;intro aa X;have q:W (aB [(i+1),k]) J J:=W.refl _ _;have C:=U.refl (i+1) J.size;have ai:=d.lt;have E:=U.refl k J.size;have L:=j.le;refine G.L (fun O=>?_);refine o.az 3 ?_;refine o.v1 (fu dC) ?_;refine o.v1 (Y.hq rfl gk gV rfl) ?_;refine aV kz (kV _ _ _ _ n _ w0 _ d j (ak) aC (by omega)) (fun an P Q=>?_);obtain⟨ar,aw,rfl,d,j,N,K,F⟩:=Q;have am:U k J.size aw:=U.L (E) N q.size;have q:=q.aL F (ah.cons (ao.r C) (ah.I (ao.r E)));have ab:=F.size;have L:=j.le;refine o.nil (O (G.region ?_));refine o.az 3 ?_;refine o.v1 (Y.an d.O rfl l4 rfl l2) ?_;refine o.v1 (Y.an d.O rfl kU rfl c8) ?_;refine o.v1 (au d.O eI) ?_;refine o.aa ?_;refine o.aS (Z.pS j rfl de Tryz.underlying9 rfl rfl (by simp[dI];omega)) fun al ae R=>?_;obtain⟨A,j,ad,x⟩:=R;have ad:U aw P.size A:=ad;have x:=x.md;have H:af (i+1) A:=af.app (K) d.lt ad;have S:U k J.size A:=U.L (am) ad q.size;have d:=d.ae x (ag.I K);have q:=q.aL x (ah.I (ao.r am));obtain⟨T,rfl⟩:∃s:aO,al=s.v:=⟨cm al,j.bm.symm⟩;refine o.bG ?_;refine o.v1 (Y.an d.O rfl l4 rfl l2) ?_;refine o.v1 (Y.an d.O rfl kU rfl c8) ?_;refine o.s1 (dL d 0 (_) (rfl) c8 (by simp) (rfl)) fun ap M=>?_;obtain⟨d,ac⟩:=M;have ac:=ac.bB;have j:=j.ae ac (ag.I H.symm);have q:=q.aL ac (ah.I (ao.r C));refine o.nil ?_;refine X .normal (.inl rfl) _ _ _ (iG rfl) ?_;exact⟨T,A,rfl,d,by rw[fF,←List.append_assoc];exact j,S,(H),q⟩
theorem n1(j k:Nat)(s:aO)(xs:List UInt8)(i:cw)(w0:World)(J:Heap)
 (d:Var 223 J j [s.v,.int .i64 0,.int .i64 0]) (n:aU k 5 J a6 1 s.v xs) (ak:af (j+1) k) (aI:xs.length≤549755813888):
 aG Tryz.prog w0 102 #[.pointer (some ⟨j,0,none⟩),bs i] J (fun r O=>∃s2:aO,∃a7:Nat,r= .tuple #[]∧(Var 223 O j [s2.v,.int .i64 0,.int .i64 0])∧(aU a7 5 O a6 1 s2.v (xs++i.1))∧(U k J.size a7)∧(af (j+1) a7)∧W (aB [(j+1),k]) J O):=by
 refine aG.enter (args:=[.pointer (some ⟨j,0,none⟩),bs i]) Tryz.func102 rfl rfl rfl ?_;intro an ai;have A:W (aB [(j+1),k]) J J:=W.refl _ _;have ac:=U.refl (j+1) J.size;have ay:=d.lt;have P:=U.refl k J.size;have az:=n.le;have aH:=i.2;refine G.L (fun X=>?_);refine o.aS cY ?_;rintro v3 q ⟨rfl,N,M,aF,Z⟩;have aC:q.size=J.size+1:=by rw[Z];simp
 have d:=d.N M;have n:=n.N M;have A:=A.a8 M;have ar:=M.size;have N:Var 26 q J.size (i.1.map (fun b=>Value.int .u8 b.toNat)):=N;refine o.nil (X ?_);refine dg (fun K=>W (aB [k]) q K) [8,9,10,11] ?_;have ad:W (aB [k]) q q:=W.refl _ _;have aw:=U.refl k q.size;refine T.aa 0 rfl ad ?_;refine T.aa 1 rfl ad ?_;refine T.bG 2 rfl ad ?_;refine T.t1 3 rfl (fun K H=>Y.fieldAddr (d.ae H (ag.I ak)).O rfl l4 rfl rfl l2 (by decide) rfl) ad ?_;refine T.t1 4 rfl (fun K H=>Y.fieldAddr (d.ae H (ag.I ak)).O rfl kU rfl rfl c8 (by decide) rfl) ad ?_;refine T.t1 5 rfl (fun K H=>Y.fM (d.ae H (ag.I ak)).O rfl eI rfl) ad ?_;refine T.e (g:=fun v=>v) 6 (by kernel_rfl) rfl (by kernel_rfl) (by kernel_rfl) (by kernel_rfl) (Y.ps (F:=fun c=>c=J.size) (f:=a6) (xs:=i.1) N.O rfl N.lt (i.2) (fun i x h=>⟨by simp[h],rfl⟩) (0) (32) rfl (fun w=> .inl (j2 w)) cK rfl (.inl ⟨rfl,rfl⟩) (.inl ⟨rfl,rfl⟩) (by omega) (by omega) (by decide)) cM rfl rfl ad (fun au R=>?_);rw[List.drop_zero,List.take_of_length_le (by omega)]at R;refine T.aX 7 ?_;refine ey rfl (eg n R de (by omega) (by omega)) (fun am aD aa=>?_);obtain⟨E,n,B,C⟩:=aa;have B:U k q.size E:=B;have C:=C.md;have al:af (j+1) E:=af.app (ak) d.lt B;have ab:U k J.size E:=U.L (P) B A.size;have ae:U k q.size E:=U.L (aw) B ad.size;have d:=d.ae C (ag.I ak);have A:=A.aL C (ah.I (ao.r P));have ad:=ad.aL C (ah.I (ao.r aw));obtain⟨Q,rfl⟩:∃s:aO,am=s.v:=⟨cm am,n.bm.symm⟩;refine T.bZ ad (ah.I (ao.r ae)) ?_;refine T.aX 8 ?_;refine gJ rfl (Y.nilCheck rfl rfl) (.inl rfl) ?_;refine T.aX 9 ?_;refine gJ rfl (Y.an d.O rfl l4 rfl l2) (.inl rfl) ?_;refine T.aX 10 ?_;refine gJ rfl (Y.an d.O rfl kU rfl c8) (.inl rfl) ?_;refine T.aX 11 ?_;refine gW rfl (dL d 0 ([Q.v,.int .i64 0,.int .i64 0]) (rfl) c8 (by simp) (rfl)) (fun ap S=>?_);obtain⟨d,L⟩:=S;have L:=L.bB;have n:=n.ae L (ag.I al.symm);have A:=A.aL L (ah.I (ao.r ac));refine⟨.inl rfl,?_⟩;refine cI ?_;refine ai .normal (.inl rfl) _ _ _ (iG rfl) ?_;exact⟨Q,E,rfl,d,n,ab,(al),A⟩
theorem Hw(i:Nat)(s:aO)(w0:World)(J:Heap)
 (d:Var 223 J i [s.v,.int .i64 0,.int .i64 0]):
 aG Tryz.prog w0 104 #[.pointer (some ⟨i,0,none⟩)] J (fun r k=>r= .tuple #[s.v,.int .i64 0]∧aq J k):=by
 refine aG.aN [.pointer (some ⟨i,0,none⟩)] Tryz.func104 ?_;intro B A;have x:aq J J:=W.refl _ _;refine G.L (fun n=>?_);refine o.aP 2 ?_;refine n (G.t1 (fun q=>G.L (fun ac=>?_)));refine o.az 2 ?_;refine o.v1 (Y.an d.O rfl l4 rfl l2) ?_;refine o.v1 (Y.an d.O rfl kU rfl q3) ?_;refine o.v1 (au (d.O.drop 2) pN) ?_;refine o.v1 da (o.nil (ac ?_));refine aW (fun j=>?_) (fun j=>?_)
 ·
  exact absurd rfl j
 ·
  refine G.skip (q (G.L (fun ad=>?_)));refine o.az 2 ?_;refine o.v1 (Y.an d.O rfl l4 rfl l2) ?_;refine o.v1 (Y.an d.O rfl kU rfl c8) ?_;refine o.v1 (au d.O eI) ?_;refine o.aP 2 ?_;refine ad ?_;refine G.ret (A ?_);exact⟨rfl,x⟩
theorem HL(C k:Nat)(s:aO)(xs:List UInt8)(x:c5)(F:Nat→Prop)(w0:World)(J:Heap)
 (A:Var 223 J C [s.v,.int .i64 0,.int .i64 0]) (d:aU k 5 J a6 1 s.v xs) (ak:af (C+1) k) (eM:xs.length≤274877906944) (B:Rd F J dF 33 x.cf.v x.ba) (R:bk F J.size) (f1:ax F (C+1)) (f2:ax F k) (aN:0≤x.k∧x.k≤255) (dp:x.k≠0→n6 x):
 aG Tryz.prog w0 103 #[.pointer (some ⟨C,0,none⟩),gu x] J (fun r aa=>∃s2:aO,∃a7:Nat,r= .tuple #[]∧(Var 223 aa C [s2.v,.int .i64 0,.int .i64 0])∧(aU a7 5 aa a6 1 s2.v (xs++j0 x))∧(U k J.size a7)∧(af (C+1) a7)∧W (aB [(C+1),k]) J aa):=by
 refine aG.enter (args:=[.pointer (some ⟨C,0,none⟩),gu x]) Tryz.func103 rfl rfl rfl ?_;intro dt bQ;have q:W (aB [(C+1),k]) J J:=W.refl _ _;have K:=U.refl (C+1) J.size;have cg:=A.lt;have bz:=U.refl k J.size;have E:=d.le;have eL:=B.len;refine G.L (fun cl=>?_);refine o.aS cY ?_;rintro v3 aL ⟨rfl,j,Q,ev,cm⟩;have dx:aL.size=J.size+1:=by rw[cm];simp
 have ap:af (C+1) (J.size+1):=af.new A.lt;have bA:af k (J.size+1):=af.new d.le;have A:=A.N Q;have d:=d.N Q;have B:=B.N Q;have q:=q.a8 Q;have ew:=Q.size;have j:Var 29 aL J.size (eC x):=j;refine o.nil (cl (G.L (fun cp=>?_)));refine o.aa ?_;refine o.v1 (Y.an j.O rfl bN rfl b6) ?_;refine o.v1 (Y.cast (v2:= .int .i64 ((x.k).toNat:Nat)) (au j.O cE) (fh (by omega))) ?_;refine o.v1 (Y.hq rfl gk gV rfl) ?_;refine aV kz (kV _ _ _ _ 1 _ w0 _ A d (ak) (by decide) (by omega)) (fun ey cs cq=>?_);have cr:=j.lt;obtain⟨ct,a5,rfl,A,d,an,bO,S⟩:=cq;have bB:=ax.app (f2) (R.mono q.size) an;have aM:af (J.size+1) a5:=af.app (bA.symm) cr an;have ar:U k J.size a5:=U.L (bz) an q.size;have B:=B.ae S (ay.cons f1 (ay.I f2));have j:=j.ae S (ag.cons ap.symm (ag.I bA.symm));have q:=q.aL S (ah.cons (ao.r K) (ah.I (ao.r bz)));have ez:=S.size;have E:=d.le;refine o.nil (cp (G.t2 (fun cu cv=>G.L (fun cx=>?_))));refine o.v1 (Y.an j.O rfl bN rfl b6) ?_;refine o.v1 (au j.O cE) ?_;refine o.v1 cb (o.nil (cx ?_));refine aW (fun cy=>?_) (fun cy=>?_)
 ·
  have a2:x.k=0:=by omega
  refine G.ret (cv (bQ .ret (.inr rfl) _ _ _ (iG rfl) ?_));exact⟨ct,a5,rfl,A,by rw[tC a2];exact d,ar,(bO),q⟩
 ·
  have a2:x.k≠0:=by omega
  have he:=dp a2;have eF:=he.br;have eG:=he.ba;have eH:=he.dn;have eI:=he.md;refine G.skip (cu (G.L (fun cz=>?_)));refine o.aa ?_;refine o.v1 (Y.an j.O rfl bN rfl bV) ?_;refine o.v1 (au (j.O.drop 1) bR) ?_;refine aV oB (pD _ _ _ _ 1 x.br w0 _ A d (bO) (by simp only[List.length_append,dI,ha,x.cc.2,x.bw.2];omega) (by decide) (by omega)) (fun cZ eA cA=>?_);have bW:=j.lt;obtain⟨eB,bE,rfl,A,d,az,db,T⟩:=cA;have aP:=ax.app (bB) (R.mono q.size) az;have aQ:af (J.size+1) bE:=af.app (aM) bW az;have aS:U k J.size bE:=U.L (ar) az q.size;have B:=B.ae T (ay.cons f1 (ay.I bB));have j:=j.ae T (ag.cons ap.symm (ag.I aM));have q:=q.aL T (ah.cons (ao.r K) (ah.I (ao.r ar)));have eD:=T.size;have E:=d.le;refine o.nil (cz (G.L (fun cB=>?_)));refine o.aa ?_;refine o.v1 (Y.an j.O rfl bN rfl bd) ?_;refine o.v1 (Y.cast (v2:=bs x.cc) (a_ ((j.O.drop 2).take 32) cj bd (by rw[jJ];exact bC _)) (cn (jJ _))) ?_;refine aV nf (n1 _ _ _ _ x.cc w0 _ A d (db) (by simp only[List.length_append,dI,ha,x.cc.2,x.bw.2];omega)) (fun eE dG cC=>?_);have bX:=j.lt;obtain⟨dH,bF,rfl,A,d,aC,dc,aw⟩:=cC;have aT:=ax.app (aP) (R.mono q.size) aC;have aX:af (J.size+1) bF:=af.app (aQ) bX aC;have aZ:U k J.size bF:=U.L (aS) aC q.size;have B:=B.ae aw (ay.cons f1 (ay.I aP));have j:=j.ae aw (ag.cons ap.symm (ag.I aQ));have q:=q.aL aw (ah.cons (ao.r K) (ah.I (ao.r aS)));have dK:=aw.size;have E:=d.le;refine o.nil (cB (G.L (fun cD=>?_)));refine o.aa ?_;refine o.v1 (Y.an j.O rfl bN rfl bd) ?_;refine o.v1 (Y.cast (v2:=bs x.bw) (a_ ((j.O.drop 34).take 32) cj bd (by rw[jI];exact bC _)) (cn (jI _))) ?_;refine aV nf (n1 _ _ _ _ x.bw w0 _ A d (dc) (by simp only[List.length_append,dI,ha,x.cc.2,x.bw.2];omega)) (fun dL dM b1=>?_);have bY:=j.lt;obtain⟨dN,bJ,rfl,A,d,aH,de,am⟩:=b1;have a1:=ax.app (aT) (R.mono q.size) aH;have a8:af (J.size+1) bJ:=af.app (aX) bY aH;have ba:U k J.size bJ:=U.L (aZ) aH q.size;have B:=B.ae am (ay.cons f1 (ay.I aT));have j:=j.ae am (ag.cons ap.symm (ag.I aX));have q:=q.aL am (ah.cons (ao.r K) (ah.I (ao.r aZ)));have dO:=am.size;have E:=d.le;refine o.nil (cD (G.L (fun b2=>?_)));refine o.aa ?_;refine o.v1 (Y.an j.O rfl bN rfl e4) ?_;refine o.v1 (au j.O.gr fU) ?_;refine o.v1 (bf B fZ) ?_;refine o.v1 (Y.hq rfl gk gV rfl) ?_;refine aV kz (kV _ _ _ _ 2 _ w0 _ A d (de) (by decide) (by simp only[List.length_append,dI,ha,x.cc.2,x.bw.2];omega)) (fun dP O b3=>?_);have a9:=j.lt;obtain⟨b7,N,rfl,A,d,aI,df,al⟩:=b3;have bZ:=ax.app (a1) (R.mono q.size) aI;have bb:af (J.size+1) N:=af.app (a8) a9 aI;have bc:U k J.size N:=U.L (ba) aI q.size;have B:=B.ae al (ay.cons f1 (ay.I a1));have j:=j.ae al (ag.cons ap.symm (ag.I a8));have q:=q.aL al (ah.cons (ao.r K) (ah.I (ao.r ba)));have dQ:=al.size;have E:=d.le;refine o.nil (b2 (G.t1 (fun b8=>G.L (fun cG=>?_))));refine o.v1 (Y.an j.O rfl bN rfl e4) ?_;refine o.v1 (au j.O.gr fU) ?_;refine o.v1 (bf B fZ) ?_;refine o.aa (o.nil (cG ?_));refine G.aD (fun _ cH _=>?_)
  refine G.bc (fun(dr:(Nat)×(aO)×(Nat)×(List UInt8))=>match dr with|(i,s1,L,ys)=>[(0,.pointer (some ⟨C,0,none⟩)),(3,.pointer (some ⟨J.size,0,none⟩)),(33,x.cf.v),(34,.int .i64 x.ba.length),(35,.int .i64 i)])
   (fun(i,s1,L,ys) (H:Heap)=>(i≤x.ba.length)∧(Var 223 H C [s1.v,.int .i64 0,.int .i64 0])∧(aU L 5 H a6 1 s1.v ys)∧(ys=xs++cd 1 (UInt64.ofNat x.k.toNat)++fF 1 x.br++x.cc.1++x.bw.1++cd 2 (UInt64.ofNat x.ba.length)++(x.ba.take i).flatMap j1)∧(U N O.size L)∧(af (C+1) L)∧W (aB [(C+1),N]) O H)
   (fun(i,s1,L,ys)=>x.ba.length-i) (0,b7,N,xs++cd 1 (UInt64.ofNat x.k.toNat)++fF 1 x.br++x.cc.1++x.bw.1++cd 2 (UInt64.ofNat x.ba.length)) ⟨rfl,rfl,rfl,rfl,rfl,trivial⟩ ?_ ?_
  ·
   exact⟨(by omega),A,d,(by simp),U.refl _ _,df,W.refl _ _⟩
  rintro⟨i,s1,L,ys⟩ a3 b9 dS cI bT;obtain⟨eK,A,d,Z,ai,b0,ac⟩:=b9;have bg:af (J.size+1) L:=af.app (bb) j.lt ai;have bl:U k J.size L:=U.L (bc) ai q.size;have B:=B.ae ac (ay.cons f1 (ay.I bZ));have j:=j.ae ac (ag.cons ap.symm (ag.I bb));have q:=q.aL ac (ah.cons (ao.r K) (ah.I (ao.r bc)));have dT:=ac.size;have E:=d.le;have bm:=b0;have bx:=U.refl (C+1) O.size;have bn:=ai;have eN:ys.length≤xs.length+3000000:=by have dq:=mA (f:=j1) (n:=33) (l:=x.ba.take i) (fun x _=>by rw[rb];omega);rw[List.length_take]at dq;rw[Z];simp only[List.length_append,dI,ha,x.cc.2,x.bw.2];omega
  refine G.L (fun be=>?_);refine o.v1 bH (o.nil (be ?_));refine G.t2 (fun b5 cJ=>?_);refine aW (fun ca=>?_) (fun ca=>?_)
  ·
   refine G.skip (b5 (G.t1 (fun cK=>G.aD (fun bi _ _=>G.L (fun cL=>?_)))));have bP:i<x.ba.length:=by omega
   obtain⟨t,aK⟩:∃t,t=x.ba[i]:=⟨_,rfl⟩;have eJ:=he.dd t (by rw[aK];exact List.getElem_mem bP);refine o.b1 (Y.bU B (i) rfl fZ hQ rfl rfl) fun du aD=>?_;refine o.v1 (Y.cast (v2:= .agg (dF t).toArray) (a_ aD.O oo hQ (ix _)) (by rw[aK])) ?_;refine o.aS (dk t_) ?_;rintro v5 bU ⟨rfl,M,a4,dU,cc⟩;have dw:bU.size=a3.size+1:=by rw[cc];simp
   have bo:af L (a3.size+1):=af.new d.le;have bp:af (C+1) (a3.size+1):=af.new A.lt;have cO:U 0 O.size (a3.size+1):=U.new ac.size;have d:=d.N a4;have A:=A.N a4;have ac:=ac.a8 a4;have dV:=a4.size;refine o.s1 (eh M (_) (dF t) (nu t) hQ (ix _) ((dJ (ix _).symm))) fun dy cP=>?_;obtain⟨M,P⟩:=cP;have P:=P.bB;have d:=d.ae P (ag.I bo);have A:=A.ae P (ag.I bp);have ac:=ac.aL P (ah.I (ao.q cO));have dW:=P.size;refine o.nil (cL (G.L (fun cQ=>?_)));refine o.aa ?_;refine o.v1 (Y.an M.O rfl jt rfl b6) ?_;refine o.v1 (Y.cast (v2:= .int .i64 ((t.d).toNat:Nat)) (au M.O cE) (fh (by omega))) ?_;refine o.v1 (Y.hq rfl gk gV rfl) ?_;refine aV kz (kV _ _ _ _ 1 _ w0 _ A d (bm) (by decide) (by omega)) (fun dX dY c3=>?_);obtain⟨dZ,c6,rfl,A,d,cR,dg,aJ⟩:=c3;have bq:U N O.size c6:=U.L (bn) cR ac.size;have M:=M.ae aJ (ag.cons bp.symm (ag.I bo.symm));have ac:=ac.aL aJ (ah.cons (ao.r bx) (ah.I (ao.r bn)));have ep:=aJ.size;have E:=d.le;refine o.nil (cQ (G.region ?_));refine o.aa ?_;refine o.v1 (Y.an M.O rfl jt rfl bd) ?_;refine o.v1 (Y.cast (v2:=bs t.i) (a_ ((M.O.drop 1).take 32) cj bd (by rw[kD];exact bC _)) (cn (kD _))) ?_;refine aV nf (n1 _ _ _ _ t.i w0 _ A d (dg) (by rw[List.length_append,dI];omega)) (fun ea ed c7=>?_);obtain⟨ce,bK,rfl,A,d,cS,dh,bt⟩:=c7;have cV:U N O.size bK:=U.L (bq) cS ac.size;have ac:=ac.aL bt (ah.cons (ao.r bx) (ah.I (ao.r bq)));have er:=bt.size;have E:=d.le;refine o.nil (bi (cK (G.region ?_)));refine o.v1 bD ?_;refine o.aa (o.nil ?_);refine aR.sub (cI (i+1,ce,bK,ys++cd 1 (UInt64.ofNat t.d.toNat)++t.i.1) _ ?_ ?_) ⟨rfl,rfl,rfl,(aF (by omega)),(aF (by omega)),trivial⟩
   ·exact⟨(by omega),A,d,(by rw[nz bP,←aK,Z,j1];simp only[List.append_assoc]),cV,dh,ac⟩
   ·first|omega|(simp only;omega)|(simp;omega)
  ·
   obtain rfl:i=x.ba.length:=by omega
   rw[List.take_length]at Z;refine G.exit (cJ (bT (cH ?_)));refine b8 (G.L (fun cW=>?_));refine o.aa ?_;refine o.v1 (Y.an j.O rfl bN rfl b6) ?_;refine o.v1 (Y.cast (v2:= .int .i64 ((x.dn).toNat:Nat)) (au j.O.js cE) (fh (by omega))) ?_;refine o.v1 (Y.hq rfl gk gV rfl) ?_;refine aV kz (kV _ _ _ _ 2 _ w0 _ A d (bm) (by decide) (by omega)) (fun ee ef c8=>?_);have cX:=j.lt;obtain⟨eg,bL,rfl,A,d,bu,di,ab⟩:=c8;have c0:af (J.size+1) bL:=af.app (bg) cX bu;have bw:U k J.size bL:=U.L (bl) bu q.size;have j:=j.ae ab (ag.cons ap.symm (ag.I bg));have q:=q.aL ab (ah.cons (ao.r K) (ah.I (ao.r bl)));have dR:=ab.size;have E:=d.le;refine o.nil (cW (G.L (fun bv=>?_)));refine o.aa ?_;refine o.v1 (Y.an j.O rfl bN rfl b6) ?_;refine o.v1 (Y.cast (v2:= .int .i64 ((x.md).toNat:Nat)) (au j.O.lu cE) (fh (by omega))) ?_;refine o.v1 (Y.hq rfl gk gV rfl) ?_;refine aV kz (kV _ _ _ _ 2 _ w0 _ A d (di) (by decide) (by rw[List.length_append,dI];omega)) (fun ei ej ci=>?_);obtain⟨ek,c9,rfl,A,d,c1,dj,ae⟩:=ci;have a0:U k J.size c9:=U.L (bw) c1 q.size;have j:=j.ae ae (ag.cons ap.symm (ag.I c0));have q:=q.aL ae (ah.cons (ao.r K) (ah.I (ao.r bw)));have et:=ae.size;have E:=d.le;refine o.nil (bv (G.region ?_));refine o.aa ?_;refine o.v1 (Y.an j.O rfl bN rfl dz) ?_;refine o.v1 (au j.O.nX ec) ?_;refine aV rU (tL x.st 1 w0 _) (fun eo dA c_=>?_);obtain⟨rfl,X⟩:=c_;have d:=d.N X;have A:=A.N X;have q:=q.a8 X;have eu:=X.size;refine aV kz (kV _ _ _ _ 1 _ w0 _ A d (dj) (by decide) (by simp only[List.length_append,dI];omega)) (fun dB dC da=>?_);obtain⟨co,bM,rfl,A,d,c2,dm,cf⟩:=da;have ck:U k J.size bM:=U.L (a0) c2 q.size;have q:=q.aL cf (ah.cons (ao.r K) (ah.I (ao.r a0)));refine o.nil ?_;refine bQ .normal (.inl rfl) _ _ _ (iG rfl) ?_;exact⟨co,bM,rfl,A,by rw[tD a2];rw[Z]at d;simpa only[List.append_assoc]using d,ck,(dm),q⟩
end fI

namespace fJ
open E Go.RowKit eY fm fw fA ez eZ e0 fI dm
set_option maxRecDepth 100000 in
theorem Dp:c3 Tryz.prog 83 3 1 8:=⟨Tryz.underlying83,_,_,rfl,rfl,rfl,rfl,rfl⟩
def iX(t:bP):List UInt8:=cd 1 (qo t)++(if t.bz=true then fF 1 t.ak else[])
theorem pe{t:bP}(h:kX t):(iX t).length≤257:=by
 unfold iX;rw[List.length_append,dI];split
 ·rename_i d;rw[ha];have:=h.ak d;omega
 ·simp
def iV(t:bP):List UInt8:=iX t++cd 2 (UInt64.ofNat t.ml.length)++t.ml.flatMap iD++(if t.aj=true then j0 t.q else[])
theorem sP{t:bP}(h:kX t)(i:Nat):((t.ml.take i).flatMap iD).length≤66000*i:=by
 have j:=mA (f:=iD) (n:=66000) (l:=t.ml.take i) (fun x d=>by rw[nM];have:=h.iW x (List.mem_of_mem_take d);omega);have V:(t.ml.take i).length≤i:=by rw[List.length_take];exact Nat.min_le_left _ _
 have k:66000*(t.ml.take i).length≤66000*i:=Nat.mul_le_mul_left _ V;omega
theorem vI{t:bP}(h:kX t)(i:Nat):((t.el.take i).flatMap iC).length≤66000*i:=by
 have j:=mA (f:=iC) (n:=66000) (l:=t.el.take i) (fun x d=>by rw[xc];have:=h.md x (List.mem_of_mem_take d);omega);have V:(t.el.take i).length≤i:=by rw[List.length_take];exact Nat.min_le_left _ _
 have k:66000*(t.el.take i).length≤66000*i:=Nat.mul_le_mul_left _ V;omega
theorem qH{t:bP}(h:kX t):(iV t).length≤4400000000:=by
 have j:=pe h;have V:=sP h t.ml.length;rw[List.take_length]at V;have k:=h.ml;unfold iV;simp only[List.length_append,dI];split
 ·rename_i i
  by_cases d:t.q.k=0
  ·rw[tC d,dI];omega
  ·have:=GL (h.jZ i d);omega
 ·rw[List.length_nil];omega
theorem vL(t:bP):e2 t=iV t++cd 2 (UInt64.ofNat t.el.length)++t.el.flatMap iC:=by unfold e2 iV iX;simp only[List.append_assoc]
section
variable {H : Heap} {ad : Addr}
theorem _root_.Go.Proofs.YtfjmpninmdjcaaaGreatDoor.E.b8.rh{x:bP}(h:b8 H ad (dB x)):b8 H (ad.add 4) (eC x.q++[x.b9.v]):=h.drop 4
theorem _root_.Go.Proofs.YtfjmpninmdjcaaaGreatDoor.E.b8.pw{x:bP}(h:b8 H ad (dB x)):b8 H ((ad.add 4).add 0) (eC x.q++[x.b9.v]):=h.rh.drop 0
end
theorem Ac(x:bP)(w0:World)(J:Heap)
 :
 aG Tryz.prog w0 141 #[ep x] J (fun r B=>r= .tuple #[gu x.q,.bool (x.aj&&decide (x.q.k≠0))]∧aq J B):=by
 refine aG.enter (args:=[ep x]) Tryz.func141 rfl rfl rfl ?_;intro Q N;have A:aq J J:=W.refl _ _;refine G.L (fun O=>?_);refine o.aS cY ?_;rintro v1 H1 ⟨rfl,n,K,R,aw⟩;have am:H1.size=J.size+1:=by rw[aw];simp
 have A:=A.L K;have S:=K.size;have n:Var 32 H1 J.size (dB x):=n;refine o.aS (dk zq) ?_;rintro v2 B ⟨rfl,E,H,X,P⟩;have ap:B.size=H1.size+1:=by rw[P];simp
 have C:af (J.size+1) (H1.size+1):=af.new n.lt;have L:U 0 J.size (H1.size+1):=U.new A.size;have n:=n.N H;have A:=A.L H;have Z:=H.size;refine o.al ?_;refine O (G.t1 (fun M=>?_));refine dg (fun k=>W (aB [(H1.size+1)]) B k) [] ?_;have i:W (aB [(H1.size+1)]) B B:=W.refl _ _;have F:=U.refl (H1.size+1) B.size;refine T.t1 0 rfl (fun k j=>Y.fieldAddr (n.ae j (ag.I C)).O rfl bt rfl rfl dY (by decide) rfl) i ?_;refine T.t1 1 rfl (fun k j=>Y.cast (v2:=gu x.q) (a_ (((n.ae j (ag.I C)).O.drop 4).take 70) j9 dY (by rw[jK];exact fz _)) (cn (jK x))) i ?_;refine T.t1 2 rfl (fun k j=>Y.fieldAddr (n.ae j (ag.I C)).O rfl bt rfl rfl dz (by decide) rfl) i ?_;refine T.t1 3 rfl (fun k j=>au ((n.ae j (ag.I C)).O.drop 3) ec) i ?_;refine T.aa 4 rfl i ?_;refine T.split (d:=8) rfl (fun g8=>?_) (fun g8=>?_)
 ·
  refine T.b0 5 rfl (fun k j=>Y.fieldAddr (n.ae j (ag.I C)).O rfl bt rfl rfl dY (by decide) rfl) bo i ?_;refine T.b0 6 rfl (fun k j=>Y.fieldAddr ((n.ae j (ag.I C)).O.drop 4) rfl bN rfl rfl b6 (by decide) rfl) bo i ?_;refine T.b0 7 rfl (fun k j=>Y.fM (n.ae j (ag.I C)).O.pw rfl cE rfl) bo i ?_;refine T.b0 8 rfl (fun k j=>da) bo i ?_;refine T.t1 9 rfl (fun k j=>eS) i ?_;refine T.aX 10 ?_;refine gW rfl (eh E (_) (eC x.q) (my x.q) dY (fz _) ((dJ (fz _).symm))) (fun ac ad=>?_);obtain⟨E,q⟩:=ad;have q:=q.bB;have A:=A.bx q (ah.I (ao.q L));have i:=i.aL q (ah.I (ao.r F));have aa:=q.size;refine T.bZ i (ah.I (ao.r F)) ?_;have i:W (aB [(H1.size+1)]) ac ac:=W.refl _ _;refine T.t1 11 rfl (fun k j=>e5) i ?_;refine cI ?_;refine M ?_;refine G.ret (N .ret (.inr rfl) _ _ _ (x7 rfl rfl E.O j9 dY (fz _) rfl) ?_);exact⟨by first|(rw[show x.aj=true by assumption];rfl)|(rw[show x.aj=false by simp_all];rfl),A⟩
 ·
  refine T.g1 5 rfl rfl rfl rfl i ?_;refine T.g1 6 rfl rfl rfl rfl i ?_;refine T.g1 7 rfl rfl rfl rfl i ?_;refine T.g1 8 rfl rfl rfl rfl i ?_;refine T.t1 9 rfl (fun k j=>er) i ?_;refine T.aX 10 ?_;refine gW rfl (eh E (_) (eC x.q) (my x.q) dY (fz _) ((dJ (fz _).symm))) (fun ac ad=>?_);obtain⟨E,q⟩:=ad;have q:=q.bB;have A:=A.bx q (ah.I (ao.q L));have i:=i.aL q (ah.I (ao.r F));have ab:=q.size;refine T.bZ i (ah.I (ao.r F)) ?_;have i:W (aB [(H1.size+1)]) ac ac:=W.refl _ _;refine T.t1 11 rfl (fun k j=>e5) i ?_;refine cI ?_;refine M ?_;refine G.ret (N .ret (.inr rfl) _ _ _ (x7 rfl rfl E.O j9 dY (fz _) rfl) ?_);exact⟨by first|(rw[show x.aj=true by assumption];rfl)|(rw[show x.aj=false by simp_all];rfl),A⟩
theorem HK(x:bP)(w0:World)(J:Heap)
 (hm:bM J db 66 x.cN.v x.ml) (E:bM J dF 33 x.q.cf.v x.q.ba) (he:bM J bQ 33 x.b9.v x.el) (ak:∀y∈x.el,bM J a6 1 y.v.v y.d) (Z:kX x):
 aG Tryz.prog w0 98 #[ep x] J (fun r cz=>r= .int .i64 0∧aq J cz):=by
 refine aG.aN [ep x] Tryz.func98 ?_;intro ga cx;have B:aq J J:=W.refl _ _;have hm:=hm.b2;have dN:=hm.b5;have E:=E.b2;have dP:=E.b5;have he:=he.b2;have dQ:=he.b5;have ak:=fun y L=>(ak y L).b2;have a2:bk (fun b=>True∧b<J.size) J.size:=fun b h=>h.2;have hL:=hm.len;have hK:=E.len;have hI:=he.len;have aN:=Z.ml;have gD:=Z.el;obtain⟨aH,cu⟩:∃b,b=(x.aj&&decide (x.q.k≠0)):=⟨_,rfl⟩;have bY:aH=true→x.aj=true∧x.q.k≠0:=fun h=>by rw[cu,Bool.and_eq_true,decide_eq_true_eq]at h;exact h
 refine G.L (fun fL=>?_);refine o.aS cY ?_;rintro v1 H1 ⟨rfl,C,aM,gS,fM⟩;have e_:H1.size=J.size+1:=by rw[fM];simp
 have hm:=hm.N aM;have E:=E.N aM;have he:=he.N aM;have ak:=fun y L=>(ak y L).N aM;have B:=B.L aM;have gT:=aM.size;have C:Var 32 H1 J.size (dB x):=C;refine o.al ?_;refine fL (G.L (fun ds=>?_));refine o.v1 (Y.build (v:= .agg #[(.slice none 0 0),.int .i64 0,.int .i64 0]) rfl rfl (by intro w;kernel_rfl)) ?_;refine o.aS cY fun gU du fN=>?_;obtain⟨rfl,K,an,gx,dr⟩:=fN;have gb:du.size=H1.size+1:=by rw[dr];simp
 have hm:=hm.N an;have E:=E.N an;have he:=he.N an;have ak:=fun y L=>(ak y L).N an;have C:=C.N an;have B:=B.L an;have gV:=an.size;have K:Var 213 du H1.size ([(.slice none 0 0),.int .i64 0,.int .i64 0]):=K;refine o.al ?_;refine ds (G.L (fun fO=>?_));refine o.v1 (a_ C.O gz fj (dX _)) ?_;refine aV AY (Ac x w0 _) (fun gW P fP=>?_);obtain⟨rfl,ab⟩:=fP;have hm:=hm.N ab;have E:=E.N ab;have he:=he.N ab;have ak:=fun y L=>(ak y L).N ab;have C:=C.N ab;have K:=K.N ab;have B:=B.L ab;have gX:=ab.size;rw[←cu];refine o.aa ?_;refine o.v1 cF ?_;refine o.v1 cF ?_;refine o.aS (dk zq) ?_;rintro v4 cC ⟨rfl,F,a3,gY,fQ⟩;have gy:cC.size=P.size+1:=by rw[fQ];simp
 have dt:=(ax.new (dN.mono B.size):ax _ (P.size+1));have dw:=(ax.new (dP.mono B.size):ax _ (P.size+1));have dx:=(ax.new (dQ.mono B.size):ax _ (P.size+1));have dy:=(ax.new (a2.mono B.size):ax _ (P.size+1));have dA:af (J.size+1) (P.size+1):=af.new C.lt;have dG:af (H1.size+1) (P.size+1):=af.new K.lt;have cQ:U 0 J.size (P.size+1):=U.new B.size;have hm:=hm.N a3;have E:=E.N a3;have he:=he.N a3;have ak:=fun y L=>(ak y L).N a3;have C:=C.N a3;have K:=K.N a3;have B:=B.L a3;have g_:=a3.size;refine o.s1 (eh F (_) (eC x.q) (my x.q) dY (fz _) ((dJ (fz _).symm))) fun bJ cR=>?_;obtain⟨F,R⟩:=cR;have R:=R.bB;have hm:=hm.ae R (ay.I dt);have E:=E.ae R (ay.I dw);have he:=he.ae R (ay.I dx);have ak:=fun y L=>(ak y L).ae R (ay.I dy);have C:=C.ae R (ag.I dA);have K:=K.ae R (ag.I dG);have B:=B.bx R (ah.I (ao.q cQ));have ha:=R.size;refine o.al ?_;refine fO ?_
 refine G.cut (fun(_:Unit)=>[(1,.pointer (some ⟨J.size,0,none⟩)),(3,.pointer (some ⟨H1.size,0,none⟩)),(4,.pointer (some ⟨P.size,0,none⟩)),(5,.bool aH)])
  (fun(_:Unit) (H:Heap)=>(True)∧aq bJ H) (fun _ ck _=>?_) ?_
 ·
  have aI:aq bJ bJ:=W.refl _ _;refine G.region ?_;refine o.aa ?_;refine o.v1 (Y.an C.O rfl bt rfl dO) ?_;refine o.v1 (au (C.O.drop 2) dV) ?_;refine o.v1 (bf hm c9) ?_;refine o.v1 ((eF).gD (by omega)) ?_;refine o.aa ?_;refine o.ar (Y.an C.O rfl bt rfl dT) ?_;refine o.ar (au C.O.gU eA) ?_;refine o.ar (bf he cA) ?_;refine o.ar ((eF).gD (by omega)) ?_;refine o.az 3 ?_;refine o.ar eG ?_;refine o.bJ ?_;refine o.split (d:=35) rfl (fun cl=>?_) (fun cl=>?_)
  ·
   refine o.az 4 ?_;refine o.ar eS ?_;refine o.O ?_;refine aV jF (jY _ 4 w0 _) (fun fR fm bE=>?_);obtain⟨rfl,aQ⟩:=bE;have aI:=aI.L aQ;have hb:=aQ.size;refine o.nil ?_;refine aR.sub (ck () _ ?_) ⟨rfl,rfl,rfl,rfl,trivial⟩;exact⟨trivial,aI⟩
  ·
   have k:=bY (by simpa using cl);have O:=Z.jZ k.1 k.2;have fY:=O.ba;refine o.ar (Y.an F.O rfl bN rfl e4) ?_;refine o.ar (au F.O.gr fU) ?_;refine o.ar (bf E fZ) ?_;refine o.ar ((eF).gD (by omega)) ?_;refine o.ar er ?_;refine o.O ?_;refine aV jF (jY _ 4 w0 _) (fun fR fm bE=>?_);obtain⟨rfl,aQ⟩:=bE;have aI:=aI.L aQ;have hc:=aQ.size;refine o.nil ?_;refine aR.sub (ck () _ ?_) ⟨rfl,rfl,rfl,rfl,trivial⟩;exact⟨trivial,aI⟩
 ·
  intro _ aT cO;obtain⟨bZ,S⟩:=cO;have hm:=hm.N S;have E:=E.N S;have he:=he.N S;have ak:=fun y L=>(ak y L).N S;have C:=C.N S;have K:=K.N S;have F:=F.N S;have B:=B.L S;have hd:=S.size
  refine G.cut (fun(_:Unit)=>[(1,.pointer (some ⟨J.size,0,none⟩)),(3,.pointer (some ⟨H1.size,0,none⟩)),(4,.pointer (some ⟨P.size,0,none⟩)),(5,.bool aH)])
   (fun(_:Unit) (H:Heap)=>(True)∧aq aT H) (fun _ cB _=>?_) ?_
  ·
   have ae:aq aT aT:=W.refl _ _;refine dg (fun A=>aq aT A) [] ?_;have n:=aq.refl aT;refine T.aa 0 rfl n ?_;refine T.t1 1 rfl (fun A k=>Y.an (C.O.N k) rfl bt rfl dz) n ?_;refine T.t1 2 rfl (fun A k=>au (C.O.N k) ec) n ?_;refine T.t1 3 rfl (fun A k=>eG) n ?_;refine T.aa 4 rfl n ?_;refine T.split (d:=47) rfl (fun cm=>?_) (fun cm=>?_)
   ·
    refine T.g1 5 rfl rfl rfl rfl n ?_;refine T.g1 6 rfl rfl rfl rfl n ?_;refine T.g1 7 rfl rfl rfl rfl n ?_;refine T.g1 8 rfl rfl rfl rfl n ?_;refine T.g1 9 rfl rfl rfl rfl n ?_;refine T.t1 10 rfl (fun A k=>eS) n ?_;refine T.aX 11 ?_;refine b7 jF (jY _ 5 w0 _) (fun fo bW bF=>?_);obtain⟨rfl,ar⟩:=bF;have ae:=ae.L ar;have hf:=ar.size;have bm:=n.L ar;refine T.cD bm ?_;have bn:=aq.refl bW;refine cI ?_;have O:=bn;refine aR.sub (cB () _ ?_) ⟨rfl,rfl,rfl,rfl,trivial⟩;exact⟨trivial,ae⟩
   ·
    have hJ:=Z.ak (by simpa using cm);refine T.b0 5 rfl (fun A k=>Y.an (C.O.N k) rfl bt rfl bV) bo n ?_;refine T.b0 6 rfl (fun A k=>au ((C.O.drop 1).N k) bR) bo n ?_;refine T.b0 7 rfl (fun A k=>fu dC) bo n ?_;refine T.aX 8 ?_;refine dM.call rfl rfl lP rfl bo rfl rfl (o2 w0 _) (fun hg eg fp=>?_);obtain⟨rfl,bT⟩:=fp;have ae:=ae.L bT;have gf:=bT.size;have dS:=n.L bT;refine T.cD dS ?_;have bp:=aq.refl eg;refine T.b0 9 rfl (fun A k=>(eF).gD (by omega)) bo bp ?_;refine T.t1 10 rfl (fun A k=>er) bp ?_;refine T.aX 11 ?_;refine b7 jF (jY _ 5 w0 _) (fun fo bW bF=>?_);obtain⟨rfl,ar⟩:=bF;have ae:=ae.L ar;have gg:=ar.size;have bm:=bp.L ar;refine T.cD bm ?_;have bn:=aq.refl bW;refine cI ?_;have O:=bn;refine aR.sub (cB () _ ?_) ⟨rfl,rfl,rfl,rfl,trivial⟩;exact⟨trivial,ae⟩
  ·
   intro _ b3 cP;obtain⟨bZ,X⟩:=cP;have hm:=hm.N X;have E:=E.N X;have he:=he.N X;have ak:=fun y L=>(ak y L).N X;have C:=C.N X;have K:=K.N X;have F:=F.N X;have B:=B.L X;have gi:=X.size;refine G.t1 (fun fq=>G.L (fun fw=>?_));refine o.v1 (Y.an C.O rfl bt rfl dO) ?_;refine o.v1 (au (C.O.drop 2) dV) ?_;refine o.v1 (bf hm c9) ?_;refine o.aa (o.nil (fw ?_));refine G.aD (fun _ fx _=>?_)
   refine G.bc (fun(i:(Nat))=>[(1,.pointer (some ⟨J.size,0,none⟩)),(3,.pointer (some ⟨H1.size,0,none⟩)),(4,.pointer (some ⟨P.size,0,none⟩)),(5,.bool aH),(56,x.cN.v),(57,.int .i64 (x.ml.length:Int)),(58,.int .i64 i)])
    (fun(i:(Nat)) (H:Heap)=>(i≤x.ml.length)∧aq b3 H)
    (fun(i:(Nat))=>x.ml.length-i) 0 ⟨rfl,rfl,rfl,rfl,rfl,rfl,rfl,trivial⟩ ?_ ?_
   ·
    exact⟨(by omega),W.refl _ _⟩
   intro i a8 fy f_ fA fB;obtain⟨bX,M⟩:=fy;have hm:=hm.N M;have E:=E.N M;have he:=he.N M;have ak:=fun y L=>(ak y L).N M;have C:=C.N M;have K:=K.N M;have F:=F.N M;have B:=B.L M;have gj:=M.size;refine G.L (fun cV=>?_);refine o.v1 bH (o.nil (cV ?_));refine G.t2 (fun cW cX=>?_);refine aW (fun fC=>?_) (fun fC=>?_)
   ·
    refine G.skip (cW (G.t1 (fun c0=>G.aD (fun c1 _ _=>G.L (fun c2=>?_)))));have aC:i<x.ml.length:=by omega
    obtain⟨y,ai⟩:∃q,q=x.ml[i]:=⟨_,rfl⟩;have aO:y∈x.ml:=by rw[ai];exact List.getElem_mem aC
    have hM:=Z.iW y aO;refine o.b1 (Y.bU hm (i) rfl c9 dp rfl rfl) fun gk dH=>?_;refine o.v1 (Y.cast (v2:= .agg (db y).toArray) (a_ dH.O ji dp (fc _)) (by rw[ai])) ?_;refine o.aS (dk l9) ?_;rintro hR cD ⟨rfl,al,cn,hh,fD⟩;have gl:cD.size=a8.size+1:=by rw[fD];simp
    have eY:U 0 b3.size (a8.size+1):=U.new M.size;have M:=M.L cn;have gm:=cn.size;refine o.s1 (eh al (_) (db y) (kC y) dp (fc _) ((dJ (fc _).symm))) fun cj eZ=>?_;obtain⟨al,aZ⟩:=eZ;have aZ:=aZ.bB;have M:=M.bx aZ (ah.I (ao.q eY));have gn:=aZ.size;refine o.nil (c2 ?_);refine dg (fun A=>aq cj A) [] ?_;have n:=aq.refl cj;refine T.aa 0 rfl n ?_;refine T.t1 1 rfl (fun A k=>Y.an (al.O.N k) rfl cv rfl bV) n ?_;refine T.t1 2 rfl (fun A k=>au (al.O.N k) bR) n ?_;refine T.t1 3 rfl (fun A k=>fu dC) n ?_;refine T.aX 4 ?_;refine b7 lP (o2 w0 _) (fun hi fI fE=>?_);obtain⟨rfl,a0⟩:=fE;have al:=al.N a0;have M:=M.L a0;have gp:=a0.size;have bv:=n.L a0;refine T.cD bv ?_;have aK:=aq.refl fI;refine T.t1 5 rfl (fun A k=>(eF).gD (by omega)) aK ?_;refine T.aa 6 rfl aK ?_;refine T.b0 7 rfl (fun A k=>Y.an (al.O.N k) rfl cv rfl bV) bo aK ?_;refine T.b0 8 rfl (fun A k=>au (al.O.nL.N k) bR) bo aK ?_;refine T.b0 9 rfl (fun A k=>fu dC) bo aK ?_;refine T.aX 10 ?_;refine dM.call rfl rfl lP rfl bo rfl rfl (wZ w0 _) (fun hj bj fF=>?_);obtain⟨rfl,be⟩:=fF;have M:=M.L be;have gr:=be.size;have dU:=aK.L be;refine T.cD dU ?_;have bq:=aq.refl bj;refine T.b0 11 rfl (fun A k=>(eF).gD (by omega)) bo bq ?_;refine T.t1 12 rfl (fun A k=>eS) bq ?_;refine T.aX 13 ?_;refine b7 jF (jY _ 5 w0 _) (fun hk dW fG=>?_);obtain⟨rfl,bK⟩:=fG;have M:=M.L bK;have gu:=bK.size;have dZ:=bq.L bK;refine T.cD dZ ?_;have ea:=aq.refl dW;refine cI ?_;have O:=ea;refine c1 (c0 (G.region ?_));refine o.v1 bD ?_;refine o.aa (o.nil ?_);refine aR.sub (fA (i+1) _ ?_ ?_) ⟨rfl,rfl,rfl,rfl,rfl,(aF (by omega)),(aF (by omega)),trivial⟩
    ·exact⟨(by omega),M⟩
    ·first|omega|(simp only;omega)|(simp;omega)
   ·
    refine G.exit (cX (fB (fx ?_)));refine fq (G.t1 (fun e0=>G.L (fun e1=>?_)));refine o.v1 (Y.an C.O rfl bt rfl dT) ?_;refine o.v1 (au C.O.gU eA) ?_;refine o.v1 (bf he cA) ?_;refine o.aa (o.nil (e1 ?_));refine G.aD (fun _ ce _=>?_)
    refine G.bc (fun(i:(Nat))=>[(1,.pointer (some ⟨J.size,0,none⟩)),(3,.pointer (some ⟨H1.size,0,none⟩)),(4,.pointer (some ⟨P.size,0,none⟩)),(5,.bool aH),(78,x.b9.v),(79,.int .i64 (x.el.length:Int)),(80,.int .i64 i)])
     (fun(i:(Nat)) (H:Heap)=>(i≤x.el.length)∧aq a8 H)
     (fun(i:(Nat))=>x.el.length-i) 0 ⟨rfl,rfl,rfl,rfl,rfl,rfl,rfl,trivial⟩ ?_ ?_
    ·
     exact⟨(by omega),W.refl _ _⟩
    intro i a4 fH hl e2 e3;obtain⟨bX,N⟩:=fH;have hm:=hm.N N;have E:=E.N N;have he:=he.N N;have ak:=fun y L=>(ak y L).N N;have C:=C.N N;have K:=K.N N;have F:=F.N N;have B:=B.L N;have d0:=N.size;refine G.L (fun dR=>?_);refine o.v1 bH (o.nil (dR ?_));refine G.t2 (fun ci e5=>?_);refine aW (fun d1=>?_) (fun d1=>?_)
    ·
     refine G.skip (ci (G.t1 (fun e6=>G.aD (fun e7 _ _=>G.L (fun e8=>?_)))));have aC:i<x.el.length:=by omega
     obtain⟨y,ai⟩:∃q,q=x.el[i]:=⟨_,rfl⟩;have aO:y∈x.el:=by rw[ai];exact List.getElem_mem aC
     have fX:=Z.md y aO;refine o.b1 (Y.bU he (i) rfl cA cr rfl rfl) fun d2 e9=>?_;refine o.v1 (Y.cast (v2:= .agg (bQ y).toArray) (a_ e9.O iu cr (di _)) (by rw[ai])) ?_;refine o.aS (dk lz) ?_;rintro v9 cG ⟨rfl,ba,co,gA,d3⟩;have d4:cG.size=a4.size+1:=by rw[d3];simp
     have fa:=(ax.new (a2.mono B.size):ax _ (a4.size+1));have fe:U 0 a8.size (a4.size+1):=U.new N.size;have ak:=fun y L=>(ak y L).N co;have N:=N.L co;have d5:=co.size;refine o.s1 (eh ba (_) (bQ y) (hr y) cr (di _) ((dJ (di _).symm))) fun a5 c3=>?_;obtain⟨ba,ap⟩:=c3;have ap:=ap.bB;have ak:=fun y L=>(ak y L).ae ap (ay.I fa);have N:=N.bx ap (ah.I (ao.q fe));have d6:=ap.size;refine o.nil (e8 ?_);refine dg (fun A=>aq a5 A) [] ?_;have n:=aq.refl a5;refine T.aa 0 rfl n ?_;refine T.t1 1 rfl (fun A k=>Y.an (ba.O.N k) rfl fr rfl c8) n ?_;refine T.t1 2 rfl (fun A k=>au (ba.O.jR.N k) eI) n ?_;refine T.t1 3 rfl (fun A k=>bf ((ak y aO).N k) dj) n ?_;refine T.aX 4 ?_;refine b7 lP (D1 w0 _) (fun gE fJ d7=>?_);obtain⟨rfl,bL⟩:=d7;have N:=N.L bL;have d8:=bL.size;have c5:=n.L bL;refine T.cD c5 ?_;have b0:=aq.refl fJ;refine T.t1 5 rfl (fun A k=>(eF).gD (by omega)) b0 ?_;refine T.aX 6 ?_;refine b7 jF (jY _ 5 w0 _) (fun gF gB d9=>?_);obtain⟨rfl,bi⟩:=d9;have N:=N.L bi;have gv:=bi.size;have c6:=b0.L bi;refine T.cD c6 ?_;have c7:=aq.refl gB;refine cI ?_;have O:=c7;refine e7 (e6 (G.region ?_));refine o.v1 bD ?_;refine o.aa (o.nil ?_);refine aR.sub (e2 (i+1) _ ?_ ?_) ⟨rfl,rfl,rfl,rfl,rfl,(aF (by omega)),(aF (by omega)),trivial⟩
     ·exact⟨(by omega),N⟩
     ·first|omega|(simp only;omega)|(simp;omega)
    ·
     refine G.exit (e5 (e3 (ce ?_)));refine e0 ?_
     refine G.cut (fun(_:Unit)=>[(1,.pointer (some ⟨J.size,0,none⟩)),(3,.pointer (some ⟨H1.size,0,none⟩)),(4,.pointer (some ⟨P.size,0,none⟩)),(5,.bool aH)])
      (fun(_:Unit) (H:Heap)=>(True)∧aq a4 H) (fun _ b8 _=>?_) ?_
     ·
      have aa:aq a4 a4:=W.refl _ _;refine dg (fun A=>aq a4 A) [] ?_;have n:=aq.refl a4;refine T.aa 0 rfl n ?_;refine T.aa 1 rfl n ?_;refine T.t1 2 rfl (fun A k=>eG) n ?_;refine T.aa 3 rfl n ?_;refine T.split (d:=95) rfl (fun cp=>?_) (fun cp=>?_)
      ·
       refine T.g1 4 rfl rfl rfl rfl n ?_;refine T.g1 5 rfl rfl rfl rfl n ?_;refine T.g1 6 rfl rfl rfl rfl n ?_;refine T.g1 7 rfl rfl rfl rfl n ?_;refine T.g1 8 rfl rfl rfl rfl n ?_;refine T.t1 9 rfl (fun A k=>eS) n ?_;refine T.aX 10 ?_;refine b7 jF (jY _ 5 w0 _) (fun ff bs bO=>?_);obtain⟨rfl,az⟩:=bO;have aa:=aa.L az;have hn:=az.size;have bb:=n.L az;refine T.cD bb ?_;have bd:=aq.refl bs;refine cI ?_;have O:=bd;refine aR.sub (b8 () _ ?_) ⟨rfl,rfl,rfl,rfl,trivial⟩;exact⟨trivial,aa⟩
      ·
       have k:=bY (by simpa using cp);have O:=Z.jZ k.1 k.2;have fY:=O.br;refine T.b0 4 rfl (fun A k=>Y.an (F.O.N k) rfl bN rfl bV) bo n ?_;refine T.b0 5 rfl (fun A k=>au ((F.O.drop 1).N k) bR) bo n ?_;refine T.b0 6 rfl (fun A k=>fu dC) bo n ?_;refine T.aX 7 ?_;refine dM.call rfl rfl lP rfl bo rfl rfl (o2 w0 _) (fun gG fK fS=>?_);obtain⟨rfl,aD⟩:=fS;have aa:=aa.L aD;have ho:=aD.size;have c_:=n.L aD;refine T.cD c_ ?_;have bu:=aq.refl fK;refine T.b0 8 rfl (fun A k=>(eF).gD (by omega)) bo bu ?_;refine T.t1 9 rfl (fun A k=>er) bu ?_;refine T.aX 10 ?_;refine b7 jF (jY _ 5 w0 _) (fun ff bs bO=>?_);obtain⟨rfl,az⟩:=bO;have aa:=aa.L az;have hp:=az.size;have bb:=bu.L az;refine T.cD bb ?_;have bd:=aq.refl bs;refine cI ?_;have O:=bd;refine aR.sub (b8 () _ ?_) ⟨rfl,rfl,rfl,rfl,trivial⟩;exact⟨trivial,aa⟩
     ·
      intro _ aS cJ;obtain⟨bZ,ac⟩:=cJ;have hm:=hm.N ac;have E:=E.N ac;have C:=C.N ac;have K:=K.N ac;have F:=F.N ac;have B:=B.L ac;have hs:=ac.size
      refine G.cut (fun(_:Unit)=>[(3,.pointer (some ⟨H1.size,0,none⟩)),(4,.pointer (some ⟨P.size,0,none⟩)),(5,.bool aH)])
       (fun(_:Unit) (H:Heap)=>(True)∧aq aS H) (fun _ b9 _=>?_) ?_
      ·
       have aw:aq aS aS:=W.refl _ _;refine dg (fun A=>aq aS A) [] ?_;have n:=aq.refl aS;refine T.aa 0 rfl n ?_;refine T.t1 1 rfl (fun A k=>Y.an (C.O.N k) rfl bt rfl dz) n ?_;refine T.t1 2 rfl (fun A k=>au ((C.O.drop 3).N k) ec) n ?_;refine T.t1 3 rfl (fun A k=>eG) n ?_;refine T.aa 4 rfl n ?_;refine T.split (d:=107) rfl (fun ca=>?_) (fun ca=>?_)
       ·
        refine T.g1 5 rfl rfl rfl rfl n ?_;refine T.g1 6 rfl rfl rfl rfl n ?_;refine T.g1 7 rfl rfl rfl rfl n ?_;refine T.g1 8 rfl rfl rfl rfl n ?_;refine T.jL 9 rfl rfl rfl rfl n ?_;refine T.jL 10 rfl rfl rfl rfl n ?_;refine T.jL 11 rfl rfl rfl rfl n ?_;refine T.jL 12 rfl rfl rfl rfl n ?_;refine T.g1 13 rfl rfl rfl rfl n ?_;refine T.t1 14 rfl (fun A k=>eS) n ?_;refine T.aX 15 ?_;refine b7 jF (jY _ 1 w0 _) (fun cs bx bU=>?_);obtain⟨rfl,aB⟩:=bU;have aw:=aw.L aB;have ht:=aB.size;have bc:=n.L aB;refine T.cD bc ?_;have bg:=aq.refl bx;refine cI ?_;have O:=bg;refine aR.sub (b9 () _ ?_) ⟨rfl,rfl,rfl,trivial⟩;exact⟨trivial,aw⟩
       ·
        have gH:=Z.kF (by simpa using ca);refine T.b0 5 rfl (fun A k=>Y.an (F.O.N k) rfl bN rfl b6) bo n ?_;refine T.b0 6 rfl (fun A k=>au (F.O.N k) cE) bo n ?_;refine T.b0 7 rfl (fun A k=>(dq).gD (by omega)) bo n ?_;refine T.b0 8 rfl (fun A k=>fl) bo n ?_;refine T.b0 9 rfl (fun A k=>Y.an (F.O.N k) rfl bN rfl b6) bo n ?_;refine T.b0 10 rfl (fun A k=>au (F.O.N k) cE) bo n ?_;refine T.aX 11 ?_;refine dM.call rfl rfl lP rfl bo rfl rfl (o2 w0 _) (fun hv da fg=>?_);obtain⟨rfl,bz⟩:=fg;have aw:=aw.L bz;have hx:=bz.size;have cH:=n.L bz;refine T.cD cH ?_;have a1:=aq.refl da;refine T.b0 12 rfl (fun A k=>(eF).gD (by omega)) bo a1 ?_;refine T.b0 13 rfl (fun A k=>eS) bo a1 ?_;refine T.t1 14 rfl (fun A k=>er) a1 ?_;refine T.aX 15 ?_;refine b7 jF (jY _ 1 w0 _) (fun cs bx bU=>?_);obtain⟨rfl,aB⟩:=bU;have aw:=aw.L aB;have hz:=aB.size;have bc:=a1.L aB;refine T.cD bc ?_;have bg:=aq.refl bx;refine cI ?_;have O:=bg;refine aR.sub (b9 () _ ?_) ⟨rfl,rfl,rfl,trivial⟩;exact⟨trivial,aw⟩
      ·
       intro _ cg cK;obtain⟨bZ,aJ⟩:=cK;have hm:=hm.N aJ;have E:=E.N aJ;have K:=K.N aJ;have F:=F.N aJ;have B:=B.L aJ;have hA:=aJ.size;refine G.t1 (fun cb=>G.L (fun bw=>?_));refine o.aa (o.nil (bw ?_));refine cL (fun cc=>?_) (fun cc=>?_)
       ·
        have k:=bY cc;have O:=Z.jZ k.1 k.2;have hN:=O.ba;have hO:=O.dn;have hP:=O.md;refine G.t1 (fun cZ=>G.L (fun fh=>?_));refine o.v1 (Y.an F.O rfl bN rfl b6) ?_;refine o.v1 (au F.O.js cE) ?_;refine o.v1 (Y.an F.O rfl bN rfl b6) ?_;refine o.v1 (au F.O.lu cE) ?_;refine o.aS (cS _ ([x.q.dn,x.q.md]) Dp kc kd (rfl)) fun fi cd fk=>?_;obtain⟨aX,aL,gw,dc⟩:=fk;have gd:cd.size=cg.size+1:=by rw[dc];simp
        have hm:=hm.N aL;have E:=E.N aL;have K:=K.N aL;have F:=F.N aL;have B:=B.L aL;have hB:=aL.size;refine o.v1 (bf aX.rd y8) ?_;refine o.aa (o.nil (fh ?_));refine G.aD (fun _ ei _=>?_)
        refine G.bc (fun(i:(Nat))=>[(3,.pointer (some ⟨H1.size,0,none⟩)),(4,.pointer (some ⟨P.size,0,none⟩)),(124,fi),(125,.int .i64 2),(126,.int .i64 i)])
         (fun(i:(Nat)) (H:Heap)=>(i≤2)∧aq cd H)
         (fun(i:(Nat))=>2-i) 0 ⟨rfl,rfl,rfl,rfl,rfl,trivial⟩ ?_ ?_
        ·
         exact⟨(by omega),W.refl _ _⟩
        intro i cq em gI ej ek;obtain⟨bX,am⟩:=em;have hm:=hm.N am;have E:=E.N am;have K:=K.N am;have F:=F.N am;have aX:=aX.N am;have B:=B.L am;have gC:=am.size;refine G.L (fun eo=>?_);refine o.v1 bH (o.nil (eo ?_));refine G.t2 (fun et eu=>?_);refine aW (fun ev=>?_) (fun ev=>?_)
        ·
         refine G.skip (et (G.t1 (fun ew=>G.aD (fun ey _ _=>G.L (fun ez=>?_)))));have aC:i<[x.q.dn,x.q.md].length:=by simp;omega
         have k:0≤[x.q.dn,x.q.md][i]∧[x.q.dn,x.q.md][i]≤65535:=by
          have hm:=List.getElem_mem aC;rcases List.mem_cons.1 hm with h|h
          ·rw[h];omega
          ·rw[List.mem_singleton.1 h];omega
         refine o.v1 (il aX (i) y8 b6 (by first|omega|(simp;omega)|(simp;done))) ?_;refine o.v1 (au (aX.O (j:=i) (by first|omega|(simp;omega)|(simp;done))) cE) ?_;refine o.al ?_;refine ez (G.region ?_);refine o.az 2 ?_;refine o.v1 ((dq).gD (by omega)) ?_;refine o.az 2 ?_;refine o.call rfl lP rfl bo rfl rfl (wZ w0 _) (fun hC b1 eB=>?_);obtain⟨rfl,b2⟩:=eB;have am:=am.L b2;have hF:=b2.size;refine o.ar ((eF).gD (by omega)) ?_;refine o.O ?_;refine aV jF (jY _ 1 w0 _) (fun es hG eD=>?_);obtain⟨rfl,a9⟩:=eD;have am:=am.L a9;have hH:=a9.size;refine o.nil (ey (ew (G.region ?_)));refine o.v1 bD ?_;refine o.aa (o.nil ?_);refine aR.sub (ej (i+1) _ ?_ ?_) ⟨rfl,rfl,rfl,(aF (by omega)),(aF (by omega)),trivial⟩
         ·exact⟨(by omega),am⟩
         ·first|omega|(simp only;omega)|(simp;omega)
        ·
         refine G.exit (eu (ek (ei ?_)));refine cZ (G.L (fun eE=>?_));refine o.v1 (Y.an F.O rfl bN rfl e4) ?_;refine o.v1 (au F.O.gr fU) ?_;refine o.v1 (bf E fZ) ?_;refine o.aa (o.nil (eE ?_));refine G.aD (fun _ eH _=>?_)
         refine G.bc (fun(i:(Nat))=>[(3,.pointer (some ⟨H1.size,0,none⟩)),(141,x.q.cf.v),(142,.int .i64 (x.q.ba.length:Int)),(143,.int .i64 i)])
          (fun(i:(Nat)) (H:Heap)=>(i≤x.q.ba.length)∧aq cq H)
          (fun(i:(Nat))=>x.q.ba.length-i) 0 ⟨rfl,rfl,rfl,rfl,trivial⟩ ?_ ?_
         ·
          exact⟨(by omega),W.refl _ _⟩
         intro i ct fT gJ eJ eK;obtain⟨bX,Q⟩:=fT;have E:=E.N Q;have K:=K.N Q;have B:=B.L Q;have ex:=Q.size;refine G.L (fun eL=>?_);refine o.v1 bH (o.nil (eL ?_));refine G.t2 (fun eM eN=>?_);refine aW (fun eP=>?_) (fun eP=>?_)
         ·
          refine G.skip (eM (G.t1 (fun eR=>G.aD (fun eT _ _=>G.L (fun eU=>?_)))));have aC:i<x.q.ba.length:=by omega
          obtain⟨y,ai⟩:∃q,q=x.q.ba[i]:=⟨_,rfl⟩;have aO:y∈x.q.ba:=by rw[ai];exact List.getElem_mem aC
          have fX:=O.dd y aO;refine o.b1 (Y.bU E (i) rfl fZ hQ rfl rfl) fun dl de=>?_;refine o.v1 (Y.cast (v2:= .agg (dF y).toArray) (a_ de.O oo hQ (ix _)) (by rw[ai])) ?_;refine o.aS (dk t_) fun gK fV fW=>?_;obtain⟨rfl,aP,cf,gL,eV⟩:=fW;have cy:fV.size=ct.size+1:=by rw[eV];simp
          have eW:U 0 cq.size (ct.size+1):=U.new Q.size;have Q:=Q.L cf;have gM:=cf.size;refine o.s1 (eh aP (_) (dF y) (nu y) hQ (ix _) ((dJ (ix _).symm))) fun b5 df=>?_;obtain⟨aP,a7⟩:=df;have a7:=a7.bB;have Q:=Q.bx a7 (ah.I (ao.q eW));have gN:=a7.size;refine o.nil (eU ?_);refine dg (fun A=>aq b5 A) [] ?_;have n:=aq.refl b5;refine T.aa 0 rfl n ?_;refine T.t1 1 rfl (fun A k=>Y.an (aP.O.N k) rfl jt rfl b6) n ?_;refine T.t1 2 rfl (fun A k=>au (aP.O.N k) cE) n ?_;refine T.t1 3 rfl (fun A k=>(dq).gD (by omega)) n ?_;refine T.aa 4 rfl n ?_;refine T.b0 5 rfl (fun A k=>Y.an (aP.O.N k) rfl jt rfl b6) bo n ?_;refine T.b0 6 rfl (fun A k=>au (aP.O.N k) cE) bo n ?_;refine T.aX 7 ?_;refine dM.call rfl rfl lP rfl bo rfl rfl (o2 w0 _) (fun gO dh eX=>?_);obtain⟨rfl,bA⟩:=eX;have Q:=Q.L bA;have gP:=bA.size;have dI:=n.L bA;refine T.cD dI ?_;have bl:=aq.refl dh;refine T.b0 8 rfl (fun A k=>(eF).gD (by omega)) bo bl ?_;refine T.t1 9 rfl (fun A k=>eS) bl ?_;refine T.aX 10 ?_;refine b7 jF (jY _ 1 w0 _) (fun gQ dm ed=>?_);obtain⟨rfl,bB⟩:=ed;have Q:=Q.L bB;have gR:=bB.size;have dK:=bl.L bB;refine T.cD dK ?_;have dL:=aq.refl dm;refine cI ?_;have O:=dL;refine eT (eR (G.region ?_));refine o.v1 bD ?_;refine o.aa (o.nil ?_);refine aR.sub (eJ (i+1) _ ?_ ?_) ⟨rfl,rfl,(aF (by omega)),(aF (by omega)),trivial⟩
          ·exact⟨(by omega),Q⟩
          ·first|omega|(simp only;omega)|(simp;omega)
         ·
          refine G.exit (eN (eK (eH ?_)));refine cb (G.L (fun ee=>?_));refine o.az 2 ?_;refine o.v1 (Y.an K.O rfl kU rfl q3) ?_;refine o.v1 (au (K.O.drop 2) pN) ?_;refine o.al ?_;refine ee ?_;refine G.ret (cx ?_);exact⟨rfl,B⟩
       ·
        refine G.skip (cb (G.L (fun ef=>?_)));refine o.az 2 ?_;refine o.v1 (Y.an K.O rfl kU rfl q3) ?_;refine o.v1 (au (K.O.drop 2) pN) ?_;refine o.al ?_;refine ef ?_;refine G.ret (cx ?_);exact⟨rfl,B⟩
theorem vN(x:bP)(F:Nat→Prop)(w0:World)(J:Heap)
 (A:eU F J x) (R:bk F J.size) (M:kX x):
 aG Tryz.prog w0 37 #[ep x] J (fun r bN=>∃s2:aO,∃a7:Nat,r= .tuple #[s2.v,.int .i64 0]∧(aU a7 5 bN a6 1 s2.v (e2 x))∧(U 0 J.size a7)∧aq J bN):=by
 refine aG.aN [ep x] Tryz.func37 ?_;intro fP fO;have n:aq J J:=W.refl _ _;have hd:=A.m.len;have hb:=A.e.len;have aN:=M.ml;have gG:=M.el;have fN:=pe M;refine G.L (fun ev=>?_);refine o.aS cY ?_;rintro v1 H1 ⟨rfl,k,bM,gg,ew⟩;have fV:H1.size=J.size+1:=by rw[ew];simp
 have A:=A.N bM;have n:=n.L bM;have gi:=bM.size;have k:Var 32 H1 J.size (dB x):=k;refine o.aP 2 ?_;refine ev (G.t1 (fun ey=>G.L (fun ez=>?_)));refine o.v1 (a_ k.O gz fj (dX _)) ?_;refine aV BM (HK x w0 _ A.m.any A.q.any A.e.any (fun y hy=>(A.d y hy).any) M) (fun gj B eB=>?_);obtain⟨rfl,bb⟩:=eB;have A:=A.N bb;have k:=k.N bb;have n:=n.L bb;have gl:=bb.size;refine o.al ?_;refine ez (G.L (fun eC=>?_));refine o.aa ?_;refine o.v1 ((da).fC (by simp)) (o.nil (eC ?_));refine dK ?_;refine G.skip (ey (G.L (fun eD=>?_)));refine o.v1 (Y.build (v:= .agg #[(.slice none 0 0),.int .i64 0,.int .i64 0]) rfl rfl (by intro w;kernel_rfl)) ?_;refine o.aS cY fun gm aI eE=>?_;obtain⟨rfl,j,bc,fW,dA⟩:=eE;have fS:aI.size=B.size+1:=by rw[dA];simp
 have X:=(ax.new (R.mono n.size):ax _ (B.size+1));have Q:af (J.size+1) (B.size+1):=af.new k.lt;have an:U 0 J.size (B.size+1):=U.new n.size;have A:=A.N bc;have k:=k.N bc;have n:=n.L bc;have gn:=bc.size;have j:Var 223 aI B.size ([(⟨none,0,0⟩:aO).v,.int .i64 0,.int .i64 0]):=j;refine o.al ?_;refine eD (G.t1 (fun eF=>?_));refine dg (fun aH=>W (aB [(B.size+1)]) aI aH) [] ?_;have E:W (aB [(B.size+1)]) aI aI:=W.refl _ _;have dZ:=U.refl (B.size+1) aI.size;refine T.aa 0 rfl E ?_;refine T.t1 1 rfl (fun aH ae=>Y.fieldAddr (k.ae ae (ag.I Q)).O rfl bt rfl rfl dz (by decide) rfl) E ?_;refine T.t1 2 rfl (fun aH ae=>Y.fM (k.ae ae (ag.I Q)).O rfl ec rfl) E ?_;refine T.t1 4 rfl (fun aH ae=>Y.fieldAddr (k.ae ae (ag.I Q)).O rfl bt rfl rfl dz (by decide) rfl) E ?_;refine T.t1 5 rfl (fun aH ae=>au ((k.ae ae (ag.I Q)).O.drop 3) ec) E ?_;refine T.aX 3 ?_;refine b7 rU (tL x.bz 1 w0 _) (fun gp bL ea=>?_);obtain⟨rfl,aM⟩:=ea;have A:=A.N aM;have k:=k.N aM;have j:=j.N aM;have n:=n.L aM;have E:=E.a8 aM;have gr:=aM.size;refine T.bZ E (ah.I (ao.r dZ)) ?_;have E:W (aB [(B.size+1)]) bL bL:=W.refl _ _;have ed:=U.refl (B.size+1) bL.size;refine T.aX 6 ?_;refine b7 rU (tL x.aj 2 w0 _) (fun gv a9 du=>?_);obtain⟨rfl,aP⟩:=du;have A:=A.N aP;have k:=k.N aP;have j:=j.N aP;have n:=n.L aP;have E:=E.a8 aP;have d0:=aP.size;refine T.bZ E (ah.I (ao.r ed)) ?_;have E:W (aB [(B.size+1)]) a9 a9:=W.refl _ _;have cE:=U.refl (B.size+1) a9.size;refine T.t1 7 rfl (fun aH ae=>Y.E9 rfl rfl rfl) E ?_;refine T.aX 8 ?_;refine b7 kz (kV _ _ _ [] 1 _ w0 _ j (aU.nil et fB) af.z (by decide) (by simp)) (fun d1 al ee=>?_);have ef:=k.lt;obtain⟨eg,S,rfl,j,d,bg,cR,aZ⟩:=ee;have b3:=ax.app (ax.z) (R.mono n.size) bg;have ca:af (J.size+1) S:=af.app (af.z) ef bg;have cb:U 0 J.size S:=U.L (U.refl 0 _) bg n.size;have dC:U 0 a9.size S:=U.L (U.refl 0 _) bg E.size;have A:=A.ae aZ (ay.cons X (ay.I ax.z));have k:=k.ae aZ (ag.cons Q (ag.I af.z));have n:=n.bx aZ (ah.cons (ao.q an) (ah.cons ao.z ah.nil));have E:=E.aL aZ (ah.cons (ao.r cE) (ah.cons ao.z ah.nil));have d2:=aZ.size;have O:=d.le;refine T.bZ E (ah.cons (ao.r cE) (ah.I (ao.q dC))) ?_;refine cI ?_;refine eF ?_
 refine G.cut (fun(aC:(aO)×(Nat))=>match aC with|(s1,az)=>[(1,.pointer (some ⟨J.size,0,none⟩)),(5,.pointer (some ⟨B.size,0,none⟩))])
  (fun(s1,az) (H:Heap)=>(Var 223 H B.size [s1.v,.int .i64 0,.int .i64 0])∧(aU az 5 H a6 1 s1.v (iX x))∧(U S al.size az)∧(af (B.size+1) az)∧W (aB [(B.size+1),S]) al H) (fun _ cG _=>?_) ?_
 ·
  have aT:W (aB [(B.size+1),S]) al al:=W.refl _ _;have c2:=U.refl (B.size+1) al.size;have bK:=U.refl S al.size;refine G.L (fun cB=>?_);refine o.v1 (Y.an k.O rfl bt rfl dz) ?_;refine o.v1 (au k.O ec) (o.nil (cB ?_));refine cL (fun bx=>?_) (fun bx=>?_)
  ·
   refine G.region ?_;refine o.aa ?_;refine o.v1 (Y.an k.O rfl bt rfl bV) ?_;refine o.v1 (au (k.O.drop 1) bR) ?_;refine aV oB (pD _ _ _ _ 1 x.ak w0 _ j d (cR) (by simp[dI]) (by decide) (by have:=M.ak bx;omega)) (fun d3 d4 ei=>?_);obtain⟨ej,cH,rfl,j,d,dG,fA,cc⟩:=ei;have dH:U S al.size cH:=U.L (bK) dG aT.size;have aT:=aT.aL cc (ah.cons (ao.r c2) (ah.I (ao.r bK)));have d5:=cc.size;have O:=d.le;refine o.nil ?_;refine aR.sub (cG (ej,cH) _ ?_) ⟨rfl,rfl,trivial⟩;exact⟨j,(by rw[iX,if_pos bx];exact d),dH,fA,aT⟩
  ·
   refine G.skip ?_;refine aR.sub (cG (eg,S) _ ?_) ⟨rfl,rfl,trivial⟩;exact⟨j,(by rw[iX,if_neg (by simp[bx]),List.append_nil];exact d),bK,cR,aT⟩
 ·
  rintro⟨s1,az⟩ fQ cX;obtain⟨j,d,L,ac,bq⟩:=cX;have bT:=ax.app (b3) (R.mono n.size) L;have be:af (J.size+1) az:=af.app (ca) k.lt L;have b5:U 0 J.size az:=U.L (cb) L n.size;have A:=A.ae bq (ay.cons X (ay.I b3));have k:=k.ae bq (ag.cons Q (ag.I ca));have n:=n.bx bq (ah.cons (ao.q an) (ah.I (ao.q cb)));have d6:=bq.size;have O:=d.le;have dL:=ac;refine G.L (fun eG=>?_);refine o.aa ?_;refine o.v1 (Y.an k.O rfl bt rfl dO) ?_;refine o.v1 (au (k.O.drop 2) dV) ?_;refine o.v1 (bf A.m c9) ?_;refine o.v1 (Y.hq rfl gk gV rfl) ?_;refine aV kz (kV _ _ _ _ 2 _ w0 _ j d (dL) (by decide) (by omega)) (fun d7 ab fk=>?_);have dM:=k.lt;obtain⟨bj,Z,rfl,j,d,bE,fC,bl⟩:=fk;have cf:=ax.app (bT) (R.mono n.size) bE;have cg:af (J.size+1) Z:=af.app (be) dM bE;have bi:U 0 J.size Z:=U.L (b5) bE n.size;have A:=A.ae bl (ay.cons X (ay.I bT));have k:=k.ae bl (ag.cons Q (ag.I be));have n:=n.bx bl (ah.cons (ao.q an) (ah.I (ao.q b5)));have d8:=bl.size;have O:=d.le;refine o.nil (eG (G.t1 (fun dN=>G.L (fun dP=>?_))));refine o.v1 (Y.an k.O rfl bt rfl dO) ?_;refine o.v1 (au (k.O.drop 2) dV) ?_;refine o.v1 (bf A.m c9) ?_;refine o.aa (o.nil (dP ?_));refine G.aD (fun _ c3 _=>?_)
  refine G.bc (fun(aC:(Nat)×(aO)×(Nat))=>match aC with|(i,aQ,N)=>[(1,.pointer (some ⟨J.size,0,none⟩)),(5,.pointer (some ⟨B.size,0,none⟩)),(39,x.cN.v),(40,.int .i64 (x.ml.length:Int)),(41,.int .i64 i)])
   (fun(i,aQ,N) (H:Heap)=>(i≤x.ml.length)∧(Var 223 H B.size [aQ.v,.int .i64 0,.int .i64 0])∧(aU N 5 H a6 1 aQ.v ((iX x++cd 2 (UInt64.ofNat x.ml.length)++(x.ml.take i).flatMap iD)))∧(U Z ab.size N)∧(af (B.size+1) N)∧W (aB [(B.size+1),Z]) ab H)
   (fun(i,aQ,N)=>x.ml.length-i) (0,bj,Z) ⟨rfl,rfl,rfl,rfl,rfl,trivial⟩ ?_ ?_
  ·
   exact⟨(by omega),j,(by simpa using d),U.refl _ _,fC,W.refl _ _⟩
  rintro⟨i,aQ,N⟩ P dW d9 c5 c6;obtain⟨fL,j,d,L,ac,C⟩:=dW;have bF:=ax.app (cf) (R.mono n.size) L;have ck:af (J.size+1) N:=af.app (cg) k.lt L;have aD:U 0 J.size N:=U.L (bi) L n.size;have A:=A.ae C (ay.cons X (ay.I cf));have k:=k.ae C (ag.cons Q (ag.I cg));have n:=n.bx C (ah.cons (ao.q an) (ah.I (ao.q bi)));have dd:=C.size;have O:=d.le;have a0:=ac;have bp:=U.refl (B.size+1) ab.size;have cl:=L;have fM:=sP M i;have cS:(iX x++cd 2 (UInt64.ofNat x.ml.length)++(x.ml.take i).flatMap iD).length≤4400000000:=by simp only[List.length_append,dI];omega
  refine G.L (fun c7=>?_);refine o.v1 bH (o.nil (c7 ?_));refine G.t2 (fun c_ dc=>?_);refine aW (fun fl=>?_) (fun fl=>?_)
  ·
   refine G.skip (c_ (G.t1 (fun de=>G.aD (fun df _ _=>G.L (fun dh=>?_)))));have ba:i<x.ml.length:=by omega
   obtain⟨y,ar⟩:∃q,q=x.ml[i]:=⟨_,rfl⟩;have bA:y∈x.ml:=by rw[ar];exact List.getElem_mem ba
   have hh:=M.iW y bA;refine o.b1 (Y.bU A.m (i) rfl c9 dp rfl rfl) fun gB dj=>?_;refine o.v1 (Y.cast (v2:= .agg (db y).toArray) (a_ dj.O ji dp (fc _)) (by rw[ar])) ?_;refine o.aS (dk l9) ?_;rintro hi cV ⟨rfl,K,bz,gw,fm⟩;have gx:cV.size=P.size+1:=by rw[fm];simp
   have a2:af N (P.size+1):=af.new d.le;have bm:af (B.size+1) (P.size+1):=af.new j.lt;have dQ:U 0 ab.size (P.size+1):=U.new C.size;have d:=d.N bz;have j:=j.N bz;have C:=C.a8 bz;have gy:=bz.size;refine o.s1 (eh K (_) (db y) (kC y) dp (fc _) ((dJ (fc _).symm))) fun fT dS=>?_;obtain⟨K,aL⟩:=dS;have aL:=aL.bB;have d:=d.ae aL (ag.I a2);have j:=j.ae aL (ag.I bm);have C:=C.aL aL (ah.I (ao.q dQ));have gA:=aL.size;refine o.nil (dh (G.L (fun eH=>?_)));refine o.aa ?_;refine o.v1 (Y.an K.O rfl cv rfl bV) ?_;refine o.v1 (au K.O bR) ?_;refine aV oB (pD _ _ _ _ 1 y.n w0 _ j d (a0) (by omega) (by decide) (by omega)) (fun gH gI fo=>?_);have eJ:=K.lt;obtain⟨gJ,cJ,rfl,j,d,cm,fD,a3⟩:=fo;have cp:af (P.size+1) cJ:=af.app (a2.symm) eJ cm;have cq:U Z ab.size cJ:=U.L (cl) cm C.size;have K:=K.ae a3 (ag.cons bm.symm (ag.I a2.symm));have C:=C.aL a3 (ah.cons (ao.r bp) (ah.I (ao.r cl)));have dl:=a3.size;have O:=d.le;refine o.nil (eH (G.L (fun eK=>?_)));refine o.aa ?_;refine o.v1 (Y.an K.O rfl cv rfl bd) ?_;refine o.v1 (Y.cast (v2:=bs y.I) (a_ ((K.O.drop 1).take 32) cj bd (by rw[hs];exact bC _)) (cn (hs _))) ?_;refine aV nf (n1 _ _ _ _ y.I w0 _ j d (fD) (by rw[List.length_append,ha];omega)) (fun gK gL cy=>?_);have eL:=K.lt;obtain⟨gM,cK,rfl,j,d,ct,fE,a4⟩:=cy;have ce:af (P.size+1) cK:=af.app (cp) eL ct;have br:U Z ab.size cK:=U.L (cq) ct C.size;have K:=K.ae a4 (ag.cons bm.symm (ag.I cp));have C:=C.aL a4 (ah.cons (ao.r bp) (ah.I (ao.r cq)));have dn:=a4.size;have O:=d.le;refine o.nil (eK (G.L (fun eM=>?_)));refine o.aa ?_;refine o.v1 (Y.an K.O rfl cv rfl bd) ?_;refine o.v1 (Y.cast (v2:=bs y.w) (a_ ((K.O.drop 33).take 32) cj bd (by rw[fe];exact bC _)) (cn (fe _))) ?_;refine aV nf (n1 _ _ _ _ y.w w0 _ j d (fE) (by rw[List.length_append,List.length_append,ha,y.I.2];omega)) (fun gN gO fp=>?_);obtain⟨gP,fq,rfl,j,d,eN,fF,a5⟩:=fp;have cu:U Z ab.size fq:=U.L (br) eN C.size;have K:=K.ae a5 (ag.cons bm.symm (ag.I ce));have C:=C.aL a5 (ah.cons (ao.r bp) (ah.I (ao.r br)));have e_:=a5.size;have O:=d.le;refine o.nil (eM (G.region ?_));refine o.aa ?_;refine o.v1 (Y.an K.O rfl cv rfl bV) ?_;refine o.v1 (au K.O.nL bR) ?_;refine aV oB (pD _ _ _ _ 2 y.y w0 _ j d (fF) (by rw[List.length_append,List.length_append,List.length_append,ha,y.I.2,y.w.2];omega) (by decide) (by omega)) (fun gQ gR ds=>?_);obtain⟨fu,cO,rfl,j,d,dR,fG,cx⟩:=ds;have ci:U Z ab.size cO:=U.L (cu) dR C.size;have C:=C.aL cx (ah.cons (ao.r bp) (ah.I (ao.r cu)));have gD:=cx.size;have O:=d.le;refine o.nil (df (de (G.region ?_)));refine o.v1 bD ?_;refine o.aa (o.nil ?_);refine aR.sub (c5 (i+1,fu,cO) _ ?_ ?_) ⟨rfl,rfl,rfl,(aF (by omega)),(aF (by omega)),trivial⟩
   ·exact⟨(by omega),j,(by rw[nz ba,←ar,iD];simpa only[List.append_assoc]using d),ci,fG,C⟩
   ·first|omega|(simp only;omega)|(simp;omega)
  ·
   obtain rfl:i=x.ml.length:=by omega
   rw[List.take_length]at d cS;have fN:=pe M;refine G.exit (dc (c6 (c3 ?_)));refine dN ?_
   refine G.cut (fun(aC:(aO)×(Nat))=>match aC with|(bB,hV)=>[(1,.pointer (some ⟨J.size,0,none⟩)),(5,.pointer (some ⟨B.size,0,none⟩))])
    (fun(bB,hV) (H:Heap)=>(Var 223 H B.size [bB.v,.int .i64 0,.int .i64 0])∧(aU hV 5 H a6 1 bB.v (iV x))∧(U N P.size hV)∧(af (B.size+1) hV)∧W (aB [(B.size+1),N]) P H) (fun _ cz _=>?_) ?_
   ·
    have aX:W (aB [(B.size+1),N]) P P:=W.refl _ _;have c1:=U.refl (B.size+1) P.size;have bJ:=U.refl N P.size;refine G.L (fun eP=>?_);refine o.v1 (Y.an k.O rfl bt rfl dz) ?_;refine o.v1 (au (k.O.drop 3) ec) (o.nil (eP ?_));refine cL (fun bv=>?_) (fun bv=>?_)
    ·
     refine G.region ?_;refine o.aa ?_;refine o.v1 (Y.an k.O rfl bt rfl dY) ?_;refine o.v1 (Y.cast (v2:=gu x.q) (a_ ((k.O.drop 4).take 70) j9 dY (by rw[jK];exact fz _)) (cn (jK x))) ?_;refine aV AB (HL _ _ _ _ x.q F w0 _ j d (a0) (by omega) A.q (R.mono n.size) (X) (bF) (M.kF bv) (M.jZ bv)) (fun em gC fw=>?_);obtain⟨fx,cP,rfl,j,d,eR,fH,cC⟩:=fw;have eS:U N P.size cP:=U.L (bJ) eR aX.size;have aX:=aX.aL cC (ah.cons (ao.r c1) (ah.I (ao.r bJ)));have gE:=cC.size;have O:=d.le;refine o.nil ?_;refine aR.sub (cz (fx,cP) _ ?_) ⟨rfl,rfl,trivial⟩;exact⟨j,(by rw[iV,if_pos bv];exact d),eS,fH,aX⟩
    ·
     refine G.skip ?_;refine aR.sub (cz (aQ,N) _ ?_) ⟨rfl,rfl,trivial⟩;exact⟨j,(by rw[iV,if_neg (by simp[bv]),List.append_nil];exact d),bJ,a0,aX⟩
   ·
    rintro⟨bB,hV⟩ fR c0;obtain⟨j,d,L,ac,bu⟩:=c0;have cD:=ax.app (bF) (R.mono n.size) L;have eT:af (J.size+1) hV:=af.app (ck) k.lt L;have bO:U 0 J.size hV:=U.L (aD) L n.size;have A:=A.ae bu (ay.cons X (ay.I bF));have k:=k.ae bu (ag.cons Q (ag.I ck));have n:=n.bx bu (ah.cons (ao.q an) (ah.I (ao.q aD)));have gF:=bu.size;have O:=d.le;have dU:=ac;refine G.L (fun eV=>?_);refine o.aa ?_;refine o.v1 (Y.an k.O rfl bt rfl dT) ?_;refine o.v1 (au k.O.gU eA) ?_;refine o.v1 (bf A.e cA) ?_;refine o.v1 (Y.hq rfl gk gV rfl) ?_;refine aV kz (kV _ _ _ _ 2 _ w0 _ j d (dU) (by decide) (by have:=qH M;omega)) (fun gS aJ fy=>?_);obtain⟨e5,aK,rfl,j,d,b6,fI,bn⟩:=fy;have bU:=ax.app (cD) (R.mono n.size) b6;have bW:U 0 J.size aK:=U.L (bO) b6 n.size;have A:=A.ae bn (ay.cons X (ay.I cD));have k:=k.ae bn (ag.cons Q (ag.I eT));have n:=n.bx bn (ah.cons (ao.q an) (ah.I (ao.q bO)));have fX:=bn.size;have O:=d.le;refine o.nil (eV (G.t1 (fun co=>G.L (fun eW=>?_))));refine o.v1 (Y.an k.O rfl bt rfl dT) ?_;refine o.v1 (au k.O.gU eA) ?_;refine o.v1 (bf A.e cA) ?_;refine o.aa (o.nil (eW ?_));refine G.aD (fun _ eX _=>?_)
    refine G.bc (fun(aC:(Nat)×(aO)×(Nat))=>match aC with|(i,aS,aa)=>[(5,.pointer (some ⟨B.size,0,none⟩)),(75,x.b9.v),(76,.int .i64 (x.el.length:Int)),(77,.int .i64 i)])
     (fun(i,aS,aa) (H:Heap)=>(i≤x.el.length)∧(Var 223 H B.size [aS.v,.int .i64 0,.int .i64 0])∧(aU aa 5 H a6 1 aS.v (iV x++cd 2 (UInt64.ofNat x.el.length)++(x.el.take i).flatMap iC))∧(U aK aJ.size aa)∧(af (B.size+1) aa)∧W (aB [(B.size+1),aK]) aJ H)
     (fun(i,aS,aa)=>x.el.length-i) (0,e5,aK) ⟨rfl,rfl,rfl,rfl,trivial⟩ ?_ ?_
    ·
     exact⟨(by omega),j,(by simpa using d),U.refl _ _,fI,W.refl _ _⟩
    rintro⟨i,aS,aa⟩ a1 e6 b1 eY cs;obtain⟨fL,j,d,L,ac,aw⟩:=e6;have dm:=ax.app (bU) (R.mono n.size) L;have dq:U 0 J.size aa:=U.L (bW) L n.size;have A:=A.ae aw (ay.cons X (ay.I bU));have n:=n.bx aw (ah.cons (ao.q an) (ah.I (ao.q bW)));have fY:=aw.size;have O:=d.le;have dr:=ac;have ap:=U.refl (B.size+1) aJ.size;have bY:=L;have fM:=vI M i;have hf:=qH M;have hc:=M.el;have cS:(iV x++cd 2 (UInt64.ofNat x.el.length)++(x.el.take i).flatMap iC).length≤8800000000:=by simp only[List.length_append,dI];omega
    refine G.L (fun eZ=>?_);refine o.v1 bH (o.nil (eZ ?_));refine G.t2 (fun bw cZ=>?_);refine aW (fun e7=>?_) (fun e7=>?_)
    ·
     refine G.skip (bw (G.t1 (fun e0=>G.aD (fun e1 _ _=>G.L (fun e3=>?_)))));have ba:i<x.el.length:=by omega
     obtain⟨y,ar⟩:∃q,q=x.el[i]:=⟨_,rfl⟩;have bA:y∈x.el:=by rw[ar];exact List.getElem_mem ba
     have hg:=M.md y bA;refine o.b1 (Y.bU A.e (i) rfl cA cr rfl rfl) fun fZ e4=>?_;refine o.v1 (Y.cast (v2:= .agg (bQ y).toArray) (a_ e4.O iu cr (di _)) (by rw[ar])) ?_;refine o.aS (dk lz) ?_;rintro v9 cW ⟨rfl,ai,a8,gT,e8⟩;have f_:cW.size=a1.size+1:=by rw[e8];simp
     have dt:=(ax.new (R.mono n.size):ax _ (a1.size+1));have bZ:af aa (a1.size+1):=af.new d.le;have b0:af (B.size+1) (a1.size+1):=af.new j.lt;have dw:U 0 aJ.size (a1.size+1):=U.new aw.size;have A:=A.N a8;have d:=d.N a8;have j:=j.N a8;have aw:=aw.a8 a8;have ga:=a8.size;refine o.s1 (eh ai (_) (bQ y) (hr y) cr (di _) ((dJ (di _).symm))) fun fU dx=>?_;obtain⟨ai,am⟩:=dx;have am:=am.bB;have A:=A.ae am (ay.I dt);have d:=d.ae am (ag.I bZ);have j:=j.ae am (ag.I b0);have aw:=aw.aL am (ah.I (ao.q dw));have gb:=am.size;refine o.nil (e3 (G.L (fun ek=>?_)));refine o.aa ?_;refine o.v1 (Y.an ai.O rfl fr rfl bd) ?_;refine o.v1 (Y.cast (v2:=bs y.k) (a_ (ai.O.take 32) cj bd (by rw[show(bQ y).take 32=bX y.k from fa y];exact bC _)) (cn (show(bQ y).take 32=bX y.k from fa y))) ?_;refine aV nf (n1 _ _ _ _ y.k w0 _ j d (dr) (by omega)) (fun es gU e9=>?_);obtain⟨gW,ff,rfl,j,d,eo,fJ,bo⟩:=e9;have b2:U aK aJ.size ff:=U.L (bY) eo aw.size;have A:=A.ae bo (ay.cons X (ay.I dm));have ai:=ai.ae bo (ag.cons b0.symm (ag.I bZ.symm));have aw:=aw.aL bo (ah.cons (ao.r ap) (ah.I (ao.r bY)));have gd:=bo.size;have O:=d.le;refine o.nil (ek (G.region ?_));refine o.aa ?_;refine o.v1 (Y.an ai.O rfl fr rfl c8) ?_;refine o.v1 (au ai.O.jR eI) ?_;refine o.v1 (Y.nd (A.d y bA) rfl Tryz.underlying57 Tryz.underlying9 Tryz.underlying5 rfl) ?_;refine aV oB (pD _ _ _ _ 4 y.d w0 _ j d (fJ) (by rw[List.length_append,y.k.2];omega) (by decide) (by omega)) (fun gX ex fg=>?_);obtain⟨fh,cQ,rfl,j,d,er,fK,b8⟩:=fg;have dy:U aK aJ.size cQ:=U.L (b2) er aw.size;have aw:=aw.aL b8 (ah.cons (ao.r ap) (ah.I (ao.r b2)));have gf:=b8.size;have O:=d.le;refine o.nil (e1 (e0 (G.region ?_)));refine o.v1 bD ?_;refine o.aa (o.nil ?_);refine aR.sub (eY (i+1,fh,cQ) _ ?_ ?_) ⟨rfl,rfl,(aF (by omega)),(aF (by omega)),trivial⟩
     ·exact⟨(by omega),j,(by rw[nz ba,←ar,iC];simpa only[List.append_assoc]using d),dy,fK,aw⟩
     ·first|omega|(simp only;omega)|(simp;omega)
    ·
     obtain rfl:i=x.el.length:=by omega
     rw[List.take_length]at d;refine G.exit (cZ (cs (eX ?_)));refine co (G.L (fun eu=>?_));refine o.aa ?_;refine aV AD (Hw _ _ w0 _ j) (fun gY g_ fi=>?_);obtain⟨rfl,b9⟩:=fi;have d:=d.N b9;have n:=n.L b9;refine o.v1 cF ?_;refine o.v1 cF ?_;refine o.aP 2 ?_;refine eu ?_;refine G.ret (fO ?_);exact⟨aS,aa,rfl,by rw[vL];exact d,dq,n⟩
end fJ

namespace eM
open E Go.RowKit
theorem aG.still{P:Program}{w0:World}{f:FuncId}{args:Array Value}{H:Heap}{v:Value}(h:∀w,At w0 H w→Calls P f args w fun e i=>e= .returned v∧i=w):aG P w0 f args H (fun r j=>r=v∧aq H j):=
 fun w d=>(h w d).mono (fun e i ⟨he,hw⟩=>⟨v,H,he,by rw[hw];exact d,rfl,aq.refl _⟩)
abbrev dP(m:Int)(H:Heap):Prop:=kp (fun b=>b=0) H ⟨0,0,none⟩ [.int .i64 m]
theorem dP.cell{m:Int}{H:Heap}{w0 w:World}(h:dP m H)(d:At w0 H w):w.cell? ⟨0,0,none⟩=some (.int .i64 m):=by
 have:=h.O.cells 0 (.int .i64 m) rfl;rw[d.cell];exact this
theorem r2(s sub:List UInt8)(bb:Int)(w0:World)(J:Heap)(aI:dP bb J)(aj:s.length<4294967281):aG Tryz.prog w0 166 #[aK s,aK sub] J (fun r d=>r= .bool (Lib.contains s sub)∧aq J d):=
 aG.still (fun w i=>by
  have h:Calls Tryz.prog 166 #[aK s,aK sub] w fun e j=>e= .returned (.bool (Lib.contains s sub))∧j=w:=Any.strings_Contains Tryz.lays144 ⟨s.toArray⟩ ⟨sub.toArray⟩ bb w (by simpa[ByteArray.size]using aj) (aI.cell i);exact h)
theorem jl(s:List UInt8)(c:UInt8)(w0:World)(J:Heap):aG Tryz.prog w0 167 #[aK s,.int .u8 c.toNat] J (fun r d=>r= .int .i64 (Lib.indexByte s c)∧aq J d):=
 aG.still (fun w j=>by
  have h:Calls Tryz.prog 167 #[aK s,.int .u8 c.toNat] w fun e i=>e= .returned (.int .i64 (Lib.indexByte s ((c.toNat:Int)).toNat.toUInt8))∧i=w:=Any.strings_IndexByte Tryz.lays137 ⟨s.toArray⟩ c.toNat w;have e:((c.toNat:Int)).toNat.toUInt8=c:=by simp
  rw[e]at h;exact h)
def nG(p:List UInt8):List UInt8:=(p.reverse.takeWhile (fun c=>c≠47)).reverse
theorem wR{p:List UInt8}{j:Nat}(x:j≤p.length)(o:∀q (h:q<p.length),j≤q→p[q]≠47)(V:∀h:0<j,p[j-1]'(by omega)=47):nG p=p.drop j:=by
 have e:p.reverse=(p.drop j).reverse++(p.take j).reverse:=by rw[←List.reverse_append,List.take_append_drop]
 have ak:∀c∈(p.drop j).reverse,(decide (c≠47))=true:=by
  intro c av;rw[List.mem_reverse,List.mem_iff_getElem]at av;obtain⟨q,r,rfl⟩:=av;rw[List.getElem_drop]
  simpa using o (j+q) (by simpa using(by rw[List.length_drop]at r;omega)) (by omega)
 unfold nG;rw[e,List.takeWhile_append_of_pos ak];rcases Nat.eq_zero_or_pos j with d|d
 ·subst d;simp
 ·have n:(p.take j).reverse=47::(p.take (j-1)).reverse:=by
   have:p.take j=p.take (j-1)++[47]:=by
    have k:=List.take_succ_eq_append_getElem (l:=p) (i:=j-1) (by omega);rw[show j-1+1=j by omega,V d]at k;exact k
   rw[this];simp
  rw[n,List.takeWhile_cons];simp
theorem aG.GX{P:Program}{w0:World}{f:FuncId}{args:Array Value}{H:Heap}{v:Value}(h:∀w,At w0 H w→Calls P f args w fun e i=>e= .returned v∧(i=w∨i=w.drew)):aG P w0 f args H (fun r j=>r=v∧aq H j):=
 fun w d=>(h w d).mono (fun e i ⟨he,hw⟩=>by
  rcases hw with rfl|rfl
  ·exact⟨v,H,he,d,rfl,aq.refl _⟩
  ·exact⟨v,H,he,d.drew,rfl,aq.refl _⟩)
theorem Hd(s:List UInt8)(w0:World)(J:Heap)(aj:s.length≤9223372036854775807):aG Tryz.prog w0 165 #[aK s,aK [47]] J (fun r i=>r=aK (Lib.trimB s 47)∧aq J i):=
 aG.GX (fun w j=>by
  have h:Calls Tryz.prog 165 #[aK s,aK [47]] w fun e d=>e= .returned (.string ⟨(Lib.trimB (⟨s.toArray⟩:ByteArray).data.toList 47).toArray⟩)∧(d=w∨d=w.drew):=Any.strings_Trim_one Tryz.lays160 ⟨s.toArray⟩ 47 (by decide) w (by simpa[ByteArray.size]using aj);exact h)
def dd:List UInt8→Bool
 |[]=>false
 |[_]=>false
 |a::b::l=>(a==47&&b==47)||dd (b::l)
theorem vC:∀s:List UInt8,(0≤Lib.index s [47,47])↔dd s=true
 |[]=>by simp[Lib.index,dd]
 |[a]=>by simp[Lib.index,dd,List.isPrefixOf]
 |a::b::l=>by
  have ih:=vC (b::l);have j:=Lib.index_ge (b::l) [47,47];rw[Lib.index];by_cases h:a=47∧b=47
  ·obtain⟨rfl,rfl⟩:=h
   simp[List.isPrefixOf,dd]
  ·have i:([47,47]:List UInt8).isPrefixOf (a::b::l)=false:=by
    simp only[List.isPrefixOf,Bool.and_true,Bool.and_eq_false_iff,beq_eq_false_iff_ne];by_cases d:a=47
    ·exact .inr (fun e=>h ⟨d,e.symm⟩)
    ·exact .inl (fun e=>d e.symm)
   have ak:dd (a::b::l)=dd (b::l):=by
    rw[dd]
    have:(a==47&&b==47)=false:=by
     rw[Bool.and_eq_false_iff,beq_eq_false_iff_ne,beq_eq_false_iff_ne];by_cases d:a=47
     ·exact .inr (fun e=>h ⟨d,e⟩)
     ·exact .inl d
    rw[this,Bool.false_or]
   rw[i,ak,←ih];simp only[Bool.false_eq_true,if_false];by_cases hm:Lib.index (b::l) [47,47]= -1
   ·simp[hm]
   ·simp[hm];omega
theorem r5:∀s:List UInt8,dd s=true↔∃i,i+1<s.length∧s.getD i 0=47∧s.getD (i+1) 0=47
 |[]=>by simp[dd]
 |[a]=>by simp[dd]
 |a::b::l=>by
  rw[dd,Bool.or_eq_true,r5 (b::l),Bool.and_eq_true,beq_iff_eq,beq_iff_eq];constructor
  ·rintro(⟨d,V⟩|⟨i,d,V,j⟩)
   ·exact⟨0,by simp,by simpa using d,by simpa using V⟩
   ·exact⟨i+1,by simp at d⊢;omega,by simpa using V,by simpa using j⟩
  ·rintro⟨i,d,V,j⟩
   cases i with
   |zero=>exact .inl ⟨by simpa using V,by simpa using j⟩
   |succ i=>exact .inr ⟨i,by simp at d⊢;omega,by simpa using V,by simpa using j⟩
theorem yA{p:List UInt8}(n:1≤p.length):tv p=true↔p.getD 0 0≠47∧p.getD (p.length-1) 0≠47∧dd p=false:=by
 unfold tv;rw[List.all_eq_true];simp only[List.mem_range,Bool.not_eq_true',Bool.and_eq_false_iff,beq_eq_false_iff_ne,Bool.or_eq_false_iff];constructor
 ·intro h
  refine⟨?_,?_,?_⟩
  ·rcases h 0 (by omega)with h|h
   ·exact h
   ·exact absurd rfl h.1.1
  ·rcases h (p.length-1) (by omega)with h|h
   ·exact h
   ·exact absurd rfl h.1.2
  ·cases ak:dd p with
   |false=>rfl
   |true=>
    obtain⟨i,j,V,k⟩:=(r5 p).1 ak;rcases h (i+1) j with h|h
    ·exact absurd k h
    ·exact absurd V (by simpa using h.2)
 ·rintro⟨j,V,k⟩ i o
  by_cases e:p.getD i 0=47
  ·refine .inr ⟨⟨fun d=>?_,fun d=>?_⟩,fun d=>?_⟩
   ·subst d;exact j e
   ·subst d;exact V e
   ·have:dd p=true:=(r5 p).2 ⟨i-1,by
     rcases Nat.eq_zero_or_pos i with h|h
     ·subst h;exact absurd e j
     ·omega,d,by
     rcases Nat.eq_zero_or_pos i with h|h
     ·subst h;exact absurd e j
     ·rw[show i-1+1=i by omega];exact e⟩
    rw[k]at this;cases this
  ·exact .inl e
theorem y2{p:List UInt8}(i:1≤p.length):Lib.trimB p 47=p↔p.getD 0 0≠47∧p.getD (p.length-1) 0≠47:=by
 have o:∀q:List UInt8,(Lib.trimLeftB q 47).length≤q.length:=fun q=>(List.dropWhile_suffix _).length_le;have A:∀q:List UInt8,(Lib.trimRightB q 47).length≤q.length:=fun q=>by unfold Lib.trimRightB;rw[List.length_reverse];have:=(List.dropWhile_suffix (l:=q.reverse) (fun x:UInt8=>x==47)).length_le;rwa[List.length_reverse]at this
 have d:∀q:List UInt8,1≤q.length→(Lib.trimLeftB q 47=q↔q.getD 0 0≠47):=by
  intro q r
  cases q with
  |nil=>simp at r
  |cons a l=>
   unfold Lib.trimLeftB;rw[List.dropWhile_cons];by_cases k:a=47
   ·have:(List.dropWhile (fun x:UInt8=>x==47) l).length≤l.length:=(List.dropWhile_suffix _).length_le
    simp only[k,beq_self_eq_true,if_true,List.getD_cons_zero,ne_eq,not_true,iff_false];intro e;rw[e]at this;simp only[List.length_cons]at this;omega
   ·simp[k]
 have n:Lib.trimRightB p 47=p↔p.getD (p.length-1) 0≠47:=by
  have h:=d p.reverse (by rw[List.length_reverse];omega)
  have aN:p.reverse.getD 0 0=p.getD (p.length-1) 0:=by
   simp[List.getD,List.getElem?_reverse (show 0<p.length by omega)]
  rw[←aN,←h];unfold Lib.trimRightB Lib.trimLeftB;constructor
  ·intro h;have:=congrArg List.reverse h;rwa[List.reverse_reverse]at this
  ·intro h;rw[h,List.reverse_reverse]
 unfold Lib.trimB;constructor
 ·intro h
  have e:Lib.trimRightB p 47=p:=by
   refine(List.IsPrefix.eq_of_length_le ?_ ?_)
   ·unfold Lib.trimRightB
    rw[←List.reverse_suffix,List.reverse_reverse];exact List.dropWhile_suffix _
   ·have j:=congrArg List.length h
    have V:=o (Lib.trimRightB p 47);omega
  rw[e]at h;exact⟨(d p i).1 h,n.1 e⟩
 ·rintro⟨j,V⟩
  rw[n.2 V];exact(d p i).2 j
theorem sY(p:List UInt8):cl p=true↔p≠[]∧p.length≤100∧Lib.trimB p 47=p∧Lib.contains p [47,47]=false∧∀i (h:i<p.length),mN p[i]=true:=by
 have av:Lib.contains p [47,47]=dd p:=by
  unfold Lib.contains;rw[Bool.eq_iff_iff,decide_eq_true_iff];exact vC p
 unfold cl;simp only[Bool.and_eq_true,decide_eq_true_eq,List.all_eq_true];rw[av];constructor
 ·rintro⟨⟨⟨d,V⟩,n⟩,o⟩
  have j:=(yA d).1 o;exact⟨fun e=>by rw[e]at d;simp at d,V,(y2 d).2 ⟨j.1,j.2.1⟩,j.2.2,fun i h=>n _ (List.getElem_mem h)⟩
 ·rintro⟨d,V,n,o,j⟩
  have k:1≤p.length:=by cases p with
   |nil=>exact absurd rfl d
   |cons a l=>simp
  have q:=(y2 k).1 n;refine⟨⟨⟨k,V⟩,fun x A=>?_⟩,(yA k).2 ⟨q.1,q.2,o⟩⟩;obtain⟨i,r,rfl⟩:=List.mem_iff_getElem.1 A;exact j i r
theorem lW{p:List UInt8}(h:¬(p≠[]∧p.length≤100∧Lib.trimB p 47=p∧Lib.contains p [47,47]=false∧∀i (h:i<p.length),mN p[i]=true)):cl p=false:=by
 cases aC:cl p with
 |false=>rfl
 |true=>exact absurd ((sY p).1 aC) h
theorem kh(c:UInt8):mN c=true↔(97≤c.toNat∧c.toNat≤122)∨(48≤c.toNat∧c.toNat≤57)∨0≤Lib.indexByte [46,95,45,47] c:=by
 have h:∀n:Fin 256,(mN (UInt8.ofNat n.val)=decide ((97≤n.val∧n.val≤122)∨(48≤n.val∧n.val≤57)∨0≤Lib.indexByte [46,95,45,47] (UInt8.ofNat n.val))):=by decide+kernel
 have:=h ⟨c.toNat,c.toNat_lt⟩;simp only[UInt8.ofNat_toNat]at this;rw[this,decide_eq_true_iff]
theorem Df{s:List UInt8}{j:Nat}(i:j≤s.length)(h:nG s=s.drop j):mB s=s.take (j-1):=by
 unfold mB;have d:=congrArg List.length h;unfold nG at d;rw[List.length_reverse,List.length_drop]at d;rw[d];congr 1;omega
theorem DP(s:List UInt8)(w0:World)(J:Heap)
 (af:s.length≤9223372036854775807):
 aG Tryz.prog w0 255 #[aK s,.int .u8 (47:UInt8).toNat] J (fun r C=>∃j:Nat,r= .int .i64 ((j:Int)-1)∧(j≤s.length)∧(nG s=s.drop j)∧aq J C):=by
 refine aG.aN [aK s,.int .u8 (47:UInt8).toNat] Tryz.func255 ?_;intro aa B;have d:aq J J:=W.refl _ _;refine G.L (fun K=>?_);refine o.al ?_;refine K (G.t2 (fun L M=>G.L (fun N=>?_)));refine o.aa ?_;refine o.v1 (fu dC) ?_;refine o.v1 fG ?_;refine o.al ?_;refine N (G.aD (fun _ O aw=>?_))
 refine G.bc (fun(j:(Nat))=>[(0,aK s),(1,.int .u8 (47:UInt8).toNat),(5,.int .i64 ((j:Int)-1))])
  (fun(j:(Nat)) (H:Heap)=>(j≤s.length)∧(∀q (h:q<s.length),j≤q→s[q]≠47)∧aq J H)
  (fun(j:(Nat))=>j) s.length ⟨rfl,rfl,rfl,trivial⟩ ?_ ?_
 ·
  exact⟨(by omega),(fun q h V=>absurd V (by omega)),W.refl _ _⟩
 intro j ae am Z P n;obtain⟨A,k,i⟩:=am;have d:=d.L i;have ab:=i.size;refine G.t2 (fun ap Q=>G.L (fun R=>?_));refine o.aa ?_;refine o.v1 dq (o.nil (R ?_));refine aW (fun S=>?_) (fun S=>?_)
 ·
  refine G.skip (ap (G.t2 (fun T U=>G.aD (fun X _ Y=>G.L (fun E=>?_)))));refine o.az 2 ?_;refine o.v1 (jc (j-1) dC) ?_;refine o.aa ?_;refine o.v1 cb (o.nil (E ?_));refine aW (fun ac=>?_) (fun ac=>?_)
  ·
   refine G.L (fun ad=>?_);refine o.aP 2 ?_;refine ad ?_;refine G.ret (Y (U (n (aw (M (B ?_))))));exact⟨j,rfl,(by omega),wR A k (fun h=>by apply UInt8.toNat_inj.1;have:=ac;simp at this⊢;omega),d⟩
  ·
   refine G.skip (X (T (G.region ?_)));refine o.aa ?_;refine o.v1 fG ?_;refine o.al ?_;refine aR.sub (P (j-1) _ ?_ ?_) ⟨rfl,(aF (by omega)),(aF (by omega)),trivial⟩
   ·exact⟨(by omega),(fun q h V=>by rcases Nat.lt_or_ge q j with x|x;(obtain rfl:q=j-1:=by omega);exact(fun e=>ac (by first|(rw[e];done)|(rw[e];rfl)));exact k q h x),i⟩
   ·first|omega|(simp only;omega)|(simp;omega)
 ·
  refine G.exit (Q (n (O ?_)));refine L (G.L (fun F=>?_));refine o.al ?_;refine F ?_;refine G.ret (B ?_);obtain rfl:j=0:=by omega
  exact⟨0,rfl,(by omega),wR A k (fun h=>absurd h (Nat.lt_irrefl _)),d⟩
theorem DO(s:List UInt8)(w0:World)(J:Heap)
 (x:s.length≤9223372036854775807):
 aG Tryz.prog w0 223 #[aK s,.int .u8 (47:UInt8).toNat] J (fun r i=>∃j:Nat,r= .int .i64 ((j:Int)-1)∧(j≤s.length)∧(nG s=s.drop j)∧aq J i):=by
 refine aG.aN [aK s,.int .u8 (47:UInt8).toNat] Tryz.func223 ?_;intro F B;have d:aq J J:=W.refl _ _;refine G.L (fun k=>?_);refine o.al ?_;refine k (G.L (fun n=>?_));refine o.az 2 ?_;refine aV Bn (DP s w0 _ x) ?_;rintro H E ⟨C,rfl,q,A,ac⟩;have d:=d.L ac;refine o.al ?_;refine n ?_;refine G.ret (B ?_);exact⟨C,rfl,q,A,d⟩
theorem mH(bb:Int)(l:List UInt8)(w0:World)(J:Heap)
 (aI:dP bb J) (bw:bk (fun b=>b=0) J.size) (bF:l.length≤4294967280):
 aG Tryz.prog w0 88 #[aK l] J (fun r aB=>r= .bool (cl l)∧aq J aB):=by
 refine aG.aN [aK l] Tryz.func88 ?_;intro bm B;have k:aq J J:=W.refl _ _;refine G.L (fun aZ=>?_);refine o.al ?_;refine aZ (G.t2 (fun a1 T=>G.L (fun U=>?_)));refine o.aa ?_;refine o.v1 (Y.lr rfl rfl rfl) ?_;refine o.aa ?_;refine o.bp (d:=7) rfl (fun g7=>?_) (fun g7=>?_)
 ·
  refine o.az 14 ?_;refine o.nil (U ?_);refine G.h9 rfl ?_;refine G.L (fun a6=>?_);refine o.al ?_;refine a6 ?_;refine G.ret (T (B ?_));exact⟨congrArg Value.bool (lW (fun h=>by obtain⟨F,V,K,L,O⟩:=h;first|exact F g7|omega|exact N K|(rw[L]at A;cases A))).symm,k⟩
 ·
  refine o.bJ ?_;refine o.ar (fu dC) ?_;refine o.ar eX ?_;refine o.az 2 ?_;refine o.bp (d:=12) rfl (fun a7=>?_) (fun a7=>?_)
  ·
   refine o.az 9 ?_;refine o.nil (U ?_);refine G.h9 rfl ?_;refine G.L (fun a8=>?_);refine o.al ?_;refine a8 ?_;refine G.ret (T (B ?_));exact⟨congrArg Value.bool (lW (fun h=>by obtain⟨F,V,K,L,O⟩:=h;first|exact F g7|omega|exact N K|(rw[L]at A;cases A))).symm,k⟩
  ·
   refine o.bJ ?_;refine o.call rfl A0 rfl bo rfl rfl (Hd l w0 _ (by omega)) (fun a9 bq a_=>?_);obtain⟨rfl,am⟩:=a_;have aI:=aI.N am;have k:=k.L am;have bs:=am.size;refine o.bJ ?_;refine o.ar (Y.iZ rfl rfl rfl) ?_;refine o.az 2 ?_;refine o.bp (d:=18) rfl (fun N=>?_) (fun N=>?_)
   ·
    refine o.az 3 ?_;refine o.nil (U ?_);refine G.h9 rfl ?_;refine G.L (fun ba=>?_);refine o.al ?_;refine ba ?_;refine G.ret (T (B ?_));exact⟨congrArg Value.bool (lW (fun h=>by obtain⟨F,V,K,L,O⟩:=h;first|exact F g7|omega|exact N K|(rw[L]at A;cases A))).symm,k⟩
   ·
    refine o.bJ ?_;refine o.call rfl u6 rfl bo rfl rfl (r2 l [47,47] bb w0 _ aI (by omega)) (fun bt bu bc=>?_);obtain⟨rfl,ar⟩:=bc;have k:=k.L ar;have bT:=ar.size;refine o.dy ?_;refine o.nil (U ?_);refine cL (fun A=>?_) (fun A=>?_)
    ·
     refine G.L (fun a0=>?_);refine o.al ?_;refine a0 ?_;refine G.ret (T (B ?_));exact⟨congrArg Value.bool (lW (fun h=>by obtain⟨F,V,K,L,O⟩:=h;first|exact F g7|omega|exact N K|(rw[L]at A;cases A))).symm,k⟩
    ·
     refine G.skip (a1 (G.t2 (fun cg X=>G.L (fun a2=>?_))));refine o.aa ?_;refine o.aS (Z.yO rfl Tryz.underlying9 Tryz.underlying57 Tryz.underlying5 rfl (by omega)) fun al a3 a4=>?_;obtain⟨Q,ay,bn⟩:=a4;have k:=k.L ay;have be:=ay.size;refine o.v1 (bf Q.rd dj) ?_;refine o.aa (o.nil (a2 ?_));refine G.aD (fun _ bg R=>?_)
     refine G.bc (fun(i:(Nat))=>[(23,al),(24,.int .i64 l.length),(25,.int .i64 i)])
      (fun(i:(Nat)) (H:Heap)=>(i≤l.length)∧(∀q (h:q<l.length),q<i→mN l[q]=true)∧aq a3 H)
      (fun(i:(Nat))=>l.length-i) 0 ⟨rfl,rfl,rfl,trivial⟩ ?_ ?_
     ·
      exact⟨(by omega),(fun q h V=>absurd V (by omega)),W.refl _ _⟩
     intro i ab a5 b5 aL P;obtain⟨bE,az,M⟩:=a5;have Q:=Q.N M;have k:=k.L M;have bx:=M.size;refine G.L (fun aM=>?_);refine o.v1 bH (o.nil (aM ?_));refine G.t2 (fun aN aO=>?_);refine aW (fun aC=>?_) (fun aC=>?_)
     ·
      have aa:i<l.length:=by omega
      refine G.skip (aN ?_)
      refine G.bw (fun(_:Unit)=>[(23,al),(24,.int .i64 l.length),(25,.int .i64 i)])
       (fun(_:Unit) (H:Heap)=>(mN l[i]=true)∧aq ab H) (fun _ ac S=>?_) ?_
      ·
       have n:aq ab ab:=W.refl _ _;refine G.aD (fun ad _ aw=>G.L (fun aP=>?_));refine o.v1 (il Q (i) dj cK (by first|omega|(simp;omega)|(simp;done))) ?_;refine o.v1 (au (Q.O (j:=i) (by first|omega|(simp;omega)|(simp;done))) ed) ?_;refine o.al ?_;refine aP (G.L (fun C=>?_));refine o.aa ?_;refine o.v1 dq ?_;refine o.aa ?_;refine o.bp (d:=31) rfl (fun aH=>?_) (fun aH=>?_)
       ·
        refine o.bJ ?_;refine o.ar eF ?_;refine o.az 2 ?_;refine o.bp (d:=35) rfl (fun aJ=>?_) (fun aJ=>?_)
        ·
         refine o.az 3 ?_;refine gv ?_;refine gv ?_;refine o.az 7 ?_;refine o.v1 eG (o.nil (C ?_));refine dK ?_;refine G.skip (ad ?_);refine aR.sub (ac () _ ?_) ⟨rfl,(aF (by omega)),(aF (by omega)),trivial⟩;exact⟨(kh _).2 (by simp at*;omega),n⟩
        ·
         refine o.bJ ?_;refine o.ar dq ?_;refine o.bJ ?_;refine o.bp (d:=38) rfl (fun ae=>?_) (fun ae=>?_)
         ·
          refine o.bJ ?_;refine o.ar eF ?_;refine o.ar eS ?_;refine o.az 2 ?_;refine o.bp (d:=43) rfl (fun af=>?_) (fun af=>?_)
          ·
           refine o.az 4 ?_;refine o.v1 eG (o.nil (C ?_));refine dK ?_;refine G.skip (ad ?_);refine aR.sub (ac () _ ?_) ⟨rfl,(aF (by omega)),(aF (by omega)),trivial⟩;exact⟨(kh _).2 (by simp at*;omega),n⟩
          ·
           refine o.bJ ?_;refine o.call rfl jE rfl bo rfl rfl (jl [46,95,45,47] l[i] w0 _) (fun ag ah E=>?_);obtain⟨rfl,x⟩:=E;have k:=k.L x;have n:=n.L x;have bz:=x.size;refine o.ar dq ?_;refine o.dy ?_;refine o.v1 (Y.iE rfl rfl) (o.nil (C ?_));refine aW (fun ap=>?_) (fun ap=>?_)
           ·
            refine G.L (fun aQ=>?_);refine o.al ?_;refine aQ ?_;refine G.ret (aw (S (P (R (X (B ?_))))));exact⟨congrArg Value.bool (lW (fun h=>by have ai:=(kh _).1 (h.2.2.2.2 i aa);simp at*;omega)).symm,k⟩
           ·
            refine G.skip (ad ?_);refine aR.sub (ac () _ ?_) ⟨rfl,(aF (by omega)),(aF (by omega)),trivial⟩;exact⟨(kh _).2 (by simp at*;omega),n⟩
         ·
          refine o.az 2 ?_;refine o.ar er ?_;refine o.az 3 ?_;refine o.call rfl jE rfl bo rfl rfl (jl [46,95,45,47] l[i] w0 _) (fun ag ah E=>?_);obtain⟨rfl,x⟩:=E;have k:=k.L x;have n:=n.L x;have bi:=x.size;refine o.ar dq ?_;refine o.dy ?_;refine o.v1 (Y.iE rfl rfl) (o.nil (C ?_));refine aW (fun ap=>?_) (fun ap=>?_)
          ·
           refine G.L (fun aS=>?_);refine o.al ?_;refine aS ?_;refine G.ret (aw (S (P (R (X (B ?_))))));exact⟨congrArg Value.bool (lW (fun h=>by have ai:=(kh _).1 (h.2.2.2.2 i aa);simp at*;omega)).symm,k⟩
          ·
           refine G.skip (ad ?_);refine aR.sub (ac () _ ?_) ⟨rfl,(aF (by omega)),(aF (by omega)),trivial⟩;exact⟨(kh _).2 (by simp at*;omega),n⟩
       ·
        refine o.az 5 ?_;refine o.ar dq ?_;refine o.bJ ?_;refine o.bp (d:=38) rfl (fun ae=>?_) (fun ae=>?_)
        ·
         refine o.bJ ?_;refine o.ar eF ?_;refine o.ar eS ?_;refine o.az 2 ?_;refine o.bp (d:=43) rfl (fun af=>?_) (fun af=>?_)
         ·
          refine o.az 4 ?_;refine o.v1 eG (o.nil (C ?_));refine dK ?_;refine G.skip (ad ?_);refine aR.sub (ac () _ ?_) ⟨rfl,(aF (by omega)),(aF (by omega)),trivial⟩;exact⟨(kh _).2 (by simp at*;omega),n⟩
         ·
          refine o.bJ ?_;refine o.call rfl jE rfl bo rfl rfl (jl [46,95,45,47] l[i] w0 _) (fun ag ah E=>?_);obtain⟨rfl,x⟩:=E;have k:=k.L x;have n:=n.L x;have bA:=x.size;refine o.ar dq ?_;refine o.dy ?_;refine o.v1 (Y.iE rfl rfl) (o.nil (C ?_));refine aW (fun ap=>?_) (fun ap=>?_)
          ·
           refine G.L (fun aT=>?_);refine o.al ?_;refine aT ?_;refine G.ret (aw (S (P (R (X (B ?_))))));exact⟨congrArg Value.bool (lW (fun h=>by have ai:=(kh _).1 (h.2.2.2.2 i aa);simp at*;omega)).symm,k⟩
          ·
           refine G.skip (ad ?_);refine aR.sub (ac () _ ?_) ⟨rfl,(aF (by omega)),(aF (by omega)),trivial⟩;exact⟨(kh _).2 (by simp at*;omega),n⟩
        ·
         refine o.az 2 ?_;refine o.ar er ?_;refine o.az 3 ?_;refine o.call rfl jE rfl bo rfl rfl (jl [46,95,45,47] l[i] w0 _) (fun ag ah E=>?_);obtain⟨rfl,x⟩:=E;have k:=k.L x;have n:=n.L x;have aD:=x.size;refine o.ar dq ?_;refine o.dy ?_;refine o.v1 (Y.iE rfl rfl) (o.nil (C ?_));refine aW (fun ap=>?_) (fun ap=>?_)
         ·
          refine G.L (fun aV=>?_);refine o.al ?_;refine aV ?_;refine G.ret (aw (S (P (R (X (B ?_))))));exact⟨congrArg Value.bool (lW (fun h=>by have ai:=(kh _).1 (h.2.2.2.2 i aa);simp at*;omega)).symm,k⟩
         ·
          refine G.skip (ad ?_);refine aR.sub (ac () _ ?_) ⟨rfl,(aF (by omega)),(aF (by omega)),trivial⟩;exact⟨(kh _).2 (by simp at*;omega),n⟩
      ·
       intro _ bp bd;obtain⟨bl,an⟩:=bd;have M:=M.L an;have bB:=an.size;refine G.region ?_;refine o.v1 bD ?_;refine o.aa (o.nil ?_);refine aR.sub (aL (i+1) _ ?_ ?_) ⟨rfl,(aF (by omega)),(aF (by omega)),trivial⟩
       ·exact⟨(by omega),(fun q h V=>by rcases Nat.lt_or_ge q i with O|O;exact az q h O;(obtain rfl:q=i:=by omega);exact bl),M⟩
       ·first|omega|(simp only;omega)|(simp;omega)
     ·
      refine G.exit (aO (P (bg ?_)));refine cg (G.L (fun aX=>?_));refine o.al ?_;refine aX ?_;refine G.ret (B ?_);obtain rfl:i=l.length:=by omega
      exact⟨congrArg Value.bool ((sY l).2 ⟨g7,by omega,by simpa using N,by simpa using A,fun i h=>az i h h⟩).symm,k⟩
theorem nj(bb:Int)(l:List UInt8)(w0:World)(J:Heap)
 (aI:dP bb J) (F:bk (fun b=>b=0) J.size) (K:l.length≤4294967280):
 aG Tryz.prog w0 177 #[aK l] J (fun r x=>r=aK (ck l)∧aq J x):=by
 refine aG.aN [aK l] Tryz.func177 ?_;intro O n;have d:aq J J:=W.refl _ _;refine G.L (fun ac=>?_);refine o.al ?_;refine ac (G.t2 (fun ad A=>G.L (fun B=>?_)));refine o.aa ?_;refine aV mq (mH bb l w0 _ aI (F.mono (by omega)) K) ?_;rintro v4 M ⟨rfl,j⟩;have d:=d.L j;have P:=j.size;refine o.v1 eG (o.nil (B ?_));refine cL (fun i=>?_) (fun i=>?_)
 ·
  refine G.L (fun C=>?_);refine o.al ?_;refine C ?_;refine G.ret (A (n ?_));exact⟨by rw[ck,if_neg (by simpa using i)];rfl,d⟩
 ·
  refine G.skip (ad (G.L (fun E=>?_)));refine o.az 2 ?_;refine aV Bh (DO l w0 _ (by omega)) ?_;rintro R N ⟨q,rfl,H,L,k⟩;have d:=d.L k;have Q:=k.size;refine o.v1 (Y.cast (v2:= .int .i64 ((q-1:Nat):Int)) (Y.sF rfl rfl rfl) (fh (by omega))) ?_;refine o.v1 (Y.yF (0) (q-1) rfl dC rfl (.inl ⟨rfl,rfl⟩) (.inr ⟨_,_,_,rfl,rfl,by first|rfl|omega⟩) (by omega) (by omega)) ?_;refine o.al ?_;refine E ?_;refine G.ret (n ?_);exact⟨by rw[ck,if_pos (by simpa using i),Df H L];simp,d⟩
end eM

namespace E
open Go.ChangeShapes Go.WideShapes Go.ChangeAt Go.RowKit Go.Deep
theorem Az{H:Type}(l r:List (DataW H)):Rows.uptoBulkAll (l++r)=Rows.uptoBulkAll l+Rows.uptoBulkAll r:=by
 induction l with
 |nil=>simp[Rows.uptoBulkAll]
 |cons x l ih=>simp only[List.cons_append,Rows.uptoBulkAll,ih];omega
theorem wU{α:Type}{n:Nat}{p:Nat→α→Prop}(h:∀i,i<n→∃x,p i x):∃l:List α,l.length=n∧∀i x,l[i]?=some x→p i x:=by
 induction n with
 |zero=>exact⟨[],rfl,fun i x h=>by simp at h⟩
 |succ n ih=>
  obtain⟨l,j,k⟩:=ih (fun i d=>h i (by omega));obtain⟨x,o⟩:=h n (by omega);refine⟨l++[x],by simp[j],fun i y hy=>?_⟩;by_cases d:i<l.length
  ·rw[List.getElem?_append_left d]at hy;exact k i y hy
  ·rw[List.getElem?_append_right (by omega)]at hy
   have:i-l.length=0:=by have:=(List.getElem?_eq_some_iff.1 hy).1;simp at this;omega
   rw[this]at hy;simp only[List.getElem?_cons_zero,Option.some.injEq]at hy;subst hy;have:i=n:=by omega
   subst this;exact o
theorem G2{α:Type}{H:Type}(B:α→Nat)(D:Nat→DataW H)(l:List α)(h:∀i x,l[i]?=some x→B x≤Rows.uptoBulk (D i)):∀k,k≤l.length→((l.take k).map B).sum≤Rows.uptoBulkAll ((List.range k).map D):=by
 intro k
 induction k with
 |zero=>intro _;simp
 |succ k ih=>
  intro d;rw[List.range_succ,List.map_append,Az,List.take_succ_eq_append_getElem (show k<l.length from d),List.map_append,List.sum_append];have j:=ih (by omega);have V:=h k l[k] (by simp[show k<l.length from d]);simp only[List.map_cons,List.map_nil,List.sum_cons,List.sum_nil,Rows.uptoBulkAll];omega
section
variable {H : Type} {enc : TypeId × Value → H} {P : Program} {b_ : World} {base : Nat} {sp : Nat → Bool} {held : Bool}
theorem pg{α:Type}(f:α→List Value)(sz:Nat)(B:α→Nat)(Φ:α→Prop){t e:TypeId}{v:Value}{d:DataW H}{p:List MemPlace}(ae:v.cells= #[v])(aa:P.underlying t=some (.slice e))(av:P.cellsOf e=sz)(ai:∀x,(f x).length=sz)(an:0<sz)
 (elem:∀n k y eP,DataW.trod enc P b_ base sp held n e k=some (y,eP)→k.length=sz→∃x,k=f x∧Φ x∧B x≤Rows.uptoBulk y) (h:DataW.Trod enc P b_ base sp held t v d p):
 ∃l:List α,bM b_.heap f sz v l∧(∀x∈l,Φ x)∧(l.map B).sum+1≤Rows.uptoBulk d:=by
 obtain⟨fuel,h⟩:=h;rw[ae]at h;rcases open_slice aa h with⟨q,V⟩|⟨a,len,cap,m,n,D,af,q,V,ag,M,N,E,O⟩
 ·simp only[Array.toList,List.cons.injEq,and_true]at q
  simp only[Prod.mk.injEq]at V;obtain⟨rfl,rfl⟩:=V;subst q;exact⟨[],Rd.nil _ _ _ _,by simp,by simp[Rows.uptoBulk]⟩
 ·simp only[List.cons.injEq,and_true]at q
  simp only[Prod.mk.injEq]at E;obtain⟨rfl,rfl⟩:=E;subst q;have hm:len≤m:=by rw[N];split<;>omega
  have:∀i,i<len→∃x:α,∃k,b_.cells? base (a.add (i*sz)) sz=some k∧k=f x∧Φ x∧B x≤Rows.uptoBulk (D i):=by
   intro i G;obtain⟨k,C,ab⟩:=O i (by omega);rw[av]at C;obtain⟨_,r,_⟩:=World.cells?_some C;obtain⟨x,o⟩:=elem n k _ _ ab r;exact⟨x,k,C,o⟩
  obtain⟨l,r,A⟩:=wU this;refine⟨l,⟨some a,cap,by rw[r],by omega,M,fun Z=>?_⟩,fun x o=>?_,?_⟩
  ·have hlen:0<l.length:=List.length_pos_iff.2 Z
   obtain⟨L,W,ah,_⟩:=A 0 l[0] (by simp[hlen]);obtain⟨_,al,T⟩:=World.cells?_some W;have F:=T 0 (by omega)
   have bz:b_.cell? a=some (L[0]'(by omega)):=by
    simp only[Nat.zero_mul]at F;rw[←List.getElem?_eq_getElem,←F];simp[Addr.add]
   have K:a.spot=none:=World.cell?_spot bz;refine⟨a,rfl,K,trivial,World.block_lt_of_cell? b_ a bz,fun i x o=>⟨rfl,fun j c J=>?_⟩⟩;obtain⟨k,U,rfl,_,_⟩:=A i x o;obtain⟨_,Y,S⟩:=World.cells?_some U;have X:=(List.getElem?_eq_some_iff.1 J).1;have:=S j (by rw[←Y];exact X);rw[J]at this;rw[add_eq K,add_eq rfl]at this;show cell b_.heap _=_;rw[←(At.cell (w0:=b_) ⟨rfl,rfl,rfl,rfl,Nat.le_refl _⟩ _)];exact this
  ·obtain⟨i,G⟩:=List.mem_iff_getElem?.1 o
   obtain⟨_,_,_,Q,_⟩:=A i x G;exact Q
  ·have:=G2 B D l (fun i x o=>by obtain⟨_,_,_,_,R⟩:=A i x o;exact R) l.length (Nat.le_refl _)
   rw[List.take_length,r]at this;simp only[Rows.uptoBulk];omega
theorem tF{α:Type}(B:α→Nat)(d:∀x,1≤B x):∀(l:List α),l.length≤(l.map B).sum
 |[]=>by simp
 |y::l=>by simp only[List.map_cons,List.sum_cons,List.length_cons];have:=d y;have:=tF B d l;omega
theorem H0{t e:TypeId}{v:Value}{d:DataW H}{p:List MemPlace}(o:v.cells= #[v])(k:P.underlying t=some (.slice e))(he:P.underlying e=some .string)(av:P.cellsOf e=1)(h:DataW.Trod enc P b_ base sp held t v d p):
 ∃l:List (List UInt8),bM b_.heap fy 1 v l∧(l.map (fun s=>s.length+1)).sum+1≤Rows.uptoBulk d:=by
 obtain⟨l,j,_,V⟩:=pg fy 1 (fun s=>s.length+1) (fun _=>True) o k av mx (by omega) (fun n q y eP hy r=>by
  obtain⟨s,rfl,i⟩:=DataW.trod_string he hy;simp only[Prod.mk.injEq]at i;refine⟨s.data.toList,rfl,trivial,?_⟩;rw[i.1.1];simp[Rows.uptoBulk]) h
 exact⟨l,j,V⟩
theorem y9{x:Int}(h:(Lit.int .u8 x).wf=true):∃b:UInt8,x=b.toNat:=by
 simp only[Lit.wf,Bool.and_eq_true,decide_eq_true_eq,show IntKind.u8.min=0 by decide,show IntKind.u8.max=255 by decide]at h;refine⟨UInt8.ofNat x.toNat,?_⟩;rw[UInt8.toNat_ofNat'];omega
theorem Di{x:Int}(h:(Lit.int .i64 x).wf=true): -9223372036854775808≤x∧x≤9223372036854775807:=by
 simpa only[Lit.wf,Bool.and_eq_true,decide_eq_true_eq,show IntKind.i64.min= -9223372036854775808 by decide,show IntKind.i64.max=9223372036854775807 by decide]using h
theorem FC{t e:TypeId}{v:Value}{d:DataW H}{p:List MemPlace}(q:v.cells= #[v])(o:P.underlying t=some (.slice e))(he:P.underlying e=some (.int .u8))(av:P.cellsOf e=1)(h:DataW.Trod enc P b_ base sp held t v d p):
 ∃l:List UInt8,bM b_.heap a6 1 v l∧l.length+1≤Rows.uptoBulk d:=by
 obtain⟨l,j,_,V⟩:=pg a6 1 (fun _=>1) (fun _=>True) q o av et (by omega) (fun n r y eP hy A=>by
  obtain⟨x,rfl,i,k⟩:=DataW.trod_int he hy;obtain⟨b,rfl⟩:=y9 k;simp only[Prod.mk.injEq]at i;refine⟨b,rfl,trivial,?_⟩;rw[i.1];simp[Rows.uptoBulk]) h
 exact⟨l,j,by have:=tF (fun _:UInt8=>1) (fun _=>by omega) l;omega⟩
abbrev qc(b:Bool):List Value:=[.bool b]
theorem FB{t e:TypeId}{v:Value}{d:DataW H}{p:List MemPlace}(o:v.cells= #[v])(k:P.underlying t=some (.slice e))(he:P.underlying e=some .bool)(av:P.cellsOf e=1)(h:DataW.Trod enc P b_ base sp held t v d p):
 ∃l:List Bool,bM b_.heap qc 1 v l∧l.length+1≤Rows.uptoBulk d:=by
 obtain⟨l,j,_,V⟩:=pg qc 1 (fun _=>1) (fun _=>True) o k av (fun _=>rfl) (by omega) (fun n q y eP hy r=>by
  obtain⟨x,rfl,i⟩:=DataW.trod_bool he hy;simp only[Prod.mk.injEq]at i;refine⟨x,rfl,trivial,?_⟩;rw[i.1];simp[Rows.uptoBulk]) h
 exact⟨l,j,by have:=tF (fun _:Bool=>1) (fun _=>by omega) l;omega⟩
abbrev hU{β:Type}(x:aO×β):List Value:=[x.1.v]
theorem nq{β:Type}(x:aO×β):(hU x).length=1:=rfl
theorem nr{β:Type}(x:aO×β):∀u∈hU x,u.oneCell'=true:=by intro u hu;simp only[List.mem_singleton]at hu;subst hu;rfl
end
end E

namespace E
open Go.Lib
section
variable {P : Program} {w0 : World} {n : Nat} {l : bO} {H : Heap} {I : Oper} {α : Type} {f : α → List Value} {sz : Nat} {v : Value} {e : TypeId}
theorem HV{z:Value}{z0:α}(h:z.cells.toList=f z0):∀m,(Builtin.zeroCells z.cells m).toList=(List.replicate m z0).flatMap f:=by
 have o:(f z0).length=z.cells.size:=by rw[←h,Array.length_toList]
 have k:∀m,(Builtin.zeroCells z.cells m).toList=(List.range (m*z.cells.size)).map (fun i=>z.cells[i%z.cells.size]!):=fun m=>by
  unfold Builtin.zeroCells;rw[Array.toList_map,Array.toList_range]
 have aN:(List.range z.cells.size).map (fun i=>z.cells[i%z.cells.size]!)=f z0:=by
  rw[←h];apply List.ext_getElem
  ·simp
  ·intro j n V
   have d:j<z.cells.size:=by simpa using n
   simp[Nat.mod_eq_of_lt d,getElem!_pos z.cells j d]
 intro m;rw[k]
 induction m with
 |zero=>simp
 |succ m ih=>
  rw[Nat.succ_mul,Nat.add_comm,List.range_add,List.map_append,List.map_map,aN,List.replicate_succ,List.flatMap_cons,←ih];congr 1;apply List.map_congr_left;intro j _;simp
theorem Z.z6{aQ:Nat→Prop}{xs:List α}{s x:Operand}{t iK:TypeId}{X Q:IntKind}{bytes m:Nat}{Y:Value}(h:Own aQ e H f sz v xs)(z0:α)(L:I.op= .call {callee:= .builtin .append,args:= #[s,x],argTypes:= #[t,iK]})
 (aw:c3 P t e sz bytes) (F:P.underlying iK=some (.int X)) (aG:∀w,(zeroValue e).run P w= .ok Y w) (aD:Y.cells.toList=f z0) (af:0<sz) (aj:aH l s=some v) (N:aH l x=some (.int Q (m:Nat)))
 (aA:(xs.length+m)*bytes≤140737488355328) (hm:xs.length+m≤9223372036854775807):
 Z P w0 n l H I (fun r ab=>Own (fun b=>aQ b∨H.size≤b) e ab f sz r (xs++List.replicate m z0)∧W aQ H ab):=by
 obtain⟨E,i,z,q,O,aC,ai,aF⟩:=aw;subst aC;subst ai;intro a w o d
 have aI:z=Y:=by
  have G:=aG w;simp[zeroValue,typeInfo,q,O]at G;exact G
 subst aI;have ae:((List.replicate m z0).flatMap f).length=m*i.size:=by rw[length_flatMap h.cells,List.length_replicate]
 have G:∀c∈(List.replicate m z0).flatMap f,c.oneCell'=true:=by
  intro c av;obtain⟨y,hy,av⟩:=List.mem_flatMap.1 av;exact h.one y c av
 have ag:Builtin.zeroCells z.cells m=((List.replicate m z0).flatMap f).toArray:=by apply Array.ext';rw[HV aD]
 have hw:IntKind.i64.wrap (m:Int)=m:=by rw[IntKind.wrap_i64];omega
 have az:¬((m:Int)<0):=by omega
 have ah:¬(281474976710656<(m:Int)*(i.bytes:Int)):=by
  have:m*i.bytes≤(xs.length+m)*i.bytes:=Nat.mul_le_mul_right _ (by omega);rw[←Int.natCast_mul];omega
 have grown:∀(A:Nat) (r:Value),A<xs.length+m→r= .slice (some ⟨w.heap.size,0,none⟩) (xs.length+m) (grownCap w (xs.length+m) A e)→∀B,B=Obj.cells ((xs.flatMap f).toArray++Builtin.zeroCells z.cells m++Builtin.zeroCells z.cells (grownCap w (xs.length+m) A e-(xs.length+m))) e→
  At w0 (w.drew.alloc B).heap (w.drew.alloc B)∧Own (fun b=>aQ b∨H.size≤b) e (w.drew.alloc B).heap f i.size r (xs++List.replicate m z0)∧W aQ H (w.drew.alloc B).heap:=by
  rintro A r aN rfl B rfl;have ar:=grownCap_ge w (xs.length+m) A e;have al:grownCap w (xs.length+m) A e≤maxLen:=grownCap_le_maxLen w (xs.length+m) A e (by unfold maxLen;omega);have S:At w0 H w.drew:=d.drew;refine⟨⟨rfl,d.os,d.tape,d.output,S.e_⟩,?_,?_⟩
  ·have:=Own.new (e:=e) (G':=fun b=>aQ b∨H.size≤b) (w:=w.drew) (z:=z) (cap:=grownCap w (xs.length+m) A e) (zs:=xs++List.replicate m z0) h.cells h.one aF (.inr (by rw[S.heap];exact Nat.le_refl _)) (by simpa using ar) al
   rw[ag]
   simpa using this
  ·rw[(S.alloc _).heap];exact W.push _ _ _
 rcases h.ex with⟨rfl,rfl⟩|⟨g,k,cur,rfl,J,bz,aJ,aK,aL,aM⟩
 ·by_cases K:m=0
  ·subst K
   refine⟨.slice none 0 0,H,w,?_,d,by simpa using h.imp (fun b _ J=> .inl J),W.refl _ _⟩;simp[execOp,L,resolve,invoke,builtin,o.eval aj,o.eval N,Builtin.append_,run_underlying E,run_underlying F,sizeOf,typeInfo,q,asInt,asIntOf,IntKind.wrap_i64]
  ·simp only[List.length_nil,Nat.zero_add]at aA hm
   have C:=run_append_nil_zeros (P:=P) w t iK I.type e i z Q X E F q O m (by omega) af (by omega) (by omega);have:=grown 0 _ (by simp;omega) rfl _ rfl;simp only[List.length_nil,Nat.zero_add,List.flatMap_nil,List.nil_append,Array.empty_append]at this;exact⟨_,_,_,by simp[execOp,L,resolve,invoke,builtin,o.eval aj,o.eval N,C],this.1,this.2.1,this.2.2⟩
 ·obtain⟨R,au,U⟩:=id bz
  have aa:w.heap[g]?=some (.cells cur e R):=by rw[d.heap];exact au
  by_cases T:xs.length+m≤k
  ·have an:xs.length*i.size+((List.replicate m z0).flatMap f).length≤cur.size:=by rw[ae,aL,←Nat.add_mul];exact Nat.mul_le_mul_right _ T
   have M:=mQ P g (xs.length*i.size) e R ((List.replicate m z0).flatMap f) 0 cur w aa U (by simpa using an) G;simp only[Nat.add_zero]at M
   have C:(Builtin.append_ #[t,iK] I.type #[.slice (some ⟨g,0,none⟩) xs.length k,.int Q m]).run P w= .ok (.slice (some ⟨g,0,none⟩) (xs.length+m) k) (w.setRow g (cur.toList.take (xs.length*i.size)++(List.replicate m z0).flatMap f++cur.toList.drop (xs.length*i.size+((List.replicate m z0).flatMap f).length)).toArray):=by
    by_cases K:m=0
    ·subst K
     simp only[List.replicate_zero,List.flatMap_nil]at M;simp[Builtin.append_,run_underlying E,run_underlying F,sizeOf,typeInfo,q,asInt,asIntOf,IntKind.wrap_i64,aJ,Addr.add_lit,M]
    ·have aB:¬(m*i.size=0):=Nat.mul_ne_zero K (by omega)
     simp[Builtin.append_,run_underlying E,run_underlying F,sizeOf,typeInfo,zeroValue,q,O,asInt,asIntOf,hw,az,ah,aB,T,ag,Addr.add_lit,M]
   refine⟨.slice (some ⟨g,0,none⟩) (xs.length+m) k,(w.setRow g (cur.toList.take (xs.length*i.size)++(List.replicate m z0).flatMap f++cur.toList.drop (xs.length*i.size+((List.replicate m z0).flatMap f).length)).toArray).heap,w.setRow g (cur.toList.take (xs.length*i.size)++(List.replicate m z0).flatMap f++cur.toList.drop (xs.length*i.size+((List.replicate m z0).flatMap f).length)).toArray,by simp[execOp,L,resolve,invoke,builtin,o.eval aj,o.eval N,C],⟨rfl,d.os,d.tape,d.output,d.e_⟩,⟨h.cells,h.one,.inr ⟨g,k,_,by rw[List.length_append,List.length_replicate],.inl J,⟨R,setRow_heap w g cur _ e _ aa,U.1,fun i q=>U.2 i (by simp only[List.size_toArray,List.length_append,List.length_take,List.length_drop,Array.length_toList]at q;omega)⟩,by rw[List.length_append,List.length_replicate];exact T,aK,?_,?_⟩⟩,?_⟩
   ·simp only[List.size_toArray,List.length_append,List.length_take,List.length_drop,Array.length_toList]
    omega
   ·have ay:=length_flatMap h.cells xs
    rw[aM,←List.flatMap_append,List.length_append,Nat.add_mul,List.length_replicate,←ae,←ay,←List.length_append,←List.flatMap_append];exact List.take_left
   ·exact(po d g _).weaken (fun b _ e=>by rw[e];exact J)
  ·have holds:∀j c,(xs.flatMap f)[j]?=some c→w.drew.cell? ((⟨g,0,none⟩:Addr).add j)=some c:=h.rd.ll h.cells rfl d.drew
   have hold:(Builtin.firstCells i.size xs.length (.slice (some ⟨g,0,none⟩) xs.length k)).run P w.drew= .ok (xs.flatMap f).toArray w.drew:=run_firstCells_some (P:=P) w.drew i.size xs.length ⟨g,0,none⟩ xs.length k _ (length_flatMap h.cells xs) holds
   have C:=Lib.run_append_grow_zeros (P:=P) w t iK I.type e i z Q X E F q O (some ⟨g,0,none⟩) xs.length k (xs.flatMap f) hold m (by omega) af (by omega) (by omega) (by
    have:m*i.bytes≤(xs.length+m)*i.bytes:=Nat.mul_le_mul_right _ (by omega);omega) (growslice_fits (by omega) aA)
   have:=grown k _ (by omega) rfl _ rfl;exact⟨_,_,_,by simp[execOp,L,resolve,invoke,builtin,o.eval aj,o.eval N,C],this.1,this.2.1,this.2.2⟩
theorem Z.z1{k:Nat}{xs:List α}{s x:Operand}{t iK:TypeId}{K L:IntKind}{bytes m:Nat}{i:Value}(h:aU k e H f sz v xs)(z0:α)(B:I.op= .call {callee:= .builtin .append,args:= #[s,x],argTypes:= #[t,iK]})
 (A:c3 P t e sz bytes) (E:P.underlying iK=some (.int K)) (J:∀w,(zeroValue e).run P w= .ok i w) (G:i.cells.toList=f z0) (C:0<sz) (aj:aH l s=some v) (F:aH l x=some (.int L (m:Nat)))
 (aA:(xs.length+m)*bytes≤140737488355328) (hm:xs.length+m≤9223372036854775807):
 Z P w0 n l H I (fun r ab=>∃d,aU d e ab f sz r (xs++List.replicate m z0)∧(d=0∨d=k∨H.size<d)∧W (fun b=>b+1=k) H ab):=
 (Z.z6 h.own z0 B A E J G C aj F aA hm).mono fun r ab ⟨j,V⟩=>by
  obtain⟨d,o,q⟩:=aU.of j;refine⟨d,o,?_,V⟩;rcases q with rfl|⟨g,rfl,M⟩
  ·exact .inl rfl
  ·omega
theorem Y.Gw{x:Operand}{o d:Option Operand}{t e:TypeId}{a:Option Addr}{len cap sz:Nat}(i j:Nat)(B:I.op= .slice t x o d none)(C:∀w,(underlying t).run P w= .ok (.slice e) w)(aj:∀w,(sizeOf e).run P w= .ok sz w)(E:aH l x=some (.slice a len cap))
 (A:o=none∧i=0∨∃p k aF,o=some p∧aH l p=some (.int k aF)∧aF=(i:Int)) (r:d=none∧j=len∨∃p k aF,d=some p∧aH l p=some (.int k aF)∧aF=(j:Int)) (K:i≤j) (L:j≤cap):
 Y P w0 n l H I (.slice (if cap=i then a else a.map (·.add (i*sz))) (j-i) (cap-i)):=by
 intro ac w q J
 have aN:∀w,(Instr.sliceBounds true len cap (o.map ac.eval) (d.map ac.eval) none).run P w= .ok (i,j,cap) w:=by
  intro w
  rcases A with⟨rfl,rfl⟩|⟨p,k,aF,rfl,F,rfl⟩<;>rcases r with⟨rfl,rfl⟩|⟨N,a7,M,rfl,G,rfl⟩<;>
   simp[Instr.sliceBounds,Instr.sliceBound,asIntOf,q.eval, *]
 have hu:∀w,(underlying t).run P w= .ok (.slice e) w:=C;simp[execOp,B,q.eval E,Instr.sliceAt,Instr.slice,hu,aj,aN]
theorem Y.vp{x:Operand}{t e:TypeId}{a:Option Addr}{len cap:Nat}(i:I.op= .call {callee:= .builtin .cap,args:= #[x],argTypes:= #[t]})(j:∀w,(underlying t).run P w= .ok (.slice e) w)(k:aH l x=some (.slice a len cap)):Y P w0 n l H I (.int .i64 cap):=by
 intro ac w d o;simp[execOp,i,d.eval k,resolve,invoke,builtin,Builtin.cap_,j,goInt]
end
end E
end Go.Proofs.YtfjmpninmdjcaaaGreatDoor
