/-
  Contracts of functions of the program, and plain laws: put together of several texts.
-/
import Derived.Test.YtfjmpninmdjcaaaGreatDoorGc
set_option linter.unusedVariables false
set_option linter.unusedSimpArgs false
set_option linter.unusedSectionVars false
set_option linter.defProp false
set_option maxHeartbeats 8000000
set_option maxRecDepth 100000
namespace Go.Proofs.YtfjmpninmdjcaaaGreatDoor
open E Go.RowKit

namespace pc
open gV
theorem l5(s:List UInt8)(c:UInt8)(w0:World)(N:Heap):aE Tryz.prog w0 167 #[aN s,.int .u8 c.toNat] N (fun r d=>r= .int .i64 (Lib.indexByte s c)∧al N d):=
 aE.still (fun w n=>by
  have h:Calls Tryz.prog 167 #[aN s,.int .u8 c.toNat] w fun e j=>e= .returned (.int .i64 (Lib.indexByte s ((c.toNat:Int)).toNat.toUInt8))∧j=w:=Any.strings_IndexByte Tryz.lays137 ⟨s.toArray⟩ c.toNat w;have e:((c.toNat:Int)).toNat.toUInt8=c:=by simp
  rw[e]at h;exact h)
theorem Dl(s p:List UInt8)(w0:World)(N:Heap):aE Tryz.prog w0 195 #[aN s,aN p] N (fun r d=>r= .bool (p.isPrefixOf s)∧al N d):=
 aE.still (fun w n=>by
  have h:Calls Tryz.prog 195 #[aN s,aN p] w fun e j=>e= .returned (.bool (Lib.hasPrefix s p))∧j=w:=Any.strings_HasPrefix Tryz.lays99 ⟨s.toArray⟩ ⟨p.toArray⟩ w;exact h)
theorem sO{α:Type}{l:List α}{p:α→Bool}{j:Nat}(h:(l.take j).any p=false)(d:j<l.length)(ab:p l[j]=false):(l.take (j+1)).any p=false:=by
 rw[eP d,List.any_append,h];simpa using ab
theorem qg{α:Type}{l:List α}{p:α→Bool}{j:Nat}(d:j<l.length)(h:p l[j]=true):l.any p=true:=oW.2 ⟨l[j],cU d,h⟩
def df(c:UInt8):Bool:=decide ((97≤c.toNat∧c.toNat≤122)∨(65≤c.toNat∧c.toNat≤90)∨(48≤c.toNat∧c.toNat≤57)∨c.toNat=46∨c.toNat=95∨c.toNat=45∨c.toNat=47)
theorem eo{c:UInt8}(h:(97≤c.toNat∧c.toNat≤122)∨(65≤c.toNat∧c.toNat≤90)∨(48≤c.toNat∧c.toNat≤57)∨c.toNat=46∨c.toNat=95∨c.toNat=45∨c.toNat=47):Value.bool true= .bool (df c):=by rw[df,cT h]
theorem fN{c:UInt8}(h:¬((97≤c.toNat∧c.toNat≤122)∨(65≤c.toNat∧c.toNat≤90)∨(48≤c.toNat∧c.toNat≤57)∨c.toNat=46∨c.toNat=95∨c.toNat=45∨c.toNat=47)):Value.bool false= .bool (df c):=by rw[df,cL h]
theorem pB(c:UInt8):0≤Lib.indexByte [46,95,45,47] c↔(c.toNat=46∨c.toNat=95∨c.toNat=45∨c.toNat=47):=by
 have h:∀n:Fin 256,(decide (0≤Lib.indexByte [46,95,45,47] (UInt8.ofNat n.val))=decide (n.val=46∨n.val=95∨n.val=45∨n.val=47)):=by decide+kernel
 have:=h ⟨c.toNat,c.toNat_lt⟩;simp only[UInt8.ofNat_toNat]at this;exact decide_eq_decide.1 this
def nr(s:List UInt8):Bool:=decide (s≠[]∧(s.getD 0 0).toNat≠46∧(s.getD 0 0).toNat≠45∧(s.getD (s.length-1) 0).toNat≠46)&& !Lib.contains s [46,46]
theorem kM{l:List UInt8}{i:Nat}(h:i<l.length):l.getD i 0=l[i]:=by simp[List.getD,h]
theorem MT{s:List UInt8}(h:s≠[]∧(s.getD 0 0).toNat≠46∧(s.getD 0 0).toNat≠45∧(s.getD (s.length-1) 0).toNat≠46):Value.bool (!Lib.contains s [46,46])= .bool (nr s):=by rw[nr,cT h,vI]
theorem wB{s:List UInt8}(h:¬(s≠[]∧(s.getD 0 0).toNat≠46∧(s.getD 0 0).toNat≠45∧(s.getD (s.length-1) 0).toNat≠46)):Value.bool false= .bool (nr s):=by rw[nr,cL h,vB]
def ea(s:List UInt8):Int:=if s.length>60∨(s.any (fun c=> !df c))=true then 7 else if(sp [] s).any (fun p=> !nr p)=true then 7 else 0
theorem z6:∀{s cur x:List UInt8},x∈sp cur s→x.length≤cur.length+s.length
 |[],cur,x,h=>by simp[sp]at h;subst h;simp
 |c::l,cur,x,h=>by
  rw[sp]at h;split at h
  ·rcases dU.1 h with h|h
   ·subst h;omega
   ·have:=z6 h;simp only[je,fx]at*;omega
  ·have:=z6 h;simp only[bT,fx,je]at*;omega
theorem Od(c:UInt8)(w0:World)(N:Heap)
 :
 aE Tryz.prog w0 125 #[.int .u8 c.toNat] N (fun r ag=>r= .bool (df c)∧al N ag):=by
 refine aE.aP [.int .u8 c.toNat] Tryz.func125 ?_;intro aU x;have j:al N N:=aa.refl _ _;refine I.O (fun ai=>?_);refine G.aj ?_;refine ai (I.t2 (fun ad H=>I.aC (fun _ B K=>I.t2 (fun L C=>I.aC (fun Q P E=>I.aC (fun ak a4 ac=>I.aC (fun _ an A=>I.t2 (fun F az=>I.t2 (fun a5 a9=>I.O (fun W=>?_))))))))));refine G.af ?_;refine G.v1 eT ?_;refine G.af ?_;refine G.bL (d:=6) o (fun g6=>?_) (fun g6=>?_)
 ·
  refine G.b4 ?_;refine G.aG fK ?_;refine G.aZ 2 ?_;refine W ?_;refine a8 (fun eK=>?_) (fun eK=>?_)
  ·
   refine I.exit (a9 (az (an ?_)));refine ak (Q (L (I.t2 (fun _ ar=>I.O (fun av=>?_)))));refine G.aj ?_;refine av ?_;refine I.ret (ar (K (H (x ?_))));exact⟨by first|exact eo J|(rw[df];exact dY (by rw[n];omega)),j⟩
  ·
   refine I.skip (a5 (I.t2 (fun X ax=>I.O (fun a7=>?_))));refine G.af ?_;refine G.v1 eT ?_;refine G.af ?_;refine G.bL (d:=13) o (fun R=>?_) (fun R=>?_)
   ·
    refine G.b4 ?_;refine G.aG fK ?_;refine G.aZ 2 ?_;refine a7 ?_;refine a8 (fun S=>?_) (fun S=>?_)
    ·
     refine I.exit (ax (az (A (a4 ?_))));refine Q (L (I.t2 (fun _ ay=>I.O (fun aB=>?_))));refine G.aj ?_;refine aB ?_;refine I.ret (ay (K (H (x ?_))));exact⟨by first|exact eo J|(rw[df];exact dY (by rw[n];omega)),j⟩
    ·
     refine I.skip (X (I.O (fun Y=>?_)));refine G.af ?_;refine G.v1 eT ?_;refine G.af ?_;refine G.bL (d:=20) o (fun am=>?_) (fun am=>?_)
     ·
      refine G.b4 ?_;refine G.aG fK ?_;refine G.aZ 2 ?_;refine Y ?_;refine a8 (fun M=>?_) (fun M=>?_)
      ·
       refine I.exit (az (A (ac (P ?_))));refine L (I.t2 (fun _ aC=>I.O (fun aD=>?_)));refine G.aj ?_;refine aD ?_;refine I.ret (aC (K (H (x ?_))));exact⟨by first|exact eo J|(rw[df];exact dY (by rw[n];omega)),j⟩
      ·
       refine I.skip (F ?_);refine I.exit (A (ac (E (C (B ?_)))));refine ad (I.O (fun aF=>?_));refine G.af ?_;refine aW mB (l5 [46,95,45,47] c w0 _) ?_;rintro ap O ⟨rfl,q⟩;obtain⟨j,_⟩:=b6 q j;have n:=pB c;refine G.v1 eT ?_;refine G.aj ?_;refine aF ?_;refine I.ret (x ?_);exact⟨by first|exact eo J|(rw[df];exact dY (by rw[n];omega)),j⟩
     ·
      refine G.aZ 4 ?_;refine Y ?_;refine dZ ?_;refine I.skip (F ?_);refine I.exit (A (ac (E (C (B ?_)))));refine ad (I.O (fun aG=>?_));refine G.af ?_;refine aW mB (l5 [46,95,45,47] c w0 _) ?_;rintro ap O ⟨rfl,q⟩;obtain⟨j,_⟩:=b6 q j;have n:=pB c;refine G.v1 eT ?_;refine G.aj ?_;refine aG ?_;refine I.ret (x ?_);exact⟨by first|exact eo J|(rw[df];exact dY (by rw[n];omega)),j⟩
   ·
    refine G.aZ 4 ?_;refine a7 ?_;refine dZ ?_;refine I.skip (X (I.O (fun Z=>?_)));refine G.af ?_;refine G.v1 eT ?_;refine G.af ?_;refine G.bL (d:=20) o (fun am=>?_) (fun am=>?_)
    ·
     refine G.b4 ?_;refine G.aG fK ?_;refine G.aZ 2 ?_;refine Z ?_;refine a8 (fun M=>?_) (fun M=>?_)
     ·
      refine I.exit (az (A (ac (P ?_))));refine L (I.t2 (fun _ aH=>I.O (fun aJ=>?_)));refine G.aj ?_;refine aJ ?_;refine I.ret (aH (K (H (x ?_))));exact⟨by first|exact eo J|(rw[df];exact dY (by rw[n];omega)),j⟩
     ·
      refine I.skip (F ?_);refine I.exit (A (ac (E (C (B ?_)))));refine ad (I.O (fun aK=>?_));refine G.af ?_;refine aW mB (l5 [46,95,45,47] c w0 _) ?_;rintro ap O ⟨rfl,q⟩;obtain⟨j,_⟩:=b6 q j;have n:=pB c;refine G.v1 eT ?_;refine G.aj ?_;refine aK ?_;refine I.ret (x ?_);exact⟨by first|exact eo J|(rw[df];exact dY (by rw[n];omega)),j⟩
    ·
     refine G.aZ 4 ?_;refine Z ?_;refine dZ ?_;refine I.skip (F ?_);refine I.exit (A (ac (E (C (B ?_)))));refine ad (I.O (fun aL=>?_));refine G.af ?_;refine aW mB (l5 [46,95,45,47] c w0 _) ?_;rintro ap O ⟨rfl,q⟩;obtain⟨j,_⟩:=b6 q j;have n:=pB c;refine G.v1 eT ?_;refine G.aj ?_;refine aL ?_;refine I.ret (x ?_);exact⟨by first|exact eo J|(rw[df];exact dY (by rw[n];omega)),j⟩
 ·
  refine G.aZ 4 ?_;refine W ?_;refine dZ ?_;refine I.skip (a5 (I.t2 (fun ae aN=>I.O (fun af=>?_))));refine G.af ?_;refine G.v1 eT ?_;refine G.af ?_;refine G.bL (d:=13) o (fun R=>?_) (fun R=>?_)
  ·
   refine G.b4 ?_;refine G.aG fK ?_;refine G.aZ 2 ?_;refine af ?_;refine a8 (fun S=>?_) (fun S=>?_)
   ·
    refine I.exit (aN (az (A (a4 ?_))));refine Q (L (I.t2 (fun _ aO=>I.O (fun aP=>?_))));refine G.aj ?_;refine aP ?_;refine I.ret (aO (K (H (x ?_))));exact⟨by first|exact eo J|(rw[df];exact dY (by rw[n];omega)),j⟩
   ·
    refine I.skip (ae (I.O (fun U=>?_)));refine G.af ?_;refine G.v1 eT ?_;refine G.af ?_;refine G.bL (d:=20) o (fun am=>?_) (fun am=>?_)
    ·
     refine G.b4 ?_;refine G.aG fK ?_;refine G.aZ 2 ?_;refine U ?_;refine a8 (fun M=>?_) (fun M=>?_)
     ·
      refine I.exit (az (A (ac (P ?_))));refine L (I.t2 (fun _ aQ=>I.O (fun aR=>?_)));refine G.aj ?_;refine aR ?_;refine I.ret (aQ (K (H (x ?_))));exact⟨by first|exact eo J|(rw[df];exact dY (by rw[n];omega)),j⟩
     ·
      refine I.skip (F ?_);refine I.exit (A (ac (E (C (B ?_)))));refine ad (I.O (fun aS=>?_));refine G.af ?_;refine aW mB (l5 [46,95,45,47] c w0 _) ?_;rintro ap O ⟨rfl,q⟩;obtain⟨j,_⟩:=b6 q j;have n:=pB c;refine G.v1 eT ?_;refine G.aj ?_;refine aS ?_;refine I.ret (x ?_);exact⟨by first|exact eo J|(rw[df];exact dY (by rw[n];omega)),j⟩
    ·
     refine G.aZ 4 ?_;refine U ?_;refine dZ ?_;refine I.skip (F ?_);refine I.exit (A (ac (E (C (B ?_)))));refine ad (I.O (fun aT=>?_));refine G.af ?_;refine aW mB (l5 [46,95,45,47] c w0 _) ?_;rintro ap O ⟨rfl,q⟩;obtain⟨j,_⟩:=b6 q j;have n:=pB c;refine G.v1 eT ?_;refine G.aj ?_;refine aT ?_;refine I.ret (x ?_);exact⟨by first|exact eo J|(rw[df];exact dY (by rw[n];omega)),j⟩
  ·
   refine G.aZ 4 ?_;refine af ?_;refine dZ ?_;refine I.skip (ae (I.O (fun V=>?_)));refine G.af ?_;refine G.v1 eT ?_;refine G.af ?_;refine G.bL (d:=20) o (fun am=>?_) (fun am=>?_)
   ·
    refine G.b4 ?_;refine G.aG fK ?_;refine G.aZ 2 ?_;refine V ?_;refine a8 (fun M=>?_) (fun M=>?_)
    ·
     refine I.exit (az (A (ac (P ?_))));refine L (I.t2 (fun _ a0=>I.O (fun bB=>?_)));refine G.aj ?_;refine bB ?_;refine I.ret (a0 (K (H (x ?_))));exact⟨by first|exact eo J|(rw[df];exact dY (by rw[n];omega)),j⟩
    ·
     refine I.skip (F ?_);refine I.exit (A (ac (E (C (B ?_)))));refine ad (I.O (fun a2=>?_));refine G.af ?_;refine aW mB (l5 [46,95,45,47] c w0 _) ?_;rintro ap O ⟨rfl,q⟩;obtain⟨j,_⟩:=b6 q j;have n:=pB c;refine G.v1 eT ?_;refine G.aj ?_;refine a2 ?_;refine I.ret (x ?_);exact⟨by first|exact eo J|(rw[df];exact dY (by rw[n];omega)),j⟩
   ·
    refine G.aZ 4 ?_;refine V ?_;refine dZ ?_;refine I.skip (F ?_);refine I.exit (A (ac (E (C (B ?_)))));refine ad (I.O (fun a3=>?_));refine G.af ?_;refine aW mB (l5 [46,95,45,47] c w0 _) ?_;rintro ap O ⟨rfl,q⟩;obtain⟨j,_⟩:=b6 q j;have n:=pB c;refine G.v1 eT ?_;refine G.aj ?_;refine a3 ?_;refine I.ret (x ?_);exact⟨by first|exact eo J|(rw[df];exact dY (by rw[n];omega)),j⟩
theorem Ja(c:UInt8)(w0:World)(N:Heap)
 :
 aE Tryz.prog w0 124 #[.int .u8 c.toNat] N (fun r j=>r= .bool (!df c)∧al N j):=by
 refine aE.aP [.int .u8 c.toNat] Tryz.func124 ?_;intro B x;have d:al N N:=aa.refl _ _;refine I.O (fun n=>?_);refine G.aj ?_;refine n (I.O (fun q=>?_));refine G.af ?_;refine aW HS (Od c w0 _) ?_;rintro v4 A ⟨rfl,ac⟩;have d:=d.O ac;refine G.v1 fB ?_;refine G.aj ?_;refine q ?_;refine I.ret (x ?_);exact⟨o,d⟩
theorem KD(v ez:Value)(l:List UInt8)(p:UInt8→Bool)(w0:World)(N:Heap)
 (d:b7 N bd 1 v l)(ar:∀(x:UInt8) (V:Heap),al N V→x∈l→im Tryz.prog w0 ez [.int .u8 x.toNat] V (fun r B=>r= .bool (p x)∧al V B)):
 aE Tryz.prog w0 190 #[v,ez] N (fun r B=>∃n:Int,r= .int .i64 n∧((0≤n↔l.any p=true)∧ -1≤n∧n≤9223372036854775807)∧al N B):=by
 refine aE.aP [v,ez] Tryz.func190 ?_;intro ax K;have q:al N N:=aa.refl _ _;have d:=d.ch;have aH:=d.len;refine I.O (fun U=>?_);refine G.aj ?_;refine U (I.t2 (fun az am=>I.O (fun W=>?_)));refine G.af ?_;refine G.v1 (bu d dV) ?_;refine G.af (G.nil (W ?_));refine I.aC (fun _ ap X=>?_)
 refine I.bb (fun(j:Nat)=>[(0,v),(1,ez),(7,.int .i64 l.length),(8,.int .i64 j)])
  (fun(j:Nat) (H:Heap)=>(j≤l.length)∧(l.take j).any p=false∧al N H)
  (fun(j:Nat)=>l.length-j) 0 ⟨o,o,o,o,trivial⟩ ?_ ?_
 ·
  exact⟨J,o,aa.refl _ _⟩
 intro j aB Z av ae F;obtain⟨aG,E,A⟩:=Z;obtain⟨d,q,_⟩:=bO A d q;refine I.O (fun a7=>?_);refine G.v1 bZ (G.nil (a7 ?_));refine I.t2 (fun af ag=>?_);refine a8 (fun an=>?_) (fun an=>?_)
 ·
  refine I.skip (af (I.t2 (fun ai ak=>I.aC (fun L _ M=>I.O (fun O=>?_)))));refine G.aZ 2 ?_;refine O (I.O (fun ac=>?_));refine G.av 3 ?_;refine G.cn (Y.cg d j o dV dK o o) fun ay P=>?_;refine G.v1 (bf P.W fE) ?_;refine G.qp o o o cS o o (ar l[j] _ q (cU J)) ?_;rintro aC aD ⟨rfl,Q⟩;obtain⟨q,A,_⟩:=bO Q q A;refine G.nil (ac ?_);refine dm (fun C=>?_) (fun C=>?_)
  ·
   refine I.O (fun R=>?_);refine G.aZ 2 ?_;refine R ?_;refine I.ret (M (ak (F (X (am (K ?_))))));exact⟨j,o,⟨⟨fun _=>qg (j:=j) J (by simpa using C),fun _=>by omega⟩,by omega,by omega⟩,q⟩
  ·
   refine I.skip (L (ai (I.region ?_)));refine G.v1 bN ?_;refine G.af (G.nil ?_);refine aT.sub (ae (j+1) _ ?_ ?_) ⟨o,o,(aF J),(aF J),trivial⟩
   ·exact⟨J,sO E J (by simpa using C),A⟩
   ·first|omega|(simp only;omega)|(simp;omega)
 ·
  refine I.exit (ag (F (ap ?_)));refine az (I.O (fun S=>?_));refine G.aj ?_;refine S ?_;refine I.ret (K ?_);exact⟨-1,o,⟨⟨fun h=>by omega,fun h=>by rw[eY J,h]at E;cases E⟩,by omega,by omega⟩,q⟩
theorem Ju(v ez:Value)(l:List UInt8)(p:UInt8→Bool)(w0:World)(N:Heap)
 (d:b7 N bd 1 v l)(E:∀(x:UInt8) (V:Heap),al N V→x∈l→im Tryz.prog w0 ez [.int .u8 x.toNat] V (fun r j=>r= .bool (p x)∧al V j)):
 aE Tryz.prog w0 123 #[v,ez] N (fun r j=>r= .bool (l.any p)∧al N j):=by
 refine aE.aP [v,ez] Tryz.func123 ?_;intro K F;have n:al N N:=aa.refl _ _;have d:=d.ch;have L:=d.len;refine I.O (fun B=>?_);refine G.aj ?_;refine B (I.O (fun C=>?_));refine G.av 2 ?_;refine aW Ie (KD _ ez l p w0 _ d.any E) ?_;rintro M H ⟨n7,rfl,A,ac⟩;have n:=n.O ac;refine G.v1 eT ?_;refine G.aj ?_;refine C ?_;refine I.ret (F ?_);exact⟨by cases q:l.any p with|true=>(rw[cT (A.1.2 q)])|false=>(rw[cL (fun h=>by rw[A.1.1 h]at q;cases q)]),n⟩
theorem KF(v ez:Value)(l:List (List UInt8))(p:List UInt8→Bool)(w0:World)(N:Heap)
 (d:b7 N ft 1 v l)(ar:∀(x:List UInt8) (V:Heap),al N V→x∈l→im Tryz.prog w0 ez [aN x] V (fun r B=>r= .bool (p x)∧al V B)):
 aE Tryz.prog w0 191 #[v,ez] N (fun r B=>∃n:Int,r= .int .i64 n∧((0≤n↔l.any p=true)∧ -1≤n∧n≤9223372036854775807)∧al N B):=by
 refine aE.aP [v,ez] Tryz.func191 ?_;intro ax K;have q:al N N:=aa.refl _ _;have d:=d.ch;have aH:=d.len;refine I.O (fun U=>?_);refine G.aj ?_;refine U (I.t2 (fun az am=>I.O (fun W=>?_)));refine G.af ?_;refine G.v1 (bu d jR) ?_;refine G.af (G.nil (W ?_));refine I.aC (fun _ ap X=>?_)
 refine I.bb (fun(j:Nat)=>[(0,v),(1,ez),(7,.int .i64 l.length),(8,.int .i64 j)])
  (fun(j:Nat) (H:Heap)=>(j≤l.length)∧(l.take j).any p=false∧al N H)
  (fun(j:Nat)=>l.length-j) 0 ⟨o,o,o,o,trivial⟩ ?_ ?_
 ·
  exact⟨J,o,aa.refl _ _⟩
 intro j aB Z av ae F;obtain⟨aG,E,A⟩:=Z;obtain⟨d,q,_⟩:=bO A d q;refine I.O (fun a7=>?_);refine G.v1 bZ (G.nil (a7 ?_));refine I.t2 (fun af ag=>?_);refine a8 (fun an=>?_) (fun an=>?_)
 ·
  refine I.skip (af (I.t2 (fun ai ak=>I.aC (fun L _ M=>I.O (fun O=>?_)))));refine G.aZ 2 ?_;refine O (I.O (fun ac=>?_));refine G.av 3 ?_;refine G.cn (Y.cg d j o jR b3 o o) fun ay P=>?_;refine G.v1 (bf P.W cd) ?_;refine G.qp o o o cS o o (ar l[j] _ q (cU J)) ?_;rintro aC aD ⟨rfl,Q⟩;obtain⟨q,A,_⟩:=bO Q q A;refine G.nil (ac ?_);refine dm (fun C=>?_) (fun C=>?_)
  ·
   refine I.O (fun R=>?_);refine G.aZ 2 ?_;refine R ?_;refine I.ret (M (ak (F (X (am (K ?_))))));exact⟨j,o,⟨⟨fun _=>qg (j:=j) J (by simpa using C),fun _=>by omega⟩,by omega,by omega⟩,q⟩
  ·
   refine I.skip (L (ai (I.region ?_)));refine G.v1 bN ?_;refine G.af (G.nil ?_);refine aT.sub (ae (j+1) _ ?_ ?_) ⟨o,o,(aF J),(aF J),trivial⟩
   ·exact⟨J,sO E J (by simpa using C),A⟩
   ·first|omega|(simp only;omega)|(simp;omega)
 ·
  refine I.exit (ag (F (ap ?_)));refine az (I.O (fun S=>?_));refine G.aj ?_;refine S ?_;refine I.ret (K ?_);exact⟨-1,o,⟨⟨fun h=>by omega,fun h=>by rw[eY J,h]at E;cases E⟩,by omega,by omega⟩,q⟩
theorem Jw(v ez:Value)(l:List (List UInt8))(p:List UInt8→Bool)(w0:World)(N:Heap)
 (d:b7 N ft 1 v l)(E:∀(x:List UInt8) (V:Heap),al N V→x∈l→im Tryz.prog w0 ez [aN x] V (fun r j=>r= .bool (p x)∧al V j)):
 aE Tryz.prog w0 126 #[v,ez] N (fun r j=>r= .bool (l.any p)∧al N j):=by
 refine aE.aP [v,ez] Tryz.func126 ?_;intro K F;have n:al N N:=aa.refl _ _;have d:=d.ch;have L:=d.len;refine I.O (fun B=>?_);refine G.aj ?_;refine B (I.O (fun C=>?_));refine G.av 2 ?_;refine aW Ig (KF _ ez l p w0 _ d.any E) ?_;rintro M H ⟨n7,rfl,A,ac⟩;have n:=n.O ac;refine G.v1 eT ?_;refine G.aj ?_;refine C ?_;refine I.ret (F ?_);exact⟨by cases q:l.any p with|true=>(rw[cT (A.1.2 q)])|false=>(rw[cL (fun h=>by rw[A.1.1 h]at q;cases q)]),n⟩
theorem zH(s:List UInt8)(bC:Int)(w0:World)(N:Heap)
 (aL:fj bC N)(M:bp (fun b=>b=0) N.size)(ag:s.length≤1000):
 aE Tryz.prog w0 129 #[aN s] N (fun r A=>r= .bool (nr s)∧al N A):=by
 refine aE.aP [aN s] Tryz.func129 ?_;intro H q;have j:al N N:=aa.refl _ _;refine I.O (fun ac=>?_);refine G.aj ?_;refine ac (I.O (fun n=>?_));refine G.af ?_;refine G.v1 (Y.lO o o o) ?_;refine G.af ?_;refine G.bL (d:=5) o (fun g5=>?_) (fun g5=>?_)
 ·
  have F:0<s.length:=vG.2 g5;have x:=kM (l:=s) (i:=0) F;have aP:=kM (l:=s) (i:=s.length-1) J;refine G.b4 ?_;refine G.aG (lS (0) e0) ?_;refine G.aG dX ?_;refine G.av 2 ?_;refine G.bL (d:=10) o (fun ad=>?_) (fun ad=>?_)
  ·
   refine G.b4 ?_;refine G.aG (lS (0) e0) ?_;refine G.aG dX ?_;refine G.av 2 ?_;refine G.bL (d:=15) o (fun C=>?_) (fun C=>?_)
   ·
    refine G.av 2 ?_;refine G.aG (hb e0) ?_;refine G.aG (Y.cast (v2:= .int .i64 ((s.length-1:Nat):Int)) gq (eI J)) ?_;refine G.aG (lS (s.length-1) e0) ?_;refine G.aG dX ?_;refine G.av 2 ?_;refine G.bL (d:=23) o (fun E=>?_) (fun E=>?_)
    ·
     refine G.b4 ?_;refine G.call o BP o bR o o (x_ s [46,46] bC w0 _ aL J) ?_;rintro K L ⟨rfl,B⟩;obtain⟨j,_⟩:=b6 B j;refine G.aG fB ?_;refine G.aZ 2 ?_;refine n ?_;refine I.ret (q ?_);exact⟨MT ⟨g5,by rw[x];omega,by rw[x];omega,by rw[aP];omega⟩,j⟩
    ·
     refine G.aZ 5 ?_;refine n ?_;refine I.ret (q ?_);exact⟨wB (fun h=>by have ab:=h.2.2.2;rw[aP]at ab;omega),j⟩
   ·
    refine G.aZ 13 ?_;refine n ?_;refine I.ret (q ?_);exact⟨wB (fun h=>by have ab:=h.2.2.1;rw[x]at ab;omega),j⟩
  ·
   refine G.aZ 18 ?_;refine n ?_;refine I.ret (q ?_);exact⟨wB (fun h=>by have ab:=h.2.1;rw[x]at ab;omega),j⟩
 ·
  refine G.aZ 23 ?_;refine n ?_;refine I.ret (q ?_);exact⟨wB (fun h=>g5 h.1),j⟩
theorem Jb(s:List UInt8)(bC:Int)(w0:World)(N:Heap)
 (aL:fj bC N)(x:bp (fun b=>b=0) N.size)(ag:s.length≤1000):
 aE Tryz.prog w0 128 #[aN s] N (fun r j=>r= .bool (!nr s)∧al N j):=by
 refine aE.aP [aN s] Tryz.func128 ?_;intro C A;have d:al N N:=aa.refl _ _;refine I.O (fun n=>?_);refine G.aj ?_;refine n (I.O (fun q=>?_));refine G.af ?_;refine aW HW (zH s bC w0 _ aL (x.mono J) ag) ?_;rintro v4 B ⟨rfl,ac⟩;have d:=d.O ac;refine G.v1 fB ?_;refine G.aj ?_;refine q ?_;refine I.ret (A ?_);exact⟨o,d⟩
theorem u4(s:List UInt8)(bC:Int)(w0:World)(N:Heap)
 (aL:fj bC N)(V:bp (fun b=>b=0) N.size)(ag:s.length≤9223372036854775807):
 aE Tryz.prog w0 48 #[aN s] N (fun r n=>r= .int .i64 (ea s)∧al N n):=by
 refine aE.aP [aN s] Tryz.func48 ?_;intro ae q;have j:al N N:=aa.refl _ _;refine I.O (fun E=>?_);refine G.aj ?_;refine E (I.t2 (fun F B=>I.O (fun C=>?_)));refine G.af ?_;refine G.v1 (hb e0) ?_;refine G.v1 fA ?_;refine G.af ?_;refine G.bL (d:=6) o (fun g6=>?_) (fun g6=>?_)
 ·
  refine G.av 4 ?_;refine G.nil (C ?_);refine I.kc o ?_;refine I.O (fun H=>?_);refine G.aj ?_;refine H ?_;refine I.ret (B (q ?_));exact⟨by first|(rw[ea,aM (.inl J)])|(rw[ea,aM (.inr cY)])|(rw[ea,aA (by rintro(h|h);omega;simp_all),aM cY])|(rw[ea,aA (by rintro(h|h);omega;simp_all),aA h1]),j⟩
 ·
  refine G.b4 ?_;refine G.z (Z.Af o Tryz.underlying9 Tryz.underlying57 Tryz.underlying5 o J) bR o o ?_;rintro ax X ⟨K,L,az⟩;obtain⟨aL,j,_⟩:=bO L aL j;refine G.call o HQ o bR o o (Ju _ (.func (.func 124) #[] #[]) s (fun c=> !df c) w0 _ K.rd.any (fun x n _ _=>im.of (caps:=[]) HR (Ja x w0 n))) ?_;rintro v9 Y ⟨rfl,am⟩;obtain⟨aL,j,_⟩:=bO am aL j;refine G.eh ?_;refine G.nil (C ?_);refine dm (fun M=>?_) (fun M=>?_)
  ·
   refine I.O (fun ap=>?_);refine G.aj ?_;refine ap ?_;refine I.ret (B (q ?_));exact⟨by first|(rw[ea,aM (.inl J)])|(rw[ea,aM (.inr cY)])|(rw[ea,aA (by rintro(h|h);omega;simp_all),aM cY])|(rw[ea,aA (by rintro(h|h);omega;simp_all),aA h1]),j⟩
  ·
   refine I.skip (F (I.t2 (fun O P=>I.O (fun Q=>?_))));refine G.af ?_;refine aW HU (Ot s bC w0 _ aL J) ?_;rintro ar af ⟨ay,av,rfl,A,a7,ac⟩;obtain⟨aL,j,_⟩:=bO ac aL j;have an:=A.le;refine aW HT (Jw _ (.func (.func 128) #[] #[]) (sp [] s) (fun p=> !nr p) w0 _ A.rd.any (fun x n aB W=>im.of (caps:=[]) HV (Jb x bC w0 n (aL.aR aB) (V.mono (by have:=aB.size;omega)) (by have:=z6 W;simp only[je]at this;omega)))) ?_;rintro ai ak ⟨rfl,ad⟩;obtain⟨j,_⟩:=b6 ad j;refine G.nil (Q ?_);refine dm (fun R=>?_) (fun R=>?_)
   ·
    refine I.O (fun S=>?_);refine G.aj ?_;refine S ?_;refine I.ret (P (q ?_));exact⟨by first|(rw[ea,aM (.inl J)])|(rw[ea,aM (.inr cY)])|(rw[ea,aA (by rintro(h|h);omega;simp_all),aM cY])|(rw[ea,aA (by rintro(h|h);omega;simp_all),aA h1]),j⟩
   ·
    refine I.skip (O (I.O (fun U=>?_)));refine G.aj ?_;refine U ?_;refine I.ret (q ?_);exact⟨by first|(rw[ea,aM (.inl J)])|(rw[ea,aM (.inr cY)])|(rw[ea,aA (by rintro(h|h);omega;simp_all),aM cY])|(rw[ea,aA (by rintro(h|h);omega;simp_all),aA h1]),j⟩
end pc
namespace lq
open gV pc
def tb(s:List UInt8)(i:Nat):Prop:=i=0∨(s.getD (i-1) 0).toNat=47
def vZ(s:List UInt8)(i:Nat):Prop:=i+1=s.length∨(s.getD (i+1) 0).toNat=47
def sk(s:List UInt8)(i:Nat):Prop:=df (s.getD i 0)=true∧¬((s.getD i 0).toNat=47∧(tb s i∨i+1=s.length))∧¬(tb s i∧((s.getD i 0).toNat=46∨(s.getD i 0).toNat=45))∧¬(vZ s i∧(s.getD i 0).toNat=46)∧¬((s.getD i 0).toNat=46∧0<i∧(s.getD (i-1) 0).toNat=46)
def scan(p:Nat):List UInt8→Prop
 |[]=>p≠47∧p≠46
 |c::l=>df c=true∧(c.toNat=47→p≠47∧p≠46)∧(p=47→c.toNat≠46∧c.toNat≠45)∧¬(c.toNat=46∧p=46)∧scan c.toNat l
def wo(p:Nat)(c:UInt8)(l:List UInt8):Prop:=df c=true∧¬(c.toNat=47∧(p=47∨l.length=0))∧¬(p=47∧(c.toNat=46∨c.toNat=45))∧¬((l.length=0∨(l.getD 0 0).toNat=47)∧c.toNat=46)∧¬(c.toNat=46∧p=46)
def qT(p:Nat):List UInt8→Prop
 |[]=>True
 |c::l=>wo p c l∧qT c.toNat l
theorem zW:∀(l:List UInt8) (p:Nat),scan p l↔qT p l∧(l.length=0→p≠47∧p≠46)∧(l.length≠0→(l.getD 0 0).toNat=47→p≠46)
 |[],p=>by simp[scan,qT]
 |c::l,p=>by
  have ih:=zW l c.toNat;simp only[scan,qT,wo,fx,vN];rw[ih];constructor
  ·rintro⟨q,ab,d,n,r,j,A⟩
   refine⟨⟨⟨q,?_,?_,?_,n⟩,r⟩,fun h=>by omega,fun _ h=>(ab h).2⟩
   ·rintro⟨a,b|b⟩
    ·exact(ab a).1 b
    ·exact(j b).1 a
   ·rintro⟨a,b|b⟩
    ·exact(d a).1 b
    ·exact(d a).2 b
   ·rintro⟨a|a,b⟩
    ·exact(j a).2 b
    ·by_cases x:l.length=0
     ·exact(j x).2 b
     ·exact A x a b
  ·rintro⟨⟨⟨q,ab,d,n,r⟩,j⟩,_,B⟩
   refine⟨q,fun a=>⟨fun b=>ab ⟨a,.inl b⟩,B J a⟩,fun a=>⟨fun b=>d ⟨a,.inl b⟩,fun b=>d ⟨a,.inr b⟩⟩,r,j,fun a=>⟨fun b=>ab ⟨b,.inr a⟩,fun b=>n ⟨.inl a,b⟩⟩,fun _ a b=>n ⟨.inr a,b⟩⟩
def qS(p:Nat)(s:List UInt8)(i:Nat):Prop:=wo (if i=0 then p else(s.getD (i-1) 0).toNat) (s.getD i 0) (s.drop (i+1))
theorem zy:∀(s:List UInt8) (p:Nat),qT p s↔∀i,i<s.length→qS p s i
 |[],p=>by simp[qT]
 |c::l,p=>by
  have ih:=zy l c.toNat;rw[qT,ih];constructor
  ·rintro⟨j,ab⟩ i d
   cases i with
   |zero=>simpa[qS]using j
   |succ i=>
    have:=ab i (by simpa using d);unfold qS at this⊢
    cases i with
    |zero=>simpa using this
    |succ i=>simpa using this
  ·intro h
   refine⟨by simpa[qS]using h 0 bl,fun i d=>?_⟩;have:=h (i+1) (by simpa using d);unfold qS at this⊢
   cases i with
   |zero=>simpa using this
   |succ i=>simpa using this
theorem EJ{s:List UInt8}{i:Nat}(B:i<s.length):qS 47 s i↔sk s i:=by
 have x:(s.drop (i+1)).length=0↔i+1=s.length:=by rw[ia];omega
 have r:(s.drop (i+1)).getD 0 0=s.getD (i+1) 0:=by simp[List.getD]
 unfold qS sk wo tb vZ;rw[x,r];by_cases d:i=0
 ·rw[aM d]
  simp only[d,true_or,true_and,and_true];constructor
  ·rintro⟨j,ab,n,q,_⟩;exact⟨j,ab,n,q,fun h=>by omega⟩
  ·rintro⟨j,ab,n,q,_⟩;exact⟨j,ab,n,q,fun h=>by omega⟩
 ·rw[aA d]
  have A:0<i:=by omega
  simp only[d,false_or,A,true_and]
def ev(cur:List UInt8):Nat:=match cur.getLast? with|none=>47|some c=>c.toNat
theorem Lv(cur:List UInt8)(c:UInt8):ev (cur++[c])=c.toNat:=by simp[ev]
def dd:List UInt8→Bool
 |[]=>false
 |c::l=>(decide (c.toNat=46)&&(match l.head? with|none=>false|some d=>decide (d.toNat=46)))||dd l
theorem zq{c:UInt8}:(46==c)=decide (c.toNat=46):=by
 have:(46=c)↔(c.toNat=46):=⟨fun h=>by rw[←h];rfl,fun h=>by apply pE;rw[h];rfl⟩;by_cases h:46=c
 ·rw[cT (this.1 h)];simpa using h
 ·rw[cL (fun e=>h (this.2 e))];simpa using h
theorem Cx:∀l:List UInt8,Lib.contains l [46,46]=dd l
 |[]=>by decide
 |c::l=>by
  have ih:=Cx l;unfold Lib.contains at ih⊢;have n:=Lib.index_ge l [46,46]
  have j:([46,46]:List UInt8).isPrefixOf (c::l)=(decide (c.toNat=46)&&(match l.head? with|none=>false|some d=>decide (d.toNat=46))):=by
   cases l with
   |nil=>rw[List.isPrefixOf,zq];simp
   |cons d l=>rw[List.isPrefixOf,List.isPrefixOf,zq,zq];simp
  rw[Lib.index,j,dd]
  cases h:(decide (c.toNat=46)&&(match l.head? with|none=>false|some d=>decide (d.toNat=46)))with
  |true=>simp
  |false=>
   rw[aA bl,yR,←ih];by_cases hm:Lib.index l [46,46]= -1
   ·rw[aM (by rw[hm];rfl),hm]
   ·rw[aA (by simpa using hm)];exact decide_eq_decide.2 J
theorem Cz:∀(l:List UInt8) (c:UInt8),dd (l++[c])=(dd l||(decide (ev l=46)&&decide (c.toNat=46)))
 |[],c=>by simp[dd,ev]
 |[d],c=>by
  have j:ev [d]=d.toNat:=rfl;have ab:dd [d]=false:=by simp[dd]
  have n:dd ([d]++[c])=(decide (d.toNat=46)&&decide (c.toNat=46)||dd [c]):=rfl;have q:dd [c]=false:=by simp[dd]
  rw[j,ab,n,q,Bool.or_false,yR]
 |d::e::l,c=>by
  have ih:=Cz (e::l) c;have j:ev (d::e::l)=ev (e::l):=by simp[ev]
  have ab:dd (d::e::l)=(decide (d.toNat=46)&&decide (e.toNat=46)||dd (e::l)):=rfl;have n:dd (d::e::l++[c])=(decide (d.toNat=46)&&decide (e.toNat=46)||dd (e::l++[c])):=rfl;rw[j,ab,n,ih,Bool.or_assoc]
def pU(cur:List UInt8):Prop:=(cur≠[]→(cur.getD 0 0).toNat≠46∧(cur.getD 0 0).toNat≠45)∧dd cur=false
theorem D2{s:List UInt8}(h:s≠[]):ev s=(s.getD (s.length-1) 0).toNat:=by
 have:s.getLast?=some (s.getD (s.length-1) 0):=by
  rw[List.getLast?_eq_getElem?,List.getD_eq_getElem?_getD];have:=vG.2 h;rw[List.getElem?_eq_getElem J];rfl
 unfold ev;rw[this]
theorem EY{cur:List UInt8}(n:∀c∈cur,c.toNat≠47):nr cur=true↔pU cur∧ev cur≠47∧ev cur≠46:=by
 unfold nr pU;rw[Cx,nW,km];by_cases j:cur=[]
 ·subst j;simp[ev]
 ·rw[D2 j]
  have hm:cur.getD (cur.length-1) 0∈cur:=by
   have:=vG.2 j;rw[kM J];exact cU _
  have:=n _ hm;simp only[j,ne_eq,not_false_eq_true,true_and,forall_const,tp];constructor
  ·rintro⟨⟨a,b,c⟩,d⟩;exact⟨⟨⟨a,b⟩,d⟩,this,c⟩
  ·rintro⟨⟨⟨a,b⟩,d⟩,_,c⟩;exact⟨⟨a,b,c⟩,d⟩
theorem M1{cur:List UInt8}{c:UInt8}(j:∀c∈cur,c.toNat≠47):pU (cur++[c])↔pU cur∧(ev cur=47→c.toNat≠46∧c.toNat≠45)∧¬(c.toNat=46∧ev cur=46):=by
 unfold pU;rw[Cz]
 cases cur with
 |nil=>simp[dd,ev]
 |cons d l=>
  have hm:ev (d::l)≠47:=by
   rw[D2 bl];refine j _ ?_;rw[kM bl];exact cU _
  simp only[kO,ne_eq,reduceCtorEq,not_false_eq_true,vN,forall_const,yS,vK,decide_eq_false_iff_not,hm,false_implies,true_and];constructor
  ·rintro⟨a,b,c⟩;exact⟨⟨a,b⟩,fun h=>by rcases c with c|c;exact c h.2;exact c h.1⟩
  ·rintro⟨⟨a,b⟩,c⟩
   refine⟨a,b,?_⟩;by_cases h:ev (d::l)=46
   ·exact .inr (fun e=>c ⟨e,h⟩)
   ·exact .inl h
theorem L5{c:UInt8}:c=47↔c.toNat=47:=⟨fun h=>by rw[h];rfl,fun h=>by apply pE;rw[h];rfl⟩
theorem Kl:df 47=true:=by decide
theorem z7:∀(s cur:List UInt8),(∀c∈cur,c.toNat≠47)→(((∀p∈sp cur s,nr p=true)∧(∀c∈s,df c=true))↔(pU cur∧scan (ev cur) s))
 |[],cur,h=>by
  simp only[sp,eU,forall_eq,nf,false_implies,implies_true,and_true,scan]
  exact EY h
 |c::l,cur,h=>by
  by_cases aq:c=47
  ·subst aq
   have ih:=z7 l [] (fun c h=>by cases h);have j:ev []=47:=rfl;have n:pU []:=⟨fun h=>absurd o h,o⟩;rw[j]at ih;have t47:(47:UInt8).toNat=47:=rfl;simp only[sp,if_true,dU,forall_eq_or_imp,scan,Kl,t47,true_and,ne_eq,forall_const];have:=EY h;constructor
   ·rintro⟨⟨a,b⟩,d⟩
    obtain⟨bh,bW,cw⟩:=this.1 a;exact⟨bh,⟨bW,cw⟩,fun _=>⟨by decide,by decide⟩,fun e=>by omega,(ih.1 ⟨b,d⟩).2⟩
   ·rintro⟨a,⟨b,d⟩,_,_,e⟩
    obtain⟨bh,bW⟩:=ih.2 ⟨n,e⟩;exact⟨⟨this.2 ⟨a,b,d⟩,bh⟩,bW⟩
  ·have aB:c.toNat≠47:=fun e=>aq (L5.2 e)
   have ab:∀d∈cur++[c],d.toNat≠47:=by
    intro d ah;rcases gG.1 ah with ah|ah
    ·exact h d ah
    ·rw[eU]at ah;rw[ah];exact aB
   have ih:=z7 l (cur++[c]) ab;rw[Lv,M1 h]at ih;simp only[sp,aA aq,dU,forall_eq_or_imp,scan];constructor
   ·rintro⟨a,b,d⟩
    obtain⟨⟨bh,bW,cw⟩,ep⟩:=ih.1 ⟨a,d⟩;exact⟨bh,b,fun e=>absurd e aB,bW,cw,ep⟩
   ·rintro⟨a,b,_,bW,cw,ep⟩
    obtain⟨eM,fh⟩:=ih.2 ⟨⟨a,bW,cw⟩,ep⟩;exact⟨eM,b,fh⟩
theorem qq(s:List UInt8):ea s=0↔s.length≤60∧scan 47 s:=by
 have h:=z7 s [] (fun c h=>by cases h);have x:pU []:=⟨fun h=>absurd o h,o⟩;rw[show ev []=47 from rfl]at h;unfold ea;constructor
 ·intro d
  split at d
  ·cases d
  ·rename_i q
   split at d
   ·cases d
   ·rename_i ab
    refine⟨by omega,(h.1 ⟨fun p n=>?_,fun c aq=>?_⟩).2⟩
    ·simp only[oW,not_exists,not_and,tp,Bool.not_eq_false]at ab
     exact ab p n
    ·have j:¬(s.any (fun c=> !df c))=true:=fun e=>q (.inr e)
     simp only[oW,not_exists,not_and,tp,Bool.not_eq_false]at j;exact j c aq
 ·rintro⟨q,ab⟩
  obtain⟨j,r⟩:=h.2 ⟨x,ab⟩;rw[aA,aA]
  ·intro e
   obtain⟨p,n,e⟩:=oW.1 e;rw[j p n]at e;cases e
  ·rintro(e|e)
   ·omega
   ·obtain⟨c,aq,e⟩:=oW.1 e
    rw[r c aq]at e;cases e
theorem u5(s:List UInt8):ea s=0∨ea s=7:=by
 unfold ea;split
 ·exact .inr o
 ·split
  ·exact .inr o
  ·exact .inl o
theorem Na{s:List UInt8}(j:¬s.length<1)(ab:¬s.length>60)(h:∀i,i<s.length→sk s i):ea s=0:=by
 refine(qq s).2 ⟨by omega,(zW s 47).2 ⟨(zy s 47).2 (fun i d=>(EJ d).2 (h i d)),fun e=>by omega,fun _ _=>by decide⟩⟩
theorem tQ{s:List UInt8}{i:Nat}(j:i<s.length)(h:¬sk s i):ea s=7:=by
 rcases u5 s with d|d
 ·obtain⟨_,ab⟩:=(qq s).1 d
  exact absurd ((EJ j).1 ((zy s 47).1 ((zW s 47).1 ab).1 i j)) h
 ·exact d
theorem Jj{s:List UInt8}(h:s.length<1):ea s=7:=by
 have:s=[]:=DC.1 J;subst this;decide+kernel
theorem Jh{s:List UInt8}(h:s.length>60):ea s=7:=by unfold ea;rw[aM (.inl h)]
theorem Mu{s:List UInt8}{i:Nat}{fb bn q r x A:Bool}(H:df (s.getD i 0)=true)(G:fb=true↔tb s i)(I:bn=true↔vZ s i)(d:q=true↔((s.getD i 0).toNat=47∧(fb=true∨i+1=s.length)))(j:r=true↔(fb=true∧((s.getD i 0).toNat=46∨(s.getD i 0).toNat=45)))
 (n:x=true↔(bn=true∧(s.getD i 0).toNat=46))(B:A=true↔((s.getD i 0).toNat=46∧0<i∧(s.getD (i-1) 0).toNat=46))(C:q=false)(E:r=false)(eK:x=false)(F:A=false):sk s i:=by
 subst C E eK F;simp only[lF,false_iff]at d j n B;rw[G]at d j;rw[I]at n;exact⟨H,d,j,n,B⟩
end lq
namespace qb
open gV pc lq
theorem xP:∀(up s:List UInt8),(up++[47]).isPrefixOf s=decide (up.length<s.length∧s.take up.length=up∧(s.getD up.length 0).toNat=47)
 |[],[]=>by simp
 |[],c::s=>by
  have e:(47=c)↔(c.toNat=47):=⟨fun h=>by rw[←h];rfl,fun h=>by apply pE;rw[h];rfl⟩;by_cases h:47=c
  ·rw[cT]
   ·simp[List.isPrefixOf,h]
   ·exact⟨by simp,o,e.1 h⟩
  ·rw[cL]
   ·simp[List.isPrefixOf,h]
   ·rintro⟨_,_,ab⟩;exact h (e.2 (by simpa using ab))
 |d::up,[]=>by simp
 |d::up,c::s=>by
  have ih:=xP up s;rw[kO,List.isPrefixOf,ih];by_cases h:d=c
  ·subst h;simp
  ·have ab:¬c=d:=fun e=>h e.symm
   simp[h,ab]
theorem Hm{s up:List UInt8}(h:up.length<s.length)(ab:s.take up.length=up):Value.bool (decide (((s[up.length]).toNat:Int)=47))= .bool ((up++[47]).isPrefixOf s):=by
 rw[xP];exact dY ⟨fun e=>⟨h,ab,by rw[kM h];omega⟩,fun e=>by have:=e.2.2;rw[kM h]at this;omega⟩
theorem Bt{s up:List UInt8}(h:¬(up.length<s.length∧s.take up.length=up)):Value.bool false= .bool ((up++[47]).isPrefixOf s):=by
 rw[xP,cL (fun e=>h ⟨e.1,e.2.1⟩)]
def ly(s T:List UInt8):Bool:=(s++[47]).isPrefixOf T||(T++[47]).isPrefixOf s
def base(s:List UInt8)(l:List (List UInt8)):Int:=if ea s≠0 then ea s else if s∈l then 8 else 0
def k5(s:List UInt8)(l:List (List UInt8)):Int:=if base s l≠0 then base s l else if l.any (ly s)=true then 13 else 0
theorem D7{s:List UInt8}{l:List (List UInt8)}{j:Nat}(h:s∉l.take j)(d:j<l.length)(ab:s≠l[j]):s∉l.take (j+1):=by
 rw[eP d];simp only[gG,eU,not_or];exact⟨h,ab⟩
theorem KG(v:Value)(x:List UInt8)(l:List (List UInt8))(w0:World)(N:Heap)
 (d:b7 N ft 1 v l):
 aE Tryz.prog w0 230 #[v,aN x] N (fun r K=>∃n:Int,r= .int .i64 n∧((0≤n↔x∈l)∧ -1≤n∧n≤9223372036854775807)∧al N K):=by
 refine aE.aP [v,aN x] Tryz.func230 ?_;intro an F;have q:al N N:=aa.refl _ _;have d:=d.ch;have ay:=d.len;refine I.O (fun R=>?_);refine G.aj ?_;refine R (I.t2 (fun S az=>I.O (fun am=>?_)));refine G.af ?_;refine G.v1 (bu d jR) ?_;refine G.af (G.nil (am ?_));refine I.aC (fun _ U ap=>?_)
 refine I.bb (fun(j:Nat)=>[(0,v),(1,aN x),(7,.int .i64 l.length),(8,.int .i64 j)])
  (fun(j:Nat) (H:Heap)=>(j≤l.length)∧x∉l.take j∧al N H)
  (fun(j:Nat)=>l.length-j) 0 ⟨o,o,o,o,trivial⟩ ?_ ?_
 ·
  exact⟨J,(fun h=>by simp at h),aa.refl _ _⟩
 intro j av V ak W E;obtain⟨ax,B,C⟩:=V;obtain⟨d,q,_⟩:=bO C d q;refine I.O (fun X=>?_);refine G.v1 bZ (G.nil (X ?_));refine I.t2 (fun a7 Z=>?_);refine a8 (fun ai=>?_) (fun ai=>?_)
 ·
  refine I.skip (a7 (I.t2 (fun ae af=>I.aC (fun ag _ L=>I.O (fun M=>?_)))));refine G.aZ 2 ?_;refine M (I.O (fun ac=>?_));refine G.av 3 ?_;refine G.cn (Y.cg d j o jR b3 o o) fun ar O=>?_;refine G.v1 (bf O.W cd) ?_;refine G.v1 (Y.oc o o o) (G.nil (ac ?_));refine a8 (fun A=>?_) (fun A=>?_)
  ·
   refine I.O (fun P=>?_);refine G.aZ 2 ?_;refine P ?_;refine I.ret (L (af (E (ap (az (F ?_))))));exact⟨j,o,⟨⟨fun _=>by rw[A];exact cU _,fun _=>by omega⟩,by omega,by omega⟩,q⟩
  ·
   refine I.skip (ag (ae (I.region ?_)));refine G.v1 bN ?_;refine G.af (G.nil ?_);refine aT.sub (W (j+1) _ ?_ ?_) ⟨o,o,(aF J),(aF J),trivial⟩
   ·exact⟨J,D7 B J (by simpa using A),C⟩
   ·first|omega|(simp only;omega)|(simp;omega)
 ·
  refine I.exit (Z (E (U ?_)));refine S (I.O (fun Q=>?_));refine G.aj ?_;refine Q ?_;refine I.ret (F ?_);exact⟨-1,o,⟨⟨fun h=>by omega,fun h=>by rw[eY J]at B;exact absurd h B⟩,by omega,by omega⟩,q⟩
theorem Jt(v:Value)(x:List UInt8)(l:List (List UInt8))(w0:World)(N:Heap)
 (d:b7 N ft 1 v l):
 aE Tryz.prog w0 194 #[v,aN x] N (fun r n=>r= .bool (decide (x∈l))∧al N n):=by
 refine aE.aP [v,aN x] Tryz.func194 ?_;intro F C;have j:al N N:=aa.refl _ _;have d:=d.ch;have H:=d.len;refine I.O (fun q=>?_);refine G.aj ?_;refine q (I.O (fun A=>?_));refine G.av 2 ?_;refine aW Ip (KG _ x l w0 _ d.any) ?_;rintro K E ⟨n7,rfl,B,ac⟩;have j:=j.O ac;refine G.v1 eT ?_;refine G.aj ?_;refine A ?_;refine I.ret (C ?_);exact⟨dY B.1,j⟩
theorem Kn(c:UInt8)(w0:World)(N:Heap)
 :
 aE Tryz.prog w0 115 #[.int .u8 c.toNat] N (fun r F=>r= .bool (df c)∧al N F):=by
 refine aE.aP [.int .u8 c.toNat] Tryz.func115 ?_;intro K q;have n:al N N:=aa.refl _ _;refine I.O (fun H=>?_);refine G.aj ?_;refine H (I.O (fun j=>?_));refine G.af ?_;refine G.v1 eT ?_;refine G.af ?_;refine G.bL (d:=5) o (fun g5=>?_) (fun g5=>?_)
 ·
  refine G.b4 ?_;refine G.aG fK ?_;refine G.av 2 ?_;refine G.bL (d:=9) o (fun g9=>?_) (fun g9=>?_)
  ·
   refine G.av 3 ?_;refine il ?_;refine il ?_;refine G.av 6 ?_;refine il ?_;refine il ?_;refine G.aZ 19 ?_;refine j ?_;refine I.ret (q ?_);exact⟨by first|exact eo J|exact fN J|(rw[df];exact dY J),n⟩
  ·
   refine G.b4 ?_;refine G.aG eT ?_;refine G.b4 ?_;refine G.bL (d:=12) o (fun C=>?_) (fun C=>?_)
   ·
    refine G.b4 ?_;refine G.aG fK ?_;refine G.aG ga ?_;refine G.av 2 ?_;refine G.bL (d:=17) o (fun E=>?_) (fun E=>?_)
    ·
     refine G.av 3 ?_;refine il ?_;refine il ?_;refine G.aZ 19 ?_;refine j ?_;refine I.ret (q ?_);exact⟨by first|exact eo J|exact fN J|(rw[df];exact dY J),n⟩
    ·
     refine G.b4 ?_;refine G.aG eT ?_;refine G.b4 ?_;refine G.bL (d:=20) o (fun A=>?_) (fun A=>?_)
     ·
      refine G.b4 ?_;refine G.aG fK ?_;refine G.aG ga ?_;refine G.av 2 ?_;refine G.bL (d:=25) o (fun B=>?_) (fun B=>?_)
      ·
       refine G.aZ 16 ?_;refine j ?_;refine I.ret (q ?_);exact⟨by first|exact eo J|exact fN J|(rw[df];exact dY J),n⟩
      ·
       refine G.b4 ?_;refine G.aG cC ?_;refine G.av 2 ?_;refine G.bL (d:=29) o (fun x=>?_) (fun x=>?_)
       ·
        refine G.aZ 12 ?_;refine j ?_;refine I.ret (q ?_);exact⟨by first|exact eo J|exact fN J|(rw[df];exact dY J),n⟩
       ·
        refine G.b4 ?_;refine G.aG cC ?_;refine G.av 2 ?_;refine G.bL (d:=33) o (fun ac=>?_) (fun ac=>?_)
        ·
         refine G.aZ 8 ?_;refine j ?_;refine I.ret (q ?_);exact⟨by first|exact eo J|exact fN J|(rw[df];exact dY J),n⟩
        ·
         refine G.b4 ?_;refine G.aG cC ?_;refine G.av 2 ?_;refine G.bL (d:=37) o (fun ad=>?_) (fun ad=>?_)
         ·
          refine G.aZ 4 ?_;refine j ?_;refine I.ret (q ?_);exact⟨by first|exact eo J|exact fN J|(rw[df];exact dY J),n⟩
         ·
          refine G.b4 ?_;refine G.aG cC ?_;refine G.aZ 2 ?_;refine j ?_;refine I.ret (q ?_);exact⟨by first|exact eo J|exact fN J|(rw[df];exact dY J),n⟩
     ·
      refine G.av 2 ?_;refine G.aG fT ?_;refine G.av 3 ?_;refine G.aG cC ?_;refine G.av 2 ?_;refine G.bL (d:=29) o (fun x=>?_) (fun x=>?_)
      ·
       refine G.aZ 12 ?_;refine j ?_;refine I.ret (q ?_);exact⟨by first|exact eo J|exact fN J|(rw[df];exact dY J),n⟩
      ·
       refine G.b4 ?_;refine G.aG cC ?_;refine G.av 2 ?_;refine G.bL (d:=33) o (fun ac=>?_) (fun ac=>?_)
       ·
        refine G.aZ 8 ?_;refine j ?_;refine I.ret (q ?_);exact⟨by first|exact eo J|exact fN J|(rw[df];exact dY J),n⟩
       ·
        refine G.b4 ?_;refine G.aG cC ?_;refine G.av 2 ?_;refine G.bL (d:=37) o (fun ad=>?_) (fun ad=>?_)
        ·
         refine G.aZ 4 ?_;refine j ?_;refine I.ret (q ?_);exact⟨by first|exact eo J|exact fN J|(rw[df];exact dY J),n⟩
        ·
         refine G.b4 ?_;refine G.aG cC ?_;refine G.aZ 2 ?_;refine j ?_;refine I.ret (q ?_);exact⟨by first|exact eo J|exact fN J|(rw[df];exact dY J),n⟩
   ·
    refine G.av 2 ?_;refine G.aG fT ?_;refine G.av 3 ?_;refine G.aG eT ?_;refine G.b4 ?_;refine G.bL (d:=20) o (fun A=>?_) (fun A=>?_)
    ·
     refine G.b4 ?_;refine G.aG fK ?_;refine G.aG ga ?_;refine G.av 2 ?_;refine G.bL (d:=25) o (fun B=>?_) (fun B=>?_)
     ·
      refine G.aZ 16 ?_;refine j ?_;refine I.ret (q ?_);exact⟨by first|exact eo J|exact fN J|(rw[df];exact dY J),n⟩
     ·
      refine G.b4 ?_;refine G.aG cC ?_;refine G.av 2 ?_;refine G.bL (d:=29) o (fun x=>?_) (fun x=>?_)
      ·
       refine G.aZ 12 ?_;refine j ?_;refine I.ret (q ?_);exact⟨by first|exact eo J|exact fN J|(rw[df];exact dY J),n⟩
      ·
       refine G.b4 ?_;refine G.aG cC ?_;refine G.av 2 ?_;refine G.bL (d:=33) o (fun ac=>?_) (fun ac=>?_)
       ·
        refine G.aZ 8 ?_;refine j ?_;refine I.ret (q ?_);exact⟨by first|exact eo J|exact fN J|(rw[df];exact dY J),n⟩
       ·
        refine G.b4 ?_;refine G.aG cC ?_;refine G.av 2 ?_;refine G.bL (d:=37) o (fun ad=>?_) (fun ad=>?_)
        ·
         refine G.aZ 4 ?_;refine j ?_;refine I.ret (q ?_);exact⟨by first|exact eo J|exact fN J|(rw[df];exact dY J),n⟩
        ·
         refine G.b4 ?_;refine G.aG cC ?_;refine G.aZ 2 ?_;refine j ?_;refine I.ret (q ?_);exact⟨by first|exact eo J|exact fN J|(rw[df];exact dY J),n⟩
    ·
     refine G.av 2 ?_;refine G.aG fT ?_;refine G.av 3 ?_;refine G.aG cC ?_;refine G.av 2 ?_;refine G.bL (d:=29) o (fun x=>?_) (fun x=>?_)
     ·
      refine G.aZ 12 ?_;refine j ?_;refine I.ret (q ?_);exact⟨by first|exact eo J|exact fN J|(rw[df];exact dY J),n⟩
     ·
      refine G.b4 ?_;refine G.aG cC ?_;refine G.av 2 ?_;refine G.bL (d:=33) o (fun ac=>?_) (fun ac=>?_)
      ·
       refine G.aZ 8 ?_;refine j ?_;refine I.ret (q ?_);exact⟨by first|exact eo J|exact fN J|(rw[df];exact dY J),n⟩
      ·
       refine G.b4 ?_;refine G.aG cC ?_;refine G.av 2 ?_;refine G.bL (d:=37) o (fun ad=>?_) (fun ad=>?_)
       ·
        refine G.aZ 4 ?_;refine j ?_;refine I.ret (q ?_);exact⟨by first|exact eo J|exact fN J|(rw[df];exact dY J),n⟩
       ·
        refine G.b4 ?_;refine G.aG cC ?_;refine G.aZ 2 ?_;refine j ?_;refine I.ret (q ?_);exact⟨by first|exact eo J|exact fN J|(rw[df];exact dY J),n⟩
 ·
  refine G.av 5 ?_;refine G.aG eT ?_;refine G.b4 ?_;refine G.bL (d:=12) o (fun C=>?_) (fun C=>?_)
  ·
   refine G.b4 ?_;refine G.aG fK ?_;refine G.aG ga ?_;refine G.av 2 ?_;refine G.bL (d:=17) o (fun E=>?_) (fun E=>?_)
   ·
    refine G.av 3 ?_;refine il ?_;refine il ?_;refine G.aZ 19 ?_;refine j ?_;refine I.ret (q ?_);exact⟨by first|exact eo J|exact fN J|(rw[df];exact dY J),n⟩
   ·
    refine G.b4 ?_;refine G.aG eT ?_;refine G.b4 ?_;refine G.bL (d:=20) o (fun A=>?_) (fun A=>?_)
    ·
     refine G.b4 ?_;refine G.aG fK ?_;refine G.aG ga ?_;refine G.av 2 ?_;refine G.bL (d:=25) o (fun B=>?_) (fun B=>?_)
     ·
      refine G.aZ 16 ?_;refine j ?_;refine I.ret (q ?_);exact⟨by first|exact eo J|exact fN J|(rw[df];exact dY J),n⟩
     ·
      refine G.b4 ?_;refine G.aG cC ?_;refine G.av 2 ?_;refine G.bL (d:=29) o (fun x=>?_) (fun x=>?_)
      ·
       refine G.aZ 12 ?_;refine j ?_;refine I.ret (q ?_);exact⟨by first|exact eo J|exact fN J|(rw[df];exact dY J),n⟩
      ·
       refine G.b4 ?_;refine G.aG cC ?_;refine G.av 2 ?_;refine G.bL (d:=33) o (fun ac=>?_) (fun ac=>?_)
       ·
        refine G.aZ 8 ?_;refine j ?_;refine I.ret (q ?_);exact⟨by first|exact eo J|exact fN J|(rw[df];exact dY J),n⟩
       ·
        refine G.b4 ?_;refine G.aG cC ?_;refine G.av 2 ?_;refine G.bL (d:=37) o (fun ad=>?_) (fun ad=>?_)
        ·
         refine G.aZ 4 ?_;refine j ?_;refine I.ret (q ?_);exact⟨by first|exact eo J|exact fN J|(rw[df];exact dY J),n⟩
        ·
         refine G.b4 ?_;refine G.aG cC ?_;refine G.aZ 2 ?_;refine j ?_;refine I.ret (q ?_);exact⟨by first|exact eo J|exact fN J|(rw[df];exact dY J),n⟩
    ·
     refine G.av 2 ?_;refine G.aG fT ?_;refine G.av 3 ?_;refine G.aG cC ?_;refine G.av 2 ?_;refine G.bL (d:=29) o (fun x=>?_) (fun x=>?_)
     ·
      refine G.aZ 12 ?_;refine j ?_;refine I.ret (q ?_);exact⟨by first|exact eo J|exact fN J|(rw[df];exact dY J),n⟩
     ·
      refine G.b4 ?_;refine G.aG cC ?_;refine G.av 2 ?_;refine G.bL (d:=33) o (fun ac=>?_) (fun ac=>?_)
      ·
       refine G.aZ 8 ?_;refine j ?_;refine I.ret (q ?_);exact⟨by first|exact eo J|exact fN J|(rw[df];exact dY J),n⟩
      ·
       refine G.b4 ?_;refine G.aG cC ?_;refine G.av 2 ?_;refine G.bL (d:=37) o (fun ad=>?_) (fun ad=>?_)
       ·
        refine G.aZ 4 ?_;refine j ?_;refine I.ret (q ?_);exact⟨by first|exact eo J|exact fN J|(rw[df];exact dY J),n⟩
       ·
        refine G.b4 ?_;refine G.aG cC ?_;refine G.aZ 2 ?_;refine j ?_;refine I.ret (q ?_);exact⟨by first|exact eo J|exact fN J|(rw[df];exact dY J),n⟩
  ·
   refine G.av 2 ?_;refine G.aG fT ?_;refine G.av 3 ?_;refine G.aG eT ?_;refine G.b4 ?_;refine G.bL (d:=20) o (fun A=>?_) (fun A=>?_)
   ·
    refine G.b4 ?_;refine G.aG fK ?_;refine G.aG ga ?_;refine G.av 2 ?_;refine G.bL (d:=25) o (fun B=>?_) (fun B=>?_)
    ·
     refine G.aZ 16 ?_;refine j ?_;refine I.ret (q ?_);exact⟨by first|exact eo J|exact fN J|(rw[df];exact dY J),n⟩
    ·
     refine G.b4 ?_;refine G.aG cC ?_;refine G.av 2 ?_;refine G.bL (d:=29) o (fun x=>?_) (fun x=>?_)
     ·
      refine G.aZ 12 ?_;refine j ?_;refine I.ret (q ?_);exact⟨by first|exact eo J|exact fN J|(rw[df];exact dY J),n⟩
     ·
      refine G.b4 ?_;refine G.aG cC ?_;refine G.av 2 ?_;refine G.bL (d:=33) o (fun ac=>?_) (fun ac=>?_)
      ·
       refine G.aZ 8 ?_;refine j ?_;refine I.ret (q ?_);exact⟨by first|exact eo J|exact fN J|(rw[df];exact dY J),n⟩
      ·
       refine G.b4 ?_;refine G.aG cC ?_;refine G.av 2 ?_;refine G.bL (d:=37) o (fun ad=>?_) (fun ad=>?_)
       ·
        refine G.aZ 4 ?_;refine j ?_;refine I.ret (q ?_);exact⟨by first|exact eo J|exact fN J|(rw[df];exact dY J),n⟩
       ·
        refine G.b4 ?_;refine G.aG cC ?_;refine G.aZ 2 ?_;refine j ?_;refine I.ret (q ?_);exact⟨by first|exact eo J|exact fN J|(rw[df];exact dY J),n⟩
   ·
    refine G.av 2 ?_;refine G.aG fT ?_;refine G.av 3 ?_;refine G.aG cC ?_;refine G.av 2 ?_;refine G.bL (d:=29) o (fun x=>?_) (fun x=>?_)
    ·
     refine G.aZ 12 ?_;refine j ?_;refine I.ret (q ?_);exact⟨by first|exact eo J|exact fN J|(rw[df];exact dY J),n⟩
    ·
     refine G.b4 ?_;refine G.aG cC ?_;refine G.av 2 ?_;refine G.bL (d:=33) o (fun ac=>?_) (fun ac=>?_)
     ·
      refine G.aZ 8 ?_;refine j ?_;refine I.ret (q ?_);exact⟨by first|exact eo J|exact fN J|(rw[df];exact dY J),n⟩
     ·
      refine G.b4 ?_;refine G.aG cC ?_;refine G.av 2 ?_;refine G.bL (d:=37) o (fun ad=>?_) (fun ad=>?_)
      ·
       refine G.aZ 4 ?_;refine j ?_;refine I.ret (q ?_);exact⟨by first|exact eo J|exact fN J|(rw[df];exact dY J),n⟩
      ·
       refine G.b4 ?_;refine G.aG cC ?_;refine G.aZ 2 ?_;refine j ?_;refine I.ret (q ?_);exact⟨by first|exact eo J|exact fN J|(rw[df];exact dY J),n⟩
theorem Bu(s up:List UInt8)(w0:World)(N:Heap)
 :
 aE Tryz.prog w0 188 #[aN s,aN up] N (fun r A=>r= .bool ((up++[47]).isPrefixOf s)∧al N A):=by
 refine aE.aP [aN s,aN up] Tryz.func188 ?_;intro B x;have q:al N N:=aa.refl _ _;refine I.O (fun ac=>?_);refine G.aj ?_;refine ac (I.O (fun j=>?_));refine G.af ?_;refine G.v1 (hb e0) ?_;refine G.af ?_;refine G.v1 (hb e0) ?_;refine G.v1 fA ?_;refine G.af ?_;refine G.bL (d:=10) o (fun ad=>?_) (fun ad=>?_)
 ·
  refine G.av 2 ?_;refine G.aG (hb e0) ?_;refine G.aG (Y.FO (0) up.length o e0 o (.inl ⟨o,o⟩) (.inr ⟨_,_,_,o,o,by first|rfl|omega⟩) J J) ?_;refine G.b4 ?_;refine G.aG (Y.oc o o o) ?_;refine G.av 2 ?_;refine G.bL (d:=18) o (fun n=>?_) (fun n=>?_)
  ·
   refine G.av 2 ?_;refine G.aG (hb e0) ?_;refine G.aG (lS up.length e0) ?_;refine G.aG cC ?_;refine G.aZ 2 ?_;refine j ?_;refine I.ret (x ?_);exact⟨Hm J (by simpa using n),q⟩
  ·
   refine G.aZ 7 ?_;refine j ?_;refine I.ret (x ?_);exact⟨Bt (fun h=>n (by simpa using h.2)),q⟩
 ·
  refine G.aZ 15 ?_;refine j ?_;refine I.ret (x ?_);exact⟨Bt (fun h=>by omega),q⟩
theorem wE(s:List UInt8)(w0:World)(N:Heap)
 (ag:s.length≤9223372036854775807):
 aE Tryz.prog w0 40 #[aN s] N (fun r aZ=>r= .int .i64 (ea s)∧al N aZ):=by
 refine aE.aP [aN s] Tryz.func40 ?_;intro bP x;have n:al N N:=aa.refl _ _;refine I.O (fun cR=>?_);refine G.aj ?_;refine cR (I.t2 (fun be aR=>I.O (fun aS=>?_)));refine G.af ?_;refine G.v1 (hb e0) ?_;refine G.v1 bZ ?_;refine G.af ?_;refine G.bL (d:=9) o (fun g9=>?_) (fun g9=>?_)
 ·
  refine G.av 4 ?_;refine G.nil (aS ?_);refine I.kc o ?_;refine I.O (fun cD=>?_);refine G.aj ?_;refine cD ?_;refine I.ret (aR (x ?_));exact⟨by rw[Jj J],n⟩
 ·
  refine G.b4 ?_;refine G.aG (hb e0) ?_;refine G.aG fA ?_;refine G.eh ?_;refine G.nil (aS ?_);refine a8 (fun bz=>?_) (fun bz=>?_)
  ·
   refine I.O (fun bA=>?_);refine G.aj ?_;refine bA ?_;refine I.ret (aR (x ?_));exact⟨by rw[Jh J],n⟩
  ·
   refine I.skip (be (I.t2 (fun bi C=>I.O (fun bC=>?_))));refine G.aj ?_;refine bC (I.aC (fun _ aC E=>?_))
   refine I.bb (fun(i:Nat)=>[(0,aN s),(3,.int .i64 i)])
    (fun(i:Nat) (H:Heap)=>(i≤s.length)∧(∀j,j<i→sk s j)∧al N H)
    (fun(i:Nat)=>s.length-i) 0 ⟨o,o,trivial⟩ ?_ ?_
   ·
    exact⟨J,(fun j h=>by omega),aa.refl _ _⟩
   intro i ak bD bM bE A;obtain⟨bS,aX,q⟩:=bD;obtain⟨n,_⟩:=b6 q n;refine I.t2 (fun bb bc=>I.O (fun bd=>?_));refine G.av 2 ?_;refine G.v1 (hb e0) ?_;refine G.v1 bZ (G.nil (bd ?_));refine a8 (fun bF=>?_) (fun bF=>?_)
   ·
    have B:i<s.length:=by omega
    have ex:s.getD i 0=s[i]:=kM B;refine I.skip (bb (I.t2 (fun bf K=>I.aC (fun bg _ L=>?_))))
    refine I.cut (fun(fb:Bool)=>[(0,aN s),(3,.int .i64 i),(4,.bool fb)])
     (fun(fb:Bool) (H:Heap)=>(fb=true↔tb s i)∧al ak H) (fun _ aO _=>?_) ?_
    ·
     have aJ:al ak ak:=aa.refl _ _;refine I.region ?_;refine G.af ?_;refine G.v1 cC ?_;refine G.af ?_;refine G.bL (d:=22) o (fun bG=>?_) (fun bG=>?_)
     ·
      refine G.aZ 7 ?_;refine aT.sub (aO true _ ?_) ⟨o,(aF J),o,trivial⟩;exact⟨⟨fun _=> .inl J,fun _=>rfl⟩,aJ⟩
     ·
      refine G.av 2 ?_;refine G.aG (Y.cast (v2:= .int .i64 ((i-1:Nat):Int)) gq (eI J)) ?_;refine G.aG (lS (i-1) e0) ?_;refine G.aG cC ?_;refine G.aZ 2 ?_;refine aT.sub (aO (decide (((s[i-1]' J).toNat:Int)=47)) _ ?_) ⟨o,(aF J),o,trivial⟩;exact⟨⟨fun h=> .inr (by rw[kM J];have:=ki h;omega),fun h=>cT (by rcases h with h|h;omega;rw[kM J]at h;omega)⟩,aJ⟩
    ·
     intro fb ar bu;obtain⟨aH,az⟩:=bu;obtain⟨n,q,_⟩:=bO az n q
     refine I.cut (fun(bn:Bool)=>[(0,aN s),(3,.int .i64 i),(4,.bool fb),(5,.bool bn)])
      (fun(bn:Bool) (H:Heap)=>(bn=true↔vZ s i)∧al ar H) (fun _ aP _=>?_) ?_
     ·
      have aK:al ar ar:=aa.refl _ _;refine I.region ?_;refine G.av 2 ?_;refine G.v1 (hb e0) ?_;refine G.v1 (Y.cast (v2:= .int .i64 ((s.length-1:Nat):Int)) gq (eI J)) ?_;refine G.v1 cC ?_;refine G.af ?_;refine G.bL (d:=34) o (fun bH=>?_) (fun bH=>?_)
      ·
       refine G.aZ 7 ?_;refine aT.sub (aP true _ ?_) ⟨o,(aF J),o,o,trivial⟩;exact⟨⟨fun _=> .inl J,fun _=>rfl⟩,aK⟩
      ·
       refine G.av 2 ?_;refine G.aG (Y.cast (v2:= .int .i64 ((i+1:Nat):Int)) bN (eI J)) ?_;refine G.aG (lS (i+1) e0) ?_;refine G.aG cC ?_;refine G.aZ 2 ?_;refine aT.sub (aP (decide (((s[i+1]' J).toNat:Int)=47)) _ ?_) ⟨o,(aF J),o,o,trivial⟩;exact⟨⟨fun h=> .inr (by rw[kM J];have:=ki h;omega),fun h=>cT (by rcases h with h|h;omega;rw[kM J]at h;omega)⟩,aK⟩
     ·
      intro bn a0 bw;obtain⟨aV,am⟩:=bw;obtain⟨n,q,_⟩:=bO am n q;refine I.aC (fun bB _ M=>I.O (fun a2=>?_));refine G.av 2 ?_;refine G.v1 (lS i e0) ?_;refine aW HL (Kn s[i] w0 _) ?_;rintro bR a3 ⟨rfl,a4⟩;obtain⟨n,q,_⟩:=bO a4 n q;refine G.v1 fB ?_;refine G.aj ?_;refine a2 ?_;refine dm (fun O=>?_) (fun O=>?_)
      ·
       refine I.O (fun a5=>?_);refine G.aj ?_;refine a5 ?_;refine I.ret (M (L (K (A (E (C (x ?_)))))));exact⟨by rw[tQ B (fun h=>by have:=h.1;rw[ex]at this;rw[this]at O;cases O)],n⟩
      ·
       refine I.cut (fun(V:Bool)=>[(0,aN s),(3,.int .i64 i),(4,.bool fb),(5,.bool bn),(47,.bool V)])
        (fun(V:Bool) (H:Heap)=>(V=true↔((s.getD i 0).toNat=47∧(fb=true∨i+1=s.length)))∧al a3 H) (fun _ ae _=>?_) ?_
       ·
        have ap:al a3 a3:=aa.refl _ _;refine I.region ?_;refine G.av 2 ?_;refine G.v1 (lS i e0) ?_;refine G.v1 cC ?_;refine G.af ?_;refine G.bL (d:=52) o (fun bJ=>?_) (fun bJ=>?_)
        ·
         refine G.av 2 ?_;refine G.split (d:=54) o (fun P=>?_) (fun P=>?_)
         ·
          refine G.av 5 ?_;refine G.aG ga ?_;refine G.aZ 2 ?_;refine aT.sub (ae true _ ?_) ⟨o,(aF J),o,o,o,trivial⟩;exact⟨⟨fun _=>⟨by rw[ex];omega,.inl P⟩,fun _=>rfl⟩,ap⟩
         ·
          refine G.av 2 ?_;refine G.aG (hb e0) ?_;refine G.aG (Y.cast (v2:= .int .i64 ((s.length-1:Nat):Int)) gq (eI J)) ?_;refine G.aG cC ?_;refine G.aG fT ?_;refine G.aZ 2 ?_;refine aT.sub (ae (decide ((i:Int)=((s.length-1:Nat):Int))) _ ?_) ⟨o,(aF J),o,o,o,trivial⟩;exact⟨⟨fun h=>⟨by rw[ex];omega,.inr (by have:=ki h;omega)⟩,fun h=>cT (by rcases h.2 with h|h;rw[h]at P;cases P;omega)⟩,ap⟩
        ·
         refine G.av 2 ?_;refine il ?_;refine il ?_;refine il ?_;refine il ?_;refine il ?_;refine G.aZ 3 ?_;refine aT.sub (ae false _ ?_) ⟨o,(aF J),o,o,o,trivial⟩;exact⟨⟨fun h=>(by cases h),fun h=>by have:=h.1;rw[ex]at this;omega⟩,ap⟩
       ·
        intro V an bp;obtain⟨aB,bk⟩:=bp;obtain⟨n,q,_⟩:=bO bk n q;refine dm (fun Q=>?_) (fun Q=>?_)
        ·
         refine I.O (fun a6=>?_);refine G.aj ?_;refine a6 ?_;refine I.ret (M (L (K (A (E (C (x ?_)))))));exact⟨by rw[tQ B (fun h=>h.2.1 ⟨(aB.1 Q).1,(aB.1 Q).2.imp aH.1 id⟩)],n⟩
        ·
         refine I.cut (fun(W:Bool)=>[(0,aN s),(3,.int .i64 i),(5,.bool bn),(62,.bool W)])
          (fun(W:Bool) (H:Heap)=>(W=true↔(fb=true∧((s.getD i 0).toNat=46∨(s.getD i 0).toNat=45)))∧al an H) (fun _ af _=>?_) ?_
         ·
          have av:al an an:=aa.refl _ _;refine I.region ?_;refine G.av 2 ?_;refine G.split (d:=64) o (fun F=>?_) (fun F=>?_)
          ·
           refine G.av 2 ?_;refine G.aG (lS i e0) ?_;refine G.aG cC ?_;refine G.b4 ?_;refine G.bL (d:=69) o (fun br=>?_) (fun br=>?_)
           ·
            refine G.av 4 ?_;refine G.aG ga ?_;refine G.aZ 2 ?_;refine aT.sub (af true _ ?_) ⟨o,(aF J),o,o,trivial⟩;exact⟨⟨fun _=>⟨F,.inl (by rw[ex];omega)⟩,fun _=>rfl⟩,av⟩
           ·
            refine G.av 2 ?_;refine G.aG (lS i e0) ?_;refine G.aG cC ?_;refine G.aG fT ?_;refine G.aZ 2 ?_;refine aT.sub (af (decide ((s[i].toNat:Int)=45)) _ ?_) ⟨o,(aF J),o,o,trivial⟩;exact⟨⟨fun h=>⟨F,.inr (by rw[ex];have:=ki h;omega)⟩,fun h=>cT (by have:=h.2;rw[ex]at this;omega)⟩,av⟩
          ·
           refine G.av 5 ?_;refine il ?_;refine il ?_;refine il ?_;refine il ?_;refine G.aZ 3 ?_;refine aT.sub (af false _ ?_) ⟨o,(aF J),o,o,trivial⟩;exact⟨⟨fun h=>(by cases h),fun h=>by rw[h.1]at F;cases F⟩,av⟩
         ·
          intro W ac bq;obtain⟨aD,bl⟩:=bq;obtain⟨n,q,_⟩:=bO bl n q;refine dm (fun R=>?_) (fun R=>?_)
          ·
           refine I.O (fun a_=>?_);refine G.aj ?_;refine a_ ?_;refine I.ret (M (L (K (A (E (C (x ?_)))))));exact⟨by rw[tQ B (fun h=>h.2.2.1 ⟨aH.1 (aD.1 R).1,(aD.1 R).2⟩)],n⟩
          ·
           refine I.cut (fun(X:Bool)=>[(0,aN s),(3,.int .i64 i),(76,.bool X)])
            (fun(X:Bool) (H:Heap)=>(X=true↔(bn=true∧(s.getD i 0).toNat=46))∧al ac H) (fun _ aQ _=>?_) ?_
           ·
            have aL:al ac ac:=aa.refl _ _;refine I.region ?_;refine G.av 2 ?_;refine G.split (d:=78) o (fun S=>?_) (fun S=>?_)
            ·
             refine G.av 2 ?_;refine G.aG (lS i e0) ?_;refine G.aG cC ?_;refine G.aZ 2 ?_;refine aT.sub (aQ (decide ((s[i].toNat:Int)=46)) _ ?_) ⟨o,(aF J),o,trivial⟩;exact⟨⟨fun h=>⟨S,by rw[ex];have:=ki h;omega⟩,fun h=>cT (by have:=h.2;rw[ex]at this;omega)⟩,aL⟩
            ·
             refine G.aZ 6 ?_;refine aT.sub (aQ false _ ?_) ⟨o,(aF J),o,trivial⟩;exact⟨⟨fun h=>(by cases h),fun h=>by rw[h.1]at S;cases S⟩,aL⟩
           ·
            intro X ad a7;obtain⟨aG,bm⟩:=a7;obtain⟨n,q,_⟩:=bO bm n q;refine dm (fun U=>?_) (fun U=>?_)
            ·
             refine I.O (fun ba=>?_);refine G.aj ?_;refine ba ?_;refine I.ret (M (L (K (A (E (C (x ?_)))))));exact⟨by rw[tQ B (fun h=>h.2.2.2.1 ⟨aV.1 (aG.1 U).1,(aG.1 U).2⟩)],n⟩
            ·
             refine I.cut (fun(Z:Bool)=>[(0,aN s),(3,.int .i64 i),(84,.bool Z)])
              (fun(Z:Bool) (H:Heap)=>(Z=true↔((s.getD i 0).toNat=46∧0<i∧(s.getD (i-1) 0).toNat=46))∧al ad H) (fun _ ai _=>?_) ?_
             ·
              have ax:al ad ad:=aa.refl _ _;refine I.region ?_;refine G.av 2 ?_;refine G.v1 (lS i e0) ?_;refine G.v1 cC ?_;refine G.af ?_;refine G.bL (d:=89) o (fun bK=>?_) (fun bK=>?_)
              ·
               refine G.b4 ?_;refine G.aG fA ?_;refine G.av 2 ?_;refine G.bL (d:=93) o (fun bL=>?_) (fun bL=>?_)
               ·
                refine G.av 2 ?_;refine G.aG (Y.cast (v2:= .int .i64 ((i-1:Nat):Int)) gq (eI J)) ?_;refine G.aG (lS (i-1) e0) ?_;refine G.aG cC ?_;refine G.aZ 2 ?_;refine aT.sub (ai (decide (((s[i-1]' J).toNat:Int)=46)) _ ?_) ⟨o,(aF J),o,trivial⟩;exact⟨⟨fun h=>⟨by rw[ex];omega,by omega,by rw[kM J];have:=ki h;omega⟩,fun h=>cT (by have:=h.2.2;rw[kM J]at this;omega)⟩,ax⟩
               ·
                refine G.aZ 7 ?_;refine aT.sub (ai false _ ?_) ⟨o,(aF J),o,trivial⟩;exact⟨⟨fun h=>(by cases h),fun h=>by have ay:=h.1;have ab:=h.2.1;rw[ex]at ay;omega⟩,ax⟩
              ·
               refine G.aZ 11 ?_;refine aT.sub (ai false _ ?_) ⟨o,(aF J),o,trivial⟩;exact⟨⟨fun h=>(by cases h),fun h=>by have ay:=h.1;have ab:=h.2.1;rw[ex]at ay;omega⟩,ax⟩
             ·
              intro Z bQ bt;obtain⟨aU,bo⟩:=bt;obtain⟨n,q,_⟩:=bO bo n q;refine dm (fun a9=>?_) (fun a9=>?_)
              ·
               refine I.O (fun bj=>?_);refine G.aj ?_;refine bj ?_;refine I.ret (M (L (K (A (E (C (x ?_)))))));exact⟨by rw[tQ B (fun h=>h.2.2.2.2 (aU.1 a9))],n⟩
              ·
               refine I.skip (bB (bg (bf (I.region ?_))));refine G.af ?_;refine G.v1 bN ?_;refine G.aj ?_;refine aT.sub (bE (i+1) _ ?_ ?_) ⟨o,(aF J),trivial⟩
               ·exact⟨J,(fun j h=>by rcases rW j i with ab|ab;exact aX j ab;obtain rfl:j=i:=J;exact Mu (by rw[ex];simpa using O) aH aV aB aD aG aU Q R U a9),q⟩
               ·first|omega|(simp only;omega)|(simp;omega)
   ·
    refine I.exit (bc (A (aC ?_)));refine bi (I.O (fun bx=>?_));refine G.aj ?_;refine bx ?_;refine I.ret (x ?_);exact⟨by rw[Na J J (fun j bT=>aX j J)],n⟩
theorem Ke(s:List UInt8)(v:Value)(l:List (List UInt8))(bC:Int)(w0:World)(N:Heap)
 (aL:fj bC N)(aZ:bp (fun b=>b=0) N.size)(q:b7 N ft 1 v l)(ag:s.length≤140737488355328)(a6:∀x∈l,x.length≤140737488355328):
 aE Tryz.prog w0 132 #[aN s,v] N (fun r U=>r= .int .i64 (k5 s l)∧al N U):=by
 refine aE.aP [aN s,v] Tryz.func132 ?_;intro ba C;have n:al N N:=aa.refl _ _;have q:=q.ch;have bn:=q.len;refine I.O (fun Z=>?_);refine G.aj ?_;refine Z (I.t2 (fun ae af=>I.O (fun ai=>?_)));refine G.af ?_;refine aW uZ (u4 s bC w0 _ aL aZ J) ?_;rintro v9 a_ ⟨rfl,ak⟩;obtain⟨q,n,_⟩:=bO ak q n;refine G.aj ?_;refine ai (I.O (fun an=>?_));refine G.af ?_;refine G.v1 dX (G.nil (an ?_));refine a8 (fun ar=>?_) (fun ar=>?_)
 ·
  refine I.O (fun av=>?_);refine G.aZ 2 ?_;refine av ?_;refine I.ret (af (C ?_));exact⟨by have aq:ea s≠0:=J;have A:base s l=ea s:=(by rw[base,aM aq]);rw[k5,A,aM aq],n⟩
 ·
  refine I.skip (ae (I.t2 (fun ax ay=>I.O (fun aB=>?_))));refine G.av 2 ?_;refine aW Ii (Jt _ s l w0 _ q.any) ?_;rintro bd aC ⟨rfl,aK⟩;obtain⟨q,n,_⟩:=bO aK q n;refine G.nil (aB ?_);refine a8 (fun E=>?_) (fun E=>?_)
  ·
   refine I.O (fun aD=>?_);refine G.aj ?_;refine aD ?_;refine I.ret (ay (C ?_));exact⟨by have A:base s l=8:=(by rw[base,aA J,aM E]);rw[k5,A,aM bc],n⟩
  ·
   refine I.skip (ax (I.t2 (fun aG P=>I.O (fun az=>?_))));refine G.af ?_;refine G.v1 (bu q jR) ?_;refine G.af (G.nil (az ?_));refine I.aC (fun _ am ac=>?_)
   refine I.bb (fun(j:Nat)=>[(0,aN s),(16,v),(17,.int .i64 l.length),(18,.int .i64 j)])
    (fun(j:Nat) (H:Heap)=>(j≤l.length)∧(l.take j).any (ly s)=false∧al aC H)
    (fun(j:Nat)=>l.length-j) 0 ⟨o,o,o,o,trivial⟩ ?_ ?_
   ·
    exact⟨J,o,aa.refl _ _⟩
   intro j bg aH bj aO L;obtain⟨bm,M,B⟩:=aH;obtain⟨q,n,_⟩:=bO B q n;refine I.O (fun ap=>?_);refine G.v1 bZ (G.nil (ap ?_));refine I.t2 (fun aP aQ=>?_);refine a8 (fun aJ=>?_) (fun aJ=>?_)
   ·
    refine I.skip (aP (I.t2 (fun aR Q=>I.aC (fun a7 _ R=>I.O (fun aS=>?_)))));have O:j<l.length:=by omega
    have bo:=a6 l[j] (cU O);have A:base s l=0:=by rw[base,aA J,aA E]
    refine G.cn (Y.cg q j o jR b3 o o) fun bb aU=>?_;refine G.v1 (bf aU.W cd) ?_;refine G.aj ?_;refine aS (I.O (fun S=>?_));refine G.av 2 ?_;refine G.v1 (Y.wI o o o b2) ?_;refine aW BX (Dl l[j] (s++[47]) w0 _) ?_;rintro bk bl ⟨rfl,aV⟩;obtain⟨n,B,_⟩:=bO aV n B;refine G.af ?_;refine G.split (d:=26) o (fun F=>?_) (fun F=>?_)
    ·
     refine G.av 5 ?_;refine G.nil (S ?_);refine I.kc o ?_;refine I.O (fun aX=>?_);refine G.aj ?_;refine aX ?_;refine I.ret (R (Q (L (ac (P (C ?_))))));exact⟨by rw[k5,A,aA bc,aM (qg O (by unfold ly;first|(rw[F];rfl)|(rw[K,vQ])))],n⟩
    ·
     refine G.av 2 ?_;refine G.aG (Y.wI o o o b2) ?_;refine G.call o BX o bR o o (Dl s (l[j]++[47]) w0 _) ?_;rintro a0 bB ⟨rfl,V⟩;obtain⟨n,B,_⟩:=bO V n B;refine G.eh ?_;refine G.nil (S ?_);refine dm (fun K=>?_) (fun K=>?_)
     ·
      refine I.O (fun W=>?_);refine G.aj ?_;refine W ?_;refine I.ret (R (Q (L (ac (P (C ?_))))));exact⟨by rw[k5,A,aA bc,aM (qg O (by unfold ly;first|(rw[F];rfl)|(rw[K,vQ])))],n⟩
     ·
      refine I.skip (a7 (aR (I.region ?_)));refine G.v1 bN ?_;refine G.af (G.nil ?_);refine aT.sub (aO (j+1) _ ?_ ?_) ⟨o,o,(aF J),(aF J),trivial⟩
      ·exact⟨J,sO M J (by unfold ly;rw[yS];exact⟨F,K⟩),B⟩
      ·first|omega|(simp only;omega)|(simp;omega)
   ·
    refine I.exit (aQ (L (am ?_)));refine aG (I.O (fun X=>?_));refine G.aj ?_;refine X ?_;refine I.ret (C ?_);exact⟨by have A:base s l=0:=(by rw[base,aA J,aA E]);rw[eY J]at M;rw[k5,A,aA bc,aA (by rw[M];decide)],n⟩
theorem NG(s:List UInt8)(v:Value)(l:List (List UInt8))(w0:World)(N:Heap)
 (q:b7 N ft 1 v l)(ag:s.length≤140737488355328)(bA:∀x∈l,x.length≤140737488355328):
 aE Tryz.prog w0 116 #[aN s,v] N (fun r aD=>r= .int .i64 (k5 s l)∧al N aD):=by
 refine aE.aP [aN s,v] Tryz.func116 ?_;intro bm bk;have C:al N N:=aa.refl _ _;have q:=q.ch;have bz:=q.len;refine I.O (fun aQ=>?_);refine G.aj ?_;refine aQ (I.O (fun aR=>?_));refine G.af ?_;refine aW uY (wE s w0 _ J) ?_;rintro v9 E ⟨rfl,aS⟩;obtain⟨q,C,_⟩:=bO aS q C;refine G.aj ?_;refine aR ?_
 refine I.cut (fun(e:Int)=>[(0,aN s),(1,v),(5,.int .i64 e)])
  (fun(e:Int) (H:Heap)=>(e=base s l)∧al E H) (fun _ Z _=>?_) ?_
 ·
  have K:al E E:=aa.refl _ _;refine I.O (fun aU=>?_);refine G.aj ?_;refine aU (I.aC (fun _ ae _=>?_))
  refine I.bb (fun(X:Nat×Int)=>match X with|(i,e)=>[(0,aN s),(1,v),(5,.int .i64 e),(6,.int .i64 i)])
   (fun(i,e) (H:Heap)=>(i≤l.length)∧((e=0∧ea s=0∧s∉l.take i)∨(e=8∧ea s=0∧s∈l)∨(e=ea s∧ea s≠0))∧al E H)
   (fun(i,e)=>l.length-i) (0,ea s) ⟨o,o,o,o,trivial⟩ ?_ ?_
  ·
   exact⟨J,(by by_cases h:ea s=0;exact .inl ⟨h,h,fun h=>by simp at h⟩;exact .inr (.inr ⟨o,h⟩)),aa.refl _ _⟩
  rintro⟨i,e⟩ a5 aV bl af ai;obtain⟨bj,M,R⟩:=aV;obtain⟨q,K,_⟩:=bO R q K;refine I.t2 (fun aX ak=>I.O (fun an=>?_));refine G.av 2 ?_;refine G.v1 (bu q jR) ?_;refine G.v1 bZ ?_;refine G.af ?_;refine G.bL (d:=14) o (fun aZ=>?_) (fun aZ=>?_)
  ·
   refine G.b4 ?_;refine G.aG cC ?_;refine G.W ?_;refine G.nil (an ?_);refine a8 (fun a6=>?_) (fun a6=>?_)
   ·
    refine I.skip (aX (I.t1 (fun ar=>I.aC (fun av _ _=>I.O (fun bc=>?_)))));refine G.av 2 ?_;refine G.cn (Y.cg q i o jR b3 o o) fun bt bd=>?_;refine G.v1 (bf bd.W cd) ?_;refine G.af ?_;refine G.v1 (Y.oc o o o) (G.nil (bc ?_));refine a8 (fun V=>?_) (fun V=>?_)
    ·
     refine I.region ?_;refine G.aj ?_;refine av (ar (I.region ?_));refine G.af ?_;refine G.v1 bN ?_;refine G.aj ?_;refine aT.sub (af (i+1,8) _ ?_ ?_) ⟨o,o,(aF J),(aF J),trivial⟩
     ·exact⟨J,(.inr (.inl ⟨o,by omega,by rw[←V];exact cU _⟩)),R⟩
     ·first|omega|(simp only;omega)|(simp;omega)
    ·
     refine I.skip (av (ar (I.region ?_)));refine G.af ?_;refine G.v1 bN ?_;refine G.aj ?_;refine aT.sub (af (i+1,e) _ ?_ ?_) ⟨o,o,(aF J),(aF J),trivial⟩
     ·exact⟨J,(.inl ⟨by omega,by omega,by rcases M with⟨j,ab,n⟩|⟨j,ab,n⟩|⟨j,ab⟩;exact D7 n J (fun e=>V e.symm);omega;omega⟩),R⟩
     ·first|omega|(simp only;omega)|(simp;omega)
   ·
    refine I.exit (ak (ai (ae ?_)));refine aT.sub (Z e _ ?_) ⟨o,o,(aF J),trivial⟩;exact⟨(by unfold base;rcases M with⟨j,ab,n⟩|⟨j,ab,n⟩|⟨j,ab⟩;omega;rw[aA J,aM n];exact j;rw[aM ab];exact j),K⟩
  ·
   refine G.av 3 ?_;refine G.nil (an ?_);refine dZ ?_;refine I.exit (ak (ai (ae ?_)));refine aT.sub (Z e _ ?_) ⟨o,o,(aF J),trivial⟩;exact⟨(by unfold base;rw[eY J]at M;rcases M with⟨j,ab,n⟩|⟨j,ab,n⟩|⟨j,ab⟩;rw[aA J,aA n];exact j;rw[aA J,aM n];exact j;rw[aM ab];exact j),K⟩
 ·
  intro e F bb;obtain⟨he,a_⟩:=bb;obtain⟨q,C,_⟩:=bO a_ q C
  refine I.cut (fun(L:Int)=>[(5,.int .i64 L)])
   (fun(L:Int) (H:Heap)=>(L=k5 s l)∧al F H) (fun _ ap _=>?_) ?_
  ·
   have ac:al F F:=aa.refl _ _;refine I.O (fun aG=>?_);refine G.aj ?_;refine aG (I.aC (fun _ ax _=>?_))
   refine I.bb (fun(X:Nat×Int)=>match X with|(i,A)=>[(0,aN s),(1,v),(5,.int .i64 A),(7,.int .i64 i)])
    (fun(i,A) (H:Heap)=>(i≤l.length)∧((A=0∧base s l=0∧(l.take i).any (ly s)=false)∨(A=13∧base s l=0∧l.any (ly s)=true)∨(A=base s l∧base s l≠0))∧al F H)
    (fun(i,A)=>l.length-i) (0,e) ⟨o,o,o,o,trivial⟩ ?_ ?_
   ·
    exact⟨J,(by by_cases h:base s l=0;exact .inl ⟨by omega,h,o⟩;exact .inr (.inr ⟨he,h⟩)),aa.refl _ _⟩
   rintro⟨i,A⟩ bn a0 bo S ay;obtain⟨bj,O,B⟩:=a0;obtain⟨q,ac,_⟩:=bO B q ac;refine I.t2 (fun aH aB=>I.O (fun a7=>?_));refine G.av 2 ?_;refine G.v1 (bu q jR) ?_;refine G.v1 bZ ?_;refine G.af ?_;refine G.bL (d:=30) o (fun bB=>?_) (fun bB=>?_)
   ·
    refine G.b4 ?_;refine G.aG cC ?_;refine G.W ?_;refine G.nil (a7 ?_);refine a8 (fun a2=>?_) (fun a2=>?_)
    ·
     refine I.skip (aH (I.t1 (fun U=>I.aC (fun az _ _=>I.O (fun aC=>?_)))));refine G.av 3 ?_;have W:i<l.length:=by omega
     refine G.cn (Y.cg q i o jR b3 o o) fun a3 aJ=>?_;refine G.v1 (bf aJ.W cd) ?_;refine aW BV (Bu s l[i] w0 _) ?_;rintro bp a9 ⟨rfl,aK⟩;obtain⟨q,B,_⟩:=bO aK q B;refine G.af ?_;refine G.split (d:=42) o (fun P=>?_) (fun P=>?_)
     ·
      refine G.av 7 ?_;refine G.nil (aC ?_);refine I.kc o ?_;refine I.region ?_;refine G.aj ?_;refine az (U (I.region ?_));refine G.af ?_;refine G.v1 bN ?_;refine G.aj ?_;refine aT.sub (S (i+1,13) _ ?_ ?_) ⟨o,o,(aF J),(aF J),trivial⟩
      ·exact⟨J,(.inr (.inl ⟨o,by omega,qg W (by unfold ly;rw[P,vQ])⟩)),B⟩
      ·first|omega|(simp only;omega)|(simp;omega)
     ·
      refine G.av 2 ?_;refine G.e (g:=fun ad=> .pointer (some ad)) (Y.cg q i o jR b3 o o) bR o o (fun a4 aL=>?_);refine G.aG (bf aL.W cd) ?_;refine G.b4 ?_;refine G.call o BV o bR o o (Bu l[i] s w0 _) ?_;rintro bw bx ⟨rfl,aO⟩;obtain⟨B,_⟩:=b6 aO B;refine G.eh ?_;refine G.nil (aC ?_);refine dm (fun Q=>?_) (fun Q=>?_)
      ·
       refine I.region ?_;refine G.aj ?_;refine az (U (I.region ?_));refine G.af ?_;refine G.v1 bN ?_;refine G.aj ?_;refine aT.sub (S (i+1,13) _ ?_ ?_) ⟨o,o,(aF J),(aF J),trivial⟩
       ·exact⟨J,(.inr (.inl ⟨o,by omega,qg W (by unfold ly;rw[Q];rfl)⟩)),B⟩
       ·first|omega|(simp only;omega)|(simp;omega)
      ·
       refine I.skip (az (U (I.region ?_)));refine G.af ?_;refine G.v1 bN ?_;refine G.aj ?_;refine aT.sub (S (i+1,A) _ ?_ ?_) ⟨o,o,(aF J),(aF J),trivial⟩
       ·exact⟨J,(.inl ⟨by omega,by omega,by rcases O with⟨j,ab,n⟩|⟨j,ab,n⟩|⟨j,ab⟩;exact sO n W (by unfold ly;rw[P,Q];rfl);omega;omega⟩),B⟩
       ·first|omega|(simp only;omega)|(simp;omega)
    ·
     refine I.exit (aB (ay (ax ?_)));refine aT.sub (ap A _ ?_) ⟨(aF J),trivial⟩;exact⟨(by unfold k5;rcases O with⟨j,ab,n⟩|⟨j,ab,n⟩|⟨j,ab⟩;omega;rw[aA J,aM n];exact j;rw[aM ab];exact j),ac⟩
   ·
    refine G.av 3 ?_;refine G.nil (a7 ?_);refine dZ ?_;refine I.exit (aB (ay (ax ?_)));refine aT.sub (ap A _ ?_) ⟨(aF J),trivial⟩;exact⟨(by unfold k5;rw[eY J]at O;rcases O with⟨j,ab,n⟩|⟨j,ab,n⟩|⟨j,ab⟩;rw[aA J,aA (by rw[n];decide)];exact j;rw[aA J,aM n];exact j;rw[aM ab];exact j),ac⟩
  ·
   intro L bq am;obtain⟨bg,ba⟩:=am;have C:=C.O ba;refine I.O (fun aP=>?_);refine G.aZ 2 ?_;refine aP ?_;refine I.ret (bk ?_);exact⟨by rw[bg],C⟩
end qb
namespace e2
open gV
theorem pJ:∀{k:List UInt8},k.length=32→∃d j H U X Y Z aa ae af n q r x A B C E F G I K L M N O P Q R S V W:UInt8,k=[d,j,H,U,X,Y,Z,aa,ae,af,n,q,r,x,A,B,C,E,F,G,I,K,L,M,N,O,P,Q,R,S,V,W]:=by
 intro k h
 match k,h with
 |[d,j,H,U,X,Y,Z,aa,ae,af,n,q,r,x,A,B,C,E,F,G,I,K,L,M,N,O,P,Q,R,S,V,W],_=>exact⟨d,j,H,U,X,Y,Z,aa,ae,af,n,q,r,x,A,B,C,E,F,G,I,K,L,M,N,O,P,Q,R,S,V,W,o⟩
theorem DF:rb Tryz.prog 26 bM:=KQ Tryz.underlying26 Tryz.underlying5 dK fE
theorem dD{a b:List Value}(h:a.length=b.length):er a 0 b=b:=by simp[er,h]
abbrev dN:aO:=⟨none,0,0⟩
structure hf where
 d:Int
 i:dv
def en(x:hf):List Value:= .int .i64 x.d::b9 x.i
structure dj where
 k:Int
 br:List UInt8
 cl:dv
 bQ:dv
 cx:aO
 bj:List hf
 dn:Int
 md:Int
 st:Bool
def dC(x:dj):List Value:= .int .i64 x.k::aN x.br::(b9 x.cl++(b9 x.bQ++[x.cx.v,.int .i64 x.dn,.int .i64 x.md,.bool x.st]))
structure bY where
 n:List UInt8
 T:dv
 w:dv
 y:List UInt8
def dL(x:bY):List Value:=aN x.n::(b9 x.T++(b9 x.w++[aN x.y]))
structure bU where
 k:dv
 v:aO
 d:List UInt8
def cb(x:bU):List Value:=b9 x.k++[x.v.v]
structure dq where
 n:List UInt8
 i:dv
def eX(x:dq):List Value:=aN x.n::b9 x.i
structure dw where
 T:dv
 w:dv
 y:List UInt8
def ff(x:dw):List Value:=b9 x.T++(b9 x.w++[aN x.y])
structure hd where
 n:List UInt8
 v:aO
 l:List dw
def gN(x:hd):List Value:=[aN x.n,x.v.v]
structure bS where
 bz:Bool
 ah:List UInt8
 dI:aO
 ml:List bY
 ag:Bool
 q:dj
 cG:aO
 el:List bU
def dM(x:bS):List Value:= .bool x.bz::aN x.ah::x.dI.v:: .bool x.ag::(dC x.q++[x.cG.v])
structure dR where
 ah:List UInt8
 fI:aO
 bm:List dq
 c9:aO
 cj:List hd
 q:dj
 cG:aO
 el:List bU
def cc(x:dR):List Value:=aN x.ah::x.fI.v::x.c9.v::(dC x.q++[x.cG.v])
theorem jB(x:hf):(en x).length=33:=by simp[en,bI]
theorem eC(x:dj):(dC x).length=70:=by simp[dC,bI]
theorem fq(x:bY):(dL x).length=66:=by simp[dL,bI]
theorem eb(x:bU):(cb x).length=33:=by simp[cb,bI]
theorem kJ(x:dq):(eX x).length=33:=by simp[eX,bI]
theorem px(x:dw):(ff x).length=65:=by simp[ff,bI]
theorem jo(x:hd):(gN x).length=2:=rfl
theorem eu(x:bS):(dM x).length=75:=by simp[dM,eC]
theorem cq(x:dR):(cc x).length=74:=by simp[cc,eC]
abbrev jS(l:List Value):Prop:=∀u∈l,u.oneCell'=true
theorem jS.nil:jS []:=fun u h=>by cases h
theorem jS.cons{v:Value}{l:List Value}(h:v.oneCell'=true)(ab:jS l):jS (v::l):=fun u hu=>by
 rcases dU.1 hu with rfl|hu
 ·exact h
 ·exact ab u hu
theorem jS.app{a b:List Value}(h:jS a)(ab:jS b):jS (a++b):=fun u hu=>(gG.1 hu).elim (h u) (ab u)
theorem nb(x:hf):jS (en x):= .cons o (ke _)
theorem l3(x:dj):jS (dC x):= .cons o (.cons o (.app (ke _) (.app (ke _) (.cons o (.cons o (.cons o (.cons o .nil)))))))
theorem l2(x:bY):jS (dL x):= .cons o (.app (ke _) (.app (ke _) (.cons o .nil)))
theorem iQ(x:bU):jS (cb x):= .app (ke _) (.cons o .nil)
theorem oK(x:dq):jS (eX x):= .cons o (ke _)
theorem rH(x:dw):jS (ff x):= .app (ke _) (.app (ke _) (.cons o .nil))
theorem na(x:hd):jS (gN x):= .cons o (.cons o .nil)
theorem pz(x:bS):jS (dM x):= .cons o (.cons o (.cons o (.cons o (.app (l3 _) (.cons o .nil)))))
theorem kK(x:dR):jS (cc x):= .cons o (.cons o (.cons o (.app (l3 _) (.cons o .nil))))
abbrev hx(x:dj):Value:= .agg (dC x).toArray
abbrev mf(x:bY):Value:= .agg (dL x).toArray
abbrev mQ(x:bU):Value:= .agg (cb x).toArray
abbrev fo(x:bS):Value:= .agg (dM x).toArray
abbrev fZ(x:dR):Value:= .agg (cc x).toArray
theorem oN{a b:List Value}{n:Nat}(h:a.length=n):(a++b).take n=a:=kP h
theorem oF{a b:List Value}{n:Nat}(h:a.length=n):(a++b).drop n=b:=ma h
def kf(x:dj):List Value:=[x.cx.v,.int .i64 x.dn,.int .i64 x.md,.bool x.st]
theorem mE(x:dj):((dC x).drop 2).take 32=b9 x.cl:=oN (bI _)
theorem yl(x:dj):(dC x).drop 34=b9 x.bQ++kf x:=by
 rw[show(34:Nat)=2+32 from o,←mN];exact oF (bI _)
theorem mD(x:dj):((dC x).drop 34).take 32=b9 x.bQ:=by rw[yl];exact oN (bI _)
theorem ym(x:dj):(dC x).drop 66=kf x:=by
 rw[show(66:Nat)=34+32 from o,←mN,yl];exact oF (bI _)
theorem jd(x:bY):((dL x).drop 1).take 32=b9 x.T:=oN (bI _)
theorem yk(x:bY):(dL x).drop 33=b9 x.w++[aN x.y]:=by
 rw[show(33:Nat)=1+32 from o,←mN];exact oF (bI _)
theorem gB(x:bY):((dL x).drop 33).take 32=b9 x.w:=by rw[yk];exact oN (bI _)
theorem CZ(x:bY):(dL x).drop 65=[aN x.y]:=by
 rw[show(65:Nat)=33+32 from o,←mN,yk];exact oF (bI _)
theorem gS(x:bU):((cb x).drop 0).take 32=b9 x.k:=oN (bI _)
theorem J6(x:bU):(cb x).drop 32=[x.v.v]:=oF (bI _)
theorem J4(x:dw):((ff x).drop 0).take 32=b9 x.T:=oN (bI _)
theorem CX(x:dw):(ff x).drop 32=b9 x.w++[aN x.y]:=oF (bI _)
theorem J5(x:dw):((ff x).drop 32).take 32=b9 x.w:=by rw[CX];exact oN (bI _)
theorem CY(x:dw):(ff x).drop 64=[aN x.y]:=by
 rw[show(64:Nat)=32+32 from o,←mN,CX];exact oF (bI _)
theorem nQ(x:hf):((en x).drop 1).take 32=b9 x.i:=eY (by rw[show(en x).drop 1=b9 x.i from o,bI];exact dz _)
theorem vi(x:dq):((eX x).drop 1).take 32=b9 x.i:=eY (by rw[show(eX x).drop 1=b9 x.i from o,bI];exact dz _)
theorem lA(x:bS):((dM x).drop 4).take 70=dC x.q:=oN (eC _)
theorem C2(x:bS):(dM x).drop 74=[x.cG.v]:=by
 rw[show(74:Nat)=4+70 from o,←mN];exact oF (eC _)
theorem rK(x:dR):((cc x).drop 3).take 70=dC x.q:=oN (eC _)
theorem C1(x:dR):(cc x).drop 73=[x.cG.v]:=by
 rw[show(73:Nat)=3+70 from o,←mN];exact oF (eC _)
section
variable {H : Heap} {ad : Addr}
theorem _root_.Go.Proofs.YtfjmpninmdjcaaaGreatDoor.E.cz.h3{x:dj}(h:cz H ad (dC x)):cz H (ad.add 66) (kf x):=by have:=h.drop 66;rwa[ym]at this
theorem _root_.Go.Proofs.YtfjmpninmdjcaaaGreatDoor.E.cz.mj{x:dj}(h:cz H ad (dC x)):cz H (ad.add 67) [.int .i64 x.dn,.int .i64 x.md,.bool x.st]:=by
 have:=h.h3.drop 1;rwa[show(ad.add 66).add 1=ad.add 67 from by cases ad;rfl]at this
theorem _root_.Go.Proofs.YtfjmpninmdjcaaaGreatDoor.E.cz.o2{x:dj}(h:cz H ad (dC x)):cz H (ad.add 68) [.int .i64 x.md,.bool x.st]:=by
 have:=h.h3.drop 2;rwa[show(ad.add 66).add 2=ad.add 68 from by cases ad;rfl]at this
theorem _root_.Go.Proofs.YtfjmpninmdjcaaaGreatDoor.E.cz.sw{x:dj}(h:cz H ad (dC x)):cz H (ad.add 69) [.bool x.st]:=by
 have:=h.h3.drop 3;rwa[show(ad.add 66).add 3=ad.add 69 from by cases ad;rfl]at this
theorem _root_.Go.Proofs.YtfjmpninmdjcaaaGreatDoor.E.cz.qO{x:bY}(h:cz H ad (dL x)):cz H (ad.add 65) [aN x.y]:=by have:=h.drop 65;rwa[CZ]at this
theorem _root_.Go.Proofs.YtfjmpninmdjcaaaGreatDoor.E.cz.mP{x:bU}(h:cz H ad (cb x)):cz H (ad.add 32) [x.v.v]:=by have:=h.drop 32;rwa[J6]at this
theorem _root_.Go.Proofs.YtfjmpninmdjcaaaGreatDoor.E.cz.Lh{x:dw}(h:cz H ad (ff x)):cz H (ad.add 64) [aN x.y]:=by have:=h.drop 64;rwa[CY]at this
theorem _root_.Go.Proofs.YtfjmpninmdjcaaaGreatDoor.E.cz.ig{x:bS}(h:cz H ad (dM x)):cz H (ad.add 74) [x.cG.v]:=by have:=h.drop 74;rwa[C2]at this
theorem _root_.Go.Proofs.YtfjmpninmdjcaaaGreatDoor.E.cz.lk{x:dR}(h:cz H ad (cc x)):cz H (ad.add 73) [x.cG.v]:=by have:=h.drop 73;rwa[C1]at this
end
def fU:dj:=⟨0,[],bJ,bJ,dN,[],0,0,false⟩
def lU:bS:=⟨false,[],dN,[],false,fU,dN,[]⟩
def xc:dR:=⟨[],dN,[],dN,[],fU,dN,[]⟩
structure gk (F:Nat→Prop) (H:Heap) (t:bS):Prop where
 m:Rd F H dL 66 t.dI.v t.ml
 q:Rd F H en 33 t.q.cx.v t.q.bj
 e:Rd F H cb 33 t.cG.v t.el
 d:∀y∈t.el,Rd F H bd 1 y.v.v y.d
structure fr (F:Nat→Prop) (H:Heap) (s:dR):Prop where
 r:Rd F H eX 33 s.fI.v s.bm
 g:Rd F H gN 2 s.c9.v s.cj
 n:∀y∈s.cj,Rd F H ff 65 y.v.v y.l
 q:Rd F H en 33 s.q.cx.v s.q.bj
 e:Rd F H cb 33 s.cG.v s.el
 d:∀y∈s.el,Rd F H bd 1 y.v.v y.d
section
variable {F aQ : Nat → Prop} {H V : Heap} {t : bS} {s : dR} {ks : List Nat} {h : Nat}
theorem gk.aR(x:gk F H t)(w:al H V):gk F V t:=⟨x.m.aR w,x.q.aR w,x.e.aR w,fun y hy=>(x.d y hy).aR w⟩
theorem gk.aJ(x:gk F H t)(w:aa (ay ks) H V)(d:aS F ks):gk F V t:=⟨x.m.aJ w d,x.q.aJ w d,x.e.aJ w d,fun y hy=>(x.d y hy).aJ w d⟩
theorem gk.imp(x:gk F H t)(d:∀b,b<H.size→F b→aQ b):gk aQ H t:=⟨x.m.imp d,x.q.imp d,x.e.imp d,fun y hy=>(x.d y hy).imp d⟩
theorem gk.ch(x:gk F H t):gk (fun b=>F b∧b<H.size) H t:=x.imp (fun b ao h=>⟨h,ao⟩)
theorem gk.cD(x:gk (fun b=>aQ b∧b<h) H t):bp (fun b=>aQ b∧b<h) h:=fun b e=>e.2
theorem fr.aR(x:fr F H s)(w:al H V):fr F V s:=⟨x.r.aR w,x.g.aR w,fun y hy=>(x.n y hy).aR w,x.q.aR w,x.e.aR w,fun y hy=>(x.d y hy).aR w⟩
theorem fr.aJ(x:fr F H s)(w:aa (ay ks) H V)(d:aS F ks):fr F V s:=⟨x.r.aJ w d,x.g.aJ w d,fun y hy=>(x.n y hy).aJ w d,x.q.aJ w d,x.e.aJ w d,fun y hy=>(x.d y hy).aJ w d⟩
theorem fr.imp(x:fr F H s)(d:∀b,b<H.size→F b→aQ b):fr aQ H s:=⟨x.r.imp d,x.g.imp d,fun y hy=>(x.n y hy).imp d,x.q.imp d,x.e.imp d,fun y hy=>(x.d y hy).imp d⟩
theorem fr.ch(x:fr F H s):fr (fun b=>F b∧b<H.size) H s:=x.imp (fun b ao h=>⟨h,ao⟩)
theorem fr.cD(x:fr (fun b=>aQ b∧b<h) H s):bp (fun b=>aQ b∧b<h) h:=fun b e=>e.2
instance:cr (gk F H t) H V (gk F V t):=⟨fun s h=>h.aR s⟩
instance:ct (gk F H t) H V (gk F V t) (ax F):=⟨fun s h d=>h.aJ s (aS.T d)⟩
instance:cr (fr F H s) H V (fr F V s):=⟨fun s h=>h.aR s⟩
instance:ct (fr F H s) H V (fr F V s) (ax F):=⟨fun s h d=>h.aJ s (aS.T d)⟩
end
def ew(b:Bool)(e:Int):Int:=if b=true then 0 else e
def jY:List Int→Int
 |[]=>0
 |e::l=>if e≠0 then e else jY l
theorem Kb{l:List Int}{j:Nat}(h:∀x∈l.take j,x=0)(n:j<l.length)(d:l[j]≠0):jY l=l[j]:=by
 induction l generalizing j with
 |nil=>simp at n
 |cons e l ih=>
  cases j with
  |zero=>simp only[nX]at d⊢;rw[jY,aM d]
  |succ j=>
   have he:e=0:=h e bl;rw[jY,aA (by simpa using he)];exact ih (fun x q=>h x (by simp[q])) (by simpa using n) (by simpa using d)
theorem C8:∀{l:List Int},(∀x∈l,x=0)→jY l=0
 |[],_=>rfl
 |e::l,h=>by rw[jY,aA (by simpa using h e bl),C8 (fun x d=>h x (by simp[d]))]
theorem PR{l:List Int}{j:Nat}(h:∀x∈l.take j,x=0)(q:j<l.length)(n:l[j]=0):∀x∈l.take (j+1),x=0:=by
 intro x d;rw[eP q]at d;rcases gG.1 d with d|d
 ·exact h x d
 ·rw[eU]at d;rw[d];exact n
theorem zQ(b:Bool)(e:Int)(w0:World)(N:Heap)
 :
 aE Tryz.prog w0 46 #[.bool b,.int .i64 e] N (fun r n=>r= .int .i64 (ew b e)∧al N n):=by
 refine aE.aP [.bool b,.int .i64 e] Tryz.func46 ?_;intro E j;have d:al N N:=aa.refl _ _;refine I.O (fun q=>?_);refine G.aj ?_;refine q (I.t2 (fun x ac=>I.O (fun ad=>?_)));refine G.af (G.nil (ad ?_));refine dm (fun C=>?_) (fun C=>?_)
 ·
  refine I.O (fun A=>?_);refine G.aj ?_;refine A ?_;refine I.ret (ac (j ?_));exact⟨by first|(rw[ew,aM cY])|(rw[ew,aA h1]),d⟩
 ·
  refine I.skip (x (I.O (fun B=>?_)));refine G.aZ 2 ?_;refine B ?_;refine I.ret (j ?_);exact⟨by first|(rw[ew,aM cY])|(rw[ew,aA h1]),d⟩
theorem n8(v:Value)(l:List Int)(w0:World)(N:Heap)
 (d:b7 N pw 1 v l):
 aE Tryz.prog w0 47 #[v] N (fun r F=>r= .int .i64 (jY l)∧al N F):=by
 refine aE.aP [v] Tryz.func47 ?_;intro ak E;have q:al N N:=aa.refl _ _;have d:=d.ch;have ax:=d.len;refine I.O (fun P=>?_);refine G.aj ?_;refine P (I.t2 (fun Q R=>I.O (fun az=>?_)));refine G.af ?_;refine G.v1 (bu d Gg) ?_;refine G.af (G.nil (az ?_));refine I.aC (fun _ am S=>?_)
 refine I.bb (fun(j:Nat)=>[(5,v),(6,.int .i64 l.length),(7,.int .i64 j)])
  (fun(j:Nat) (H:Heap)=>(j≤l.length)∧(∀x∈l.take j,x=0)∧al N H)
  (fun(j:Nat)=>l.length-j) 0 ⟨o,o,o,trivial⟩ ?_ ?_
 ·
  exact⟨J,(fun x h=>by simp at h),aa.refl _ _⟩
 intro j an ap ai U C;obtain⟨av,n,B⟩:=ap;obtain⟨d,q,_⟩:=bO B d q;refine I.O (fun V=>?_);refine G.v1 bZ (G.nil (V ?_));refine I.t2 (fun W a7=>?_);refine a8 (fun ag=>?_) (fun ag=>?_)
 ·
  refine I.skip (W (I.t2 (fun X Z=>I.aC (fun ae _ af=>I.O (fun L=>?_)))));refine G.cn (Y.cg d j o Gg o1 o o) fun ar K=>?_;refine G.v1 (bf K.W oC) ?_;refine G.aj ?_;refine L (I.O (fun ac=>?_));refine G.af ?_;refine G.v1 dX (G.nil (ac ?_));refine a8 (fun A=>?_) (fun A=>?_)
  ·
   refine I.O (fun M=>?_);refine G.aZ 2 ?_;refine M ?_;refine I.ret (af (Z (C (S (R (E ?_))))));exact⟨by rw[Kb n J A],q⟩
  ·
   refine I.skip (ae (X (I.region ?_)));refine G.v1 bN ?_;refine G.af (G.nil ?_);refine aT.sub (U (j+1) _ ?_ ?_) ⟨o,(aF J),(aF J),trivial⟩
   ·exact⟨J,PR n J (by simpa using A),B⟩
   ·first|omega|(simp only;omega)|(simp;omega)
 ·
  refine I.exit (a7 (C (am ?_)));refine Q (I.O (fun O=>?_));refine G.aj ?_;refine O ?_;refine I.ret (E ?_);exact⟨by rw[eY J]at n;rw[C8 n],q⟩
theorem n_(i:dv)(w0:World)(N:Heap)
 :
 aE Tryz.prog w0 55 #[bM i] N (fun r j=>r= .bool (decide (i=bJ))∧al N j):=by
 refine aE.aP [bM i] Tryz.func55 ?_;intro A x;have d:al N N:=aa.refl _ _;refine I.O (fun n=>?_);refine G.aU (Z.rp o o) ?_;rintro v1 H1 ⟨rfl,ao,q,ad,B⟩;have d:=d.O q;have ao:Var 26 H1 N.size (b9 i):=ao;refine G.aj ?_;refine n (I.O (fun ac=>?_));refine G.v1 (ba ao.W cZ bx (bI _)) ?_;refine G.v1 (Y.build (v:=bM bJ) o o fy) ?_;refine G.v1 (Y.mA o Tryz.eqGuardType26 (fun w=>i_ 9998 Tryz.underlying26 Tryz.underlying5 dK fE i.2 bJ.2 w) o o) ?_;refine G.aj ?_;refine ac ?_;refine I.ret (x ?_);exact⟨dY ⟨fun h=>hr h,fun h=>by rw[h]⟩,d⟩
end e2
namespace E
def my(l d:cm):Prop:=∀t v,c6 l t=some v→c6 d t=some v
theorem my.c{l d:cm}{s:Nat}{u:Value}(aB:c6 l s=none)(h:my l d):my l ((s,u)::d):=fun t v e=>by
 simp only[c6]
 cases ao:Nat.beq s t with
 |true=>have:=oR ao;subst this;rw[aB]at e;cases e
 |false=>exact h t v e
theorem ai {l d : cm} {s : Nat} {u : Value} (h : my l d) (aB : c6 l s=none := by exact rfl) : my l ((s,u)::d) := my.c aB h
theorem my.b{l:cm}{s:Nat}{u v:Value}(aq:c6 l s=some v)(d:u=v):my l ((s,u)::l):=fun t w e=>by
 simp only[c6]
 cases ao:Nat.beq s t with
 |true=>have:=oR ao;subst this;rw[aq]at e;subst d;exact e
 |false=>exact e
theorem b_ {l : cm} {s : Nat} {u v : Value} (d : u=v) (aq : c6 l s=some v := by exact rfl) : my l ((s,u)::l) := my.b aq d
section
variable {P : Program} {w0 : World} {Q : Exit → Act → World → Prop} {n k : Nat} {dn : List Nat} {l : cm} {H : Heap} {ops : Array Oper} {ca : Heap → Prop} {X : List Nat}
theorem U.join{d:Nat}{v:Value}(a_:Nat)(r:List Nat)(b:(∀q,c6 q d=some v→my l q→U P w0 ops Q ca X n a_ r q H)→U P w0 ops Q ca X n k dn l H)(h:U P w0 ops Q ca X n a_ r ((d,v)::l) H):U P w0 ops Q ca X n k dn l H:=
 b (fun q ah ag a w j x=>h a w ⟨j.defers,j.size,fun t u e=>by
  simp only[c6]at e
  cases ao:Nat.beq d t with
  |true=>have:=oR ao;subst this;simp only[ao]at e;exact j.get _ _ (by rw[ah];exact e)
  |false=>simp only[ao]at e;exact j.get _ _ (ag _ _ e)⟩ x)
end
section
variable {P : Program} {w0 : World} {Q : Exit → Act → World → Prop} {n : Nat} {l : cm} {H : Heap} {ops : Array Oper} {rest : List Oper} {m : Bool}
theorem G.join{d:Nat}{v:Value}(k:Nat)(b:(∀q,c6 q d=some v→my l q→G m P w0 ops Q n q (rest.drop k) H)→G m P w0 ops Q n l rest H)(h:G m P w0 ops Q n ((d,v)::l) (rest.drop k) H):G m P w0 ops Q n l rest H:=
 b (fun q ah ag a w j r=>h a w ⟨j.defers,j.size,fun t u e=>by
  simp only[c6]at e
  cases ao:Nat.beq d t with
  |true=>have:=oR ao;subst this;simp only[ao]at e;exact j.get _ _ (by rw[ah];exact e)
  |false=>simp only[ao]at e;exact j.get _ _ (ag _ _ e)⟩ r)
end
end E
namespace ow
open gV pc lq e2
def PO:dq:=⟨[],bJ⟩
def PN:bU:=⟨bJ,dN,[]⟩
def o4(l:List dq):List (List UInt8×dv):=l.foldl (fun m r=>hk m r.n r.i) []
theorem FZ(l:List dq)(x:dq):o4 (l++[x])=hk (o4 l) x.n x.i:=by unfold o4;rw[oU];rfl
def mR(m:List (List UInt8×dv))(x:bY):List (List UInt8×dv):=if x.w=bJ then e4 m x.n else hk m x.n x.w
def jW(x:dj):Bool:=decide (¬x.cl=bJ∧¬x.bQ=bJ∧0≤x.dn∧x.dn≤x.bj.length∧0≤x.md∧x.md≤x.dn∧¬(x.st=true∧x.dn=x.bj.length))
def jv(t:hf):Int:=if ¬(1≤t.d∧t.d≤3)then 3 else if t.i=bJ then 1 else 0
def ja:List hf→Int
 |[]=>0
 |t::l=>if jv t≠0 then jv t else ja l
def iE(x:dj):Int:=if ¬(x.k=1∨x.k=2)then 3 else if ea x.br≠0 then 7 else if jW x=false then 1 else if 100<x.bj.length then 4 else ja x.bj
theorem F_:∀(l:List hf) (t:hf),ja (l++[t])=if ja l≠0 then ja l else jv t
 |[],t=>by by_cases h:jv t=0<;>simp[ja,h]
 |a::l,t=>by
  rw[kO,ja,ja,F_ l t];by_cases h:jv a≠0
  ·rw[aM h,aM h,aM h]
  ·rw[aA h,aA h]
theorem Al{l:List hf}{i:Nat}(d:i<l.length):ja (l.take (i+1))=if ja (l.take i)≠0 then ja (l.take i)else jv l[i]:=by
 rw[eP d,F_]
theorem FU(e:Int)(t:hf):jY [e,ew (decide (1≤t.d∧t.d≤3)) 3,ew (decide (¬t.i=bJ)) 1]=if e≠0 then e else jv t:=by
 unfold jv;simp only[jY,ew,km];by_cases d:e≠0
 ·rw[aM d,aM d]
 ·rw[aA d,aA d]
  by_cases j:1≤t.d∧t.d≤3<;>by_cases ab:t.i=bJ<;>simp[j,ab]
def pA(x:dj):Int:=jY [ew (decide (x.k=1∨x.k=2)) 3,ea x.br,ew (jW x) 1,ew (decide (x.bj.length≤100)) 4]
theorem N9(x:dj):iE x=if pA x≠0 then pA x else ja x.bj:=by
 unfold iE pA;simp only[jY,ew,km];rcases u5 x.br with aq|aq
 ·by_cases d:x.k=1∨x.k=2<;>cases ab:jW x<;>by_cases j:x.bj.length≤100<;>simp[d,j,aq]<;>omega
 ·by_cases d:x.k=1∨x.k=2<;>cases ab:jW x<;>by_cases j:x.bj.length≤100<;>simp[d,j,aq]
theorem j7{b:Bool}(q:Bool)(e:Int)(h:b=q)(w0:World)(N:Heap):aE Tryz.prog w0 46 #[.bool b,.int .i64 e] N (fun r d=>r= .int .i64 (ew q e)∧al N d):=by subst h;exact zQ b e w0 N
theorem Bh{x:dj}(j:¬x.cl=bJ):decide (((((¬x.bQ=bJ∧0≤x.dn)∧x.dn≤x.bj.length)∧0≤x.md)∧x.md≤x.dn)∧¬(x.st=true∧x.dn=x.bj.length))=jW x:=
 decide_eq_decide.2 ⟨fun⟨⟨⟨⟨⟨a,b⟩,c⟩,d⟩,e⟩,f⟩=>⟨j,a,b,c,d,e,f⟩,fun⟨_,a,b,c,d,e,f⟩=>⟨⟨⟨⟨⟨a,b⟩,c⟩,d⟩,e⟩,f⟩⟩
theorem Bj{x:dj}(d:¬x.cl=bJ)(ab:¬x.bQ=bJ)(j:0≤x.dn)(n:x.dn≤x.bj.length)(q:0≤x.md)(r:x.md≤x.dn)(A:x.st=true):decide (¬x.dn=(x.bj.length:Int))=jW x:=
 decide_eq_decide.2 ⟨fun h=>⟨d,ab,j,n,q,r,fun e=>h e.2⟩,fun h e=>h.2.2.2.2.2.2 ⟨A,e⟩⟩
theorem Bi{x:dj}(d:¬x.cl=bJ)(ab:¬x.bQ=bJ)(j:0≤x.dn)(n:x.dn≤x.bj.length)(q:0≤x.md)(r:x.md≤x.dn)(A:x.st=false):(!false)=jW x:=
 (cT ⟨d,ab,j,n,q,r,fun e=>by rw[A]at e;cases e.1⟩).symm
def ix(x:bU):Int:=if x.k=bJ then 1 else if 65536<x.d.length then 5 else 0
def kn:List bU→Int
 |[]=>0
 |x::l=>if ix x≠0 then ix x else kn l
theorem zc:∀{l:List bU},(∀y∈l,ix y=0)→kn l=0
 |[],_=>rfl
 |x::l,h=>by rw[kn,aA (by simpa using h x gw)];exact zc (fun y hy=>h y (hj _ hy))
theorem zb:∀{l:List bU} {j:Nat} (d:j<l.length),(∀y∈l.take j,ix y=0)→ix l[j]≠0→kn l=ix l[j]
 |x::l,0,_,_,h=>by
  simp only[nX]at h⊢
  rw[kn,aM h]
 |x::l,j+1,d,h,ab=>by
  rw[kn,aA (by simpa using h x bl)];exact zb (l:=l) (j:=j) (by simpa using d) (fun y hy=>h y (by simp[hy])) (by simpa using ab)
theorem LC(y:bU):jY [ew (decide (¬y.k=bJ)) 1,ew (decide (y.d.length≤65536)) 5]=ix y:=by
 unfold ix;simp only[jY,ew,km];by_cases d:y.k=bJ<;>by_cases ab:y.d.length≤65536<;>simp[d,ab]<;>omega
theorem F0(s:dR)(F:Nat→Prop)(w0:World)(N:Heap)
 (ag:fr F N s)(aR:bp F N.size):
 aE Tryz.prog w0 53 #[fZ s] N (fun r C=>∃bE:Nat,r= .map (some bE)∧cW C aN bM bE (o4 s.bm)∧ae 0 N.size (bE+1)∧al N C):=by
 refine aE.aP [fZ s] Tryz.func53 ?_;intro aV aS;have q:al N N:=aa.refl _ _;have bb:=ag.r.len;refine I.O (fun am=>?_);refine G.aU Z.bv ?_;rintro v1 H1 ⟨rfl,B,aG,_⟩;obtain⟨ag,q,_⟩:=bO aG ag q;have B:Var 47 H1 N.size (cc s):=B;refine G.aj ?_;refine am (I.O (fun ap=>?_));refine G.aU (Z.ey (Z.qL aN bM o)) ?_;rintro v6 E ⟨rfl,d,aH,_⟩;have aJ:=ax.new (aR.mono q.size);have az:=ae.new q.size;obtain⟨ag,B,q,_⟩:=cf aH ag B q;have a6:=d.lt;refine G.aj ?_;refine ap (I.t1 (fun aK=>I.O (fun aL=>?_)));refine G.a6 B.W c8 jE lx ?_;refine G.v1 (bu ag.r jQ) ?_;refine G.af (G.nil (aL ?_));refine I.aC (fun _ aO _=>?_)
 refine I.bb (fun(j:Nat)=>[(3,.map (some H1.size)),(8,s.fI.v),(9,.int .i64 (s.bm.length:Int)),(10,.int .i64 (j:Int))])
  (fun(j:Nat) (H:Heap)=>(cW H aN bM H1.size (o4 (s.bm.take j)))∧j≤s.bm.length∧aa (ay [(H1.size+1)]) E H)
  (fun(j:Nat)=>s.bm.length-j) 0 ⟨o,o,o,o,trivial⟩ ?_ ?_
 ·
  exact⟨d,J,aa.refl _ _⟩
 intro j aP aQ aU M O;obtain⟨d,a7,n⟩:=aQ;obtain⟨ag,q,_⟩:=dW n ag aJ q az;have af:=ae.refl (H1.size+1) E.size;refine I.O (fun P=>?_);refine G.v1 bZ (G.nil (P ?_));refine I.t2 (fun Q R=>?_);refine a8 (fun U=>?_) (fun U=>?_)
 ·
  have a_:j<s.bm.length:=by omega
  obtain⟨x,K⟩:∃x,x=s.bm[j]:=⟨_,o⟩;refine I.skip (Q (I.t1 (fun V=>I.aC (fun ar _ _=>I.O (fun av=>?_)))));refine G.cn (Y.pC ag.r j o jQ lh o o gP J) fun aW aB=>?_;refine G.v1 (Y.cast (v2:= .agg (eX x).toArray) (ba aB.W uI lh (kJ _)) (by rw[K])) ?_;refine G.aU (Z.a7 PL) ?_;rintro v5 L ⟨rfl,A,W,_⟩;have X:=ak.new d.lt;have aC:=ae.new n.size;obtain⟨d,n,_⟩:=bO W d n;have A:Var 71 L aP.size (eX PO):=A;refine G.s1 (S.var A _ (eX x) o o o o (oK _) lh (kJ _) (by simp[kJ]) ((dD ((kJ _).trans (kJ _).symm)))) ?_;rintro aX ⟨A,ac⟩;obtain⟨d,n,_⟩:=dW ac d X n (an.q aC);refine G.nil (av (I.region ?_));refine G.af ?_;refine G.a6 A.W p3 b3 cd ?_;refine G.aV p3 bx ?_;refine G.v1 (Y.cast (v2:=bM x.i) (ba ((A.W.drop 1).take 32) cZ bx (by rw[vi];exact bI _)) (c4 (vi _))) ?_;refine G.s1 (S.oZ x.i d gx o oi Tryz.underlying9 o o o) ?_;rintro aZ ⟨d,ai⟩;obtain⟨n,_⟩:=c0 ai n (an.r af);refine G.nil (ar (V (I.region ?_)));refine G.v1 bN ?_;refine G.af (G.nil ?_);refine aT.sub (M (j+1) _ ?_ ?_) ⟨o,o,(aF J),(aF J),trivial⟩
  ·exact⟨by rw[eP (show j<s.bm.length by omega),FZ,←K];exact d,J,n⟩
  ·first|omega|(simp only;omega)|(simp;omega)
 ·
  refine I.exit (R (O (aO ?_)));refine aK (I.O (fun aD=>?_));refine G.aZ 2 ?_;refine aD ?_;refine I.ret (aS ?_);obtain rfl:j=s.bm.length:=by omega
  rw[eD]at d;exact⟨H1.size,o,d,az,q⟩
theorem Ek(bE:Nat)(m:List (List UInt8×dv))(x:bY)(w0:World)(N:Heap)
 (d:cW N aN bM bE m):
 aE Tryz.prog w0 54 #[.map (some bE),mf x] N (fun r E=>r= .tuple #[]∧cW E aN bM bE (mR m x)∧aa (ay [(bE+1)]) N E):=by
 refine aE.enter (args:=[.map (some bE),mf x]) Tryz.func54 o o o ?_;intro aG C;have j:aa (ay [(bE+1)]) N N:=aa.refl _ _;have B:=ae.refl (bE+1) N.size;refine I.O (fun ak=>?_);refine G.aU (Z.rp o o) ?_;rintro v3 K ⟨rfl,n,ar,aK,aL⟩;obtain⟨d,j,_⟩:=bO ar d j;have n:Var 52 K N.size (dL x):=n;refine G.nil (ak (I.aC (fun _ ad _=>I.t2 (fun az a7=>I.aC (fun av ax aB=>I.aC (fun _ aC am=>I.t2 (fun L F=>I.aC (fun _ M ap=>I.t2 (fun O H=>I.t2 (fun P Q=>I.O (fun U=>?_)))))))))));refine G.aV dc bx ?_;refine G.v1 (Y.cast (v2:=bM x.w) (ba ((n.W.drop 33).take 32) cZ bx (by rw[gB];exact bI _)) (c4 (gB _))) ?_;refine aW nL (n_ x.w w0 _) ?_;rintro aQ aF ⟨rfl,R⟩;obtain⟨d,n,j,_⟩:=cf R d n j;refine G.aj ?_;refine U ?_;refine a8 (fun A=>?_) (fun A=>?_)
 ·
  refine I.exit (Q (H (M ?_)));refine L (I.O (fun V=>?_));refine G.af ?_;refine G.a6 n.W dc b3 cd ?_;refine G.xd (Z.u9 d gx o oi Tryz.underlying9 o o) cS o ?_;rintro aH aJ ⟨rfl,d,ac⟩;obtain⟨j,_⟩:=c0 ac j (an.r B);refine G.nil (V ?_);refine I.exit (am (aB (a7 (ad ?_))));refine C .normal (.inl o) _ _ _ (jt o) ?_;exact⟨o,by first|(unfold mR;rw[aM A];exact d)|(unfold mR;rw[aA A];exact d),j⟩
 ·
  refine I.skip (P (I.O (fun W=>?_)));refine G.aV dc bx ?_;refine G.v1 (Y.cast (v2:=bM x.T) (ba ((n.W.drop 1).take 32) cZ bx (by rw[jd];exact bI _)) (c4 (jd _))) ?_;refine aW nL (n_ x.T w0 _) ?_;rintro aO aP ⟨rfl,X⟩;obtain⟨d,n,j,_⟩:=cf X d n j;refine G.aj ?_;refine W ?_;refine a8 (fun aD=>?_) (fun aD=>?_)
  ·
   refine I.exit (H (ap (F (aC ?_))));refine av (az (I.O (fun af=>?_)));refine G.af ?_;refine G.a6 n.W dc b3 cd ?_;refine G.aV dc bx ?_;refine G.v1 (Y.cast (v2:=bM x.w) (ba ((n.W.drop 33).take 32) cZ bx (by rw[gB];exact bI _)) (c4 (gB _))) ?_;refine G.s1 (S.oZ x.w d gx o oi Tryz.underlying9 o o o) ?_;rintro ag ⟨d,q⟩;have q:=q.e3;obtain⟨j,_⟩:=c0 q j (an.r B);refine G.nil (af ?_);refine I.exit (ad ?_);refine C .normal (.inl o) _ _ _ (jt o) ?_;exact⟨o,by first|(unfold mR;rw[aM A];exact d)|(unfold mR;rw[aA A];exact d),j⟩
  ·
   refine I.skip (O ?_);refine I.exit (ap (F (am (ax ?_))));refine az (I.O (fun ai=>?_));refine G.af ?_;refine G.a6 n.W dc b3 cd ?_;refine G.aV dc bx ?_;refine G.v1 (Y.cast (v2:=bM x.w) (ba ((n.W.drop 33).take 32) cZ bx (by rw[gB];exact bI _)) (c4 (gB _))) ?_;refine G.s1 (S.oZ x.w d gx o oi Tryz.underlying9 o o o) ?_;rintro ag ⟨d,q⟩;have q:=q.e3;obtain⟨j,_⟩:=c0 q j (an.r B);refine G.nil (ai ?_);refine I.exit (ad ?_);refine C .normal (.inl o) _ _ _ (jt o) ?_;exact⟨o,by first|(unfold mR;rw[aM A];exact d)|(unfold mR;rw[aA A];exact d),j⟩
theorem Oa(x:dj)(bC:Int)(w0:World)(N:Heap)
 (aL:fj bC N)(cI:bp (fun b=>b=0) N.size)(F:b7 N en 33 x.cx.v x.bj)(ao:x.br.length≤9223372036854775807):
 aE Tryz.prog w0 50 #[hx x] N (fun r bQ=>r= .int .i64 (if x.k≠0 then iE x else 0)∧al N bQ):=by
 refine aE.aP [hx x] Tryz.func50 ?_;intro df bP;have R:al N N:=aa.refl _ _;have F:=F.ch;have du:=F.len;refine I.O (fun cg=>?_);refine G.aU Z.bv ?_;rintro v1 H1 ⟨rfl,C,ch,_⟩;obtain⟨aL,F,R,_⟩:=cf ch aL F R;have C:Var 29 H1 N.size (dC x):=C;refine G.aj ?_;refine cg (I.t2 (fun ck cl=>I.O (fun cm=>?_)));refine G.a6 C.W b1 b8 cX ?_;refine G.v1 cC (G.nil (cm ?_));refine a8 (fun bj=>?_) (fun bj=>?_)
 ·
  refine I.O (fun cn=>?_);refine G.aj ?_;refine cn ?_;refine I.ret (cl (bP ?_));exact⟨by rw[aA (by simpa using bj)],R⟩
 ·
  refine I.skip (ck (I.O (fun cp=>?_)));refine G.aX C.W.h3 b1 fR hp ?_;refine G.v1 (bu F hW) ?_;refine G.aj ?_;refine cp ?_
  refine I.cut (fun(aJ:Int)=>[(1,.pointer (some ⟨N.size,0,none⟩)),(4,.int .i64 aJ)])
   (fun(aJ:Int) (H:Heap)=>(aJ=pA x)∧al H1 H) (fun _ bE _=>?_) ?_
  ·
   have E:al H1 H1:=aa.refl _ _;refine eA (fun n=>al H1 n) [] ?_;have B:=al.refl H1;refine U.aV 0 b1 b8 B ?_;refine U.t1 1 o (fun n j=>bf (C.W.aR j) cX) B ?_;refine U.t1 2 o (fun n j=>cC) B ?_;refine U.af 3 o B ?_;refine U.join (d:=20) (v:= .bool (decide (x.k=1∨x.k=2))) 55 [7,6,5,4,3,2,1,0] (fun bn=>?_) ?_
   ·
    refine U.bL (d:=16) o (fun a2=>?_) (fun a2=>?_)
    ·
     refine U.g1 4 o o o o B ?_;refine U.g1 5 o o o o B ?_;refine U.g1 6 o o o o B ?_;refine U.t1 7 o (fun n j=>ga) B ?_;exact bn _ (aI (fun b=>some (Value.bool b)) (by simp[a2])) (ai (ai (ai (ai (b_ (aI Value.bool (cT a2).symm))))))
    ·
     refine U.cB 4 o (fun n j=>Y.hc (C.W.aR j) o b1 o b8) bR B ?_;refine U.cB 5 o (fun n j=>bf (C.W.aR j) cX) bR B ?_;refine U.cB 6 o (fun n j=>cC) bR B ?_;refine U.t1 7 o (fun n j=>fT) B ?_;exact bn _ (aI (fun b=>some (Value.bool b)) (by simp[a2])) (ai (ai (ai (ai (b_ (aI Value.bool (cL a2).symm))))))
   refine U.aV 9 b1 b3 B ?_;refine U.t1 10 o (fun n j=>bf ((C.W.drop 1).aR j) cd) B ?_;refine U.aV 12 b1 bx B ?_;refine U.t1 13 o (fun n j=>Y.cast (v2:=bM x.cl) (ba (((C.W.drop 2).aR j).take 32) cZ bx (by rw[mE];exact bI _)) (c4 (mE _))) B ?_;refine U.af 57 o B ?_;refine U.t1 58 o (fun n j=>fK) B ?_;refine U.bg 8 ?_;refine e_.call o o jA o cS o o (j7 (decide (x.k=1∨x.k=2)) 3 (by first|(exact(cT J).symm)|(exact(cL J).symm)|(exact decide_eq_decide.2 J)) w0 _) ?_;rintro dg b9 ⟨rfl,a3⟩;obtain⟨aL,C,E,_⟩:=cf a3 aL C E;have a4:=B.O a3;refine U.dx a4 ?_;have a5:=al.refl b9;refine U.bg 11 ?_;refine cP uZ (u4 x.br bC w0 _ aL (cI.mono J) ao) ?_;rintro dh ca ⟨rfl,bD⟩;obtain⟨C,E,_⟩:=bO bD C E;have bS:=a5.O bD;refine U.dx bS ?_;have bT:=al.refl ca;refine U.bg 14 ?_;refine cP nL (n_ x.cl w0 _) ?_;rintro di cb ⟨rfl,a9⟩;obtain⟨C,E,_⟩:=bO a9 C E;have bW:=bT.O a9;refine U.dx bW ?_;have A:=al.refl cb;refine U.t1 15 o (fun n j=>Y.kp o o) A ?_;refine U.af 16 o A ?_;refine U.bL (d:=29) o (fun S=>?_) (fun S=>?_)
   ·
    refine U.cB 17 o (fun n j=>Y.hc (C.W.aR j) o b1 o bx) bR A ?_;refine U.cB 18 o (fun n j=>Y.cast (v2:=bM x.bQ) (ba (((C.W.drop 34).aR j).take 32) cZ bx (by rw[mD];exact bI _)) (c4 (mD _))) bR A ?_;refine U.bg 19 ?_;refine e_.call o o nL o bR o o (n_ x.bQ w0 _) ?_;rintro dk cc ⟨rfl,bF⟩;obtain⟨C,E,_⟩:=bO bF C E;have cH:=A.O bF;refine U.dx cH ?_;have q:=al.refl cc;refine U.cB 20 o (fun n j=>Y.kp o o) bR q ?_;refine U.t1 21 o (fun n j=>ga) q ?_;refine U.af 22 o q ?_;refine U.join (d:=39) (v:= .bool (decide (¬x.bQ=bJ∧0≤x.dn))) 34 [26,25,24,23,22,21,20,19,18,17,16,15,14,11,8,58,57,13,12,10,9,7,6,5,4,3,2,1,0] (fun bo=>?_) ?_
    ·
     refine U.bL (d:=35) o (fun K=>?_) (fun K=>?_)
     ·
      refine U.cB 23 o (fun n j=>Y.hc (C.W.aR j) o b1 o b8) bR q ?_;refine U.cB 24 o (fun n j=>bf (C.W.mj.aR j) cX) bR q ?_;refine U.cB 25 o (fun n j=>eT) bR q ?_;refine U.t1 26 o (fun n j=>ga) q ?_;exact bo _ (aI (fun b=>some (Value.bool b)) (by simp[K])) (ai (ai (ai (ai (b_ (aI Value.bool (cT K).symm))))))
     ·
      refine U.g1 23 o o o o q ?_;refine U.g1 24 o o o o q ?_;refine U.g1 25 o o o o q ?_;refine U.t1 26 o (fun n j=>fT) q ?_;exact bo _ (aI (fun b=>some (Value.bool b)) (by simp[K])) (ai (ai (ai (ai (b_ (aI Value.bool (cL K).symm))))))
    refine U.af 27 o q ?_;refine U.join (d:=45) (v:= .bool (decide ((¬x.bQ=bJ∧0≤x.dn)∧x.dn≤x.bj.length))) 28 [32,31,30,29,28,27,26,25,24,23,22,21,20,19,18,17,16,15,14,11,8,58,57,13,12,10,9,7,6,5,4,3,2,1,0] (fun bq=>?_) ?_
    ·
     refine U.bL (d:=40) o (fun L=>?_) (fun L=>?_)
     ·
      refine U.cB 28 o (fun n j=>Y.hc (C.W.aR j) o b1 o b8) bR q ?_;refine U.cB 29 o (fun n j=>bf (C.W.mj.aR j) cX) bR q ?_;refine U.cB 30 o (fun n j=>gj) bR q ?_;refine U.cB 31 o (fun n j=>fK) bR q ?_;refine U.t1 32 o (fun n j=>ga) q ?_;exact bq _ (aI (fun b=>some (Value.bool b)) (by simp[L])) (ai (ai (ai (ai (ai (b_ (aI Value.bool (cT L).symm)))))))
     ·
      refine U.g1 28 o o o o q ?_;refine U.g1 29 o o o o q ?_;refine U.g1 30 o o o o q ?_;refine U.g1 31 o o o o q ?_;refine U.t1 32 o (fun n j=>fT) q ?_;exact bq _ (aI (fun b=>some (Value.bool b)) (by simp[L])) (ai (ai (ai (ai (ai (b_ (aI Value.bool (cL L).symm)))))))
    refine U.af 33 o q ?_;refine U.join (d:=50) (v:= .bool (decide (((¬x.bQ=bJ∧0≤x.dn)∧x.dn≤x.bj.length)∧0≤x.md))) 23 [37,36,35,34,33,32,31,30,29,28,27,26,25,24,23,22,21,20,19,18,17,16,15,14,11,8,58,57,13,12,10,9,7,6,5,4,3,2,1,0] (fun bt=>?_) ?_
    ·
     refine U.bL (d:=46) o (fun M=>?_) (fun M=>?_)
     ·
      refine U.cB 34 o (fun n j=>Y.hc (C.W.aR j) o b1 o b8) bR q ?_;refine U.cB 35 o (fun n j=>bf (C.W.o2.aR j) cX) bR q ?_;refine U.cB 36 o (fun n j=>eT) bR q ?_;refine U.t1 37 o (fun n j=>ga) q ?_;exact bt _ (aI (fun b=>some (Value.bool b)) (by simp[M])) (ai (ai (ai (ai (b_ (aI Value.bool (cT M).symm))))))
     ·
      refine U.g1 34 o o o o q ?_;refine U.g1 35 o o o o q ?_;refine U.g1 36 o o o o q ?_;refine U.t1 37 o (fun n j=>fT) q ?_;exact bt _ (aI (fun b=>some (Value.bool b)) (by simp[M])) (ai (ai (ai (ai (b_ (aI Value.bool (cL M).symm))))))
    refine U.af 38 o q ?_;refine U.join (d:=57) (v:= .bool (decide ((((¬x.bQ=bJ∧0≤x.dn)∧x.dn≤x.bj.length)∧0≤x.md)∧x.md≤x.dn))) 16 [44,43,42,41,40,39,38,37,36,35,34,33,32,31,30,29,28,27,26,25,24,23,22,21,20,19,18,17,16,15,14,11,8,58,57,13,12,10,9,7,6,5,4,3,2,1,0] (fun bw=>?_) ?_
    ·
     refine U.bL (d:=51) o (fun O=>?_) (fun O=>?_)
     ·
      refine U.cB 39 o (fun n j=>Y.hc (C.W.aR j) o b1 o b8) bR q ?_;refine U.cB 40 o (fun n j=>bf (C.W.o2.aR j) cX) bR q ?_;refine U.cB 41 o (fun n j=>Y.hc (C.W.aR j) o b1 o b8) bR q ?_;refine U.cB 42 o (fun n j=>bf (C.W.mj.aR j) cX) bR q ?_;refine U.cB 43 o (fun n j=>fK) bR q ?_;refine U.t1 44 o (fun n j=>ga) q ?_;exact bw _ (aI (fun b=>some (Value.bool b)) (by simp[O])) (ai (ai (ai (ai (ai (ai (b_ (aI Value.bool (cT O).symm))))))))
     ·
      refine U.g1 39 o o o o q ?_;refine U.g1 40 o o o o q ?_;refine U.g1 41 o o o o q ?_;refine U.g1 42 o o o o q ?_;refine U.g1 43 o o o o q ?_;refine U.t1 44 o (fun n j=>fT) q ?_;exact bw _ (aI (fun b=>some (Value.bool b)) (by simp[O])) (ai (ai (ai (ai (ai (ai (b_ (aI Value.bool (cL O).symm))))))))
    refine U.af 45 o q ?_;refine U.join (d:=68) (v:= .bool (decide (((((¬x.bQ=bJ∧0≤x.dn)∧x.dn≤x.bj.length)∧0≤x.md)∧x.md≤x.dn)∧¬(x.st=true∧x.dn=x.bj.length)))) 5 [55,54,53,52,51,50,49,48,47,46,45,44,43,42,41,40,39,38,37,36,35,34,33,32,31,30,29,28,27,26,25,24,23,22,21,20,19,18,17,16,15,14,11,8,58,57,13,12,10,9,7,6,5,4,3,2,1,0] (fun bz=>?_) ?_
    ·
     refine U.bL (d:=58) o (fun P=>?_) (fun P=>?_)
     ·
      refine U.cB 46 o (fun n j=>Y.hc (C.W.aR j) o b1 o ee) bR q ?_;refine U.cB 47 o (fun n j=>bf (C.W.sw.aR j) fc) bR q ?_;refine U.cB 48 o (fun n j=>gj) bR q ?_;refine U.join (d:=66) (v:= .bool (decide (x.st=true∧x.dn=x.bj.length))) 7 [53,52,51,50,49,48,47,46,45,44,43,42,41,40,39,38,37,36,35,34,33,32,31,30,29,28,27,26,25,24,23,22,21,20,19,18,17,16,15,14,11,8,58,57,13,12,10,9,7,6,5,4,3,2,1,0] (fun bA=>?_) ?_
      ·
       refine U.split (d:=61) o (fun Q=>?_) (fun Q=>?_)
       ·
        refine U.cB 49 o (fun n j=>Y.hc (C.W.aR j) o b1 o b8) bR q ?_;refine U.cB 50 o (fun n j=>bf (C.W.mj.aR j) cX) bR q ?_;refine U.cB 51 o (fun n j=>gj) bR q ?_;refine U.cB 52 o (fun n j=>cC) bR q ?_;refine U.cB 53 o (fun n j=>ga) bR q ?_;exact bA _ (aI (fun b=>some (Value.bool b)) (by simp[Q])) (ai (ai (ai (ai (ai (b_ (aI Value.bool Q.symm)))))))
       ·
        refine U.g1 49 o o o o q ?_;refine U.g1 50 o o o o q ?_;refine U.g1 51 o o o o q ?_;refine U.g1 52 o o o o q ?_;refine U.cB 53 o (fun n j=>fT) bR q ?_;exact bA _ (aI (fun b=>some (Value.bool b)) (by simp[Q])) (ai (ai (ai (ai (ai (b_ (aI Value.bool Q.symm)))))))
      refine U.cB 54 o (fun n j=>Y.kp o o) bR q ?_;refine U.t1 55 o (fun n j=>ga) q ?_;exact bz _ (aI (fun b=>some (Value.bool b)) (by simp[P])) (ai (ai (ai (ai (ai (ai (b_ (aI Value.bool (cT P).symm))))))))
     ·
      refine U.g1 46 o o o o q ?_;refine U.g1 47 o o o o q ?_;refine U.g1 48 o o o o q ?_;refine U.mF 49 o o o o q ?_;refine U.mF 50 o o o o q ?_;refine U.mF 51 o o o o q ?_;refine U.mF 52 o o o o q ?_;refine U.g1 53 o o o o q ?_;refine U.g1 54 o o o o q ?_;refine U.t1 55 o (fun n j=>fT) q ?_;exact bz _ (aI (fun b=>some (Value.bool b)) (by simp[P])) (ai (ai (ai (ai (ai (ai (ai (ai (ai (ai (b_ (aI Value.bool (cL P).symm))))))))))))
    refine U.bg 56 ?_;refine e_.call o o jA o cS o o (j7 (jW x) 1 (by first|exact Bh S|exact Bj S K L M O P Q|exact Bi S K L M O P Q|exact(cL (by rintro⟨bk,ab,c5,c6,c8,c9,da⟩;first|(exact absurd bk cY)|(exact absurd ab cY)|omega)).symm) w0 _) ?_;rintro cq bc ⟨rfl,aD⟩;obtain⟨E,_⟩:=b6 aD E;have aW:=q.O aD;refine U.dx aW ?_;have aX:=al.refl bc;refine U.bg 59 ?_;refine e_.call o o jA o cS o o (j7 (decide (x.bj.length≤100)) 4 (by first|(exact(cT J).symm)|(exact(cL J).symm)|(exact decide_eq_decide.2 J)) w0 _) ?_;rintro cr ak ⟨rfl,az⟩;obtain⟨E,_⟩:=b6 az E;have am:=aX.O az;refine U.dx am ?_;have aZ:=al.refl ak;refine U.bg 60 ?_;refine fC o (dE _ ([ew (decide (x.k=1∨x.k=2)) 3,ea x.br,ew (jW x) 1,ew (decide (x.bj.length≤100)) 4]) nR m9 m_) ?_;rintro ct an ⟨aU,ap,cN,aV⟩;have cR:an.size=ak.size+1:=by rw[aV];simp
    obtain⟨E,_⟩:=b6 ap E;have a6:=aZ.O ap;refine U.dx a6 ?_;have a7:=al.refl an;refine U.bg 61 ?_;refine cP nK (n8 _ [ew (decide (x.k=1∨x.k=2)) 3,ea x.br,ew (jW x) 1,ew (decide (x.bj.length≤100)) 4] w0 _ aU.rd.any) ?_;rintro cv be ⟨rfl,aG⟩;obtain⟨E,_⟩:=b6 aG E;have a_:=a7.O aG;refine U.dx a_ ?_;have ax:=al.refl be;refine U.t1 62 o (fun n j=>gp) ax ?_;refine dB ?_;have bl:=ax;refine aT.sub (bE (pA x) _ ?_) ⟨o,o,trivial⟩;exact⟨o,E⟩
   ·
    refine U.g1 17 o o o o A ?_;refine U.g1 18 o o o o A ?_;refine U.g1 19 o o o o A ?_;refine U.g1 20 o o o o A ?_;refine U.t1 21 o (fun n j=>fT) A ?_;refine U.af 22 o A ?_;refine U.g1 23 o o o o A ?_;refine U.g1 24 o o o o A ?_;refine U.g1 25 o o o o A ?_;refine U.t1 26 o (fun n j=>fT) A ?_;refine U.af 27 o A ?_;refine U.g1 28 o o o o A ?_;refine U.g1 29 o o o o A ?_;refine U.g1 30 o o o o A ?_;refine U.g1 31 o o o o A ?_;refine U.t1 32 o (fun n j=>fT) A ?_;refine U.af 33 o A ?_;refine U.g1 34 o o o o A ?_;refine U.g1 35 o o o o A ?_;refine U.g1 36 o o o o A ?_;refine U.t1 37 o (fun n j=>fT) A ?_;refine U.af 38 o A ?_;refine U.g1 39 o o o o A ?_;refine U.g1 40 o o o o A ?_;refine U.g1 41 o o o o A ?_;refine U.g1 42 o o o o A ?_;refine U.g1 43 o o o o A ?_;refine U.t1 44 o (fun n j=>fT) A ?_;refine U.af 45 o A ?_;refine U.g1 46 o o o o A ?_;refine U.g1 47 o o o o A ?_;refine U.g1 48 o o o o A ?_;refine U.mF 49 o o o o A ?_;refine U.mF 50 o o o o A ?_;refine U.mF 51 o o o o A ?_;refine U.mF 52 o o o o A ?_;refine U.g1 53 o o o o A ?_;refine U.g1 54 o o o o A ?_;refine U.t1 55 o (fun n j=>fT) A ?_;refine U.bg 56 ?_;refine e_.call o o jA o cS o o (j7 (jW x) 1 (by first|exact Bh S|exact Bj S K L M O P Q|exact Bi S K L M O P Q|exact(cL (by rintro⟨bk,ab,c5,c6,c8,c9,da⟩;first|(exact absurd bk cY)|(exact absurd ab cY)|omega)).symm) w0 _) ?_;rintro cq bc ⟨rfl,aD⟩;obtain⟨E,_⟩:=b6 aD E;have aW:=A.O aD;refine U.dx aW ?_;have aX:=al.refl bc;refine U.bg 59 ?_;refine e_.call o o jA o cS o o (j7 (decide (x.bj.length≤100)) 4 (by first|(exact(cT J).symm)|(exact(cL J).symm)|(exact decide_eq_decide.2 J)) w0 _) ?_;rintro cr ak ⟨rfl,az⟩;obtain⟨E,_⟩:=b6 az E;have am:=aX.O az;refine U.dx am ?_;have aZ:=al.refl ak;refine U.bg 60 ?_;refine fC o (dE _ ([ew (decide (x.k=1∨x.k=2)) 3,ea x.br,ew (jW x) 1,ew (decide (x.bj.length≤100)) 4]) nR m9 m_) ?_;rintro ct an ⟨aU,ap,cN,aV⟩;have cR:an.size=ak.size+1:=by rw[aV];simp
    obtain⟨E,_⟩:=b6 ap E;have a6:=aZ.O ap;refine U.dx a6 ?_;have a7:=al.refl an;refine U.bg 61 ?_;refine cP nK (n8 _ [ew (decide (x.k=1∨x.k=2)) 3,ea x.br,ew (jW x) 1,ew (decide (x.bj.length≤100)) 4] w0 _ aU.rd.any) ?_;rintro cv be ⟨rfl,aG⟩;obtain⟨E,_⟩:=b6 aG E;have a_:=a7.O aG;refine U.dx a_ ?_;have ax:=al.refl be;refine U.t1 62 o (fun n j=>gp) ax ?_;refine dB ?_;have bl:=ax;refine aT.sub (bE (pA x) _ ?_) ⟨o,o,trivial⟩;exact⟨o,E⟩
  ·
   intro aJ bV bU;obtain⟨db,bX⟩:=bU;obtain⟨F,C,R,_⟩:=cf bX F C R;refine I.t1 (fun cw=>I.O (fun cx=>?_));refine G.aX C.W.h3 b1 fR hp ?_;refine G.v1 (bu F hW) ?_;refine G.af (G.nil (cx ?_));refine I.aC (fun _ cy _=>?_)
   refine I.bb (fun(dc:Nat×Int)=>match dc with|(i,e)=>[(4,.int .i64 e),(76,x.cx.v),(77,.int .i64 x.bj.length),(78,.int .i64 i)])
    (fun(i,e) (H:Heap)=>(i≤x.bj.length)∧(e=if pA x≠0 then pA x else ja (x.bj.take i))∧al bV H)
    (fun(i,e)=>x.bj.length-i) (0,aJ) ⟨o,o,o,o,trivial⟩ ?_ ?_
   ·
    exact⟨J,(by rw[db];split;rfl;rename_i h;simpa[ja]using h),aa.refl _ _⟩
   rintro⟨i,e⟩ dm cz dp cD cO;obtain⟨dt,he,ac⟩:=cz;obtain⟨F,R,_⟩:=bO ac F R;refine I.O (fun cQ=>?_);refine G.v1 bZ (G.nil (cQ ?_));refine I.t2 (fun bK cU=>?_);refine a8 (fun cA=>?_) (fun cA=>?_)
   ·
    refine I.skip (bK (I.t1 (fun bG=>I.aC (fun bH _ _=>I.O (fun cV=>?_)))));have bL:i<x.bj.length:=by omega
    obtain⟨t,bm⟩:∃t,t=x.bj[i]:=⟨_,o⟩;refine G.cn (Y.cg F i o hW j8 o o) fun dq cW=>?_;refine G.v1 (Y.cast (v2:= .agg (en t).toArray) (ba cW.W sL j8 (jB _)) (by rw[bm])) ?_;refine G.aU (Z.a7 Az) ?_;rintro v6 de ⟨rfl,V,cB,_⟩;have c2:=ae.new ac.size;obtain⟨ac,_⟩:=b6 cB ac;refine G.s1 (et V _ (en t) (nb t) j8 (jB _) ((dD (jB _).symm))) ?_;rintro bi ⟨V,cJ⟩;obtain⟨ac,_⟩:=c0 cJ ac c2;refine G.nil (cV ?_);refine eA (fun n=>al bi n) [] ?_;have B:=al.refl bi;refine U.af 0 o B ?_;refine U.aV 1 mm b8 B ?_;refine U.t1 2 o (fun n j=>bf (V.W.aR j) cX) B ?_;refine U.t1 3 o (fun n j=>eT) B ?_;refine U.af 4 o B ?_;refine U.bL (d:=86) o (fun cF=>?_) (fun cF=>?_)
    ·
     refine U.cB 5 o (fun n j=>Y.hc (V.W.aR j) o mm o b8) bR B ?_;refine U.cB 6 o (fun n j=>bf (V.W.aR j) cX) bR B ?_;refine U.cB 7 o (fun n j=>fK) bR B ?_;refine U.t1 8 o (fun n j=>ga) B ?_;refine U.aV 10 mm bx B ?_;refine U.t1 11 o (fun n j=>Y.cast (v2:=bM t.i) (ba (((V.W.drop 1).aR j).take 32) cZ bx (by rw[nQ];exact bI _)) (c4 (nQ _))) B ?_;refine U.bg 9 ?_;refine e_.call o o jA o cS o o (j7 (decide (1≤t.d∧t.d≤3)) 3 (by first|(exact(cT J).symm)|(exact(cL J).symm)|(exact decide_eq_decide.2 J)) w0 _) ?_;rintro cG aC ⟨rfl,aH⟩;obtain⟨ac,_⟩:=b6 aH ac;have bb:=B.O aH;refine U.dx bb ?_;have aK:=al.refl aC;refine U.bg 12 ?_;refine cP nL (n_ t.i w0 _) ?_;rintro bY bd ⟨rfl,W⟩;obtain⟨ac,_⟩:=b6 W ac;have aN:=aK.O W;refine U.dx aN ?_;have ay:=al.refl bd;refine U.t1 13 o (fun n j=>Y.kp o o) ay ?_;refine U.bg 14 ?_;refine cP jA (j7 (decide (¬t.i=bJ)) 1 o w0 _) ?_;rintro b0 ar ⟨rfl,X⟩;obtain⟨ac,_⟩:=b6 X ac;have aO:=ay.O X;refine U.dx aO ?_;have aP:=al.refl ar;refine U.bg 15 ?_;refine fC o (dE _ ([e,ew (decide (1≤t.d∧t.d≤3)) 3,ew (decide (¬t.i=bJ)) 1]) nR m9 m_) ?_;rintro b2 av ⟨a0,af,c3,bB⟩;have cK:av.size=ar.size+1:=by rw[bB];simp
     obtain⟨ac,_⟩:=b6 af ac;have aQ:=aP.O af;refine U.dx aQ ?_;have aR:=al.refl av;refine U.bg 16 ?_;refine cP nK (n8 _ [e,ew (decide (1≤t.d∧t.d≤3)) 3,ew (decide (¬t.i=bJ)) 1] w0 _ a0.rd.any) ?_;rintro b4 bg ⟨rfl,ag⟩;obtain⟨ac,_⟩:=b6 ag ac;rw[FU];have aS:=aR.O ag;refine U.dx aS ?_;have aB:=al.refl bg;refine U.t1 17 o (fun n j=>gp) aB ?_;refine dB ?_;have bl:=aB;refine bH (bG (I.region ?_));refine G.v1 bN ?_;refine G.af (G.nil ?_);refine aT.sub (cD (i+1,if e≠0 then e else jv t) _ ?_ ?_) ⟨(aF J),o,(aF J),(aF J),trivial⟩
     ·exact⟨J,(by rw[he,Al bL,←bm];split<;>simp_all),ac⟩
     ·first|omega|(simp only;omega)|(simp;omega)
    ·
     refine U.g1 5 o o o o B ?_;refine U.g1 6 o o o o B ?_;refine U.g1 7 o o o o B ?_;refine U.t1 8 o (fun n j=>fT) B ?_;refine U.aV 10 mm bx B ?_;refine U.t1 11 o (fun n j=>Y.cast (v2:=bM t.i) (ba (((V.W.drop 1).aR j).take 32) cZ bx (by rw[nQ];exact bI _)) (c4 (nQ _))) B ?_;refine U.bg 9 ?_;refine e_.call o o jA o cS o o (j7 (decide (1≤t.d∧t.d≤3)) 3 (by first|(exact(cT J).symm)|(exact(cL J).symm)|(exact decide_eq_decide.2 J)) w0 _) ?_;rintro cG aC ⟨rfl,aH⟩;obtain⟨ac,_⟩:=b6 aH ac;have bb:=B.O aH;refine U.dx bb ?_;have aK:=al.refl aC;refine U.bg 12 ?_;refine cP nL (n_ t.i w0 _) ?_;rintro bY bd ⟨rfl,W⟩;obtain⟨ac,_⟩:=b6 W ac;have aN:=aK.O W;refine U.dx aN ?_;have ay:=al.refl bd;refine U.t1 13 o (fun n j=>Y.kp o o) ay ?_;refine U.bg 14 ?_;refine cP jA (j7 (decide (¬t.i=bJ)) 1 o w0 _) ?_;rintro b0 ar ⟨rfl,X⟩;obtain⟨ac,_⟩:=b6 X ac;have aO:=ay.O X;refine U.dx aO ?_;have aP:=al.refl ar;refine U.bg 15 ?_;refine fC o (dE _ ([e,ew (decide (1≤t.d∧t.d≤3)) 3,ew (decide (¬t.i=bJ)) 1]) nR m9 m_) ?_;rintro b2 av ⟨a0,af,c3,bB⟩;have cK:av.size=ar.size+1:=by rw[bB];simp
     obtain⟨ac,_⟩:=b6 af ac;have aQ:=aP.O af;refine U.dx aQ ?_;have aR:=al.refl av;refine U.bg 16 ?_;refine cP nK (n8 _ [e,ew (decide (1≤t.d∧t.d≤3)) 3,ew (decide (¬t.i=bJ)) 1] w0 _ a0.rd.any) ?_;rintro b4 bg ⟨rfl,ag⟩;obtain⟨ac,_⟩:=b6 ag ac;rw[FU];have aS:=aR.O ag;refine U.dx aS ?_;have aB:=al.refl bg;refine U.t1 17 o (fun n j=>gp) aB ?_;refine dB ?_;have bl:=aB;refine bH (bG (I.region ?_));refine G.v1 bN ?_;refine G.af (G.nil ?_);refine aT.sub (cD (i+1,if e≠0 then e else jv t) _ ?_ ?_) ⟨(aF J),o,(aF J),(aF J),trivial⟩
     ·exact⟨J,(by rw[he,Al bL,←bm];split<;>simp_all),ac⟩
     ·first|omega|(simp only;omega)|(simp;omega)
   ·
    refine I.exit (cU (cO (cy ?_)));refine cw (I.O (fun b5=>?_));refine G.aZ 2 ?_;refine b5 ?_;refine I.ret (bP ?_);exact⟨by rw[aM bj,he,N9,eY J],R⟩
end ow
namespace xh
open E
section
variable {α : Type} [DecidableEq α]
def lcs:List α→List α→Nat
 |[],_=>0
 |_::_,[]=>0
 |x::xs,y::ys=>if x=y then lcs xs ys+1 else max (lcs xs (y::ys)) (lcs (x::xs) ys)
termination_by a b => a.length + b.length
def cE:List α→List α→List Int
 |[],[]=>[]
 |[],_::ys=>2::cE [] ys
 |_::xs,[]=>1::cE xs []
 |x::xs,y::ys=>if x=y then 0::cE xs ys else if lcs xs (y::ys)=lcs (x::xs) (y::ys)then 1::cE xs (y::ys)else 2::cE (x::xs) ys
termination_by a b => a.length + b.length
end
theorem zh{κ β:Type}[DecidableEq κ]{k s:κ}{b:β}:∀{m:List (κ×β)},aH (m++[(s,b)]) k=(aH m k).or (if k=s then some b else none)
 |[]=>by by_cases h:k=s<;>simp[aH,h]
 |(a,c)::m=>by
  simp only[kO,aH];split
  ·rfl
  ·exact zh
end xh
namespace hn
open pc lq qb e2 ow
section
variable {β : Type}
def ei(l:List (aD×β)):Prop:=l.Pairwise (fun x y=>blt x.1 y.1)
theorem ei.qX{l:List (aD×β)}(h:ei l):h7 (l.map (·.1)):=by unfold h7;rw[qG];exact h
theorem ei.nodup{l:List (aD×β)}(h:ei l):(l.map (·.1)).Nodup:=tU h.qX
theorem ei.nil:ei ([]:List (aD×β)):=List.Pairwise.nil
theorem ei.tail{x:aD×β}{l:List (aD×β)}(h:ei (x::l)):ei l:=(jf.1 h).2
def fm:List (aD×β)→aD→β→List (aD×β)
 |[],p,i=>[(p,i)]
 |x::l,p,i=>if x.1=p then(p,i)::l else if blt p x.1 then(p,i)::x::l else x::fm l p i
theorem tC(l:List (aD×β))(p:aD)(i:β)(q:aD)(h:ei l):aH (fm l p i) q=if q=p then some i else aH l q:=by
 induction l with
 |nil=>simp[fm,aH]
 |cons x l ih=>
  unfold fm;split
  ·rename_i ab
   simp only[aH];by_cases d:q=p
   ·simp[d]
   ·rw[aA d,aA d,aA (fun e=>d (e.trans ab))]
  ·split
   ·simp only[aH]
   ·simp only[aH,ih h.tail]
    by_cases d:q=x.1
    ·rw[aM d,aM d,aA (fun e=>by rename_i j _;exact j (by rw[←d,e]))]
    ·rw[aA d,aA d]
theorem v8{l:List (aD×β)}{p:aD}{i:β}{x:aD×β}(h:x∈fm l p i):x=(p,i)∨x∈l:=by
 induction l with
 |nil=>simp[fm]at h;exact .inl h
 |cons y l ih=>
  unfold fm at h;split at h
  ·rcases dU.1 h with e|h
   ·exact .inl e
   ·exact .inr (hj _ h)
  ·split at h
   ·rcases dU.1 h with e|h
    ·exact .inl e
    ·exact .inr h
   ·rcases dU.1 h with e|h
    ·exact .inr (by rw[e];exact gw)
    ·rcases ih h with e|h
     ·exact .inl e
     ·exact .inr (hj _ h)
theorem rQ{l:List (aD×β)}(h:ei l)(p:aD)(i:β):ei (fm l p i):=by
 induction l with
 |nil=>exact vJ _ _
 |cons x l ih=>
  have aq:=jf.1 h;unfold fm;split
  ·rename_i ab
   exact jf.2 ⟨fun y hy=>by rw[←ab];exact aq.1 y hy,aq.2⟩
  ·split
   ·rename_i d ab
    refine jf.2 ⟨fun y hy=>?_,h⟩;rcases dU.1 hy with e|hy
    ·rw[e];exact ab
    ·exact ql ab (aq.1 y hy)
   ·rename_i d ab
    refine jf.2 ⟨fun y hy=>?_,ih aq.2⟩;rcases v8 hy with e|hy
    ·rw[e]
     refine mb (fun j=>d ?_);exact oH j ab
    ·exact aq.1 y hy
theorem yv{l:List (aD×β)}(h:ei l)(p:aD):ei (e4 l p):=r5 _ h
theorem v7{l:List (aD×β)}{p:aD}{x:aD×β}(h:x∈e4 l p):x∈l∧x.1≠p:=by
 have:=jZ.1 h;exact⟨this.1,by simpa using this.2⟩
theorem E5{α:Type}{R:α→α→Prop}(q:∀x,¬R x x)(ug:∀x y,R x y→¬R y x):∀{a b:List α},a.Pairwise R→b.Pairwise R→(∀x,x∈a↔x∈b)→a=b
 |[],[],_,_,_=>rfl
 |[],y::b,_,_,h=>by have:=(h y).2 gw;cases this
 |x::a,[],_,_,h=>by have:=(h x).1 gw;cases this
 |x::a,y::b,n,ao,h=>by
  rw[jf]at n ao
  have e:x=y:=by
   rcases dU.1 ((h x).1 gw)with e|d
   ·exact e
   ·rcases dU.1 ((h y).2 gw)with e|ab
    ·exact e.symm
    ·exact absurd (n.1 _ ab) (ug _ _ (ao.1 _ d))
  subst e;congr 1;refine E5 q ug n.2 ao.2 (fun z=>⟨fun j=>?_,fun j=>?_⟩)
  ·rcases dU.1 ((h z).1 (hj _ j))with e|d
   ·subst e;exact absurd (n.1 _ j) (q _)
   ·exact d
  ·rcases dU.1 ((h z).2 (hj _ j))with e|d
   ·subst e;exact absurd (ao.1 _ j) (q _)
   ·exact d
theorem yw{a b:List (aD×β)}(n:ei a)(ao:ei b)(h:∀q,aH a q=aH b q):a=b:=
 E5 (R:=fun x y:aD×β=>blt x.1 y.1) (fun x=>nG _) (fun x y=>rn) n ao (fun x=>by
  have j:=h x.1;constructor
  ·intro d
   have ab:=n1 n.nodup (show(x.1,x.2)∈a from d);rw[j]at ab;exact E.sf ab
  ·intro d
   have ab:=n1 ao.nodup (show(x.1,x.2)∈b from d);rw[←j]at ab;exact E.sf ab)
theorem sj{α:Type}[DecidableEq α]:∀{a b:List α},a.Nodup→(∀k∈a,k∈b)→a.length≤b.length
 |[],b,_,_=>iT _
 |x::a,b,aB,ag=>by
  rw[ng]at aB;have h:=sj (b:=b.erase x) aB.2 (fun k d=>(List.mem_erase_of_ne (fun e=>aB.1 (by rw[←e];exact d))).2 (ag k (hj _ d)));have j:=ag x gw;rw[DB j]at h;have:=List.length_pos_of_mem j;simp only[fx];omega
theorem ze{a b:List (aD×β)}(n:(a.map (·.1)).Nodup)(ao:(b.map (·.1)).Nodup)(h:∀q,aH a q=aH b q):a.length=b.length:=by
 have j:=sj n (fun k d=>by rw[←gF,←h,gF];exact d);have ab:=sj ao (fun k d=>by rw[←gF,h,gF];exact d);rw[dg,dg]at j ab;omega
theorem Dk(l:List (aD×β))(p:aD)(i:β):(fm l p i).length≤l.length+1:=by
 induction l with
 |nil=>simp[fm]
 |cons x l ih=>unfold fm;split<;>(try split)<;>simp<;>omega
theorem Ko{l:List (aD×β)}{p:aD}{i:β}{k:Nat}(q:k<l.length)(n:∀j (h:j<l.length),j<k→blt l[j].1 p)(ab:l[k].1=p):fm l p i=l.set k (p,i):=by
 induction l generalizing k with
 |nil=>simp at q
 |cons x l ih=>
  cases k with
  |zero=>simp only[nX]at ab;rw[fm,aM ab];rfl
  |succ k=>
   have d:=n 0 bl J;simp only[nX]at d;rw[fm,aA (oG d),aA (rn d),yG];congr 1;exact ih (by simpa using q) (fun j h r=>by have:=n (j+1) b2 J;simpa using this) (by simpa using ab)
theorem yy{l:List (aD×β)}{p:aD}{i:β}{k:Nat}(q:k≤l.length)(n:∀j (h:j<l.length),j<k→blt l[j].1 p)(ab:∀h:k<l.length,blt p l[k].1):fm l p i=l.take k++(p,i)::l.drop k:=by
 induction l generalizing k with
 |nil=>simp[fm]
 |cons x l ih=>
  cases k with
  |zero=>
   have d:=ab bl;simp only[nX]at d
   rw[fm,aA (fun e=>oG d e.symm),aM d];rfl
  |succ k=>
   have d:=n 0 bl J;simp only[nX]at d;rw[fm,aA (oG d),aA (rn d),pG,List.drop_succ_cons,kO];congr 1;exact ih (by simpa using q) (fun j h r=>by have:=n (j+1) b2 J;simpa using this) (fun h=>by have:=ab b2;simpa using this)
end
def _root_.Go.Proofs.YtfjmpninmdjcaaaGreatDoor.e2.dj.p(x:dj):dj:={x with cx:=dN}
abbrev e1:=List (aD×dv)
abbrev m1:=List (aD×List dw)
abbrev mw:=List (aD×List UInt8)
structure d_ where
 ah:List UInt8
 cv:e1
 eg:m1
 q:dj
 iw:mw
def bX(l:List dq):e1:=l.map (fun x=>(x.n,x.i))
def c7(l:List hd):m1:=l.map (fun x=>(x.n,x.l))
def da(l:List bU):mw:=l.map (fun x=>(x.k.1,x.d))
def _root_.Go.Proofs.YtfjmpninmdjcaaaGreatDoor.e2.dR.m(s:dR):d_:=⟨s.ah,bX s.bm,c7 s.cj,s.q.p,da s.el⟩
def eV(l:e1)(m:bY):e1:=if m.w=bJ then e4 l m.n else fm l m.n m.w
def j0(l:List dw):List dw:=l.drop (l.length-100)
def js(l:m1)(m:bY):m1:=if m.w=bJ then e4 l m.n else fm l m.n (j0 ((aH l m.n).getD []++[⟨m.T,m.w,m.y⟩]))
def iu(l:mw)(el:List bU):mw:=el.foldl (fun l x=>fm l x.k.1 x.d) l
def d_.ap(s:d_)(t:bS):d_:=⟨if t.bz=true then t.ah else s.ah,t.ml.foldl eV s.cv,t.ml.foldl js s.eg,if t.ag=true then(if t.q.k=0 then fU else t.q.p)else s.q,iu s.iw t.el⟩
def kB:d_:=⟨[],[],[],fU,[]⟩
def jJ(l:e1)(n:aD):dv:=(aH l n).getD bJ
def iW(l:e1)(pre:List bY)(m:bY):Int:=if ea m.n≠0 then 7 else if m.n∈pre.map (·.n)then 18 else if jJ l m.n≠m.T then 21 else if m.w=m.T then 26 else 0
def j3(l:e1):List bY→List bY→Int
 |_,[]=>0
 |pre,m::r=>if iW l pre m≠0 then iW l pre m else j3 l (pre++[m]) r
def jK(u:e1)(m:bY):Bool:=decide (m.T=bJ∧m.w≠bJ)&&(u.map (·.1)).any (fun x=>decide (x≠m.n)&&ly m.n x)
def rM(u:e1)(l:List bY):Int:=if l.any (jK u)=true then 13 else 0
def gY(l:e1)(ml:List bY):Int:=if j3 l [] ml≠0 then j3 l [] ml else if 200<(ml.foldl eV l).length then 4 else rM (ml.foldl eV l) ml
def ko(l:mw)(el:List bU):Int:=if kn el≠0 then kn el else if 500<(iu l el).length then 4 else 0
def gD(t:bS):Int:=if t.bz=true∧t.ah≠[]then ea t.ah else 0
def hv(t:bS):Int:=if t.ag=true∧t.q.k≠0 then iE t.q else 0
def fH(t:bS):Int:=if t.bz=false∧t.ag=false∧t.ml=[]∧t.el=[]then 1 else 0
def eL(s:d_)(t:bS):Int:=if fH t≠0 then fH t else if gD t≠0 then gD t else if gY s.cv t.ml≠0 then gY s.cv t.ml else if hv t≠0 then hv t else ko s.iw t.el
structure d_.Ok (s:d_):Prop where
 hV:ei s.cv
 Ms:∀x∈s.cv,x.2≠bJ
 c6:s.eg.map (·.1)=s.cv.map (·.1)
 mc:ei s.iw
 iC:s.cv.length≤200
 kT:s.iw.length≤500
 bm:∀x∈s.cv,x.1.length≤60
 cj:∀x∈s.eg,x.2.length≤100
 md:∀x∈s.iw,x.2.length≤65536
 ll:s.q.bj.length≤100
theorem sE:kB.Ok:=⟨ei.nil,(fun x h=>by cases h),rfl,ei.nil,by simp[kB],by simp[kB],(fun x h=>by cases h),(fun x h=>by cases h),(fun x h=>by cases h),by simp[kB,fU]⟩
theorem d_.Ok.fu{s:d_}(h:s.Ok):ei s.eg:=by
 have d:=h.hV.qX;rw[←h.c6]at d;unfold h7 at d;rw[qG]at d;exact d
theorem tD{l:e1}(h:ei l)(m:bY)(q:aD):aH (eV l m) q=if q=m.n then(if m.w=bJ then none else some m.w)else aH l q:=by
 unfold eV;split
 ·rw[lH]
 ·rw[tC _ _ _ _ h]
theorem vp{l:e1}(h:ei l)(m:bY):ei (eV l m):=by
 unfold eV;split
 ·exact yv h _
 ·exact rQ h _ _
theorem Km{l:m1}(h:ei l)(m:bY):ei (js l m):=by
 unfold js;split
 ·exact yv h _
 ·exact rQ h _ _
theorem nd:∀{ml:List bY} {l:e1},ei l→ei (ml.foldl eV l)
 |[],_,h=>h
 |m::ml,l,h=>nd (ml:=ml) (vp h m)
theorem vo:∀{ml:List bY} {l:m1},ei l→ei (ml.foldl js l)
 |[],_,h=>h
 |m::ml,l,h=>vo (ml:=ml) (Km h m)
theorem vn:∀{el:List bU} {l:mw},ei l→ei (iu l el)
 |[],_,h=>h
 |m::el,l,h=>vn (el:=el) (rQ h _ _)
theorem DJ{β γ:Type}:∀{l:List (aD×β)} {k:List (aD×γ)} (p:aD) (b:β) (c:γ),l.map (·.1)=k.map (·.1)→(fm l p b).map (·.1)=(fm k p c).map (·.1)
 |[],[],p,b,c,_=>rfl
 |x::l,[],p,b,c,h=>by simp at h
 |[],y::k,p,b,c,h=>by simp at h
 |x::l,y::k,p,b,c,h=>by
  simp only[dk,jC]at h;have ih:=DJ p b c h.2;unfold fm;rw[h.1];split
  ·simp[h.2]
  ·split
   ·simp[h.1,h.2]
   ·simp[h.1,ih]
theorem DI{β γ:Type}:∀{l:List (aD×β)} {k:List (aD×γ)} (p:aD),l.map (·.1)=k.map (·.1)→(e4 l p).map (·.1)=(e4 k p).map (·.1)
 |[],[],p,_=>rfl
 |x::l,[],p,h=>by simp at h
 |[],y::k,p,h=>by simp at h
 |x::l,y::k,p,h=>by
  simp only[dk,jC]at h;have ih:=DI p h.2;unfold e4 at ih⊢;by_cases d:y.1=p
  ·rw[mL (by simp[h.1,d]),mL (by simp[d]),ih]
  ·rw[mM (by simp[h.1,d]),mM (by simp[d]),dk,dk,h.1,ih]
theorem vT:∀{ml:List bY} {l:m1} {k:e1},l.map (·.1)=k.map (·.1)→(ml.foldl js l).map (·.1)=(ml.foldl eV k).map (·.1)
 |[],_,_,h=>h
 |m::ml,l,k,h=>by
  refine vT (ml:=ml) (l:=js l m) (k:=eV k m) ?_;unfold js eV;split
  ·exact DI _ h
  ·exact DJ _ _ _ h
theorem LU{l:e1}{m:bY}{x:aD×dv}(h:x∈eV l m):x∈l∨(x=(m.n,m.w)∧m.w≠bJ):=by
 unfold eV at h;split at h
 ·exact .inl (v7 h).1
 ·rename_i d
  rcases v8 h with e|h
  ·exact .inr ⟨e,d⟩
  ·exact .inl h
theorem wg:∀{ml:List bY} {l:e1} {x:aD×dv},x∈ml.foldl eV l→x∈l∨∃m∈ml,x=(m.n,m.w)∧m.w≠bJ
 |[],_,_,h=> .inl h
 |m::ml,l,x,h=>by
  rcases wg (ml:=ml) (l:=eV l m) h with h|⟨y,hy,h⟩
  ·rcases LU h with h|h
   ·exact .inl h
   ·exact .inr ⟨m,gw,h⟩
  ·exact .inr ⟨y,hj _ hy,h⟩
theorem vV(l:List dw):(j0 l).length≤100:=by unfold j0;rw[ia];omega
theorem zn:∀{ml:List bY} {l:m1},(∀x∈l,x.2.length≤100)→∀x∈ml.foldl js l,x.2.length≤100
 |[],_,h=>h
 |m::ml,l,h=>by
  refine zn (ml:=ml) (l:=js l m) (fun x d=>?_);unfold js at d;split at d
  ·exact h x (v7 d).1
  ·rcases v8 d with e|d
   ·rw[e];exact vV _
   ·exact h x d
theorem A9:∀{el:List bU} {l:mw} {x:aD×List UInt8},x∈iu l el→x∈l∨∃m∈el,x=(m.k.1,m.d)
 |[],_,_,h=> .inl h
 |m::el,l,x,h=>by
  rcases A9 (el:=el) (l:=fm l m.k.1 m.d) h with h|⟨y,hy,h⟩
  ·rcases v8 h with h|h
   ·exact .inr ⟨m,gw,h⟩
   ·exact .inl h
  ·exact .inr ⟨y,hj _ hy,h⟩
theorem sh:∀{ml:List bY} {l:e1} {pre:List bY},j3 l pre ml=0→∀m∈ml,ea m.n=0
 |[],_,_,_,m,h=>by cases h
 |x::ml,l,pre,h,m,hm=>by
  rw[j3]at h;by_cases d:iW l pre x≠0
  ·rw[aM d]at h;exact absurd h d
  ·rw[aA d]at h
   rcases dU.1 hm with rfl|hm
   ·unfold iW at d
    refine mb (fun ab=>d ?_);rw[aM ab];decide
   ·exact sh h m hm
theorem tB:∀{el:List bU},kn el=0→∀y∈el,ix y=0
 |[],_,y,h=>by cases h
 |x::el,h,y,hy=>by
  rw[kn]at h;by_cases d:ix x≠0
  ·rw[aM d]at h;exact absurd h d
  ·rw[aA d]at h
   rcases dU.1 hy with rfl|hy
   ·simpa using d
   ·exact tB h y hy
theorem N_{x:dj}(h:iE x=0):x.bj.length≤100:=by
 unfold iE at h;split at h
 ·cases h
 split at h
 ·rename_i d ab;cases h
 split at h
 ·cases h
 split at h
 ·cases h
 ·omega
structure GI (s:d_) (t:bS):Prop where
 no:fH t=0
 ah:gD t=0
 dI:j3 s.cv [] t.ml=0
 iC:(t.ml.foldl eV s.cv).length≤200
 hT:rM (t.ml.foldl eV s.cv) t.ml=0
 jN:hv t=0
 iw:kn t.el=0
 kT:(iu s.iw t.el).length≤500
theorem u1{s:d_}{t:bS}(h:eL s t=0):GI s t:=by
 unfold eL at h;split at h
 ·rename_i j;exact absurd h j
 rename_i j;split at h
 ·rename_i ab;exact absurd h ab
 rename_i ab;split at h
 ·rename_i n;exact absurd h n
 rename_i n;split at h
 ·rename_i q;exact absurd h q
 rename_i q;have d:gY s.cv t.ml=0:=by simpa using n
 unfold gY at d;split at d
 ·rename_i r;exact absurd d r
 rename_i r;split at d
 ·cases d
 rename_i A;unfold ko at h;split at h
 ·rename_i x;exact absurd h x
 rename_i x;split at h
 ·cases h
 rename_i B;exact⟨by simpa using j,by simpa using ab,by simpa using r,by omega,d,by simpa using q,by simpa using x,by omega⟩
theorem d_.Ok.ap{s:d_}{t:bS}(h:s.Ok)(aq:eL s t=0):(s.ap t).Ok:=by
 have c:=u1 aq;refine⟨nd h.hV,fun x j=>?_,vT h.c6,vn h.mc,c.iC,c.kT,fun x j=>?_,zn h.cj,fun x j=>?_,?_⟩
 ·rcases wg j with j|⟨m,_,e,d⟩
  ·exact h.Ms x j
  ·rw[e];exact d
 ·rcases wg j with j|⟨m,hm,e,d⟩
  ·exact h.bm x j
  ·rw[e];exact((qq m.n).1 (sh c.dI m hm)).1
 ·rcases A9 j with j|⟨m,hm,e⟩
  ·exact h.md x j
  ·rw[e]
   have d:=tB c.iw m hm;unfold ix at d;split at d
   ·cases d
   ·split at d
    ·cases d
    ·show m.d.length≤65536;omega
 ·show(if t.ag=true then(if t.q.k=0 then fU else t.q.p)else s.q).bj.length≤100
  by_cases d:t.ag=true
  ·rw[aM d]
   by_cases ab:t.q.k=0
   ·rw[aM ab];simp[fU]
   ·rw[aA ab]
    have n:=c.jN;unfold hv at n;rw[aM ⟨d,ab⟩]at n;exact N_ n
  ·rw[aA d];exact h.ll
theorem zg(m:List (aD×dv))(x:bY)(q:aD):aH (mR m x) q=if q=x.n then(if x.w=bJ then none else some x.w)else aH m q:=by
 unfold mR;split
 ·rw[lH]
 ·rw[nn]
theorem Eb:∀(l:List dq),((bX l).map (·.1)).Nodup→∀q,aH (o4 l) q=aH (bX l) q:=by
 have key:∀(k:List dq),((bX k.reverse).map (·.1)).Nodup→∀q,aH (o4 k.reverse) q=aH (bX k.reverse) q:=by
  intro k
  induction k with
  |nil=>intro _ q;rfl
  |cons x k ih=>
   intro aB q;rw[List.reverse_cons]at aB⊢;rw[FZ,nn];have e:bX (k.reverse++[x])=bX k.reverse++[(x.n,x.i)]:=by simp[bX]
   rw[e]at aB⊢;rw[gg,nY]at aB;rw[xh.zh,ih aB.1];by_cases d:q=x.n
   ·subst d
    have:aH (bX k.reverse) x.n=none:=by
     cases j:aH (bX k.reverse) x.n with
     |none=>rfl
     |some z=>exact absurd o (aB.2.2 x.n (gF.1 (by rw[j];rfl)) x.n bl)
    rw[this];simp
   ·simp[d]
 intro l aB q;have:=key l.reverse (by rwa[tq]) q;rwa[tq]at this
theorem nc{α β:Type}{f:β→α→β}{l:List α}{b:β}{j:Nat}(h:j<l.length):(l.take (j+1)).foldl f b=f ((l.take j).foldl f b) l[j]:=by
 rw[eP h,oU];rfl
theorem uJ{l:mw}{el:List bU}{j:Nat}(h:j<el.length):iu l (el.take (j+1))=fm (iu l (el.take j)) el[j].k.1 el[j].d:=nc h
theorem xF:∀(el:List bU) (l:mw),(iu l el).length≤l.length+el.length
 |[],l=>dz _
 |x::el,l=>by
  have d:=xF el (fm l x.k.1 x.d);have ab:=Dk l x.k.1 x.d;show(iu (fm l x.k.1 x.d) el).length≤_;simp only[fx];omega
theorem A8:∀{el:List bU} {l:mw},ei l→∀(k:aD),(k∈(iu l el).map (·.1)↔k∈l.map (·.1)∨∃x∈el,x.k.1=k)
 |[],l,_,k=>by simp[iu]
 |x::el,l,h,k=>by
  have ih:=A8 (el:=el) (rQ h x.k.1 x.d) k;show k∈(iu (fm l x.k.1 x.d) el).map (·.1)↔_;rw[ih,←gF,←gF,tC _ _ _ _ h];by_cases d:k=x.k.1
  ·subst d;simp
  ·rw[aA d]
   have j:¬x.k.1=k:=fun e=>d e.symm;simp[j]
theorem KR{s el:List bU}(ag:ei (da s)){m:List (dv×Int)}(aB:(m.map (·.1)).Nodup)(hm:∀k,k∈m.map (·.1)↔(∃x∈s,x.k=k)∨∃x∈el,x.k=k):m.length=(iu (da s) el).length:=by
 have q:=(vn (el:=el) ag).nodup
 have A:((m.map (·.1)).map (·.1)).Nodup:=by
  rw[tg]at aB⊢;rw[qG];exact aB.imp (fun h e=>h (hr e))
 have e:∀k,k∈(m.map (·.1)).map (·.1)↔k∈(iu (da s) el).map (·.1):=by
  intro k;rw[A8 ag];constructor
  ·intro h
   obtain⟨i,r,rfl⟩:=cN.1 h;rcases(hm i).1 r with⟨x,d,e⟩|⟨x,d,e⟩
   ·exact .inl (cN.2 ⟨(x.k.1,x.d),cN.2 ⟨x,d,o⟩,by rw[e]⟩)
   ·exact .inr ⟨x,d,by rw[e]⟩
  ·rintro(h|⟨x,d,rfl⟩)
   ·obtain⟨y,hy,rfl⟩:=cN.1 h
    obtain⟨x,d,rfl⟩:=cN.1 hy;exact cN.2 ⟨x.k,(hm _).2 (.inl ⟨x,d,o⟩),o⟩
   ·exact cN.2 ⟨x.k,(hm _).2 (.inr ⟨x,d,o⟩),o⟩
 have n:=sj A (fun k j=>(e k).1 j);have ab:=sj q (fun k j=>(e k).2 j);rw[dg,dg,dg]at n;rw[dg,dg,dg]at ab;omega
theorem zo:∀{ml:List bY} {l:e1} {pre:List bY} {j:Nat} (d:j<ml.length),(∀i (h:i<j),iW l (pre++ml.take i) (ml[i]' J)=0)→iW l (pre++ml.take j) ml[j]≠0→j3 l pre ml=iW l (pre++ml.take j) ml[j]
 |x::ml,l,pre,0,d,_,h=>by
  simp only[ni,hi,nX]at h⊢
  rw[j3,aM h]
 |x::ml,l,pre,j+1,d,h,ab=>by
  have n:=h 0 J;simp only[ni,hi,nX]at n;rw[j3,aA (by rw[n];decide)];have ih:=zo (ml:=ml) (l:=l) (pre:=pre++[x]) (j:=j) (by simpa using d) (fun i q=>by have:=h (i+1) J;simpa using this) (by simpa using ab)
  simpa using ih
theorem zp:∀{ml:List bY} {l:e1} {pre:List bY},(∀i (h:i<ml.length),iW l (pre++ml.take i) ml[i]=0)→j3 l pre ml=0
 |[],_,_,_=>rfl
 |x::ml,l,pre,h=>by
  have d:=h 0 bl;simp only[ni,hi,nX]at d;rw[j3,aA (by rw[d];decide)];exact zp (fun i j=>by have:=h (i+1) b2;simpa using this)
theorem LR(l:e1)(pre:List bY)(m:bY):jY [ea m.n,ew (!(pre.any (fun x=>decide (x.n=m.n)))) 18,ew (decide (jJ l m.n=m.T)) 21,ew (decide (¬m.w=m.T)) 26]=iW l pre m:=by
 unfold iW
 have e:(pre.any (fun x=>decide (x.n=m.n)))=decide (m.n∈pre.map (·.n)):=by
  rw[vO];simp
 rw[e];simp only[jY,ew,km,tp,decide_eq_false_iff_not];rcases u5 m.n with aq|aq<;>by_cases ab:m.n∈pre.map (·.n)<;>by_cases d:jJ l m.n=m.T<;>by_cases j:m.w=m.T<;>simp[aq,ab,d,j]
theorem Da{s:aD}{l:List aD}(aq:ea s=0)(aB:s∉l):k5 s l=if l.any (ly s)=true then 13 else 0:=by
 have e:base s l=0:=by unfold base;rw[aA (by rw[aq];decide),aA aB]
 unfold k5;rw[e,aA bc]
end hn
namespace lu
open gV lq e2 gK
def f_(n:Nat)(s:List UInt8):List UInt8:=ck n (UInt64.ofNat s.length)++s
def iX(m:bY):List UInt8:=f_ 1 m.n++(m.T.1++(m.w.1++f_ 2 m.y))
def jF(t:hf):List UInt8:=ck 1 (UInt64.ofNat t.d.toNat)++t.i.1
def kz(q:dj):List UInt8:=ck 1 (UInt64.ofNat q.k.toNat)++(if q.k=0 then[]else f_ 1 q.br++(q.cl.1++(q.bQ.1++(ck 2 (UInt64.ofNat q.bj.length)++(q.bj.flatMap jF++(ck 2 (UInt64.ofNat q.dn.toNat)++(ck 2 (UInt64.ofNat q.md.toNat)++ck 1 (if q.st=true then 1 else 0))))))))
def iV(m:bU):List UInt8:=m.k.1++f_ 4 m.d
def k6(t:bS):UInt64:=(if t.bz=true then 1 else 0)|||(if t.ag=true then 2 else 0)
def cK(t:bS):List UInt8:=ck 1 (k6 t)++((if t.bz=true then f_ 1 t.ah else[])++(ck 2 (UInt64.ofNat t.ml.length)++(t.ml.flatMap iX++((if t.ag=true then kz t.q else[])++(ck 2 (UInt64.ofNat t.el.length)++t.el.flatMap iV)))))
theorem ji(n:Nat)(s:List UInt8):(f_ n s).length=n+s.length:=by unfold f_;rw[bT,eQ]
theorem sg(m:bY):(iX m).length=67+m.n.length+m.y.length:=by
 unfold iX;simp only[bT,ji,m.T.2,m.w.2];omega
theorem w2(t:hf):(jF t).length=33:=by unfold jF;rw[bT,eQ,t.i.2]
theorem Ef(m:bU):(iV m).length=36+m.d.length:=by unfold iV;rw[bT,ji,m.k.2];omega
theorem rP{α:Type}{f:α→List UInt8}{l:List α}{j:Nat}(h:j<l.length):(l.take (j+1)).flatMap f=(l.take j).flatMap f++f l[j]:=by
 rw[eP h,jq];simp
theorem qw{α:Type}{f:α→List UInt8}{n:Nat}:∀{l:List α},(∀x∈l,(f x).length≤n)→(l.flatMap f).length≤n*l.length
 |[],_=>by simp
 |x::l,h=>by
  rw[lD,bT,fx,Nat.mul_succ];have d:=h x gw;have ab:=qw (l:=l) (fun y hy=>h y (hj _ hy));omega
structure ra (x:dj):Prop where
 k:0≤x.k∧x.k≤255
 br:x.br.length≤255
 bj:x.bj.length≤65535
 dn:0≤x.dn∧x.dn≤65535
 md:0≤x.md∧x.md≤65535
 dd:∀t∈x.bj,0≤t.d∧t.d≤255
structure nA (t:bS):Prop where
 ml:t.ml.length≤65535
 el:t.el.length≤65535
 ah:t.bz=true→t.ah.length≤255
 kT:∀m∈t.ml,m.n.length≤255∧m.y.length≤65535
 md:∀m∈t.el,m.d.length≤65536
 kg:t.ag=true→0≤t.q.k∧t.q.k≤255
 jN:t.ag=true→t.q.k≠0→ra t.q
theorem wS{q:dj}(h:q.k=0):kz q=ck 1 (UInt64.ofNat q.k.toNat):=by unfold kz;rw[aM h,hi]
theorem wT{q:dj}(h:q.k≠0):kz q=ck 1 (UInt64.ofNat q.k.toNat)++(f_ 1 q.br++(q.cl.1++(q.bQ.1++(ck 2 (UInt64.ofNat q.bj.length)++(q.bj.flatMap jF++(ck 2 (UInt64.ofNat q.dn.toNat)++(ck 2 (UInt64.ofNat q.md.toNat)++ck 1 (if q.st=true then 1 else 0)))))))):=by unfold kz;rw[aA h]
theorem Oy{q:dj}(h:ra q):(kz q).length≤3000000:=by
 have d:=qw (f:=jF) (n:=33) (l:=q.bj) (fun x _=>by rw[w2];omega);have ab:=h.bj;have j:=h.br;unfold kz;split<;>simp only[bT,eQ,ji,q.cl.2,q.bQ.2,je]<;>omega
theorem tx (w0:World)(N:Heap)
 :
 aE Tryz.prog w0 183 #[.int .i64 1] N (fun r d=>r= .int .i64 255∧al N d):=by
 refine aE.aP [.int .i64 1] Tryz.func183 ?_;intro A x;have q:al N N:=aa.refl _ _;refine I.O (fun j=>?_);refine G.aj ?_;refine j (I.O (fun n=>?_));refine G.af ?_;refine G.v1 (Y.cast (v2:= .int .i64 8) (Y.lJ o o o bc) o) ?_;refine G.v1 (Y.cast (v2:= .int .i64 256) (Y.od (8) o o o o bc bc) o) ?_;refine G.v1 (Y.wY o o o bc) ?_;refine G.aj ?_;refine n ?_;refine I.ret (x ?_);exact⟨o,q⟩
theorem D1 (w0:World)(N:Heap)
 :
 aE Tryz.prog w0 183 #[.int .i64 2] N (fun r d=>r= .int .i64 65535∧al N d):=by
 refine aE.aP [.int .i64 2] Tryz.func183 ?_;intro A x;have q:al N N:=aa.refl _ _;refine I.O (fun j=>?_);refine G.aj ?_;refine j (I.O (fun n=>?_));refine G.af ?_;refine G.v1 (Y.cast (v2:= .int .i64 16) (Y.lJ o o o bc) o) ?_;refine G.v1 (Y.cast (v2:= .int .i64 65536) (Y.od (16) o o o o bc bc) o) ?_;refine G.v1 (Y.wY o o o bc) ?_;refine G.aj ?_;refine n ?_;refine I.ret (x ?_);exact⟨o,q⟩
theorem Lq (w0:World)(N:Heap)
 :
 aE Tryz.prog w0 183 #[.int .i64 4] N (fun r d=>r= .int .i64 4294967295∧al N d):=by
 refine aE.aP [.int .i64 4] Tryz.func183 ?_;intro A x;have q:al N N:=aa.refl _ _;refine I.O (fun j=>?_);refine G.aj ?_;refine j (I.O (fun n=>?_));refine G.af ?_;refine G.v1 (Y.cast (v2:= .int .i64 32) (Y.lJ o o o bc) o) ?_;refine G.v1 (Y.cast (v2:= .int .i64 4294967296) (Y.od (32) o o o o bc bc) o) ?_;refine G.v1 (Y.wY o o o bc) ?_;refine G.aj ?_;refine n ?_;refine I.ret (x ?_);exact⟨o,q⟩
theorem Am(b:Bool)(n:UInt64)(w0:World)(N:Heap)
 :
 aE Tryz.prog w0 100 #[.bool b,.int .u64 n.toNat] N (fun r q=>r= .int .u64 (if b=true then n else 0:UInt64).toNat∧al N q):=by
 refine aE.aP [.bool b,.int .u64 n.toNat] Tryz.func100 ?_;intro F j;have d:al N N:=aa.refl _ _;refine I.O (fun x=>?_);refine G.aj ?_;refine x (I.t2 (fun A ac=>I.O (fun ad=>?_)));refine G.af (G.nil (ad ?_));refine dm (fun E=>?_) (fun E=>?_)
 ·
  refine I.O (fun B=>?_);refine G.aZ 2 ?_;refine B ?_;refine I.ret (ac (j ?_));exact⟨by first|(rw[aM cY])|(rw[aA h1];rfl),d⟩
 ·
  refine I.skip (A (I.O (fun C=>?_)));refine G.aj ?_;refine C ?_;refine I.ret (j ?_);exact⟨by first|(rw[aM cY])|(rw[aA h1];rfl),d⟩
theorem lj(v:Value)(e:Int)(w0:World)(N:Heap)
 :
 aE Tryz.prog w0 93 #[v,.bool true,.int .i64 e] N (fun r d=>r= .tuple #[]∧al N d):=by
 refine aE.enter (args:=[v,.bool true,.int .i64 e]) Tryz.func93 o o o ?_;intro x q;have n:al N N:=aa.refl _ _;refine I.O (fun j=>?_);refine G.af ?_;refine G.v1 fB (G.nil (j ?_));refine dZ ?_;refine I.skip ?_;refine q .normal (.inl o) _ _ _ (jt o) ?_;exact⟨o,n⟩
theorem om(B k:Nat)(s:aO)(xs:List UInt8)(n:Nat)(x:UInt64)(w0:World)(N:Heap)
 (A:Var 223 N B [s.v,.int .i64 0,.int .i64 0])(C:aY k 5 N bd 1 s.v xs)(ah:ak (B+1) k)(aB:n≤8)(bt:xs.length≤1099511627776):
 aE Tryz.prog w0 99 #[.pointer (some ⟨B,0,none⟩),.int .i64 n,.int .u64 x.toNat] N (fun r R=>∃s2:aO,∃a_:Nat,r= .tuple #[]∧Var 223 R B [s2.v,.int .i64 0,.int .i64 0]∧aY a_ 5 R bd 1 s2.v (xs++ck n x)∧ae k N.size a_∧ak (B+1) a_∧aa (ay [(B+1),k]) N R):=by
 refine aE.enter (args:=[.pointer (some ⟨B,0,none⟩),.int .i64 n,.int .u64 x.toNat]) Tryz.func99 o o o ?_;intro bj bb;have P:aa (ay [(B+1),k]) N N:=aa.refl _ _;have aW:=ae.refl (B+1) N.size;have bp:=A.lt;have ac:=ae.refl k N.size;have W:=C.le;refine I.O (fun ax=>?_);refine G.af ?_;refine G.v1 (Y.cast (v2:= .int .i64 ((n:Int)-1)) gq o) ?_;refine G.aj ?_;refine ax (I.aC (fun _ aC _=>?_))
 refine I.bb (fun(bg:Nat×aO×Nat×(List UInt8))=>match bg with|(j,s1,E,ys)=>[(0,.pointer (some ⟨B,0,none⟩)),(2,.int .u64 x.toNat),(6,.int .i64 ((j:Int)-1))])
  (fun(j,s1,E,ys) (H:Heap)=>(j≤n)∧Var 223 H B [s1.v,.int .i64 0,.int .i64 0]∧aY E 5 H bd 1 s1.v ys∧ys++ck j x=xs++ck n x∧ae k N.size E∧ak (B+1) E∧aa (ay [(B+1),k]) N H)
  (fun(j,s1,E,ys)=>j) (n,s,k,xs) ⟨o,o,o,trivial⟩ ?_ ?_
 ·
  exact⟨J,A,C,o,ae.refl _ _,ah,aa.refl _ _⟩
 rintro⟨j,s1,E,ys⟩ M aD pb aG aH;obtain⟨bq,A,C,Q,X,aX,F⟩:=aD;have aJ:=ae.O ac X P.size;have P:=P.bt F (ar.cons (an.r aW) (ar.T (an.r ac)));have bn:=F.size;have W:=C.le;have am:=aX;have ad:=ae.refl (B+1) N.size;have ag:=X;have bu:ys.length+j=xs.length+n:=by have:=aI List.length Q;simpa[eQ]using this
 refine I.t2 (fun aK aL=>I.O (fun aN=>?_));refine G.af ?_;refine G.v1 eT (G.nil (aN ?_));refine a8 (fun aP=>?_) (fun aP=>?_)
 ·
  obtain⟨j,rfl⟩:∃q,j=q+1:=⟨j-1,by omega⟩;refine I.skip (aK (I.t1 (fun aQ=>I.aC (fun aR _ _=>?_))));refine eA (fun L=>aa (ay [E]) M L) [13,14,15,16] ?_;have d:aa (ay [E]) M M:=aa.refl _ _;have aS:=ae.refl E M.size;refine U.af 0 o d ?_;refine U.af 1 o d ?_;refine U.bs 2 o d ?_;refine U.t1 3 o (fun L K=>Y.fieldAddr (A.aJ K (au.T am)).W o p1 o o ie bc o) d ?_;refine U.t1 4 o (fun L K=>Y.fieldAddr (A.aJ K (au.T am)).W o iH o o dt bc o) d ?_;refine U.t1 5 o (fun L K=>Y.gO (A.aJ K (au.T am)).W o fe o) d ?_;refine U.af 6 o d ?_;refine U.af 7 o d ?_;refine U.t1 8 o (fun L K=>Y.lJ o o o J) d ?_;refine U.t1 9 o (fun L K=>Y.ua (8*j) o o o gP J) d ?_;refine U.t1 10 o (fun L K=>Y.s0 o hA lP o) d ?_;refine U.bg 11 ?_;refine fC o (Z.c2 (dE _ ([UInt8.ofNat (iF x (8*j)).toNat]) fw fM hh)) ?_;rintro bo O ⟨bf,aZ,_⟩;have aU:=ae.new d.size;obtain⟨C,A,F,d,_⟩:=ed aZ C A F d;refine U.b5 d (ar.cons (an.r aS) (ar.T (an.q aU))) ?_;have d:aa (ay [E,(M.size+1)]) O O:=aa.refl _ _;have ap:=ae.refl E O.size;have a7:=ae.refl (M.size+1) O.size;refine U.bg 12 ?_;refine fC o (eO C bf.rd fw b2 b2) ?_;rintro ai bm ⟨av,C,S,V⟩;have V:=V.md;have af:=ak.app am A.lt S;have a6:=ae.O ag S F.size;have ba:=ae.O ap S d.size;obtain⟨A,F,d,_⟩:=dQ V A am F (an.r ag) d (an.r ap);have W:=C.le;obtain⟨aV,rfl⟩:∃s:aO,ai=s.v:=⟨cF ai,C.bA.symm⟩;refine U.b5 d (ar.cons (an.r ba) (ar.T (an.r a7))) ?_;refine U.bg 13 ?_;refine iJ o kX (.inl o) ?_;refine U.bg 14 ?_;refine iJ o (Y.hc A.W o p1 o ie) (.inl o) ?_;refine U.bg 15 ?_;refine iJ o (Y.hc A.W o iH o dt) (.inl o) ?_;refine U.bg 16 ?_;refine iK o (du A 0 _ dt bl o) ?_;rintro bk ⟨A,az⟩;obtain⟨C,F,_⟩:=dW az C af.symm F (an.r ad);refine⟨.inl o,?_⟩;refine dB ?_;refine aR (aQ (I.region ?_));refine G.af ?_;refine G.v1 gq ?_;refine G.aj ?_;refine aT.sub (aG (j,aV,av,ys++[UInt8.ofNat (iF x (8*j)).toNat]) _ ?_ ?_) ⟨o,(aF J),(aF J),trivial⟩
  ·exact⟨J,A,C,by rw[←Q,dA];rfl,a6,af,F⟩
  ·first|omega|(simp only;omega)|(simp;omega)
 ·
  obtain rfl:j=0:=by omega
  rw[ck,hi]at Q;subst Q;refine I.exit (aL (aH (aC ?_)));refine bb .normal (.inl o) _ _ _ (jt o) ?_;exact⟨s1,E,o,A,C,aJ,am,P⟩
theorem uq(q k:Nat)(s:aO)(xs:List UInt8)(n:Nat)(t:List UInt8)(w0:World)(N:Heap)
 (d:Var 223 N q [s.v,.int .i64 0,.int .i64 0])(j:aY k 5 N bd 1 s.v xs)(ah:ak (q+1) k)(av:xs.length≤549755813888)(aB:n≤8)(ai:t.length≤549755813888):
 aE Tryz.prog w0 101 #[.pointer (some ⟨q,0,none⟩),.int .i64 n,aN t] N (fun r A=>∃s2:aO,∃a_:Nat,r= .tuple #[]∧Var 223 A q [s2.v,.int .i64 0,.int .i64 0]∧aY a_ 5 A bd 1 s2.v (xs++f_ n t)∧ae k N.size a_∧ak (q+1) a_∧aa (ay [(q+1),k]) N A):=by
 refine aE.enter (args:=[.pointer (some ⟨q,0,none⟩),.int .i64 n,aN t]) Tryz.func101 o o o ?_;intro S R;have x:aa (ay [(q+1),k]) N N:=aa.refl _ _;have B:=ae.refl (q+1) N.size;have U:=d.lt;have C:=ae.refl k N.size;have ac:=j.le;refine I.O (fun aj=>?_);refine G.av 3 ?_;refine G.v1 (hb e0) ?_;refine G.v1 (Y.jm o gZ hA o) ?_;refine aW nN (om _ _ _ _ n _ w0 _ d j ah aB J) ?_;rintro V W ⟨a7,X,rfl,d,j,O,L,E⟩;have H:=ae.O C O x.size;have x:=x.bt E (ar.cons (an.r B) (ar.T (an.r C)));have af:=E.size;have ac:=j.le;refine G.nil (aj (I.region ?_));refine G.av 3 ?_;refine G.aV p1 ie ?_;refine G.a6 d.W iH dt fe ?_;refine G.af ?_;refine G.aU (Z.uN j o fw Tryz.underlying9 o o (by simp[eQ];omega)) ?_;rintro K ag ⟨P,j,F,ad⟩;have ad:=ad.md;have az:=ak.app L d.lt F;have ap:=ae.O H F x.size;obtain⟨d,x,_⟩:=dW ad d L x (an.r H);obtain⟨Q,rfl⟩:∃s:aO,K=s.v:=⟨cF K,j.bA.symm⟩;refine G.bs ?_;refine G.aV p1 ie ?_;refine G.aV iH dt ?_;refine G.s1 (du d 0 _ dt bl o) ?_;rintro am ⟨d,M⟩;obtain⟨j,x,_⟩:=dW M j az.symm x (an.r B);refine G.nil ?_;refine R .normal (.inl o) _ _ _ (jt o) ?_;exact⟨Q,P,o,d,by rw[f_,←dA];exact j,ap,az,x⟩
theorem sC(j k:Nat)(s:aO)(xs:List UInt8)(i:dv)(w0:World)(N:Heap)
 (d:Var 223 N j [s.v,.int .i64 0,.int .i64 0])(n:aY k 5 N bd 1 s.v xs)(ah:ak (j+1) k)(aC:xs.length≤549755813888):
 aE Tryz.prog w0 102 #[.pointer (some ⟨j,0,none⟩),bM i] N (fun r H=>∃s2:aO,∃a_:Nat,r= .tuple #[]∧Var 223 H j [s2.v,.int .i64 0,.int .i64 0]∧aY a_ 5 H bd 1 s2.v (xs++i.1)∧ae k N.size a_∧ak (j+1) a_∧aa (ay [(j+1),k]) N H):=by
 refine aE.enter (args:=[.pointer (some ⟨j,0,none⟩),bM i]) Tryz.func102 o o o ?_;intro ag af;have q:aa (ay [(j+1),k]) N N:=aa.refl _ _;have Q:=ae.refl (j+1) N.size;have ai:=d.lt;have L:=ae.refl k N.size;have av:=n.le;have aB:=i.2;refine I.O (fun V=>?_);refine G.aU Z.bv ?_;rintro v3 A ⟨rfl,E,ap,_⟩;obtain⟨d,n,q,_⟩:=cf ap d n q;have E:Var 26 A N.size (i.1.map (fun b=>Value.int .u8 b.toNat)):=E;refine G.nil (V ?_);refine eA (fun C=>aa (ay [k]) A C) [8,9,10,11] ?_;have ac:aa (ay [k]) A A:=aa.refl _ _;have M:=ae.refl k A.size;refine U.af 0 o ac ?_;refine U.af 1 o ac ?_;refine U.bs 2 o ac ?_;refine U.t1 3 o (fun C B=>Y.fieldAddr (d.aJ B (au.T ah)).W o p1 o o ie bc o) ac ?_;refine U.t1 4 o (fun C B=>Y.fieldAddr (d.aJ B (au.T ah)).W o iH o o dt bc o) ac ?_;refine U.t1 5 o (fun C B=>Y.gO (d.aJ B (au.T ah)).W o fe o) ac ?_;refine U.e (g:=fun v=>v) 6 bD o bD bD bD (Y.uc (F:=fun c=>c=N.size) (f:=bd) (xs:=i.1) E.W o E.lt i.2 (fun i x h=>⟨by simp[h],o⟩) (0) (32) o (fun w=> .inl (nv w)) dK o (.inl ⟨o,o⟩) (.inl ⟨o,o⟩) J J bc) cS o o ac (fun a7 P=>?_);rw[nh,eY J]at P;refine U.bg 7 ?_;refine fC o (eO n P fw J J) ?_;rintro O ax ⟨S,n,ad,K⟩;have K:=K.md;have az:=ak.app ah d.lt ad;have W:=ae.O L ad q.size;have X:=ae.O M ad ac.size;obtain⟨d,q,ac,_⟩:=dQ K d ah q (an.r L) ac (an.r M);obtain⟨am,rfl⟩:∃s:aO,O=s.v:=⟨cF O,n.bA.symm⟩;refine U.b5 ac (ar.T (an.r X)) ?_;refine U.bg 8 ?_;refine iJ o kX (.inl o) ?_;refine U.bg 9 ?_;refine iJ o (Y.hc d.W o p1 o ie) (.inl o) ?_;refine U.bg 10 ?_;refine iJ o (Y.hc d.W o iH o dt) (.inl o) ?_;refine U.bg 11 ?_;refine iK o (du d 0 ([am.v,.int .i64 0,.int .i64 0]) dt bl o) ?_;rintro aj ⟨d,R⟩;obtain⟨n,q,_⟩:=dW R n az.symm q (an.r Q);refine⟨.inl o,?_⟩;refine dB ?_;refine af .normal (.inl o) _ _ _ (jt o) ?_;exact⟨am,S,o,d,n,W,az,q⟩
theorem Pr(d:Nat)(s:aO)(w0:World)(N:Heap)
 (n:Var 223 N d [s.v,.int .i64 0,.int .i64 0]):
 aE Tryz.prog w0 104 #[.pointer (some ⟨d,0,none⟩)] N (fun r q=>r= .tuple #[s.v,.int .i64 0]∧al N q):=by
 refine aE.aP [.pointer (some ⟨d,0,none⟩)] Tryz.func104 ?_;intro E C;have B:al N N:=aa.refl _ _;refine I.O (fun x=>?_);refine G.aZ 2 ?_;refine x (I.t1 (fun A=>I.O (fun ac=>?_)));refine G.av 2 ?_;refine G.aV p1 ie ?_;refine G.a6 n.W iH o1 oC ?_;refine G.v1 dX (G.nil (ac ?_));refine a8 (fun j=>?_) (fun j=>?_)
 ·
  exact absurd o j
 ·
  refine I.skip (A (I.O (fun ad=>?_)));refine G.av 2 ?_;refine G.aV p1 ie ?_;refine G.a6 n.W iH dt fe ?_;refine G.aZ 2 ?_;refine ad ?_;refine I.ret (C ?_);exact⟨o,B⟩
theorem PG(C k:Nat)(s:aO)(xs:List UInt8)(x:dj)(F:Nat→Prop)(w0:World)(N:Heap)
 (q:Var 223 N C [s.v,.int .i64 0,.int .i64 0])(d:aY k 5 N bd 1 s.v xs)(ah:ak (C+1) k)(ey:xs.length≤274877906944)(B:Rd F N en 33 x.cx.v x.bj)(O:bp F N.size)(f1:ax F (C+1))(f2:ax F k)(aP:0≤x.k∧x.k≤255)(c9:x.k≠0→ra x):
 aE Tryz.prog w0 103 #[.pointer (some ⟨C,0,none⟩),hx x] N (fun r V=>∃s2:aO,∃a_:Nat,r= .tuple #[]∧Var 223 V C [s2.v,.int .i64 0,.int .i64 0]∧aY a_ 5 V bd 1 s2.v (xs++kz x)∧ae k N.size a_∧ak (C+1) a_∧aa (ay [(C+1),k]) N V):=by
 refine aE.enter (args:=[.pointer (some ⟨C,0,none⟩),hx x]) Tryz.func103 o o o ?_;intro de bH;have j:aa (ay [(C+1),k]) N N:=aa.refl _ _;have K:=ae.refl (C+1) N.size;have df:=q.lt;have bC:=ae.refl k N.size;have E:=d.le;have ew:=B.len;refine I.O (fun b0=>?_);refine G.aU Z.bv ?_;rintro v3 bJ ⟨rfl,A,b2,_⟩;have aj:=ak.new q.lt;have bE:=ak.new d.le;obtain⟨q,d,B,j,_⟩:=ed b2 q d B j;have A:Var 29 bJ N.size (dC x):=A;refine G.nil (b0 (I.O (fun b4=>?_)));refine G.af ?_;refine G.aV b1 b8 ?_;refine G.v1 (Y.cast (v2:= .int .i64 ((x.k).toNat:Nat)) (bf A.W cX) (eI J)) ?_;refine G.v1 (Y.jm o gZ hA o) ?_;refine aW nN (om _ _ _ _ 1 _ w0 _ q d ah bc J) (fun dq dP b5=>?_);have b6:=A.lt;obtain⟨b7,b9,rfl,q,d,X,bF,Q⟩:=b5;have bD:=ax.app f2 (O.mono j.size) X;have aJ:=ak.app bE.symm b6 X;have ap:=ae.O bC X j.size;have B:=B.aJ Q (aS.cons f1 (aS.T f2));have A:=A.aJ Q (au.cons aj.symm (au.T bE.symm));have j:=j.bt Q (ar.cons (an.r K) (ar.T (an.r bC)));have dR:=Q.size;have E:=d.le;refine G.nil (b4 (I.t2 (fun b_ ca=>I.O (fun cb=>?_))));refine G.a6 A.W b1 b8 cX ?_;refine G.v1 cC (G.nil (cb ?_));refine a8 (fun cc=>?_) (fun cc=>?_)
 ·
  have P:x.k=0:=by omega
  refine I.ret (ca (bH .ret (.inr o) _ _ _ (jt o) ?_));exact⟨b7,b9,o,q,by rw[wS P];exact d,ap,bF,j⟩
 ·
  have P:x.k≠0:=by omega
  have he:=c9 P;have ek:=he.br;have eo:=he.bj;have ep:=he.dn;have er:=he.md;refine I.skip (b_ (I.O (fun cg=>?_)));refine G.af ?_;refine G.a6 A.W b1 b3 cd ?_;refine aW sT (uq _ _ _ _ 1 x.br w0 _ q d bF (by simp only[bT,eQ,ji,x.cl.2,x.bQ.2];omega) bc J) (fun dS dT ch=>?_);have a0:=A.lt;obtain⟨ce,dU,rfl,q,d,af,cV,R⟩:=ch;have aK:=ax.app bD (O.mono j.size) af;have aL:=ak.app aJ a0 af;have aN:=ae.O ap af j.size;have B:=B.aJ R (aS.cons f1 (aS.T bD));have A:=A.aJ R (au.cons aj.symm (au.T aJ));have j:=j.bt R (ar.cons (an.r K) (ar.T (an.r ap)));have dV:=R.size;have E:=d.le;refine G.nil (cg (I.O (fun cl=>?_)));refine G.af ?_;refine G.aV b1 bx ?_;refine G.v1 (Y.cast (v2:=bM x.cl) (ba ((A.W.drop 2).take 32) cZ bx (by rw[mE];exact bI _)) (c4 (mE _))) ?_;refine aW rr (sC _ _ _ _ x.cl w0 _ q d cV (by simp only[bT,eQ,ji,x.cl.2,x.bQ.2];omega)) (fun eF ci cm=>?_);have bB:=A.lt;obtain⟨dW,dX,rfl,q,d,ag,cW,S⟩:=cm;have aQ:=ax.app aK (O.mono j.size) ag;have aR:=ak.app aL bB ag;have aU:=ae.O aN ag j.size;have B:=B.aJ S (aS.cons f1 (aS.T aK));have A:=A.aJ S (au.cons aj.symm (au.T aL));have j:=j.bt S (ar.cons (an.r K) (ar.T (an.r aN)));have dG:=S.size;have E:=d.le;refine G.nil (cl (I.O (fun cn=>?_)));refine G.af ?_;refine G.aV b1 bx ?_;refine G.v1 (Y.cast (v2:=bM x.bQ) (ba ((A.W.drop 34).take 32) cZ bx (by rw[mD];exact bI _)) (c4 (mD _))) ?_;refine aW rr (sC _ _ _ _ x.bQ w0 _ q d cW (by simp only[bT,eQ,ji,x.cl.2,x.bQ.2];omega)) (fun dY dZ cp=>?_);have a2:=A.lt;obtain⟨co,d_,rfl,q,d,ai,cY,az⟩:=cp;have aV:=ax.app aQ (O.mono j.size) ai;have aX:=ak.app aR a2 ai;have aZ:=ae.O aU ai j.size;have B:=B.aJ az (aS.cons f1 (aS.T aQ));have A:=A.aJ az (au.cons aj.symm (au.T aR));have j:=j.bt az (ar.cons (an.r K) (ar.T (an.r aU)));have eb:=az.size;have E:=d.le;refine G.nil (cn (I.O (fun cq=>?_)));refine G.af ?_;refine G.aX A.W.h3 b1 fR hp ?_;refine G.v1 (bu B hW) ?_;refine G.v1 (Y.jm o gZ hA o) ?_;refine aW nN (om _ _ _ _ 2 _ w0 _ q d cY bc (by simp only[bT,eQ,ji,x.cl.2,x.bQ.2];omega)) (fun ec a3 cr=>?_);have a4:=A.lt;obtain⟨ct,a5,rfl,q,d,av,c0,am⟩:=cr;have bL:=ax.app aV (O.mono j.size) av;have a6:=ak.app aX a4 av;have a7:=ae.O aZ av j.size;have B:=B.aJ am (aS.cons f1 (aS.T aV));have A:=A.aJ am (au.cons aj.symm (au.T aX));have j:=j.bt am (ar.cons (an.r K) (ar.T (an.r aZ)));have cs:=am.size;have E:=d.le;refine G.nil (cq (I.t1 (fun cv=>I.O (fun bO=>?_))));refine G.aX A.W.h3 b1 fR hp ?_;refine G.v1 (bu B hW) ?_;refine G.af (G.nil (bO ?_));refine I.aC (fun _ bP _=>?_)
  refine I.bb (fun(db:Nat×aO×Nat×(List UInt8))=>match db with|(i,s1,L,ys)=>[(0,.pointer (some ⟨C,0,none⟩)),(3,.pointer (some ⟨N.size,0,none⟩)),(33,x.cx.v),(34,.int .i64 x.bj.length),(35,.int .i64 i)])
   (fun(i,s1,L,ys) (H:Heap)=>(i≤x.bj.length)∧Var 223 H C [s1.v,.int .i64 0,.int .i64 0]∧aY L 5 H bd 1 s1.v ys∧ys=xs++ck 1 (UInt64.ofNat x.k.toNat)++f_ 1 x.br++x.cl.1++x.bQ.1++ck 2 (UInt64.ofNat x.bj.length)++(x.bj.take i).flatMap jF∧ae a5 a3.size L∧ak (C+1) L∧aa (ay [(C+1),a5]) a3 H)
   (fun(i,s1,L,ys)=>x.bj.length-i) (0,ct,a5,xs++ck 1 (UInt64.ofNat x.k.toNat)++f_ 1 x.br++x.cl.1++x.bQ.1++ck 2 (UInt64.ofNat x.bj.length)) ⟨o,o,o,o,o,trivial⟩ ?_ ?_
  ·
   exact⟨J,q,d,bl,ae.refl _ _,c0,aa.refl _ _⟩
  rintro⟨i,s1,L,ys⟩ ef cw fl a9 bR;obtain⟨ev,q,d,U,W,bS,ac⟩:=cw;have bb:=ak.app a6 A.lt W;have bg:=ae.O a7 W j.size;have B:=B.aJ ac (aS.cons f1 (aS.T bL));have A:=A.aJ ac (au.cons aj.symm (au.T a6));have j:=j.bt ac (ar.cons (an.r K) (ar.T (an.r a7)));have eg:=ac.size;have E:=d.le;have bj:=bS;have bA:=ae.refl (C+1) a3.size;have bk:=W;have ez:ys.length≤xs.length+3000000:=by have da:=qw (f:=jF) (n:=33) (l:=x.bj.take i) (fun x _=>by rw[w2];omega);rw[eJ]at da;rw[U];simp only[bT,eQ,ji,x.cl.2,x.bQ.2];omega
  refine I.O (fun cz=>?_);refine G.v1 bZ (G.nil (cz ?_));refine I.t2 (fun cA cB=>?_);refine a8 (fun cx=>?_) (fun cx=>?_)
  ·
   refine I.skip (cA (I.t1 (fun cR=>I.aC (fun be _ _=>I.O (fun cD=>?_)))));have bG:i<x.bj.length:=by omega
   obtain⟨t,aH⟩:∃t,t=x.bj[i]:=⟨_,o⟩;have eu:=he.dd t (by rw[aH];exact cU bG);refine G.cn (Y.cg B i o hW j8 o o) fun dp cF=>?_;refine G.v1 (Y.cast (v2:= .agg (en t).toArray) (ba cF.W sL j8 (jB _)) (by rw[aH])) ?_;refine G.aU (Z.a7 Az) ?_;rintro v5 dc ⟨rfl,M,cy,_⟩;have bm:=ak.new d.le;have bn:=ak.new q.lt;have cG:=ae.new ac.size;obtain⟨d,q,ac,_⟩:=cf cy d q ac;refine G.s1 (et M _ (en t) (nb t) j8 (jB _) ((dD (jB _).symm))) ?_;rintro dg ⟨M,bQ⟩;obtain⟨d,q,ac,_⟩:=dQ bQ d bm q bn ac (an.q cG);refine G.nil (cD (I.O (fun bi=>?_)));refine G.af ?_;refine G.aV mm b8 ?_;refine G.v1 (Y.cast (v2:= .int .i64 ((t.d).toNat:Nat)) (bf M.W cX) (eI J)) ?_;refine G.v1 (Y.jm o gZ hA o) ?_;refine aW nN (om _ _ _ _ 1 _ w0 _ q d bj bc J) ?_;rintro eh ei ⟨ej,dt,rfl,q,d,cH,c2,aB⟩;have bo:=ae.O bk cH ac.size;have M:=M.aJ aB (au.cons bn.symm (au.T bm.symm));have ac:=ac.bt aB (ar.cons (an.r bA) (ar.T (an.r bk)));have dh:=aB.size;have E:=d.le;refine G.nil (bi (I.region ?_));refine G.af ?_;refine G.aV mm bx ?_;refine G.v1 (Y.cast (v2:=bM t.i) (ba ((M.W.drop 1).take 32) cZ bx (by rw[nQ];exact bI _)) (c4 (nQ _))) ?_;refine aW rr (sC _ _ _ _ t.i w0 _ q d c2 (by rw[bT,eQ];omega)) ?_;rintro du dx ⟨bU,bV,rfl,q,d,aC,c3,bq⟩;have cI:=ae.O bo aC ac.size;have ac:=ac.bt bq (ar.cons (an.r bA) (ar.T (an.r bo)));have di:=bq.size;have E:=d.le;refine G.nil (be (cR (I.region ?_)));refine G.v1 bN ?_;refine G.af (G.nil ?_);refine aT.sub (a9 (i+1,bU,bV,ys++ck 1 (UInt64.ofNat t.d.toNat)++t.i.1) _ ?_ ?_) ⟨o,o,o,(aF J),(aF J),trivial⟩
   ·exact⟨J,q,d,(by rw[rP bG,←aH,U,jF];simp only[dA]),cI,c3,ac⟩
   ·first|omega|(simp only;omega)|(simp;omega)
  ·
   obtain rfl:i=x.bj.length:=by omega
   rw[eD]at U;refine I.exit (cB (bR (bP ?_)));refine cv (I.O (fun cJ=>?_));refine G.af ?_;refine G.aV b1 b8 ?_;refine G.v1 (Y.cast (v2:= .int .i64 ((x.dn).toNat:Nat)) (bf A.W.mj cX) (eI J)) ?_;refine G.v1 (Y.jm o gZ hA o) ?_;refine aW nN (om _ _ _ _ 2 _ w0 _ q d bj bc J) (fun dy dz bW=>?_);have cK:=A.lt;obtain⟨dB,dE,rfl,q,d,bt,c5,aD⟩:=bW;have cL:=ak.app bb cK bt;have bw:=ae.O bg bt j.size;have A:=A.aJ aD (au.cons aj.symm (au.T bb));have j:=j.bt aD (ar.cons (an.r K) (ar.T (an.r bg)));have dk:=aD.size;have E:=d.le;refine G.nil (cJ (I.O (fun cN=>?_)));refine G.af ?_;refine G.aV b1 b8 ?_;refine G.v1 (Y.cast (v2:= .int .i64 ((x.md).toNat:Nat)) (bf A.W.o2 cX) (eI J)) ?_;refine G.v1 (Y.jm o gZ hA o) ?_;refine aW nN (om _ _ _ _ 2 _ w0 _ q d c5 bc (by rw[bT,eQ];omega)) ?_;rintro dF dH ⟨dI,dJ,rfl,q,d,cO,c6,aG⟩;have bz:=ae.O bw cO j.size;have A:=A.aJ aG (au.cons aj.symm (au.T cL));have j:=j.bt aG (ar.cons (an.r K) (ar.T (an.r bw)));have dm:=aG.size;have E:=d.le;refine G.nil (cN (I.region ?_));refine G.af ?_;refine G.aX A.W.sw b1 ee fc ?_;refine aW xX (Am x.st 1 w0 _) ?_;rintro dK dL ⟨rfl,bK⟩;obtain⟨d,q,j,_⟩:=cf bK d q j;refine aW nN (om _ _ _ _ 1 _ w0 _ q d c6 bc (by simp only[bT,eQ];omega)) ?_;rintro dM dN ⟨bX,bY,rfl,q,d,cP,c8,cQ⟩;have cT:=ae.O bz cP j.size;have j:=j.bt cQ (ar.cons (an.r K) (ar.T (an.r bz)));refine G.nil ?_;refine bH .normal (.inl o) _ _ _ (jt o) ?_;exact⟨bX,bY,o,q,by rw[wT P];rw[U]at d;simpa only[dA]using d,cT,c8,j⟩
end lu
namespace rf
open gV lq e2 hn lu gK
def lL(t:bS):List UInt8:=ck 1 (k6 t)++(if t.bz=true then f_ 1 t.ah else[])
theorem tO{t:bS}(h:nA t):(lL t).length≤257:=by
 unfold lL;rw[bT,eQ];split
 ·rename_i d;rw[ji];have:=h.ah d;omega
 ·simp
def lI(t:bS):List UInt8:=lL t++ck 2 (UInt64.ofNat t.ml.length)++t.ml.flatMap iX++(if t.ag=true then kz t.q else[])
theorem zk{t:bS}(h:nA t)(i:Nat):((t.ml.take i).flatMap iX).length≤66000*i:=by
 have j:=qw (f:=iX) (n:=66000) (l:=t.ml.take i) (fun x d=>by rw[sg];have:=h.kT x (kQ d);omega);have ab:(t.ml.take i).length≤i:=by rw[eJ];exact y1 _ _
 have q:66000*(t.ml.take i).length≤66000*i:=yZ _ ab;omega
theorem CI{t:bS}(h:nA t)(i:Nat):((t.el.take i).flatMap iV).length≤66000*i:=by
 have j:=qw (f:=iV) (n:=66000) (l:=t.el.take i) (fun x d=>by rw[Ef];have:=h.md x (kQ d);omega);have ab:(t.el.take i).length≤i:=by rw[eJ];exact y1 _ _
 have q:66000*(t.el.take i).length≤66000*i:=yZ _ ab;omega
theorem wb{t:bS}(h:nA t):(lI t).length≤4400000000:=by
 have n:=tO h;have ab:=zk h t.ml.length;rw[eD]at ab;have q:=h.ml;unfold lI;simp only[bT,eQ];split
 ·rename_i j
  by_cases d:t.q.k=0
  ·rw[wS d,eQ];omega
  ·have:=Oy (h.jN j d);omega
 ·rw[je];omega
theorem CM(t:bS):cK t=lI t++ck 2 (UInt64.ofNat t.el.length)++t.el.flatMap iV:=by unfold cK lI lL;simp only[dA]
section
variable {H : Heap} {ad : Addr}
theorem _root_.Go.Proofs.YtfjmpninmdjcaaaGreatDoor.E.cz.w5{x:bS}(h:cz H ad (dM x)):cz H (ad.add 4) (dC x.q++[x.cG.v]):=h.drop 4
theorem _root_.Go.Proofs.YtfjmpninmdjcaaaGreatDoor.E.cz.sA{x:bS}(h:cz H ad (dM x)):cz H ((ad.add 4).add 0) (dC x.q++[x.cG.v]):=h.w5.drop 0
end
theorem Hj(x:bS)(w0:World)(N:Heap)
 :
 aE Tryz.prog w0 141 #[fo x] N (fun r E=>r= .tuple #[hx x.q,.bool (x.ag&&decide (x.q.k≠0))]∧al N E):=by
 refine aE.enter (args:=[fo x]) Tryz.func141 o o o ?_;intro R M;have B:al N N:=aa.refl _ _;refine I.O (fun O=>?_);refine G.aU Z.bv ?_;rintro v1 H1 ⟨rfl,A,P,_⟩;obtain⟨B,_⟩:=b6 P B;have A:Var 32 H1 N.size (dM x):=A;refine G.aU (Z.a7 xb) ?_;rintro v2 E ⟨rfl,F,Q,_⟩;have ad:=ak.new A.lt;have K:=ae.new B.size;obtain⟨A,B,_⟩:=bO Q A B;refine G.aj ?_;refine O (I.t1 (fun L=>?_));refine eA (fun q=>aa (ay [(H1.size+1)]) E q) [] ?_;have j:aa (ay [(H1.size+1)]) E E:=aa.refl _ _;have H:=ae.refl (H1.size+1) E.size;refine U.t1 0 o (fun q n=>Y.fieldAddr (A.aJ n (au.T ad)).W o bP o o dP bc o) j ?_;refine U.t1 1 o (fun q n=>Y.cast (v2:=hx x.q) (ba (((A.aJ n (au.T ad)).W.drop 4).take 70) kF dP (by rw[lA];exact eC _)) (c4 (lA x))) j ?_;refine U.t1 2 o (fun q n=>Y.fieldAddr (A.aJ n (au.T ad)).W o bP o o ee bc o) j ?_;refine U.t1 3 o (fun q n=>bf ((A.aJ n (au.T ad)).W.drop 3) fc) j ?_;refine U.af 4 o j ?_;refine U.split (d:=8) o (fun g8=>?_) (fun g8=>?_)
 ·
  refine U.cB 5 o (fun q n=>Y.fieldAddr (A.aJ n (au.T ad)).W o bP o o dP bc o) bR j ?_;refine U.cB 6 o (fun q n=>Y.fieldAddr ((A.aJ n (au.T ad)).W.drop 4) o b1 o o b8 bc o) bR j ?_;refine U.cB 7 o (fun q n=>Y.gO (A.aJ n (au.T ad)).W.sA o cX o) bR j ?_;refine U.cB 8 o (fun q n=>dX) bR j ?_;refine U.t1 9 o (fun q n=>ga) j ?_;refine U.bg 10 ?_;refine iK o (et F _ (dC x.q) (l3 x.q) dP (eC _) ((dD (eC _).symm))) ?_;rintro ac ⟨F,C⟩;have C:=C.e3;obtain⟨B,j,_⟩:=dW C B K j (an.r H);refine U.b5 j (ar.T (an.r H)) ?_;have j:aa (ay [(H1.size+1)]) ac ac:=aa.refl _ _;refine U.t1 11 o (fun q n=>gp) j ?_;refine dB ?_;refine L ?_;refine I.ret (M .ret (.inr o) _ _ _ (zP o o F.W kF dP (eC _) o) ?_);exact⟨by first|(rw[show x.ag=true by assumption];rfl)|(rw[show x.ag=false by simp_all];rfl),B⟩
 ·
  refine U.g1 5 o o o o j ?_;refine U.g1 6 o o o o j ?_;refine U.g1 7 o o o o j ?_;refine U.g1 8 o o o o j ?_;refine U.t1 9 o (fun q n=>fT) j ?_;refine U.bg 10 ?_;refine iK o (et F _ (dC x.q) (l3 x.q) dP (eC _) ((dD (eC _).symm))) ?_;rintro ac ⟨F,C⟩;have C:=C.e3;obtain⟨B,j,_⟩:=dW C B K j (an.r H);refine U.b5 j (ar.T (an.r H)) ?_;have j:aa (ay [(H1.size+1)]) ac ac:=aa.refl _ _;refine U.t1 11 o (fun q n=>gp) j ?_;refine dB ?_;refine L ?_;refine I.ret (M .ret (.inr o) _ _ _ (zP o o F.W kF dP (eC _) o) ?_);exact⟨by first|(rw[show x.ag=true by assumption];rfl)|(rw[show x.ag=false by simp_all];rfl),B⟩
theorem PF(x:bS)(w0:World)(N:Heap)
 (hm:b7 N dL 66 x.dI.v x.ml)(E:b7 N en 33 x.q.cx.v x.q.bj)(he:b7 N cb 33 x.cG.v x.el)(ah:∀y∈x.el,b7 N bd 1 y.v.v y.d)(R:nA x):
 aE Tryz.prog w0 98 #[fo x] N (fun r bY=>r= .int .i64 0∧al N bY):=by
 refine aE.aP [fo x] Tryz.func98 ?_;intro fp bX;have C:al N N:=aa.refl _ _;have hm:=hm.ch;have a5:=hm.cD;have E:=E.ch;have b0:=E.cD;have he:=he.ch;have b2:=he.cD;have ah:=fun y fg=>(ah y fg).ch;have bk:bp (fun b=>True∧b<N.size) N.size:=fun b h=>h.2;have gk:=hm.len;have gi:=E.len;have gf:=he.len;have aP:=R.ml;have gb:=R.el;obtain⟨ag,bW⟩:∃b,b=(x.ag&&decide (x.q.k≠0)):=⟨_,o⟩;have bc:ag=true→x.ag=true∧x.q.k≠0:=fun h=>by rw[bW,nW,km]at h;exact h
 refine I.O (fun ev=>?_);refine G.aU Z.bv ?_;rintro v1 H1 ⟨rfl,F,ew,_⟩;obtain⟨hm,E,he,ah,C,_⟩:=dH ew hm E he ah C;have F:Var 32 H1 N.size (dM x):=F;refine G.aj ?_;refine ev (I.O (fun ey=>?_));refine G.v1 (Y.build (v:= .agg #[(.slice none 0 0),.int .i64 0,.int .i64 0]) o o fy) ?_;refine G.aU Z.bv ?_;rintro fV ez ⟨rfl,K,cK,_⟩;obtain⟨hm,E,he,ah,F,C,_⟩:=fY cK hm E he ah F C;have K:Var 213 ez H1.size ([(.slice none 0 0),.int .i64 0,.int .i64 0]):=K;refine G.aj ?_;refine ey (I.O (fun dz=>?_));refine G.v1 (ba F.W hR gh (eu _)) ?_;refine aW H0 (Hj x w0 _) ?_;rintro fW X ⟨rfl,cL⟩;obtain⟨hm,E,he,ah,F,K,C,_⟩:=kr cL hm E he ah F K C;rw[←bW];refine G.af ?_;refine G.v1 c3 ?_;refine G.v1 c3 ?_;refine G.aU (Z.a7 xb) ?_;rintro v4 fi ⟨rfl,L,dF,_⟩;have cN:=ax.new (a5.mono C.size);have cO:=ax.new (b0.mono C.size);have cQ:=ax.new (b2.mono C.size);have cT:=ax.new (bk.mono C.size);have cV:=ak.new F.lt;have cW:=ak.new K.lt;have cY:=ae.new C.size;obtain⟨hm,E,he,ah,F,K,C,_⟩:=kr dF hm E he ah F K C;refine G.s1 (et L _ (dC x.q) (l3 x.q) dP (eC _) ((dD (eC _).symm))) ?_;rintro aZ ⟨L,b4⟩;obtain⟨hm,E,he,ah,F,K,C,_⟩:=nw b4 hm cN E cO he cQ ah cT F cV K cW C cY;refine G.aj ?_;refine dz ?_
 refine I.cut (fun(_:Unit)=>[(1,.pointer (some ⟨N.size,0,none⟩)),(3,.pointer (some ⟨H1.size,0,none⟩)),(4,.pointer (some ⟨X.size,0,none⟩)),(5,.bool ag)])
  (fun(_:Unit) (H:Heap)=>True∧al aZ H) (fun _ bL _=>?_) ?_
 ·
  have ar:al aZ aZ:=aa.refl _ _;refine I.region ?_;refine G.af ?_;refine G.a6 F.W bP fz gd ?_;refine G.v1 (bu hm e7) ?_;refine G.v1 ((fK).gW J) ?_;refine G.af ?_;refine G.gz F.W.ig bP eN fD ?_;refine G.aG (bu he dy) ?_;refine G.aG ((fK).gW J) ?_;refine G.av 3 ?_;refine G.aG fB ?_;refine G.b4 ?_;refine G.split (d:=35) o (fun bM=>?_) (fun bM=>?_)
  ·
   refine G.av 4 ?_;refine G.aG ga ?_;refine G.W ?_;refine aW k3 (lj _ 4 w0 _) ?_;rintro dI eK ⟨rfl,a0⟩;obtain⟨ar,_⟩:=b6 a0 ar;refine G.nil ?_;refine aT.sub (bL () _ ?_) ⟨o,o,o,o,trivial⟩;exact⟨trivial,ar⟩
  ·
   have A:=bc (by simpa using bM);have M:=R.jN A.1 A.2;have bh:=M.bj;refine G.gz L.W.h3 b1 fR hp ?_;refine G.aG (bu E hW) ?_;refine G.aG ((fK).gW J) ?_;refine G.aG fT ?_;refine G.W ?_;refine aW k3 (lj _ 4 w0 _) ?_;rintro dI eK ⟨rfl,a0⟩;obtain⟨ar,_⟩:=b6 a0 ar;refine G.nil ?_;refine aT.sub (bL () _ ?_) ⟨o,o,o,o,trivial⟩;exact⟨trivial,ar⟩
 ·
  intro _ aG cc;obtain⟨bg,b5⟩:=cc;obtain⟨hm,E,he,ah,F,K,L,C,_⟩:=fP b5 hm E he ah F K L C
  refine I.cut (fun(_:Unit)=>[(1,.pointer (some ⟨N.size,0,none⟩)),(3,.pointer (some ⟨H1.size,0,none⟩)),(4,.pointer (some ⟨X.size,0,none⟩)),(5,.bool ag)])
   (fun(_:Unit) (H:Heap)=>True∧al aG H) (fun _ bT _=>?_) ?_
  ·
   have V:al aG aG:=aa.refl _ _;refine eA (fun B=>al aG B) [] ?_;have n:=al.refl aG;refine U.af 0 o n ?_;refine U.aV 1 bP ee n ?_;refine U.t1 2 o (fun B A=>bf (F.W.aR A) fc) n ?_;refine U.t1 3 o (fun B A=>fB) n ?_;refine U.af 4 o n ?_;refine U.split (d:=47) o (fun bU=>?_) (fun bU=>?_)
   ·
    refine U.g1 5 o o o o n ?_;refine U.g1 6 o o o o n ?_;refine U.g1 7 o o o o n ?_;refine U.g1 8 o o o o n ?_;refine U.g1 9 o o o o n ?_;refine U.t1 10 o (fun B A=>ga) n ?_;refine U.bg 11 ?_;refine cP k3 (lj _ 5 w0 _) ?_;rintro dJ a9 ⟨rfl,aB⟩;obtain⟨V,_⟩:=b6 aB V;have aO:=n.O aB;refine U.dx aO ?_;have aQ:=al.refl a9;refine dB ?_;have M:=aQ;refine aT.sub (bT () _ ?_) ⟨o,o,o,o,trivial⟩;exact⟨trivial,V⟩
   ·
    have gg:=R.ah (by simpa using bU);refine U.cB 5 o (fun B A=>Y.hc (F.W.aR A) o bP o b3) bR n ?_;refine U.cB 6 o (fun B A=>bf ((F.W.drop 1).aR A) cd) bR n ?_;refine U.cB 7 o (fun B A=>hb e0) bR n ?_;refine U.bg 8 ?_;refine e_.call o o ps o bR o o (tx w0 _) ?_;rintro fX eg ⟨rfl,bx⟩;obtain⟨V,_⟩:=b6 bx V;have dg:=n.O bx;refine U.dx dg ?_;have aR:=al.refl eg;refine U.cB 9 o (fun B A=>(fK).gW J) bR aR ?_;refine U.t1 10 o (fun B A=>fT) aR ?_;refine U.bg 11 ?_;refine cP k3 (lj _ 5 w0 _) ?_;rintro dJ a9 ⟨rfl,aB⟩;obtain⟨V,_⟩:=b6 aB V;have aO:=aR.O aB;refine U.dx aO ?_;have aQ:=al.refl a9;refine dB ?_;have M:=aQ;refine aT.sub (bT () _ ?_) ⟨o,o,o,o,trivial⟩;exact⟨trivial,V⟩
  ·
   intro _ bB cg;obtain⟨bg,b9⟩:=cg;obtain⟨hm,E,he,ah,F,K,L,C,_⟩:=fP b9 hm E he ah F K L C;refine I.t1 (fun dK=>I.O (fun dN=>?_));refine G.a6 F.W bP fz gd ?_;refine G.v1 (bu hm e7) ?_;refine G.af (G.nil (dN ?_));refine I.aC (fun _ c5 _=>?_)
   refine I.bb (fun(i:Nat)=>[(1,.pointer (some ⟨N.size,0,none⟩)),(3,.pointer (some ⟨H1.size,0,none⟩)),(4,.pointer (some ⟨X.size,0,none⟩)),(5,.bool ag),(56,x.dI.v),(57,.int .i64 (x.ml.length:Int)),(58,.int .i64 i)])
    (fun(i:Nat) (H:Heap)=>(i≤x.ml.length)∧al bB H)
    (fun(i:Nat)=>x.ml.length-i) 0 ⟨o,o,o,o,o,o,o,trivial⟩ ?_ ?_
   ·
    exact⟨J,aa.refl _ _⟩
   intro i dQ dR fm eB e6;obtain⟨bb,O⟩:=dR;obtain⟨hm,E,he,ah,F,K,L,C,_⟩:=fP O hm E he ah F K L C;refine I.O (fun cZ=>?_);refine G.v1 bZ (G.nil (cZ ?_));refine I.t2 (fun c2 c4=>?_);refine a8 (fun bo=>?_) (fun bo=>?_)
   ·
    refine I.skip (c2 (I.t1 (fun c6=>I.aC (fun c8 _ _=>I.O (fun c9=>?_)))));have af:i<x.ml.length:=by omega
    obtain⟨y,W⟩:∃q,q=x.ml[i]:=⟨_,o⟩;have ay:y∈x.ml:=by rw[W];exact cU af
    have gl:=R.kT y ay;refine G.cn (Y.cg hm i o e7 eS o o) fun eH da=>?_;refine G.v1 (Y.cast (v2:= .agg (dL y).toArray) (ba da.W kG eS (fq _)) (by rw[W])) ?_;refine G.aU (Z.a7 o8) ?_;rintro gm fj ⟨rfl,ai,e8,_⟩;have de:=ae.new O.size;obtain⟨O,_⟩:=b6 e8 O;refine G.s1 (et ai _ (dL y) (l2 y) eS (fq _) ((dD (fq _).symm))) ?_;rintro bC ⟨ai,dh⟩;obtain⟨O,_⟩:=c0 dh O de;refine G.nil (c9 ?_);refine eA (fun B=>al bC B) [] ?_;have n:=al.refl bC;refine U.af 0 o n ?_;refine U.aV 1 dc b3 n ?_;refine U.t1 2 o (fun B A=>bf (ai.W.aR A) cd) n ?_;refine U.t1 3 o (fun B A=>hb e0) n ?_;refine U.bg 4 ?_;refine cP ps (tx w0 _) ?_;rintro fZ eh ⟨rfl,cR⟩;obtain⟨ai,O,_⟩:=bO cR ai O;have be:=n.O cR;refine U.dx be ?_;have an:=al.refl eh;refine U.t1 5 o (fun B A=>(fK).gW J) an ?_;refine U.af 6 o an ?_;refine U.cB 7 o (fun B A=>Y.hc (ai.W.aR A) o dc o b3) bR an ?_;refine U.cB 8 o (fun B A=>bf (ai.W.qO.aR A) cd) bR an ?_;refine U.cB 9 o (fun B A=>hb e0) bR an ?_;refine U.bg 10 ?_;refine e_.call o o ps o bR o o (D1 w0 _) ?_;rintro f_ ei ⟨rfl,bD⟩;obtain⟨O,_⟩:=b6 bD O;have di:=an.O bD;refine U.dx di ?_;have aS:=al.refl ei;refine U.cB 11 o (fun B A=>(fK).gW J) bR aS ?_;refine U.t1 12 o (fun B A=>ga) aS ?_;refine U.bg 13 ?_;refine cP k3 (lj _ 5 w0 _) ?_;rintro fw ej ⟨rfl,bi⟩;obtain⟨O,_⟩:=b6 bi O;have dj:=aS.O bi;refine U.dx dj ?_;have aC:=al.refl ej;refine dB ?_;have M:=aC;refine c8 (c6 (I.region ?_));refine G.v1 bN ?_;refine G.af (G.nil ?_);refine aT.sub (eB (i+1) _ ?_ ?_) ⟨o,o,o,o,o,(aF J),(aF J),trivial⟩
    ·exact⟨J,O⟩
    ·first|omega|(simp only;omega)|(simp;omega)
   ·
    refine I.exit (c4 (e6 (c5 ?_)));refine dK (I.t1 (fun cp=>I.O (fun cq=>?_)));refine G.aX F.W.ig bP eN fD ?_;refine G.v1 (bu he dy) ?_;refine G.af (G.nil (cq ?_));refine I.aC (fun _ cr _=>?_)
    refine I.bb (fun(i:Nat)=>[(1,.pointer (some ⟨N.size,0,none⟩)),(3,.pointer (some ⟨H1.size,0,none⟩)),(4,.pointer (some ⟨X.size,0,none⟩)),(5,.bool ag),(78,x.cG.v),(79,.int .i64 (x.el.length:Int)),(80,.int .i64 i)])
     (fun(i:Nat) (H:Heap)=>(i≤x.el.length)∧al dQ H)
     (fun(i:Nat)=>x.el.length-i) 0 ⟨o,o,o,o,o,o,o,trivial⟩ ?_ ?_
    ·
     exact⟨J,aa.refl _ _⟩
    intro i aJ h9 fx ct cv;obtain⟨bb,P⟩:=h9;obtain⟨hm,E,he,ah,F,K,L,C,_⟩:=fP P hm E he ah F K L C;refine I.O (fun cx=>?_);refine G.v1 bZ (G.nil (cx ?_));refine I.t2 (fun cy cz=>?_);refine a8 (fun e9=>?_) (fun e9=>?_)
    ·
     refine I.skip (cy (I.t1 (fun cA=>I.aC (fun cB _ _=>I.O (fun df=>?_)))));have af:i<x.el.length:=by omega
     obtain⟨y,W⟩:∃q,q=x.el[i]:=⟨_,o⟩;have ay:y∈x.el:=by rw[W];exact cU af
     have fh:=R.md y ay;refine G.cn (Y.cg he i o dy db o o) fun fM eD=>?_;refine G.v1 (Y.cast (v2:= .agg (cb y).toArray) (ba eD.W kH db (eb _)) (by rw[W])) ?_;refine G.aU (Z.a7 oo) ?_;rintro v9 fk ⟨rfl,bj,fa,_⟩;have eE:=ax.new (bk.mono C.size);have eG:=ae.new P.size;obtain⟨ah,P,_⟩:=bO fa ah P;refine G.s1 (et bj _ (cb y) (iQ y) db (eb _) ((dD (eb _).symm))) ?_;rintro bl ⟨bj,a2⟩;obtain⟨ah,P,_⟩:=dW a2 ah eE P eG;refine G.nil (df ?_);refine eA (fun B=>al bl B) [] ?_;have n:=al.refl bl;refine U.af 0 o n ?_;refine U.aV 1 gU dt n ?_;refine U.t1 2 o (fun B A=>bf (bj.W.mP.aR A) fe) n ?_;refine U.t1 3 o (fun B A=>bu ((ah y ay).aR A) dV) n ?_;refine U.bg 4 ?_;refine cP ps (Lq w0 _) ?_;rintro fA ek ⟨rfl,bE⟩;obtain⟨P,_⟩:=b6 bE P;have dk:=n.O bE;refine U.dx dk ?_;have bm:=al.refl ek;refine U.t1 5 o (fun B A=>(fK).gW J) bm ?_;refine U.bg 6 ?_;refine cP k3 (lj _ 5 w0 _) ?_;rintro fC eo ⟨rfl,bF⟩;obtain⟨P,_⟩:=b6 bF P;have dp:=bm.O bF;refine U.dx dp ?_;have dq:=al.refl eo;refine dB ?_;have M:=dq;refine cB (cA (I.region ?_));refine G.v1 bN ?_;refine G.af (G.nil ?_);refine aT.sub (ct (i+1) _ ?_ ?_) ⟨o,o,o,o,o,(aF J),(aF J),trivial⟩
     ·exact⟨J,P⟩
     ·first|omega|(simp only;omega)|(simp;omega)
    ·
     refine I.exit (cz (cv (cr ?_)));refine cp ?_
     refine I.cut (fun(_:Unit)=>[(1,.pointer (some ⟨N.size,0,none⟩)),(3,.pointer (some ⟨H1.size,0,none⟩)),(4,.pointer (some ⟨X.size,0,none⟩)),(5,.bool ag)])
      (fun(_:Unit) (H:Heap)=>True∧al aJ H) (fun _ bK _=>?_) ?_
     ·
      have ac:al aJ aJ:=aa.refl _ _;refine eA (fun B=>al aJ B) [] ?_;have n:=al.refl aJ;refine U.af 0 o n ?_;refine U.af 1 o n ?_;refine U.t1 2 o (fun B A=>fB) n ?_;refine U.af 3 o n ?_;refine U.split (d:=95) o (fun bV=>?_) (fun bV=>?_)
      ·
       refine U.g1 4 o o o o n ?_;refine U.g1 5 o o o o n ?_;refine U.g1 6 o o o o n ?_;refine U.g1 7 o o o o n ?_;refine U.g1 8 o o o o n ?_;refine U.t1 9 o (fun B A=>ga) n ?_;refine U.bg 10 ?_;refine cP k3 (lj _ 5 w0 _) ?_;rintro eI aU ⟨rfl,az⟩;obtain⟨ac,_⟩:=b6 az ac;have am:=n.O az;refine U.dx am ?_;have a6:=al.refl aU;refine dB ?_;have M:=a6;refine aT.sub (bK () _ ?_) ⟨o,o,o,o,trivial⟩;exact⟨trivial,ac⟩
      ·
       have A:=bc (by simpa using bV);have M:=R.jN A.1 A.2;have bh:=M.br;refine U.cB 4 o (fun B A=>Y.hc (L.W.aR A) o b1 o b3) bR n ?_;refine U.cB 5 o (fun B A=>bf ((L.W.drop 1).aR A) cd) bR n ?_;refine U.cB 6 o (fun B A=>hb e0) bR n ?_;refine U.bg 7 ?_;refine e_.call o o ps o bR o o (tx w0 _) ?_;rintro fE er ⟨rfl,bG⟩;obtain⟨ac,_⟩:=b6 bG ac;have du:=n.O bG;refine U.dx du ?_;have aV:=al.refl er;refine U.cB 8 o (fun B A=>(fK).gW J) bR aV ?_;refine U.t1 9 o (fun B A=>fT) aV ?_;refine U.bg 10 ?_;refine cP k3 (lj _ 5 w0 _) ?_;rintro eI aU ⟨rfl,az⟩;obtain⟨ac,_⟩:=b6 az ac;have am:=aV.O az;refine U.dx am ?_;have a6:=al.refl aU;refine dB ?_;have M:=a6;refine aT.sub (bK () _ ?_) ⟨o,o,o,o,trivial⟩;exact⟨trivial,ac⟩
     ·
      intro _ aD b_;obtain⟨bg,cm⟩:=b_;obtain⟨hm,E,F,K,L,C,_⟩:=fY cm hm E F K L C
      refine I.cut (fun(_:Unit)=>[(3,.pointer (some ⟨H1.size,0,none⟩)),(4,.pointer (some ⟨X.size,0,none⟩)),(5,.bool ag)])
       (fun(_:Unit) (H:Heap)=>True∧al aD H) (fun _ bH _=>?_) ?_
      ·
       have S:al aD aD:=aa.refl _ _;refine eA (fun B=>al aD B) [] ?_;have n:=al.refl aD;refine U.af 0 o n ?_;refine U.aV 1 bP ee n ?_;refine U.t1 2 o (fun B A=>bf ((F.W.drop 3).aR A) fc) n ?_;refine U.t1 3 o (fun B A=>fB) n ?_;refine U.af 4 o n ?_;refine U.split (d:=107) o (fun bJ=>?_) (fun bJ=>?_)
       ·
        refine U.g1 5 o o o o n ?_;refine U.g1 6 o o o o n ?_;refine U.g1 7 o o o o n ?_;refine U.g1 8 o o o o n ?_;refine U.mF 9 o o o o n ?_;refine U.mF 10 o o o o n ?_;refine U.mF 11 o o o o n ?_;refine U.mF 12 o o o o n ?_;refine U.g1 13 o o o o n ?_;refine U.t1 14 o (fun B A=>ga) n ?_;refine U.bg 15 ?_;refine cP k3 (lj _ 1 w0 _) ?_;rintro ce aX ⟨rfl,aH⟩;obtain⟨S,_⟩:=b6 aH S;have ap:=n.O aH;refine U.dx ap ?_;have a7:=al.refl aX;refine dB ?_;have M:=a7;refine aT.sub (bH () _ ?_) ⟨o,o,o,trivial⟩;exact⟨trivial,S⟩
       ·
        have fF:=R.kg (by simpa using bJ);refine U.cB 5 o (fun B A=>Y.hc (L.W.aR A) o b1 o b8) bR n ?_;refine U.cB 6 o (fun B A=>bf (L.W.aR A) cX) bR n ?_;refine U.cB 7 o (fun B A=>(eT).gW J) bR n ?_;refine U.cB 8 o (fun B A=>gj) bR n ?_;refine U.cB 9 o (fun B A=>Y.hc (L.W.aR A) o b1 o b8) bR n ?_;refine U.cB 10 o (fun B A=>bf (L.W.aR A) cX) bR n ?_;refine U.bg 11 ?_;refine e_.call o o ps o bR o o (tx w0 _) ?_;rintro fN dx ⟨rfl,bn⟩;obtain⟨S,_⟩:=b6 bn S;have ch:=n.O bn;refine U.dx ch ?_;have aN:=al.refl dx;refine U.cB 12 o (fun B A=>(fK).gW J) bR aN ?_;refine U.cB 13 o (fun B A=>ga) bR aN ?_;refine U.t1 14 o (fun B A=>fT) aN ?_;refine U.bg 15 ?_;refine cP k3 (lj _ 1 w0 _) ?_;rintro ce aX ⟨rfl,aH⟩;obtain⟨S,_⟩:=b6 aH S;have ap:=aN.O aH;refine U.dx ap ?_;have a7:=al.refl aX;refine dB ?_;have M:=a7;refine aT.sub (bH () _ ?_) ⟨o,o,o,trivial⟩;exact⟨trivial,S⟩
      ·
       intro _ fr ca;obtain⟨bg,cn⟩:=ca;obtain⟨hm,E,K,L,C,_⟩:=dH cn hm E K L C;refine I.t1 (fun bz=>I.O (fun eJ=>?_));refine G.af (G.nil (eJ ?_));refine dm (fun bA=>?_) (fun bA=>?_)
       ·
        have A:=bc bA;have M:=R.jN A.1 A.2;have cw:=M.bj;have ep:=M.dn;have gT:=M.md;refine I.t1 (fun eM=>I.O (fun eF=>?_));refine G.aX L.W.mj b1 b8 cX ?_;refine G.aX L.W.o2 b1 b8 cX ?_;refine G.aU (Z.c2 (dE _ ([x.q.dn,x.q.md]) KH m9 m_)) ?_;rintro ci eO ⟨aK,cC,_⟩;obtain⟨hm,E,K,L,C,_⟩:=dH cC hm E K L C;refine G.v1 (bu aK.rd w7) ?_;refine G.af (G.nil (eF ?_));refine I.aC (fun _ eP _=>?_)
        refine I.bb (fun(i:Nat)=>[(3,.pointer (some ⟨H1.size,0,none⟩)),(4,.pointer (some ⟨X.size,0,none⟩)),(124,ci),(125,.int .i64 2),(126,.int .i64 i)])
         (fun(i:Nat) (H:Heap)=>(i≤2)∧al eO H)
         (fun(i:Nat)=>2-i) 0 ⟨o,o,o,o,o,trivial⟩ ?_ ?_
        ·
         exact⟨J,aa.refl _ _⟩
        intro i ff dl fG dG eQ;obtain⟨bb,av⟩:=dl;obtain⟨hm,E,K,L,aK,C,_⟩:=fY av hm E K L aK C;refine I.O (fun eR=>?_);refine G.v1 bZ (G.nil (eR ?_));refine I.t2 (fun co eV=>?_);refine a8 (fun eW=>?_) (fun eW=>?_)
        ·
         refine I.skip (co (I.t1 (fun eY=>I.aC (fun cs _ _=>I.O (fun eZ=>?_)))));have af:i<[x.q.dn,x.q.md].length:=by simp;omega
         have A:0≤[x.q.dn,x.q.md][i]∧[x.q.dn,x.q.md][i]≤65535:=by
          have hm:=cU af;rcases dU.1 hm with h|h
          ·rw[h];omega
          ·rw[eU.1 h];omega
         refine G.v1 (mo aK i w7 b8) ?_;refine G.v1 (bf (aK.W (j:=i) ic) cX) ?_;refine G.aj ?_;refine eZ (I.region ?_);refine G.av 2 ?_;refine G.v1 ((eT).gW J) ?_;refine G.av 2 ?_;refine G.call o ps o bR o o (D1 w0 _) ?_;rintro cJ fO ⟨rfl,cD⟩;obtain⟨av,_⟩:=b6 cD av;refine G.aG ((fK).gW J) ?_;refine G.W ?_;refine aW k3 (lj _ 1 w0 _) ?_;rintro fQ hg ⟨rfl,cF⟩;obtain⟨av,_⟩:=b6 cF av;refine G.nil (cs (eY (I.region ?_)));refine G.v1 bN ?_;refine G.af (G.nil ?_);refine aT.sub (dG (i+1) _ ?_ ?_) ⟨o,o,o,(aF J),(aF J),trivial⟩
         ·exact⟨J,av⟩
         ·first|omega|(simp only;omega)|(simp;omega)
        ·
         refine I.exit (eV (eQ (eP ?_)));refine eM (I.O (fun bQ=>?_));refine G.aX L.W.h3 b1 fR hp ?_;refine G.v1 (bu E hW) ?_;refine G.af (G.nil (bQ ?_));refine I.aC (fun _ fl _=>?_)
         refine I.bb (fun(i:Nat)=>[(3,.pointer (some ⟨H1.size,0,none⟩)),(141,x.q.cx.v),(142,.int .i64 (x.q.bj.length:Int)),(143,.int .i64 i)])
          (fun(i:Nat) (H:Heap)=>(i≤x.q.bj.length)∧al ff H)
          (fun(i:Nat)=>x.q.bj.length-i) 0 ⟨o,o,o,o,trivial⟩ ?_ ?_
         ·
          exact⟨J,aa.refl _ _⟩
         intro i fH ds fI e1 e2;obtain⟨bb,Q⟩:=ds;obtain⟨E,K,C,_⟩:=cf Q E K C;refine I.O (fun e3=>?_);refine G.v1 bZ (G.nil (e3 ?_));refine I.t2 (fun e4 dS=>?_);refine a8 (fun dT=>?_) (fun dT=>?_)
         ·
          refine I.skip (e4 (I.t1 (fun dX=>I.aC (fun dY _ _=>I.O (fun dZ=>?_)))));have af:i<x.q.bj.length:=by omega
          obtain⟨y,W⟩:∃q,q=x.q.bj[i]:=⟨_,o⟩;have ay:y∈x.q.bj:=by rw[W];exact cU af
          have fh:=M.dd y ay;refine G.cn (Y.cg E i o hW j8 o o) fun ft cG=>?_;refine G.v1 (Y.cast (v2:= .agg (en y).toArray) (ba cG.W sL j8 (jB _)) (by rw[W])) ?_;refine G.aU (Z.a7 Az) ?_;rintro fJ fL ⟨rfl,aL,d_,_⟩;have ec:=ae.new Q.size;obtain⟨Q,_⟩:=b6 d_ Q;refine G.s1 (et aL _ (en y) (nb y) j8 (jB _) ((dD (jB _).symm))) ?_;rintro bq ⟨aL,a3⟩;obtain⟨Q,_⟩:=c0 a3 Q ec;refine G.nil (dZ ?_);refine eA (fun B=>al bq B) [] ?_;have n:=al.refl bq;refine U.af 0 o n ?_;refine U.aV 1 mm b8 n ?_;refine U.t1 2 o (fun B A=>bf (aL.W.aR A) cX) n ?_;refine U.t1 3 o (fun B A=>(eT).gW J) n ?_;refine U.af 4 o n ?_;refine U.cB 5 o (fun B A=>Y.hc (aL.W.aR A) o mm o b8) bR n ?_;refine U.cB 6 o (fun B A=>bf (aL.W.aR A) cX) bR n ?_;refine U.bg 7 ?_;refine e_.call o o ps o bR o o (tx w0 _) ?_;rintro fS cH ⟨rfl,bt⟩;obtain⟨Q,_⟩:=b6 bt Q;have ck:=n.O bt;refine U.dx ck ?_;have a_:=al.refl cH;refine U.cB 8 o (fun B A=>(fK).gW J) bR a_ ?_;refine U.t1 9 o (fun B A=>ga) a_ ?_;refine U.bg 10 ?_;refine cP k3 (lj _ 1 w0 _) ?_;rintro fU cI ⟨rfl,bw⟩;obtain⟨Q,_⟩:=b6 bw Q;have cl:=a_.O bw;refine U.dx cl ?_;have a4:=al.refl cI;refine dB ?_;have M:=a4;refine dY (dX (I.region ?_));refine G.v1 bN ?_;refine G.af (G.nil ?_);refine aT.sub (e1 (i+1) _ ?_ ?_) ⟨o,o,(aF J),(aF J),trivial⟩
          ·exact⟨J,Q⟩
          ·first|omega|(simp only;omega)|(simp;omega)
         ·
          refine I.exit (dS (e2 (fl ?_)));refine bz (I.O (fun ed=>?_));refine G.av 2 ?_;refine G.a6 K.W iH o1 oC ?_;refine G.aj ?_;refine ed ?_;refine I.ret (bX ?_);exact⟨o,C⟩
       ·
        refine I.skip (bz (I.O (fun ef=>?_)));refine G.av 2 ?_;refine G.a6 K.W iH o1 oC ?_;refine G.aj ?_;refine ef ?_;refine I.ret (bX ?_);exact⟨o,C⟩
theorem CO(x:bS)(F:Nat→Prop)(w0:World)(N:Heap)
 (A:gk F N x)(S:bp F N.size)(M:nA x):
 aE Tryz.prog w0 37 #[fo x] N (fun r bJ=>∃s2:aO,∃a_:Nat,r= .tuple #[s2.v,.int .i64 0]∧aY a_ 5 bJ bd 1 s2.v (cK x)∧ae 0 N.size a_∧al N bJ):=by
 refine aE.aP [fo x] Tryz.func37 ?_;intro fA ft;have n:al N N:=aa.refl _ _;have gM:=A.m.len;have gK:=A.e.len;have aP:=M.ml;have gJ:=M.el;have fr:=tO M;refine I.O (fun dS=>?_);refine G.aU Z.bv ?_;rintro v1 H1 ⟨rfl,B,dU,_⟩;obtain⟨A,n,_⟩:=bO dU A n;have B:Var 32 H1 N.size (dM x):=B;refine G.aZ 2 ?_;refine dS (I.t1 (fun dV=>I.O (fun dW=>?_)));refine G.v1 (ba B.W hR gh (eu _)) ?_;refine aW IY (PF x w0 _ A.m.any A.q.any A.e.any (fun y hy=>(A.d y hy).any) M) ?_;rintro cJ C ⟨rfl,cQ⟩;obtain⟨A,B,n,_⟩:=cf cQ A B n;refine G.aj ?_;refine dW (I.O (fun dY=>?_));refine G.af ?_;refine G.v1 ((dX).gE bl) (G.nil (dY ?_));refine dZ ?_;refine I.skip (dV (I.O (fun d_=>?_)));refine G.v1 (Y.build (v:= .agg #[(.slice none 0 0),.int .i64 0,.int .i64 0]) o o fy) ?_;refine G.aU Z.bv ?_;rintro dn a0 ⟨rfl,j,cT,_⟩;have V:=ax.new (S.mono n.size);have R:=ak.new B.lt;have X:=ae.new n.size;obtain⟨A,B,n,_⟩:=cf cT A B n;have j:Var 223 a0 C.size ([(⟨none,0,0⟩:aO).v,.int .i64 0,.int .i64 0]):=j;refine G.aj ?_;refine d_ (I.t1 (fun ec=>?_));refine eA (fun av=>aa (ay [(C.size+1)]) a0 av) [] ?_;have K:aa (ay [(C.size+1)]) a0 a0:=aa.refl _ _;have ef:=ae.refl (C.size+1) a0.size;refine U.af 0 o K ?_;refine U.t1 1 o (fun av W=>Y.fieldAddr (B.aJ W (au.T R)).W o bP o o ee bc o) K ?_;refine U.t1 2 o (fun av W=>Y.gO (B.aJ W (au.T R)).W o fc o) K ?_;refine U.t1 4 o (fun av W=>Y.fieldAddr (B.aJ W (au.T R)).W o bP o o ee bc o) K ?_;refine U.t1 5 o (fun av W=>bf ((B.aJ W (au.T R)).W.drop 3) fc) K ?_;refine U.bg 3 ?_;refine cP xX (Am x.bz 1 w0 _) ?_;rintro gy bD ⟨rfl,cV⟩;obtain⟨A,B,j,n,K,_⟩:=dH cV A B j n K;refine U.b5 K (ar.T (an.r ef)) ?_;have K:aa (ay [(C.size+1)]) bD bD:=aa.refl _ _;have eg:=ae.refl (C.size+1) bD.size;refine U.bg 6 ?_;refine cP xX (Am x.ag 2 w0 _) ?_;rintro gz bE ⟨rfl,cW⟩;obtain⟨A,B,j,n,K,_⟩:=dH cW A B j n K;refine U.b5 K (ar.T (an.r eg)) ?_;have K:aa (ay [(C.size+1)]) bE bE:=aa.refl _ _;have cp:=ae.refl (C.size+1) bE.size;refine U.t1 7 o (fun av W=>Y.ER o o o) K ?_;refine U.bg 8 ?_;refine cP nN (om _ _ _ [] 1 _ w0 _ j (aY.nil fM hh) ak.z bc bl) (fun hg aB eh=>?_);have ei:=B.lt;obtain⟨ej,aJ,rfl,j,d,aU,cq,aK⟩:=eh;have a2:=ax.app ax.z (S.mono n.size) aU;have a3:=ak.app ak.z ei aU;have a4:=ae.O (ae.refl 0 _) aU n.size;have cX:=ae.O (ae.refl 0 _) aU K.size;have A:=A.aJ aK (aS.cons V (aS.T ax.z));have B:=B.aJ aK (au.cons R (au.T ak.z));have n:=n.gn aK (ar.cons (an.q X) (ar.cons an.z ar.nil));have K:=K.bt aK (ar.cons (an.r cp) (ar.cons an.z ar.nil));have ds:=aK.size;have O:=d.le;refine U.b5 K (ar.cons (an.r cp) (ar.T (an.q cX))) ?_;refine dB ?_;refine ec ?_
 refine I.cut (fun(ai:aO×Nat)=>match ai with|(s1,aR)=>[(1,.pointer (some ⟨N.size,0,none⟩)),(5,.pointer (some ⟨C.size,0,none⟩))])
  (fun(s1,aR) (H:Heap)=>(Var 223 H C.size [s1.v,.int .i64 0,.int .i64 0])∧aY aR 5 H bd 1 s1.v (lL x)∧ae aJ aB.size aR∧ak (C.size+1) aR∧aa (ay [(C.size+1),aJ]) aB H) (fun _ cn _=>?_) ?_
 ·
  have aL:aa (ay [(C.size+1),aJ]) aB aB:=aa.refl _ _;have cx:=ae.refl (C.size+1) aB.size;have bC:=ae.refl aJ aB.size;refine I.O (fun ek=>?_);refine G.a6 B.W bP ee fc ?_;refine G.nil (ek ?_);refine dm (fun bj=>?_) (fun bj=>?_)
  ·
   refine I.region ?_;refine G.af ?_;refine G.a6 B.W bP b3 cd ?_;refine aW sT (uq _ _ _ _ 1 x.ah w0 _ j d cq (by simp[eQ]) bc (by have:=M.ah bj;omega)) ?_;rintro gA gC ⟨eo,ep,rfl,j,d,cY,e8,a5⟩;have c0:=ae.O bC cY aL.size;have aL:=aL.bt a5 (ar.cons (an.r cx) (ar.T (an.r bC)));have gD:=a5.size;have O:=d.le;refine G.nil ?_;refine aT.sub (cn (eo,ep) _ ?_) ⟨o,o,trivial⟩;exact⟨j,(by rw[lL,aM bj];exact d),c0,e8,aL⟩
  ·
   refine I.skip ?_;refine aT.sub (cn (ej,aJ) _ ?_) ⟨o,o,trivial⟩;exact⟨j,(by rw[lL,aA (by simp[bj]),hi];exact d),bC,cq,aL⟩
 ·
  rintro⟨s1,aR⟩ fB cy;obtain⟨j,d,L,ac,bb⟩:=cy;have bL:=ax.app a2 (S.mono n.size) L;have bR:=ak.app a3 B.lt L;have bU:=ae.O a4 L n.size;have A:=A.aJ bb (aS.cons V (aS.T a2));have B:=B.aJ bb (au.cons R (au.T a3));have n:=n.gn bb (ar.cons (an.q X) (ar.T (an.q a4)));have gE:=bb.size;have O:=d.le;have c6:=ac;refine I.O (fun er=>?_);refine G.af ?_;refine G.a6 B.W bP fz gd ?_;refine G.v1 (bu A.m e7) ?_;refine G.v1 (Y.jm o gZ hA o) ?_;refine aW nN (om _ _ _ _ 2 _ w0 _ j d c6 bc J) (fun gF bF ev=>?_);have c8:=B.lt;obtain⟨ew,bG,rfl,j,d,bm,e9,aV⟩:=ev;have a9:=ax.app bL (S.mono n.size) bm;have b4:=ak.app bR c8 bm;have b5:=ae.O bU bm n.size;have A:=A.aJ aV (aS.cons V (aS.T bL));have B:=B.aJ aV (au.cons R (au.T bR));have n:=n.gn aV (ar.cons (an.q X) (ar.T (an.q bU)));have gG:=aV.size;have O:=d.le;refine G.nil (er (I.t1 (fun c9=>I.O (fun da=>?_))));refine G.a6 B.W bP fz gd ?_;refine G.v1 (bu A.m e7) ?_;refine G.af (G.nil (da ?_));refine I.aC (fun _ de _=>?_)
  refine I.bb (fun(ai:Nat×aO×Nat)=>match ai with|(i,ey,Q)=>[(1,.pointer (some ⟨N.size,0,none⟩)),(5,.pointer (some ⟨C.size,0,none⟩)),(39,x.dI.v),(40,.int .i64 (x.ml.length:Int)),(41,.int .i64 i)])
   (fun(i,ey,Q) (H:Heap)=>(i≤x.ml.length)∧Var 223 H C.size [ey.v,.int .i64 0,.int .i64 0]∧aY Q 5 H bd 1 ey.v ((lL x++ck 2 (UInt64.ofNat x.ml.length)++(x.ml.take i).flatMap iX))∧ae bG bF.size Q∧ak (C.size+1) Q∧aa (ay [(C.size+1),bG]) bF H)
   (fun(i,ey,Q)=>x.ml.length-i) (0,ew,bG) ⟨o,o,o,o,o,trivial⟩ ?_ ?_
  ·
   exact⟨J,j,(by simpa using d),ae.refl _ _,e9,aa.refl _ _⟩
  rintro⟨i,ey,Q⟩ aD ez gH df dg;obtain⟨fm,j,d,L,ac,E⟩:=ez;have bn:=ax.app a9 (S.mono n.size) L;have b6:=ak.app b4 B.lt L;have b7:=ae.O b5 L n.size;have A:=A.aJ E (aS.cons V (aS.T a9));have B:=B.aJ E (au.cons R (au.T b4));have n:=n.gn E (ar.cons (an.q X) (ar.T (an.q b5)));have fI:=E.size;have O:=d.le;have bq:=ac;have a7:=ae.refl (C.size+1) bF.size;have cR:=L;have fp:=zk M i;have cr:(lL x++ck 2 (UInt64.ofNat x.ml.length)++(x.ml.take i).flatMap iX).length≤4400000000:=by simp only[bT,eQ];omega
  refine I.O (fun dh=>?_);refine G.v1 bZ (G.nil (dh ?_));refine I.t2 (fun di dj=>?_);refine a8 (fun eB=>?_) (fun eB=>?_)
  ·
   refine I.skip (di (I.t1 (fun dk=>I.aC (fun dp _ _=>I.O (fun cA=>?_)))));have aQ:i<x.ml.length:=by omega
   obtain⟨y,af⟩:∃q,q=x.ml[i]:=⟨_,o⟩;have bk:y∈x.ml:=by rw[af];exact cU aQ
   have gP:=M.kT y bk;refine G.cn (Y.cg A.m i o e7 eS o o) fun fJ cB=>?_;refine G.v1 (Y.cast (v2:= .agg (dL y).toArray) (ba cB.W kG eS (fq _)) (by rw[af])) ?_;refine G.aU (Z.a7 o8) ?_;rintro gQ fw ⟨rfl,P,eE,_⟩;have bt:=ak.new d.le;have aX:=ak.new j.lt;have cC:=ae.new E.size;obtain⟨d,j,E,_⟩:=cf eE d j E;refine G.s1 (et P _ (dL y) (l2 y) eS (fq _) ((dD (fq _).symm))) ?_;rintro fG ⟨P,ct⟩;obtain⟨d,j,E,_⟩:=dQ ct d bt j aX E (an.q cC);refine G.nil (cA (I.O (fun cF=>?_)));refine G.af ?_;refine G.a6 P.W dc b3 cd ?_;refine aW sT (uq _ _ _ _ 1 y.n w0 _ j d bq J bc J) (fun fL fN dF=>?_);have cG:=P.lt;obtain⟨fO,fP,rfl,j,d,be,e_,bw⟩:=dF;have cD:=ak.app bt.symm cG be;have b8:=ae.O cR be E.size;have P:=P.aJ bw (au.cons aX.symm (au.T bt.symm));have E:=E.bt bw (ar.cons (an.r a7) (ar.T (an.r cR)));have fE:=bw.size;have O:=d.le;refine G.nil (cF (I.O (fun cH=>?_)));refine G.af ?_;refine G.aV dc bx ?_;refine G.v1 (Y.cast (v2:=bM y.T) (ba ((P.W.drop 1).take 32) cZ bx (by rw[jd];exact bI _)) (c4 (jd _))) ?_;refine aW rr (sC _ _ _ _ y.T w0 _ j d e_ (by rw[bT,ji];omega)) (fun fQ fR dI=>?_);have cI:=P.lt;obtain⟨fS,fT,rfl,j,d,b_,fa,bz⟩:=dI;have cL:=ak.app cD cI b_;have bi:=ae.O b8 b_ E.size;have P:=P.aJ bz (au.cons aX.symm (au.T cD));have E:=E.bt bz (ar.cons (an.r a7) (ar.T (an.r b8)));have eK:=bz.size;have O:=d.le;refine G.nil (cH (I.O (fun cN=>?_)));refine G.af ?_;refine G.aV dc bx ?_;refine G.v1 (Y.cast (v2:=bM y.w) (ba ((P.W.drop 33).take 32) cZ bx (by rw[gB];exact bI _)) (c4 (gB _))) ?_;refine aW rr (sC _ _ _ _ y.w w0 _ j d fa (by rw[bT,bT,ji,y.T.2];omega)) ?_;rintro fU fV ⟨fW,fX,rfl,j,d,cO,ff,bA⟩;have ca:=ae.O bi cO E.size;have P:=P.aJ bA (au.cons aX.symm (au.T cL));have E:=E.bt bA (ar.cons (an.r a7) (ar.T (an.r bi)));have fF:=bA.size;have O:=d.le;refine G.nil (cN (I.region ?_));refine G.af ?_;refine G.aX P.W.qO dc b3 cd ?_;refine aW sT (uq _ _ _ _ 2 y.y w0 _ j d ff (by rw[bT,bT,bT,ji,y.T.2,y.w.2];omega) bc J) ?_;rintro fY fZ ⟨dJ,dK,rfl,j,d,dq,fg,aC⟩;have eG:=ae.O ca dq E.size;have E:=E.bt aC (ar.cons (an.r a7) (ar.T (an.r ca)));have c5:=aC.size;have O:=d.le;refine G.nil (dp (dk (I.region ?_)));refine G.v1 bN ?_;refine G.af (G.nil ?_);refine aT.sub (df (i+1,dJ,dK) _ ?_ ?_) ⟨o,o,o,(aF J),(aF J),trivial⟩
   ·exact⟨J,j,(by rw[rP aQ,←af,iX];simpa only[dA]using d),eG,fg,E⟩
   ·first|omega|(simp only;omega)|(simp;omega)
  ·
   obtain rfl:i=x.ml.length:=by omega
   rw[eD]at d cr;have fr:=tO M;refine I.exit (dj (dg (de ?_)));refine c9 ?_
   refine I.cut (fun(ai:aO×Nat)=>match ai with|(c2,iR)=>[(1,.pointer (some ⟨N.size,0,none⟩)),(5,.pointer (some ⟨C.size,0,none⟩))])
    (fun(c2,iR) (H:Heap)=>(Var 223 H C.size [c2.v,.int .i64 0,.int .i64 0])∧aY iR 5 H bd 1 c2.v (lI x)∧ae Q aD.size iR∧ak (C.size+1) iR∧aa (ay [(C.size+1),Q]) aD H) (fun _ cc _=>?_) ?_
   ·
    have ap:aa (ay [(C.size+1),Q]) aD aD:=aa.refl _ _;have cw:=ae.refl (C.size+1) aD.size;have bB:=ae.refl Q aD.size;refine I.O (fun eI=>?_);refine G.a6 B.W bP ee fc ?_;refine G.nil (eI ?_);refine dm (fun aN=>?_) (fun aN=>?_)
    ·
     refine I.region ?_;refine G.af ?_;refine G.aV bP dP ?_;refine G.v1 (Y.cast (v2:=hx x.q) (ba ((B.W.drop 4).take 70) kF dP (by rw[lA];exact eC _)) (c4 (lA x))) ?_;refine aW HF (PG _ _ _ _ x.q F w0 _ j d bq J A.q (S.mono n.size) V bn (M.kg aN) (M.jN aN)) ?_;rintro f_ ga ⟨dN,dR,rfl,j,d,eJ,fh,cg⟩;have eM:=ae.O bB eJ ap.size;have ap:=ap.bt cg (ar.cons (an.r cw) (ar.T (an.r bB)));have fK:=cg.size;have O:=d.le;refine G.nil ?_;refine aT.sub (cc (dN,dR) _ ?_) ⟨o,o,trivial⟩;exact⟨j,(by rw[lI,aM aN];exact d),eM,fh,ap⟩
    ·
     refine I.skip ?_;refine aT.sub (cc (ey,Q) _ ?_) ⟨o,o,trivial⟩;exact⟨j,(by rw[lI,aA (by simp[aN]),hi];exact d),bB,bq,ap⟩
   ·
    rintro⟨c2,iR⟩ fC cz;obtain⟨j,d,L,ac,bg⟩:=cz;have ch:=ax.app bn (S.mono n.size) L;have ce:=ak.app b6 B.lt L;have bV:=ae.O b7 L n.size;have A:=A.aJ bg (aS.cons V (aS.T bn));have B:=B.aJ bg (au.cons R (au.T b6));have n:=n.gn bg (ar.cons (an.q X) (ar.T (an.q b7)));have gu:=bg.size;have O:=d.le;have du:=ac;refine I.O (fun eO=>?_);refine G.af ?_;refine G.aX B.W.ig bP eN fD ?_;refine G.v1 (bu A.e dy) ?_;refine G.v1 (Y.jm o gZ hA o) ?_;refine aW nN (om _ _ _ _ 2 _ w0 _ j d du bc (by have:=wb M;omega)) ?_;rintro gb bH ⟨bo,eF,rfl,j,d,cl,fi,aZ⟩;have bW:=ax.app ch (S.mono n.size) cl;have bX:=ae.O bV cl n.size;have A:=A.aJ aZ (aS.cons V (aS.T ch));have B:=B.aJ aZ (au.cons R (au.T ce));have n:=n.gn aZ (ar.cons (an.q X) (ar.T (an.q bV)));have eH:=aZ.size;have O:=d.le;refine G.nil (eO (I.t1 (fun ci=>I.O (fun eP=>?_))));refine G.aX B.W.ig bP eN fD ?_;refine G.v1 (bu A.e dy) ?_;refine G.af (G.nil (eP ?_));refine I.aC (fun _ eR _=>?_)
    refine I.bb (fun(ai:Nat×aO×Nat)=>match ai with|(i,aG,ag)=>[(5,.pointer (some ⟨C.size,0,none⟩)),(75,x.cG.v),(76,.int .i64 (x.el.length:Int)),(77,.int .i64 i)])
     (fun(i,aG,ag) (H:Heap)=>(i≤x.el.length)∧Var 223 H C.size [aG.v,.int .i64 0,.int .i64 0]∧aY ag 5 H bd 1 aG.v (lI x++ck 2 (UInt64.ofNat x.el.length)++(x.el.take i).flatMap iV)∧ae eF bH.size ag∧ak (C.size+1) ag∧aa (ay [(C.size+1),eF]) bH H)
     (fun(i,aG,ag)=>x.el.length-i) (0,bo,eF) ⟨o,o,o,o,trivial⟩ ?_ ?_
    ·
     exact⟨J,j,(by simpa using d),ae.refl _ _,fi,aa.refl _ _⟩
    rintro⟨i,aG,ag⟩ gf dd gg dG eT;obtain⟨fm,j,d,L,ac,az⟩:=dd;have br:=ax.app bW (S.mono n.size) L;have bK:=ae.O bX L n.size;have A:=A.aJ az (aS.cons V (aS.T bW));have n:=n.gn az (ar.cons (an.q X) (ar.T (an.q bX)));have gv:=az.size;have O:=d.le;have dx:=ac;have am:=ae.refl (C.size+1) bH.size;have bY:=L;have fp:=CI M i;have gN:=wb M;have gL:=M.el;have cr:(lI x++ck 2 (UInt64.ofNat x.el.length)++(x.el.take i).flatMap iV).length≤8800000000:=by simp only[bT,eQ];omega
    refine I.O (fun eU=>?_);refine G.v1 bZ (G.nil (eU ?_));refine I.t2 (fun co eV=>?_);refine a8 (fun h9=>?_) (fun h9=>?_)
    ·
     refine I.skip (co (I.t1 (fun eW=>I.aC (fun eY _ _=>I.O (fun cs=>?_)))));have aQ:i<x.el.length:=by omega
     obtain⟨y,af⟩:∃q,q=x.el[i]:=⟨_,o⟩;have bk:y∈x.el:=by rw[af];exact cU aQ
     have gO:=M.md y bk;refine G.cn (Y.cg A.e i o dy db o o) fun gw eZ=>?_;refine G.v1 (Y.cast (v2:= .agg (cb y).toArray) (ba eZ.W kH db (eb _)) (by rw[af])) ?_;refine G.aU (Z.a7 oo) ?_;rintro v9 fx ⟨rfl,aH,e3,_⟩;have dz:=ax.new (S.mono n.size);have b0:=ak.new d.le;have b1:=ak.new j.lt;have dC:=ae.new az.size;obtain⟨A,d,j,az,_⟩:=ed e3 A d j az;refine G.s1 (et aH _ (cb y) (iQ y) db (eb _) ((dD (eb _).symm))) ?_;rintro fH ⟨aH,cv⟩;obtain⟨A,d,j,az,_⟩:=dT cv A dz d b0 j b1 az (an.q dC);refine G.nil (cs (I.O (fun bQ=>?_)));refine G.af ?_;refine G.aV gU bx ?_;refine G.v1 (Y.cast (v2:=bM y.k) (ba (aH.W.take 32) cZ bx (by rw[show(cb y).take 32=b9 y.k from gS y];exact bI _)) (c4 (show(cb y).take 32=b9 y.k from gS y))) ?_;refine aW rr (sC _ _ _ _ y.k w0 _ j d dx J) ?_;rintro gi gj ⟨gl,gm,rfl,j,d,fl,fj,a6⟩;have b2:=ae.O bY fl az.size;have A:=A.aJ a6 (aS.cons V (aS.T br));have aH:=aH.aJ a6 (au.cons b1.symm (au.T b0.symm));have az:=az.bt a6 (ar.cons (an.r am) (ar.T (an.r bY)));have gx:=a6.size;have O:=d.le;refine G.nil (bQ (I.region ?_));refine G.af ?_;refine G.aX aH.W.mP gU dt fe ?_;refine G.v1 (Y.qn (A.d y bk) o Tryz.underlying57 Tryz.underlying9 Tryz.underlying5 o) ?_;refine aW sT (uq _ _ _ _ 4 y.d w0 _ j d fj (by rw[bT,y.k.2];omega) bc J) ?_;rintro gn gp ⟨e4,e6,rfl,j,d,e0,fk,cm⟩;have dE:=ae.O b2 e0 az.size;have az:=az.bt cm (ar.cons (an.r am) (ar.T (an.r b2)));have dl:=cm.size;have O:=d.le;refine G.nil (eY (eW (I.region ?_)));refine G.v1 bN ?_;refine G.af (G.nil ?_);refine aT.sub (dG (i+1,e4,e6) _ ?_ ?_) ⟨o,o,(aF J),(aF J),trivial⟩
     ·exact⟨J,j,(by rw[rP aQ,←af,iV];simpa only[dA]using d),dE,fk,az⟩
     ·first|omega|(simp only;omega)|(simp;omega)
    ·
     obtain rfl:i=x.el.length:=by omega
     rw[eD]at d;refine I.exit (eV (eT (eR ?_)));refine ci (I.O (fun e1=>?_));refine G.af ?_;refine aW HG (Pr _ _ w0 _ j) ?_;rintro gq d0 ⟨rfl,e2⟩;obtain⟨d,n,_⟩:=bO e2 d n;refine G.v1 c3 ?_;refine G.v1 c3 ?_;refine G.aZ 2 ?_;refine e1 ?_;refine I.ret (ft ?_);exact⟨aG,ag,o,by rw[CM];exact d,bK,n⟩
end rf
namespace xi
open ho pf xw xx
theorem KU(Q:Loop)(bb bw F bE D A:Nat)(V:Value)(fv:dv→Value)(L:List (aD×dv))(w0:World)(N:Heap)
 (aH:Var 130 N F [.map (some bE)])(q:cW N aN fv bE L)(bG:iq N D)(n:gJ N bb Q)(j:Var 69 N bw [V])(d:aY A 9 N ft 1 V [])(bQ:p8 Q bw)(ca:L.length≤1099511627776)(bz:ak (bb+1) (bw+1))(bA:ak (bb+1) A)(bx:ak (bw+1) A)(b8:ak (F+1) (bb+1))(b7:ak (F+1) (bw+1))(b9:ak (F+1) A)(bD:ak (bE+1) (bb+1))(bC:ak (bE+1) (bw+1))(bF:ak (bE+1) A)(b5:ak (D+1) (bb+1))(b4:ak (D+1) (bw+1))(b6:ak (D+1) A):
 aE Tryz.prog w0 135 #[.func (.yield bb) #[] #[],.pointer (some ⟨F,0,none⟩)] N (fun r R=>∃aL:Value,∃aK:Nat,∃out:List aD,r= .tuple #[]∧gJ R bb Q∧Var 69 R bw [aL]∧aY aK 9 R ft 1 aL out∧ae A N.size aK∧(out.Nodup∧∀k,k∈out↔k∈L.map (·.1))∧aa (ay [(bb+1),(bw+1),A]) N R):=by
 refine aE.enter (args:=[.func (.yield bb) #[] #[],.pointer (some ⟨F,0,none⟩)]) Tryz.func135 o o o ?_;intro bX bR;have C:aa (ay [(bb+1),(bw+1),A]) N N:=aa.refl _ _;have b0:=aH.lt;have a7:=q.lt;have b1:=bG.lt;have bo:=ae.refl (bb+1) N.size;have b2:=n.lt;have bp:=ae.refl (bw+1) N.size;have b3:=j.lt;have ai:=ae.refl A N.size;have av:=d.le;refine I.O (fun aX=>?_);refine G.v1 (bf aH.W GL) ?_;obtain⟨es,bu,q⟩:=q.raw;refine G.aU (Z.ey (Z.sq q o oi o)) ?_;rintro v5 O ⟨rfl,it,aZ,_⟩;have W:=ak.new q.lt;have X:=ak.new n.lt;have af:=ak.new j.lt;have a6:=ak.new d.le;have ag:=ae.new C.size;obtain⟨q,n,j,d,C,_⟩:=dH aZ q n j d C;have bZ:=it.lt;refine G.nil (aX (I.aC (fun _ a8 _=>?_)))
 refine I.bb (fun(bU:(List aD)×Value×Nat)=>match bU with|(dn,M,E)=>[(0,.func (.yield bb) #[] #[]),(5,.pointer (some ⟨N.size,0,none⟩))])
  (fun(dn,M,E) (H:Heap)=>(h6 H N.size bE aN es bu dn)∧gJ H bb Q∧Var 69 H bw [M]∧aY E 9 H ft 1 M dn∧(dn.Nodup∧∀k∈dn,k∈L.map (·.1))∧ae A O.size E∧ak (N.size+1) E∧ak (bb+1) E∧ak (bw+1) E∧aa (ay [(N.size+1),(bb+1),(bw+1),A]) O H)
  (fun(dn,M,E)=>L.length-dn.length) ([],V,A) ⟨o,o,trivial⟩ ?_ ?_
 ·
  exact⟨it,n,j,d,⟨qB,by simp⟩,ae.refl _ _,a6.symm,bA,bx,aa.refl _ _⟩
 rintro⟨dn,M,E⟩ a2 a_ pb ba bc;obtain⟨it,n,j,d,K,ax,bq,bt,az,B⟩:=a_;have aO:=ae.O ai ax C.size;have q:=q.aJ B (au.cons W (au.cons bD (au.cons bC (au.T bF))));have C:=C.bt B (ar.cons (an.q ag) (ar.cons (an.r bo) (ar.cons (an.r bp) (ar.T (an.r ai)))));have a3:=B.size;have av:=d.le;have S:=bq;have aB:=bt;have aC:=az;have ac:=ae.refl (N.size+1) O.size;have ad:=ae.refl (bb+1) O.size;have bn:=ae.refl (bw+1) O.size;have aF:=ax;have bM:=jM K.1 K.2;rw[dg]at bM;refine I.O (fun bd=>?_);refine G.aU (Z.si it q gx.inj o o) ?_;rintro v6 bW ⟨cb,x,y,b_,rfl,it,bJ,bH,bg⟩;obtain⟨q,d,n,j,C,B,_⟩:=mn bg q W d S.symm n X j af C (an.q ag) B (an.r ac);refine G.v1 (Y.rF o o) (G.nil (bd ?_));refine I.t2 (fun bj bk=>?_);refine dm (fun c5=>?_) (fun c5=>?_)
 ·
  obtain⟨aJ,bO,aG⟩:=bJ c5;rw[aG]at it;refine I.skip (bj (I.aC (fun bl _ _=>I.O (fun bm=>?_))));refine G.v1 (Y.rE it q gx.inj aJ o o) ?_;refine G.v1 c3 ?_;refine G.aj ?_;refine bm (I.t1 (fun a0=>?_));refine I.zO ?_;refine fa.v gj (by intro c e;cases e) cS rfl rfl ?_;refine fa.v gj (by intro c e;cases e) cS rfl rfl ?_;refine fa.round o o o cS o o (xN Q bw bb _ _ dn x w0 _ bQ n j d bz aB aC J) (fun a4 a5 bB=>?_);have aP:=it.lt;have aQ:=n.lt;have aR:=j.lt;obtain⟨bV,bS,rfl,n,j,d,am,ap⟩:=bB;have aS:=ak.app S aP am;have aU:=ak.app aB aQ am;have aV:=ak.app aC aR am;have aW:=ae.O aF am B.size;have it:=it.aJ ap (au.cons X.symm (au.cons af.symm (au.T S)));have B:=B.bt ap (ar.cons (an.r ad) (ar.cons (an.r bn) (ar.T (an.r aF))));have bY:=ap.size;have av:=d.le;refine fa.v fB (by intro c e;cases e) cS rfl rfl ?_;refine fa.nil ?_;refine a0 ?_;refine dZ ?_;refine I.skip (bl ?_)
  have U:(dn++[x]).Nodup∧∀k∈dn++[x],k∈L.map (·.1):=by
   refine⟨?_,fun k P=>?_⟩
   ·rw[nY]
    exact⟨K.1,by simp,fun a bK b ao e=>by simp only[eU]at ao;subst ao;subst e;exact bO bK⟩
   ·rcases gG.1 P with P|P
    ·exact K.2 k P
    ·rw[eU.1 P];exact cN.2 ⟨_,aJ,o⟩
  have bN:=jM U.1 U.2;rw[bT,dg,iU]at bN;refine aT.sub (ba (dn++[x],bV,bS) _ ?_ ?_) ⟨o,o,trivial⟩
  ·exact⟨it,n,j,d,U,aW,aS,aU,aV,B⟩
  ·simp only[bT,iU];omega
 ·
  obtain⟨bL,aG⟩:=bH c5;refine I.exit (bk (bc (a8 ?_)));refine bR .normal (.inl o) _ _ _ (jt o) ?_;exact⟨M,E,dn,o,n,j,d,aO,⟨K.1,fun k=>⟨K.2 k,fun h=>by obtain⟨p,bP,rfl⟩:=cN.1 h;exact bL p bP⟩⟩,C⟩
theorem Hd(j bE:Nat)(fv:dv→Value)(W:List (aD×dv))(w0:World)(N:Heap)(E:Var 130 N j [.map (some bE)])(C:cW N aN fv bE W)(bw:W.length≤1099511627776):
 aE Tryz.prog w0 196 #[.slice none 0 0,.func (.func 135) #[] #[.pointer (some ⟨j,0,none⟩)]] N (fun r aP=>∃s:aO,∃k:Nat,∃out:List aD,r=s.v∧aY k 9 aP ft 1 s.v out∧ae 0 N.size k∧(out.Nodup∧∀k,k∈out↔k∈W.map (·.1))∧al N aP):=by
 intro w bj;refine callsIn_wide.1 (callsIn_of_wp_marks (n:=0) Tryz.func196 o trivial ?_);have bm:=Fr.start (n:=Tryz.f196.ntmps) (args:=[.slice none 0 0,.func (.func 135) #[] #[.pointer (some ⟨j,0,none⟩)]]) (iS o);refine wpIn_seq (wpIn_wide.2 ?_);refine(I.region (w0:=w0) (H:=N) (n:=Tryz.f196.ntmps) (l:=nF [.slice none 0 0,.func (.func 135) #[] #[.pointer (some ⟨j,0,none⟩)]] 0) ?_) _ w bm bj;refine G.aU (Z.nI o o o) ?_;rintro v2 H1 ⟨rfl,av,aK,bO,bd⟩;have bK:H1.size=N.size+1:=by rw[bd];simp
 have bJ:=E.lt;have bH:=C.lt;have E:=E.aR aK;have C:=C.aR aK;refine G.bB ?_;refine G.nil (fun bB aG bn bk=>?_);show(Code.seq _ _).wpIn Fence.wide 0 _ _ bB aG;refine wpIn_seq (wpIn_seq (wpIn_wide.2 ?_));refine(I.region (w0:=w0) (H:=H1) ?_) bB aG bn bk;refine G.af ?_;refine G.nil (fun a2 d L aT=>?_);show(Code.block _ _).wpIn Fence.wide 0 _ _ a2 d;refine wpIn_block (wpIn_rangeFunc (fun fn _=>?_));obtain⟨rc,aX⟩:∃rc:Loop,rc={state:= .ready,pending:=none,fn,tmps:=a2.tmps,params:= #[7],assign:=qi (lM (Tryz.f196.body.getD .skip)),body:=qm (lM (Tryz.f196.body.getD .skip)),defers:=d.heap.size}:=⟨_,o⟩
 have a7:(Instr.enterLoop fn a2.tmps #[7] (qi (lM (Tryz.f196.body.getD .skip))) (qm (lM (Tryz.f196.body.getD .skip))) none).run Tryz.prog d= .ok (d.heap.size+1,[{target:= .collected d.heap.size,args:= #[]}]) ((d.alloc (.deferred (some []))).alloc (.loop rc)):=by
  rw[aX];exact run_enterLoop_outer fn a2.tmps #[7] _ _
 have aB:At w0 ((H1.push (.deferred (some []))).push (.loop rc)) ((d.alloc (.deferred (some []))).alloc (.loop rc)):=(aT.alloc _).alloc _;obtain⟨O,bA⟩:∃O,O=(d.alloc (.deferred (some []))).alloc (.loop rc):=⟨_,o⟩;rw[←bA]at a7 aB;obtain⟨A,K⟩:∃A,A=(H1.push (.deferred (some []))).push (.loop rc):=⟨_,o⟩;rw[←K]at aB;have bL:A.size=H1.size+2:=by rw[K];simp
 have M:d.heap.size=H1.size:=by rw[aT.heap]
 have R:al H1 A:=by rw[K];exact(al.pu _ _).O (al.pu _ _)
 have E:=E.aR R;have C:=C.aR R;have av:=av.aR R;have aS:iq A H1.size:=⟨by rw[K,Array.getElem?_push,aA bl];exact Array.getElem?_push_size⟩
 have bp:gJ A (H1.size+1) rc:=⟨by
  have aR:=Array.getElem?_push_size (xs:=H1.push (.deferred (some []))) (x:=Obj.loop rc);rw[yU,←K]at aR;exact aR⟩
 have aH:p8 rc N.size:=by
  subst aX;exact⟨o,o,o,o,o,⟨o,L.size,fun t v e=>(L.sub (l':=[(2,.pointer (some ⟨N.size,0,none⟩))]) ⟨o,trivial⟩).get t v e⟩⟩
 have bC:∀w,(callFunc 135 #[.func (.yield (H1.size+1)) #[] #[],.pointer (some ⟨j,0,none⟩)]).run Tryz.prog w= .ok (.enter 135 #[.func (.yield (H1.size+1)) #[] #[],.pointer (some ⟨j,0,none⟩)]) w:=fun w=>enters_of Tryz.func135 bD o _ w;refine⟨d.heap.size+1,[{target:= .collected d.heap.size,args:= #[]}],O,{target:= .fn (.func 135) #[.pointer (some ⟨j,0,none⟩)],args:= #[.func (.yield (H1.size+1)) #[] #[]]},O,135,#[.func (.yield (H1.size+1)) #[] #[],.pointer (some ⟨j,0,none⟩)],O,a7,?_,fun _ _=>trivial,?_,fun h=>(by cases h),?_⟩
 ·have bb:=L.get 6 (.func (.func 135) #[] #[.pointer (some ⟨j,0,none⟩)]) o
  rw[M];simp[resolve,rangeCall,Deferred.ofValue,Act.eval,bb]
 ·exact bC _
 refine callsIn_wide.2 ((KU rc (H1.size+1) N.size j bE H1.size 0 (.slice none 0 0) fv W w0 A E C aS bp av (aY.nil oL py) aH bw gQ ak.z ak.z gQ gQ ak.z gQ gQ ak.z gQ gQ ak.z _ aB).mono ?_);rintro e aL ⟨fQ,F,rfl,aC,Y,a_,out,rfl,bq,ax,X,aW,bx,aJ⟩;have az:iq F H1.size:=aS.aJ aJ (au.cons gQ (au.cons gQ (au.T ak.z)));have bt:aL.heap[d.heap.size+1]?=some (.loop rc):=by rw[aC.heap,M];exact bq.at_
 have aZ:rc.pending=none:=aH.wC;have aV:=run_endLoop (P:=Tryz.prog) bt (by rw[aH.st];simp);rw[aZ]at aV;refine⟨none,_,aV,?_⟩;have U:aa (fun c=>c=H1.size+1) F (F.setIfInBounds (H1.size+1) (.loop {rc with state:= .exhausted})):=lb _
 have Q:At w0 (F.setIfInBounds (H1.size+1) (.loop {rc with state:= .exhausted})) (aL.putObj (d.heap.size+1) (.loop {rc with state:= .exhausted})):=by
  unfold World.putObj;rw[aC.heap,M];exact aC.set
 rw[aZ]at U Q;obtain⟨af,a8⟩:∃af,af=aL.putObj (d.heap.size+1) (.loop {rc with state:= .exhausted,pending:=none}):=⟨_,o⟩;obtain⟨B,bg⟩:∃B,B=F.setIfInBounds (H1.size+1) (.loop {rc with state:= .exhausted,pending:=none}):=⟨_,o⟩;rw[←a8]at Q;rw[←bg]at U Q;rw[←a8];have bM:=aJ.size;have bN:=U.size;have V:=U.e3;have aQ:∀c,c+1≤A.size→ak a_ (c+1):=fun c aq q bG ab=>by unfold ae at aW;omega
 have ax:=ax.aJ V (au.cons gQ au.nil);have X:=X.aJ V (au.cons (aQ _ J) au.nil);have az:=az.aJ V (au.cons gQ au.nil)
 have bu:aa (ay []) N B:=by
  have bF:=((aa.refl (S:=ay []) N).q5 aK).q5 R;have bh:=bF.bt aJ (ar.cons o6 (ar.cons (an.new (dz _)) (ar.cons an.z ar.nil)));exact bh.bt V (ar.cons o6 ar.nil)
 show(Code.seq _ _).wpIn Fence.wide 0 _ _ _ af;refine wpIn_seq (wpIn_region_lit ?_);refine re.v (w0:=w0) (H:=B) (bf ax.W uH) (by intro c e;cases e) cS rfl rfl ?_ a2 af L Q;refine re.v (w0:=w0) (H:=B) gp (by intro c e;cases e) cS rfl rfl ?_;intro ba ai bo aF;show Code.ret.wpIn Fence.wide 0 _ _ _ ai;refine wpIn_ret ?_;show LeavesInM Fence.wide 0 _ _ ba.tmps _ ([{target:= .collected d.heap.size,args:= #[]}]++a2.defers) .returning ai;rw[L.defers,hi];have bc:ai.heap[d.heap.size]?=some (.deferred (some [])):=by rw[aF.heap,M];exact az.at_
 refine⟨by simp,.inl ⟨_,_,o,run_takeDeferred (P:=Tryz.prog) bc,?_⟩⟩;have bz:aa (fun c=>c=H1.size) B (B.setIfInBounds H1.size (.deferred none)):=lb _
 have aU:At w0 (B.setIfInBounds H1.size (.deferred none)) (ai.putObj d.heap.size (.deferred none)):=by
  unfold World.putObj;rw[aF.heap,M];exact aF.set
 have a6:=bz.e3;obtain⟨s,ag⟩:∃s:aO,Y=s.v:=⟨cF Y,X.bA.symm⟩;refine⟨Y,wF o o _ _ bo aU,Y,_,o,aU,s,a_,out,ag,?_,?_,bx,?_⟩
 ·rw[←ag];exact X.aJ a6 (au.cons (aQ _ J) au.nil)
 ·unfold ae at aW⊢;omega
 ·exact(bu.bt a6 (ar.cons o6 ar.nil)).nil
theorem Cl(d bE:Nat)(fv:dv→Value)(n:List (aD×dv))(w0:World)(N:Heap)
 (L:Var 130 N d [.map (some bE)])(K:cW N aN fv bE n)(E:n.length≤1099511627776):
 aE Tryz.prog w0 133 #[.func (.func 135) #[] #[.pointer (some ⟨d,0,none⟩)]] N (fun r q=>∃s:aO,∃k:Nat,∃out:List aD,r=s.v∧aY k 9 q ft 1 s.v out∧ae 0 N.size k∧(out.Nodup∧∀k,k∈out↔k∈n.map (·.1))∧al N q):=by
 refine aE.aP [.func (.func 135) #[] #[.pointer (some ⟨d,0,none⟩)]] Tryz.func133 ?_;intro Q H;have j:al N N:=aa.refl _ _;refine I.O (fun x=>?_);refine G.aj ?_;refine x (I.O (fun A=>?_));refine G.af ?_;refine aW x1 (Hd d bE fv n w0 _ L K E) ?_;rintro v4 P ⟨ey,M,O,rfl,ac,ad,F,B⟩;have C:=ae.O (ae.refl 0 _) ad j.size;have j:=j.O B;refine G.aj ?_;refine A ?_;refine I.ret (H ?_);exact⟨ey,M,O,o,ac,C,F,j⟩
theorem DH(bE:Nat)(w0:World)(N:Heap)
 :
 aE Tryz.prog w0 58 #[.map (some bE)] N (fun r q=>∃d:Nat,r= .func (.func 135) #[] #[.pointer (some ⟨d,0,none⟩)]∧Var 130 q d [.map (some bE)]∧ae 0 N.size (d+1)∧al N q):=by
 refine aE.aP [.map (some bE)] Tryz.func58 ?_;intro C B;have j:al N N:=aa.refl _ _;refine I.O (fun x=>?_);refine G.aU (Z.nI o o o) ?_;rintro v1 H1 ⟨rfl,n,A,ad,E⟩;have j:=j.O A;have n:Var 130 H1 N.size ([.map (some bE)]):=n;refine G.aj ?_;refine x (I.O (fun ac=>?_));refine G.v1 (Y.makeFunc o o) ?_;refine G.aj ?_;refine ac ?_;refine I.ret (B ?_);exact⟨_,o,n,ae.new (dz _),j⟩
theorem Ol(j bE:Nat)(fv:dv→Value)(q:List (aD×dv))(w0:World)(N:Heap)
 (C:Var 130 N j [.map (some bE)])(B:cW N aN fv bE q)(Q:q.length≤1099511627776):
 aE Tryz.prog w0 57 #[.func (.func 135) #[] #[.pointer (some ⟨j,0,none⟩)]] N (fun r A=>∃s:aO,∃k:Nat,∃out:List aD,r=s.v∧aY k 9 A ft 1 s.v out∧ae 0 N.size k∧(h7 out∧∀k,k∈out↔k∈q.map (·.1))∧al N A):=by
 refine aE.aP [.func (.func 135) #[] #[.pointer (some ⟨j,0,none⟩)]] Tryz.func57 ?_;intro ak W;have d:al N N:=aa.refl _ _;have ax:=C.lt;have av:=B.lt;refine I.O (fun E=>?_);refine G.aj ?_;refine E (I.O (fun F=>?_));refine G.af ?_;refine aW uS (Cl j bE fv q w0 _ C B Q) ?_;rintro v5 ag ⟨af,X,Z,rfl,x,H,n,K⟩;have ad:=ae.O (ae.refl 0 _) H d.size;obtain⟨d,_⟩:=b6 K d;have ac:=x.le;have R:=jM n.1 (fun k P=>(n.2 k).1 P);rw[dg]at R;refine G.aj ?_;refine F (I.O (fun L=>?_));refine G.af ?_;refine aW xY (zZ X _ Z w0 _ x J) ?_;rintro ay ai ⟨Y,a_,rfl,x,M,V,O⟩;have az:=ae.O ad M d.size;have d:=d.gn O (ar.T (an.q ad));refine G.nil (L (I.O (fun am=>?_)));refine G.aZ 2 ?_;refine am ?_;refine I.ret (W ?_);obtain⟨S,U⟩:=z1 n.1 V;exact⟨af,a_,Y,o,x,az,⟨S,fun k=>by rw[U.mem_iff,n.2]⟩,d⟩
end xi
end Go.Proofs.YtfjmpninmdjcaaaGreatDoor
