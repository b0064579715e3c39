/-
  Contracts of functions of the program, and plain laws: put together of several texts.
-/
import Derived.Test.YtfjmpninmdjcaaaGreatDoorGa
import Derived.Maps.RangeRun
import Derived.Lib.Bytealg
import Derived.RangeFuncLeaves
import Derived.RangeFuncRecord
import Derived.RangeFuncSeq
import Derived.TacticsIn
import Derived.Lib.SplitLaws
import Derived.Test.YtfjmpninmdjcaaaGreatDoorShelf
import Derived.Test.YtfjmpninmdjcaaaGreatDoorMcl
import Derived.Lib.AppendZerosOnto
set_option linter.unusedVariables false
set_option linter.unusedSimpArgs false
set_option linter.unusedSectionVars false
set_option linter.defProp false
set_option maxHeartbeats 8000000
set_option maxRecDepth 100000
namespace Go.Proofs.YtfjmpninmdjcaaaGreatDoor
open E Go.RowKit

namespace E
open Go.MapKept
abbrev dv:={l:List UInt8//l.length=32}
def b9(x:dv):List Value:=x.1.map (fun b=>Value.int .u8 b.toNat)
def bM(x:dv):Value:= .agg (b9 x).toArray
theorem bI:∀x,(b9 x).length=32:=fun x=>by simp[b9,x.2]
theorem ke:∀x,∀u∈b9 x,u.oneCell'=true:=fun x u hu=>by
 obtain⟨b,_,rfl⟩:=cN.1 hu;rfl
theorem w8(x:dv):bM x=yC x.1:=rfl
def bJ:dv:=⟨List.replicate 32 0,by simp⟩
instance:Inhabited dv:=⟨bJ⟩
theorem bytes_inj{xs ys:List UInt8}(h:xs.map (fun b=>Value.int .u8 (b.toNat:Int))=ys.map (fun b=>Value.int .u8 (b.toNat:Int))):xs=ys:=by
 refine(List.map_inj_right (fun a b h=>?_)).1 h;simp only[Value.int.injEq,true_and]at h;exact vC.1 J
theorem Pe{x y:dv}(h:bM x=bM y):x=y:=by
 unfold bM b9 at h;simp only[Value.agg.injEq]at h;exact hr (bytes_inj (by simpa using aI Array.toList h))
theorem tI{α β:Type}{f:α→β}:∀{l:List α},(l.map f).Nodup→∀{x y:α},x∈l→y∈l→f x=f y→x=y
 |[],_,_,_,h,_,_=>by cases h
 |a::l,aB,x,y,n,hy,e=>by
  simp only[dk,ng]at aB;rcases dU.1 n with rfl|d<;>rcases dU.1 hy with rfl|j
  ·rfl
  ·exact(aB.1 (cN.2 ⟨y,j,e.symm⟩)).elim
  ·exact(aB.1 (cN.2 ⟨x,d,e⟩)).elim
  ·exact tI aB.2 d j e
structure rb {κ:Type} [DecidableEq κ] (P:Program) (gH:TypeId) (aX:κ→Value):Prop where
 Pc:∃len e,P.underlying gH=some (.array len e)
 check:∀em k w,(Instr.checkKey em 10000 gH (aX k)).run P w= .ok () w
 eq:∀a b w,(Op.equal gH (aX a) (aX b)).run P w= .ok (decide (a=b)) w
 same:∀k,Instr.sameBits 10000 (aX k) (aX k)=true
 inj:∀a b,aX a=aX b→a=b
theorem Fo{P:Program}{w:World}{α:Type}:∀(l:List α) (body:α→PUnit→Sem (ForInStep PUnit)),(∀a∈l,(body a ()).run P w= .ok (.yield ()) w)→(forIn l () body).run P w= .ok () w
 |[],body,h=>by simp
 |a::l,body,h=>by
  rw[List.forIn_cons,Sem.run_bind,h a (.head _)];simp only[Result.andThen_ok];exact Fo l body (fun b ao=>h b (.tail _ ao))
theorem KQ{P:Program}{t e:TypeId}(n:P.underlying t=some (.array 32 e))(he:P.underlying e=some (.int .u8))(ag:∀w,(sizeOf e).run P w= .ok 1 w)(q:∀w,(isAgg e).run P w= .ok false w):rb P t bM:=by
 refine⟨⟨_,_,n⟩,fun em k w=>?_,fun a b w=>?_,fun k=>?_,fun a b h=>Pe h⟩
 ·show(Instr.checkKey em (9999+1) t (bM k)).run P w=_
  unfold Instr.checkKey bM;simp only[Sem.run_bind,run_underlying n,Result.andThen_ok];rw[Dz];refine(aI (fun r=>Result.andThen r _) (Fo _ _ (fun i x=>?_))).trans o
  have d:i<32:=by
   simp[Std.Legacy.Range.size]at x;omega
  have j:=bI k;have e9:(part e (b9 k).toArray (i*1)).run P w= .ok ((b9 k)[i]'(by rw[j];exact d)) w:=by simp[part,q,j,d]
  have eR:∀b:UInt8,(Instr.checkKey em (9998+1) e (Value.int .u8 b.toNat)).run P w= .ok () w:=by
   intro b;unfold Instr.checkKey;simp[run_underlying he]
  have hs:(b9 k)[i]'(by rw[j];exact d)=Value.int .u8 ((k.1[i]'(by rw[k.2];exact d)).toNat:Int):=by simp[b9]
  simp only[Sem.run_bind,ag,e9,hs,Result.andThen_ok];rw[eR];simp
 ·have h:=i_ (P:=P) (Op.maxDepth-2) (xs:=a.1) (ys:=b.1) n he ag q a.2 b.2 w
  rw[show decide (a=b)=decide (a.1=b.1)from decide_eq_decide.2 Subtype.ext_iff];exact h
 ·unfold bM
  show Instr.sameBits (9999+1) _ _=true;unfold Instr.sameBits;simp only[beq_self_eq_true,vI,rX];intro p A;obtain⟨i,B,ab⟩:=yP.1 A;rw[List.getElem_zip]at ab;subst ab;simp[b9,Instr.sameBits]
section
variable {P : Program} {w0 : World} {n : Nat} {l : cm} {H : Heap} {T : Oper}
variable {κ β : Type} [DecidableEq κ] {aQ : Nat → Prop} {aX : κ → Value} {fv : β → Value} {v : Value} {m : List (κ × β)} {gH : TypeId} {b : Nat}
theorem C6{k:κ}{w:World}(A:rb P gH aX):∀(es:List MapEntry) (m:List (κ×β)) (i:Nat),es.map (fun e=>(e.key,e.val))=m.map (fun p=>(aX p.1,fv p.2))→
 (aH m k=none∧(Instr.findAsking gH (aX k) es i).run P w= .ok none w∧∀x∈es,x.key≠aX k)∨∃j e b,aH m k=some b∧(Instr.findAsking gH (aX k) es i).run P w= .ok (some (i+j,fv b)) w∧es[j]?=some e∧e.key=aX k∧e.val=fv b
 |[],m,i,h=>by
  have:m=[]:=by cases m<;>simp_all
  subst this
  exact .inl ⟨o,by simp[Instr.findAsking],by simp⟩
 |e::es,m,i,h=>by
  match m,h with
  |(a,c)::m,h=>
   simp only[dk,jC,hI]at h;obtain⟨⟨r,ab⟩,F⟩:=h;have d:=A.eq k a w;rw[←r]at d;by_cases n:k=a
   ·subst n
    simp only[decide_true]at d;exact .inr ⟨0,e,c,by simp[aH],by simp[Instr.findAsking,d,ab],o,r,ab⟩
   ·simp only[n,decide_false]at d
    rcases C6 (k:=k) (w:=w) A es m (i+1) F with⟨bh,bW,cw⟩|⟨j,E,C,bh,bW,cw,ep,gT⟩
    ·refine .inl ⟨?_,by simp[Instr.findAsking,d,bW],?_⟩
     ·simp only[aH,n,if_false];exact bh
     ·intro x B
      cases B with
      |head=>intro q;exact n (A.inj _ _ (by rw[←q,r]))
      |tail _ B=>exact cw x B
    ·refine .inr ⟨j+1,E,C,?_,?_,by simpa using cw,ep,gT⟩
     ·simp only[aH,n,if_false];exact bh
     ·simp[Instr.findAsking,d,bW];omega
theorem Fm{k:κ}{w:World}(d:rb P gH aX)(es:List MapEntry):(Instr.findKey gH (aX k) es).run P w=(Instr.findAsking gH (aX k) es 0).run P w:=by
 obtain⟨len,e,hu⟩:=d.Pc
 cases es with
 |nil=>simp[Instr.findKey,run_underlying hu,Instr.findNow,Instr.findAsking]
 |cons x es=>
  have:Instr.findNow (.array len e) (aX k) (x::es) 0=none:=by
   unfold Instr.findNow Instr.sameNow;rfl
  simp[Instr.findKey,run_underlying hu,this]
theorem N1{k:κ}{w:World}(d:rb P gH aX):(Instr.keyThatStays (aX k) (aX k)).run P w= .ok (aX k) w:=by
 simp[Instr.keyThatStays,d.same]
theorem lb{r:Nat}(j:Obj):aa (fun c=>c=r) H (H.setIfInBounds r j):=⟨by simp,fun b ao d=>by simp[kj d]⟩
theorem Ej{k:κ}{b:β}{key:Value}(B:∀a b,aX a=aX b→a=b)(C:key=aX k):∀(es:List MapEntry) (m:List (κ×β)) (j:Nat) (e:MapEntry),es.map (fun e=>(e.key,e.val))=m.map (fun p=>(aX p.1,fv p.2))→(es.map (·.key)).Nodup→es[j]?=some e→e.key=aX k→
 (es.modify j (fun e=>{e with key:=key,val:=fv b})).map (fun e=>(e.key,e.val))=(m.map (fun p=>if p.1=k then(p.1,b)else p)).map (fun p=>(aX p.1,fv p.2))
 |[],_,_,_,_,_,h,_=>by simp at h
 |x::es,m,j,e,h,aB,d,he=>by
  match m,h with
  |(a,c)::m,h=>
   simp only[dk,jC,hI]at h;obtain⟨⟨n,ab⟩,r⟩:=h;simp only[dk,ng]at aB
   cases j with
   |zero=>
    simp only[List.getElem?_cons_zero,kh]at d;subst d;have A:a=k:=B _ _ (by rw[←n,he]);subst A;simp only[List.modify_zero_cons,dk,if_true,C];congr 1;rw[r,l9];apply mK;intro p F
    have:p.1≠a:=by
     intro e;apply aB.1;have:(aX p.1,fv p.2)∈es.map (fun e=>(e.key,e.val)):=by rw[r];exact cN.2 ⟨p,F,o⟩
     obtain⟨y,hy,E⟩:=cN.1 this;simp only[hI]at E;exact cN.2 ⟨y,hy,by rw[E.1,e,n]⟩
    simp[this]
   |succ j=>
    simp only[List.getElem?_cons_succ]at d
    have A:a≠k:=by
     intro q;subst q;apply aB.1;rw[n,←he];exact cN.2 ⟨e,yJ d,o⟩
    simp only[List.modify_succ_cons,dk,A,if_false,n,ab];rw[Ej B C es m j e r aB.2 d he]
theorem S.E2{t Q:TypeId}{x i y:Operand}{k:κ}(z:β)(h:cW H aX fv b m)(d:rb P gH aX)(N:T.op= .mapUpdate t x i y)(hm:∀w,(underlying t).run P w= .ok (.map gH Q) w)
 (O:aK l x=some (.map (some b)))(L:aK l i=some (aX k))(hy:aK l y=some (fv z)):S P w0 n l H T (fun V=>cW V aX fv b (hk m k z)∧aa (fun c=>c=b) H V):=by
 intro ac w q A;obtain⟨r,es,clock,X,ab,I,C,E⟩:=h.fX.ex;obtain rfl:=ab;have B:w.heap[r]?=some (.map es clock):=by rw[A.heap];exact I
 have U:=(Array.getElem?_eq_some_iff.1 I).1;have K:∀F,(H.setIfInBounds r F)[r]?=some F:=fun F=>by simp[U]
 rcases C6 (k:=k) (w:=w) d es.toList m 0 E with⟨bh,bW,cw⟩|⟨j,G,W,bh,bW,cw,ep,gT⟩
 ·refine⟨H.setIfInBounds r (.map (es.push {key:=aX k,val:=fv z,born:=clock}) (clock+1)),{w with heap:=H.setIfInBounds r (.map (es.push {key:=aX k,val:=fv z,born:=clock}) (clock+1))},?_,A.set,⟨⟨r,_,_,rfl,rfl,K _,stamped_push C cw,?_⟩⟩,lb _⟩
  ·simp[execOp,N,q.eval O,q.eval L,q.eval hy,Instr.mapUpdate,hm,MapKept.run_getObj_map B,d.check,Fm d,bW,MapKept.run_setObj_map _ B,A.heap]
  ·simp[hk,bh,E]
 ·have M:es[j]?=some G:=by simpa using cw
  have R:∀e,es[j]?=some e→({e with key:=aX k,val:=fv z}:MapEntry).key=e.key:=fun e he=>by rw[M]at he;cases he;exact ep.symm
  refine⟨H.setIfInBounds r (.map (es.modify j fun e=>{e with key:=aX k,val:=fv z}) clock),{w with heap:=H.setIfInBounds r (.map (es.modify j fun e=>{e with key:=aX k,val:=fv z}) clock)},?_,A.set,⟨⟨r,_,_,rfl,rfl,K _,stamped_modify C _ _ (fun _ _=>rfl) (fun e _ he=>R e he),?_⟩⟩,lb _⟩
  ·simp[execOp,N,q.eval O,q.eval L,q.eval hy,Instr.mapUpdate,hm,MapKept.run_getObj_map B,d.check,Fm d,bW,M,ep,N1 d,MapKept.run_setObj_map _ B,A.heap]
  ·have:=Ej (fv:=fv) (b:=z) d.inj o es.toList m j G E C.2.2 cw ep
   rw[Array.toList_modify,this];simp[hk,bh]
def e4(m:List (κ×β))(k:κ):List (κ×β):=m.filter (fun p=>decide (p.1≠k))
theorem lH(m:List (κ×β))(k q:κ):aH (e4 m k) q=if q=k then none else aH m q:=by
 induction m with
 |nil=>simp[e4,aH]
 |cons p m ih=>
  unfold e4 at ih⊢;by_cases j:p.1=k
  ·rw[mL (by simp[j]),ih]
   by_cases d:q=k
   ·simp[d]
   ·rw[aA d,aA d];simp only[aH];rw[aA (fun e=>d (e.trans j))]
  ·rw[mM (by simp[j])]
   simp only[aH];by_cases d:q=p.1
   ·rw[aM d,aM d,aA (fun e=>j (d.symm.trans e))]
   ·rw[aA d,aA d,ih]
theorem sf{m:List (κ×β)}{k:κ}{z:β}(h:aH m k=some z):(k,z)∈m:=by
 induction m with
 |nil=>cases h
 |cons p m ih=>
  simp only[aH]at h;split at h
  ·rename_i e;cases h;rw[e];exact .head _
  ·exact .tail _ (ih h)
theorem D_{m:List (κ×β)}{k:κ}(h:aH m k=none):∀p∈m,p.1≠k:=by
 induction m with
 |nil=>simp
 |cons p m ih=>
  simp only[aH]at h;split at h
  ·cases h
  ·rename_i j
   intro q d e
   cases d with
   |head=>exact j e.symm
   |tail _ d=>exact ih h q d e
theorem n1{m:List (κ×β)}(aB:(m.map (·.1)).Nodup){k:κ}{z:β}(h:(k,z)∈m):aH m k=some z:=by
 induction m with
 |nil=>cases h
 |cons p m ih=>
  simp only[dk,ng]at aB;simp only[aH]
  cases h with
  |head=>simp
  |tail _ h=>
   rw[aA ?_]
   ·exact ih aB.2 h
   ·intro e
    exact aB.1 (cN.2 ⟨(k,z),h,e⟩)
theorem gF{m:List (κ×β)}{k:κ}:(aH m k).isSome=true↔k∈m.map (·.1):=by
 constructor
 ·intro h
  obtain⟨z,n⟩:=tl.1 h;exact cN.2 ⟨_,sf n,o⟩
 ·intro h
  obtain⟨p,j,e⟩:=cN.1 h
  cases d:aH m k with
  |some z=>rfl
  |none=>exact absurd e (D_ d p j)
theorem CU{k:κ}(B:∀a b,aX a=aX b→a=b):∀(es:List MapEntry) (m:List (κ×β)) (j:Nat) (e:MapEntry),es.map (fun e=>(e.key,e.val))=m.map (fun p=>(aX p.1,fv p.2))→(es.map (·.key)).Nodup→es[j]?=some e→e.key=aX k→
 (es.eraseIdx j).map (fun e=>(e.key,e.val))=(e4 m k).map (fun p=>(aX p.1,fv p.2))
 |[],_,_,_,_,_,h,_=>by simp at h
 |x::es,m,j,e,h,aB,d,he=>by
  match m,h with
  |(a,c)::m,h=>
   simp only[dk,jC,hI]at h;obtain⟨⟨n,ab⟩,r⟩:=h;simp only[dk,ng]at aB
   cases j with
   |zero=>
    simp only[List.getElem?_cons_zero,kh]at d;subst d;have A:a=k:=B _ _ (by rw[←n,he]);subst A
    have hm:e4 ((a,c)::m) a=m:=by
     unfold e4;rw[mL bl];apply tm.2;intro p E;simp only[km];intro e;apply aB.1;have:(aX p.1,fv p.2)∈es.map (fun e=>(e.key,e.val)):=by rw[r];exact cN.2 ⟨p,E,o⟩
     obtain⟨y,hy,C⟩:=cN.1 this;simp only[hI]at C;exact cN.2 ⟨y,hy,by rw[C.1,e,n]⟩
    rw[hm]
    simpa using r
   |succ j=>
    simp only[List.getElem?_cons_succ]at d
    have A:a≠k:=by
     intro q;subst q;apply aB.1;rw[n,←he];exact cN.2 ⟨e,yJ d,o⟩
    have hm:e4 ((a,c)::m) k=(a,c)::e4 m k:=by
     unfold e4;rw[mM (by simp[A])]
    rw[hm];simp only[List.eraseIdx_cons_succ,dk,n,ab];rw[CU B es m j e r aB.2 d he]
theorem cW.le(h:cW H aX fv b m):b+1≤H.size:=h.lt
structure iL (H:Heap) (aX:κ→Value) (fv:β→Value) (b:Nat) (m:List (κ×β)) (es:Array MapEntry) (clock:Nat):Prop where
 at_:H[b]?=some (.map es clock)
 st:Stamped es clock
 eq:es.toList.map (fun e=>(e.key,e.val))=m.map (fun p=>(aX p.1,fv p.2))
theorem cW.raw(h:cW H aX fv b m):∃es clock,iL H aX fv b m es clock:=by
 obtain⟨r,es,clock,q,ab,d,j,n⟩:=h.fX.ex;obtain rfl:=ab;exact⟨es,clock,d,j,n⟩
section
variable {es : Array MapEntry} {clock : Nat} {V : Heap}
theorem iL.mp(h:iL H aX fv b m es clock):cW H aX fv b m:=⟨⟨b,es,clock,o,o,h.at_,h.st,h.eq⟩⟩
theorem iL.lt(h:iL H aX fv b m es clock):b<H.size:=h.mp.lt
theorem iL.up{S:Nat→Prop}(h:iL H aX fv b m es clock)(s:aa S H V)(d:¬S b):iL V aX fv b m es clock:=⟨by rw[s.same b h.lt d];exact h.at_,h.st,h.eq⟩
theorem iL.aR(h:iL H aX fv b m es clock)(s:al H V):iL V aX fv b m es clock:=h.up s (fun e=>e)
instance:cr (iL H aX fv b m es clock) H V (iL V aX fv b m es clock):=⟨fun s h=>h.aR s⟩
theorem iL.aJ{ks:List Nat}(h:iL H aX fv b m es clock)(s:aa (ay ks) H V)(d:au (b+1) ks):iL V aX fv b m es clock:=h.up s (fun ab=>d (b+1) ab b o o)
instance:ct (iL H aX fv b m es clock) H V (iL V aX fv b m es clock) (ak (b+1)):=⟨fun s h d=>h.aJ s (au.T d)⟩
theorem iL.fX(h:iL H aX fv b m es clock):jy (fun x=>x=b) H aX fv (.map (some b)) m:=h.mp.fX
end
structure h6 (H:Heap) (b r:Nat) (aX:κ→Value) (es:Array MapEntry) (clock:Nat) (dn:List κ):Prop where
 ex:∃jx:List MapEntry,H[b]?=some (.mapIter (some r) clock (jx.map (·.born)).toArray clock)∧(∀e∈jx,e∈es.toList)∧jx.map (·.key)=dn.map aX
section
variable {es : Array MapEntry} {clock r : Nat} {V : Heap} {dn : List κ}
theorem h6.lt(h:h6 H b r aX es clock dn):b<H.size:=by
 obtain⟨jx,d,_⟩:=h.ex;exact(Array.getElem?_eq_some_iff.1 d).1
theorem h6.up{S:Nat→Prop}(h:h6 H b r aX es clock dn)(s:aa S H V)(j:¬S b):h6 V b r aX es clock dn:=by
 obtain⟨jx,d,ab⟩:=h.ex;exact⟨jx,by rw[s.same b h.lt j];exact d,ab⟩
theorem h6.aR(h:h6 H b r aX es clock dn)(s:al H V):h6 V b r aX es clock dn:=h.up s (fun e=>e)
theorem h6.aJ{ks:List Nat}(h:h6 H b r aX es clock dn)(s:aa (ay ks) H V)(d:au (b+1) ks):h6 V b r aX es clock dn:=h.up s (fun ab=>d (b+1) ab b o o)
instance:cr (h6 H b r aX es clock dn) H V (h6 V b r aX es clock dn):=⟨fun s h=>h.aR s⟩
instance:ct (h6 H b r aX es clock dn) H V (h6 V b r aX es clock dn) (ak (b+1)):=⟨fun s h d=>h.aJ s (au.T d)⟩
theorem Z.sq{t j:TypeId}{x:Operand}(h:iL H aX fv b m es clock)(A:T.op= .range t x)(hm:∀w,(underlying t).run P w= .ok (.map gH j) w)(B:aK l x=some (.map (some b))):
 Z P w0 n l H T (fun v V=>v= .pointer (some ⟨H.size,0,none⟩)∧h6 V H.size b aX es clock ([]:List κ)∧al H V∧∃C,V=H.push C):=by
 intro ac w r d;have q:w.heap[b]?=some (.map es clock):=by rw[d.heap];exact h.at_
 refine⟨.pointer (some ⟨w.heap.size,0,none⟩),H.push (.mapIter (some b) clock #[] clock),w.alloc (.mapIter (some b) clock #[] clock),?_,d.alloc _,by rw[d.heap],⟨[],by simp,by simp,o⟩,al.pu _ _,_,o⟩;simp[execOp,A,r.eval B,Instr.range,hm,MapKept.run_getObj_map q]
def qR(q:Bool)(a c:Value):Value:= .tuple (if q then #[.bool true,a,c]else #[.bool false])
theorem Y.rF{x:Operand}{q:Bool}{a c:Value}(j:T.op= .extract x 0)(r:aK l x=some (qR q a c)):Y P w0 n l H T (.bool q):=by
 intro ac w d A;cases q<;>simp[execOp,j,d.eval r,qR,Instr.extract]
theorem FC(r:∀a b,aX a=aX b→a=b){m:List (κ×β)}{jx:List MapEntry}(ag:Stamped es clock)(n:∀e∈jx,e∈es.toList)(ah:jx.map (·.key)=dn.map aX){e:MapEntry}(he:e∈es.toList){a:κ}(j:e.key=aX a):e.born∈jx.map (·.born)↔a∈dn:=by
 have B:∀x∈es.toList,∀y∈es.toList,x.born=y.born→x=y:=fun x d y hy ao=>tI ag.2.1 d hy ao;have C:∀x∈es.toList,∀y∈es.toList,x.key=y.key→x=y:=fun x d y hy ao=>tI ag.2.2 d hy ao;constructor
 ·intro h
  obtain⟨y,hy,ao⟩:=cN.1 h;have:=B y (n y hy) e he ao;subst this;have ab:y.key∈dn.map aX:=by rw[←ah];exact cN.2 ⟨y,hy,o⟩
  obtain⟨c,aq,q⟩:=cN.1 ab;rw[r _ _ (j.symm.trans q.symm)];exact aq
 ·intro h
  have ab:aX a∈jx.map (·.key):=by rw[ah];exact cN.2 ⟨a,h,o⟩
  obtain⟨y,hy,A⟩:=cN.1 ab;have:=C y (n y hy) e he (A.trans j.symm);subst this;exact cN.2 ⟨y,hy,o⟩
theorem Z.si{x:Operand}[Inhabited κ][Inhabited β](h:h6 H b r aX es clock dn)(d:iL H aX fv r m es clock)(O:∀a b,aX a=aX b→a=b)(R:T.op= .next x false)(j:aK l x=some (.pointer (some ⟨b,0,none⟩))):
 Z P w0 n l H T (fun v V=>∃(q:Bool) (a:κ) (c:β) (C:List κ),v=qR q (aX a) (fv c)∧h6 V b r aX es clock C∧(q=true→(a,c)∈m∧a∉dn∧C=dn++[a])∧(q=false→(∀p∈m,p.1∈dn)∧C=dn)∧aa (fun g=>g=b) H V):=by
 intro ac w N A;obtain⟨jx,S,ab,E⟩:=h.ex;have U:w.heap[b]?=some (.mapIter (some r) clock (jx.map (·.born)).toArray clock):=by rw[A.heap];exact S
 have af:w.heap[r]?=some (.map es clock):=by rw[A.heap];exact d.at_
 have hold:∀x∈es.toList,x.born<clock:=d.st.1;have ae:=h.lt
 have ar:∀e∈es.toList,∃a c,(a,c)∈m∧e.key=aX a∧e.val=fv c:=by
  intro e he;have:(e.key,e.val)∈m.map (fun p=>(aX p.1,fv p.2)):=by rw[←d.eq];exact cN.2 ⟨e,he,o⟩
  obtain⟨p,I,K⟩:=cN.1 this;simp only[hI]at K;exact⟨p.1,p.2,I,K.1.symm,K.2.symm⟩
 rcases run_next_at (P:=P) w T.type b r clock clock _ es clock U af hold (dz _)with⟨Y,L⟩|⟨e,he,aG,ak,L⟩
 ·refine⟨.tuple #[.bool false],H,w,by simp[execOp,R,N.eval j,L],A,false,default,default,dn,o,h,by simp,fun _=>⟨fun p I=>?_,o⟩,aa.refl _ _⟩
  have:(aX p.1,fv p.2)∈es.toList.map (fun e=>(e.key,e.val)):=by rw[d.eq];exact cN.2 ⟨p,I,o⟩
  obtain⟨e,he,M⟩:=cN.1 this;simp only[hI]at M;have ag:=all_seen es _ Y e he;refine(FC (m:=m) O d.st ab E he M.1).1 ?_
  simpa using ag
 ·obtain⟨F,Q⟩:=mem_left he
  obtain⟨a,c,W,G,ai⟩:=ar e F
  have B:At w0 H aG:=by
   rcases ak with rfl|rfl
   ·exact A
   ·exact A.drew
  refine⟨.tuple #[.bool true,e.key,e.val],H.setIfInBounds b (.mapIter (some r) clock ((jx.map (·.born)).toArray.push e.born) clock),_,by simp[execOp,R,N.eval j,L];rfl,?_,true,a,c,dn++[a],by rw[G,ai];rfl,⟨jx++[e],?_,?_,?_⟩,fun _=>⟨W,?_,o⟩,by simp,lb _⟩
  ·exact⟨by simp[ChangeMaps.setBlock,B.heap],B.os,B.tape,B.output,B.hg⟩
  ·simp[ae]
  ·intro x j
   rcases gG.1 j with h|h
   ·exact ab x h
   ·simp only[eU]at h;subst h;exact F
  ·simp[E,G]
  ·intro X
   have:=(FC (m:=m) O d.st ab E F G).2 X;simp at Q;simp at this;obtain⟨x,j,an⟩:=this;exact Q x j an
theorem Y.rE{x:Operand}{a:κ}{c:β}(h:h6 H b r aX es clock (dn++[a]))(j:iL H aX fv r m es clock)(W:∀a b,aX a=aX b→a=b)(K:(a,c)∈m)(S:T.op= .entry x)(d:aK l x=some (.pointer (some ⟨b,0,none⟩))):Y P w0 n l H T (.tuple #[aX a,fv c]):=by
 intro ac w N C;obtain⟨jx,G,ab,B⟩:=h.ex;have I:w.heap[b]?=some (.mapIter (some r) clock (jx.map (·.born)).toArray clock):=by rw[C.heap];exact G
 have Q:w.heap[r]?=some (.map es clock):=by rw[C.heap];exact j.at_
 have R:jx≠[]:=by intro e;subst e;simp at B
 obtain⟨e,he⟩:∃e,jx.getLast?=some e:=by
  rw[List.getLast?_eq_some_getLast R];exact⟨_,o⟩
 have M:e∈jx:=List.mem_of_getLast? he
 have E:e.key=aX a:=by
  have:=aI List.getLast? B
  simpa[he]using this
 have q:=ab e M;have L:(jx.map (·.born)).toArray.back?=some e.born:=by simp[he]
 have O:es.find? (fun x=>x.born==e.born)=some e:=by
  rw[←Array.find?_toList]
  obtain⟨x,d⟩:∃x,es.toList.find? (fun x=>x.born==e.born)=some x:=by
   rw[←tl,List.find?_isSome];exact⟨e,q,by simp⟩
  have V:=List.mem_of_find?_eq_some d;have F:=List.find?_some d;simp only[beq_iff_eq]at F;rw[d,tI j.st.2.1 V q F]
 have U:e.val=fv c:=by
  have:(aX a,fv c)∈es.toList.map (fun e=>(e.key,e.val)):=by rw[j.eq];exact cN.2 ⟨_,K,o⟩
  obtain⟨y,hy,A⟩:=cN.1 this;simp only[hI]at A;have:=tI j.st.2.2 hy q (A.1.trans E.symm);rw[←this];exact A.2
 simp[execOp,S,N.eval d,Instr.entry,getObj,Sem.run,I,Q,L,O,E,U]
end
end
section
variable {P : Program} {w0 : World} {n : Nat} {l : cm} {H : Heap} {T : Oper}
end
section
variable {P : Program} {w0 : World} {Q : Exit → Act → World → Prop} {n : Nat} {l : cm} {H : Heap} {ops : Array Oper} {rest : List Oper} {T : Oper}
end
section
variable {P : Program} {w0 : World} {Q : Exit → Act → World → Prop} {n k i : Nat} {dn : List Nat} {l : cm} {H : Heap} {ops : Array Oper} {T : Oper} {ca : Heap → Prop} {X : List Nat}
theorem e_.qp{A:Value→Heap→Prop}{d:Nat}{c:Operand}{fl:Value}{args:List Operand}{E:Array TypeId}{j:List Value}(M:ops[i]?=some T)(N:T.op= .call {callee:= .value c,args:=args.toArray,argTypes:=E})
 (L:aK l c=some fl) (R:iA l args=some j) (hw:dr ops l T) (ah:T.dst=some d) (aB:Nat.blt d n=true) (aq:im P w0 fl j H A)
 (h:∀v V,A v V→(X.contains i=true∨ca V)∧U P w0 ops Q ca X n k (i::dn) ((d,v)::l) V):e_ P w0 ops Q ca X n k i dn l H:=by
 intro a w q G;obtain⟨f,caps,rfl,I,K⟩:=aq
 have O:(execOp a.eval T).run P w= .ok (.enter f (j.toArray++caps)) w:=by
  have ab:=q.mC R;have W:(args.toArray.map a.eval)=j.toArray:=by rw[qC,ab]
  simp[execOp,N,resolve,Deferred.ofValue,q.eval L,invoke,I,ab]
 unfold wpOp;simp only[M];rw[aM (hw n a q)];refine .inl ?_;unfold Oper.wp;rw[O];show Calls P f (j.toArray++caps) w _;refine(K w G).mono ?_;rintro e S ⟨r,V,rfl,B,F⟩;obtain⟨x,ab⟩:=h r V F;have C:=q.put aB r;rw[←ah]at C;exact⟨x.imp id (fun x=>⟨V,B,x⟩),ab _ S C B⟩
end
end E
namespace E
abbrev aD:=List UInt8
def blt(a b:aD):Prop:=Op.bytesLess a b=true
instance (a b:aD):Decidable (blt a b):=inferInstanceAs (Decidable (_=_))
theorem nG(a:aD):¬blt a a:=by
 unfold blt
 induction a with
 |nil=>simp[Op.bytesLess]
 |cons x a ih=>simp only[Op.bytesLess];simpa using ih
theorem oH:∀{a b:aD},¬blt a b→¬blt b a→a=b
 |[],[],_,_=>rfl
 |[],_::_,h,_=>by simp[blt,Op.bytesLess]at h
 |_::_,[],_,h=>by simp[blt,Op.bytesLess]at h
 |x::a,y::b,d,ab=>by
  simp only[blt,Op.bytesLess]at d ab;by_cases aP:x<y
  ·simp[aP]at d
  ·by_cases j:y<x
   ·simp[j]at ab
   ·have:x=y:=by apply pE;rw[r4]at aP j;omega
    subst this;rw[oH (a:=a) (b:=b) (by simpa[blt]using d) (by simpa[blt]using ab)]
theorem ql:∀{a b c:aD},blt a b→blt b c→blt a c
 |[],[],_,h,_=>by simp[blt,Op.bytesLess]at h
 |_::_,[],_,h,_=>by simp[blt,Op.bytesLess]at h
 |_,_::_,[],_,h=>by simp[blt,Op.bytesLess]at h
 |[],_::_,_::_,_,_=>by simp[blt,Op.bytesLess]
 |x::a,y::b,z::c,d,ab=>by
  simp only[blt,Op.bytesLess,vv,km,nW,beq_iff_eq]at d ab⊢;rcases d with d|⟨rfl,d⟩
  ·rcases ab with ab|⟨rfl,ab⟩
   ·left;rw[r4]at*;omega
   ·exact .inl d
  ·rcases ab with ab|⟨rfl,ab⟩
   ·exact .inl ab
   ·exact .inr ⟨o,ql d ab⟩
theorem rn{a b:aD}(h:blt a b):¬blt b a:=fun ab=>nG a (ql h ab)
theorem oG{a b:aD}(h:blt a b):a≠b:=fun e=>by subst e;exact nG a h
def h7(l:List aD):Prop:=l.Pairwise blt
theorem tU{l:List aD}(h:h7 l):l.Nodup:=by
 rw[tg];exact h.imp (fun h=>oG h)
theorem wG:∀{a b:List aD},h7 a→h7 b→(∀x,x∈a↔x∈b)→a=b
 |[],[],_,_,_=>rfl
 |[],y::b,_,_,h=>by have:=(h y).2 gw;cases this
 |x::a,[],_,_,h=>by have:=(h x).1 gw;cases this
 |x::a,y::b,j,ao,h=>by
  unfold h7 at j ao;rw[jf]at j ao
  have e:x=y:=by
   rcases dU.1 ((h x).1 gw)with e|d
   ·exact e
   ·rcases dU.1 ((h y).2 gw)with e|ab
    ·exact e.symm
    ·exact absurd (j.1 _ ab) (rn (ao.1 _ d))
  subst e;congr 1;refine wG j.2 ao.2 (fun z=>⟨fun n=>?_,fun n=>?_⟩)
  ·rcases dU.1 ((h z).1 (hj _ n))with e|d
   ·subst e;exact absurd (j.1 _ n) (nG _)
   ·exact d
  ·rcases dU.1 ((h z).2 (hj _ n))with e|d
   ·subst e;exact absurd (ao.1 _ n) (nG _)
   ·exact d
abbrev cI:=List (aD×Nat)
def eW(l:cI):Prop:=l.Pairwise (fun x y=>blt x.1 y.1)
theorem eW.qX{l:cI}(h:eW l):h7 (l.map (·.1)):=by unfold h7;rw[qG];exact h
theorem eW.nodup{l:cI}(h:eW l):(l.map (·.1)).Nodup:=tU h.qX
theorem eW.filter{l:cI}(h:eW l)(p:aD×Nat→Bool):eW (l.filter p):=r5 _ h
def hJ:cI→aD→Nat→cI
 |[],p,i=>[(p,i)]
 |x::l,p,i=>if blt x.1 p then x::hJ l p i else if x.1=p then(p,i)::l else(p,i)::x::l
theorem Ea(l:cI)(p:aD)(i:Nat)(q:aD):aH (hJ l p i) q=if q=p then some i else aH l q:=by
 induction l with
 |nil=>simp[hJ,aH]
 |cons x l ih=>
  unfold hJ;split
  ·rename_i h
   simp only[aH,ih];by_cases d:q=x.1
   ·have:¬q=p:=fun e=>oG h (by rw[←d,e])
    rw[aM d,aM d,aA this]
   ·rw[aA d,aA d]
  ·split
   ·rename_i j ab
    simp only[aH];by_cases d:q=p
    ·simp[d]
    ·rw[aA d,aA d,aA (fun e=>d (e.trans ab))]
   ·simp only[aH]
theorem LD{l:cI}{p:aD}{i:Nat}{x:aD×Nat}(h:x∈hJ l p i):x=(p,i)∨x∈l:=by
 induction l with
 |nil=>simp[hJ]at h;exact .inl h
 |cons y l ih=>
  unfold hJ at h;split at h
  ·rcases dU.1 h with e|h
   ·exact .inr (by rw[e];exact gw)
   ·rcases ih h with e|h
    ·exact .inl e
    ·exact .inr (hj _ h)
  ·split at h
   ·rcases dU.1 h with e|h
    ·exact .inl e
    ·exact .inr (hj _ h)
   ·rcases dU.1 h with e|h
    ·exact .inl e
    ·exact .inr h
theorem Bm{l:cI}(h:eW l)(p:aD)(i:Nat):eW (hJ l p i):=by
 induction l with
 |nil=>exact vJ _ _
 |cons x l ih=>
  unfold eW at h⊢;rw[jf]at h;unfold hJ;split
  ·rename_i j
   rw[jf];refine⟨fun y hy=>?_,ih h.2⟩;rcases LD hy with e|hy
   ·rw[e];exact j
   ·exact h.1 y hy
  ·rename_i j
   split
   ·rename_i ab
    rw[jf];exact⟨fun y hy=>by rw[←ab];exact h.1 y hy,h.2⟩
   ·rename_i ab
    have d:blt p x.1:=mb (fun d=>ab (oH j d));rw[jf];refine⟨fun y hy=>?_,jf.2 h⟩;rcases dU.1 hy with e|hy
    ·rw[e];exact d
    ·exact ql d (h.1 y hy)
theorem Hh{a b:cI}(j:eW a)(ao:eW b)(h:∀p,aH a p=aH b p):a=b:=by
 have d:a.map (·.1)=b.map (·.1):=wG j.qX ao.qX (fun x=>by rw[←gF,←gF,h])
 have key:∀(a b:cI),a.map (·.1)=b.map (·.1)→eW a→eW b→(∀p,aH a p=aH b p)→a=b:=by
  intro a
  induction a with
  |nil=>intro b d _ _ _;cases b with
   |nil=>rfl
   |cons y b=>cases d
  |cons x a ih=>
   intro b d j ao h
   cases b with
   |nil=>cases d
   |cons y b=>
    simp only[dk,jC]at d
    have B:x.2=y.2:=by
     have:=h x.1;simp only[aH,aM,d.1]at this;exact l6 this
    have e:x=y:=Prod.ext d.1 B;subst e;congr 1;refine ih b d.2 (jf.1 j).2 (jf.1 ao).2 (fun p=>?_);have r:=h p;simp only[aH]at r;by_cases n:p=x.1
    ·have bs:aH a p=none:=yQ.1 (fun q=>by
      rw[gF]at q;obtain⟨z,A,e⟩:=cN.1 q;exact oG ((jf.1 j).1 z A) (by rw[e,n]))
     have C:aH b p=none:=yQ.1 (fun q=>by
      rw[gF]at q;obtain⟨z,A,e⟩:=cN.1 q;exact oG ((jf.1 ao).1 z A) (by rw[e,n]))
     rw[bs,C]
    ·rw[aA n,aA n]at r;exact r
 exact key a b d j ao h
theorem Hg{l:cI}(h:eW l)(p:aD):eW (e4 l p):=r5 _ h
theorem zd{l:cI}{f:aD→Bool}(p:aD):aH (l.filter (fun x=>f x.1)) p=if f p=true then aH l p else none:=by
 induction l with
 |nil=>simp[aH]
 |cons x l ih=>
  by_cases j:f x.1=true
  ·rw[mM (by simpa using j)]
   simp only[aH,ih];by_cases d:p=x.1
   ·rw[aM d,aM d,d,aM j]
   ·rw[aA d,aA d]
  ·rw[mL (by simpa using j),ih]
   simp only[aH];by_cases d:p=x.1
   ·rw[d,aA j,aA j]
   ·rw[aA d]
def qU(c:UInt8):Bool:=(97≤c&&c≤122)||(48≤c&&c≤57)||c==46||c==95||c==45||c==47
def zY(p:aD):Bool:=(List.range p.length).all (fun i=> !(p.getD i 0==47&&(i==0||i==p.length-1||p.getD (i-1) 0==47)))
def cH(p:aD):Bool:=decide (1≤p.length)&&decide (p.length≤100)&&p.all qU&&zY p
def qy(p:aD):aD:=p.take (p.length-1-(p.reverse.takeWhile (fun c=>c≠47)).length)
def bV(p:aD):aD:=if cH p=true then qy p else[]
structure c_ where
 g:aD
 n:aD
 f:Option Nat
 deriving DecidableEq
def c_.ap(c:c_)(l:cI):cI:=
 let d:=if c.g=[]then l else e4 l c.g
 match c.f with
 |none=>d
 |some i=>hJ d c.n i
def c_.dir(c:c_):aD:=bV (if c.g=[]then c.n else c.g)
def jc(cs:List c_)(l:cI):cI:=cs.foldl (fun l c=>c.ap l) l
theorem G7(l:cI):jc [] l=l:=rfl
theorem G6(a b:List c_)(l:cI):jc (a++b) l=jc b (jc a l):=by unfold jc;rw[oU]
theorem Bk{l:cI}(h:eW l)(c:c_):eW (c.ap l):=by
 unfold c_.ap;have d:eW (if c.g=[]then l else e4 l c.g):=by split;exact h;exact Hg h _
 cases c.f with
 |none=>exact d
 |some i=>exact Bm d _ _
theorem xS{l:cI}(h:eW l):∀cs:List c_,eW (jc cs l):=by
 intro cs
 induction cs generalizing l with
 |nil=>exact h
 |cons c cs ih=>exact ih (Bk h c)
def c_.at(c:c_)(q:aD)(T:Option Nat):Option Nat:=
 match c.f with
 |none=>if c.g≠[]∧q=c.g then none else T
 |some i=>if q=c.n then some i else if c.g≠[]∧q=c.g then none else T
theorem qM(c:c_)(l:cI)(q:aD):aH (c.ap l) q=c.at q (aH l q):=by
 unfold c_.ap c_.at
 cases c.f with
 |none=>
  simp only;by_cases d:c.g=[]
  ·simp[d]
  ·rw[aA d,lH];simp[d]
 |some i=>
  simp only;rw[Ea];by_cases d:c.g=[]
  ·simp[d]
  ·rw[aA d,lH];simp[d]
structure dF where
 b:Bool
 d:List UInt8
 deriving DecidableEq,Inhabited
structure fi where
 now:List UInt8
 stays:List UInt8
 w:List dF
 deriving DecidableEq,Inhabited
def dF.on(w:dF)(b:List UInt8)(n:Nat):List UInt8:=(if w.b=true then b else[])++w.d.take n
def dF.ways(w:dF):Nat:=max 1 (2*w.d.length)
def dF.part(w:dF)(b:List UInt8)(d:Nat):List UInt8:=
 if d<w.d.length∨w.d.length=0 then w.on b (min (d+1) w.d.length)else w.on b (d-w.d.length)++List.replicate (w.d.length-(d-w.d.length)) 0
def jj(ws:List dF):Nat:=1+(ws.map dF.ways).sum
def ik:List dF→List UInt8→Nat→List UInt8
 |[],b,_=>b
 |w::ws,b,k=>if k=0 then b else if k≤w.ways then w.part b (k-1)else ik ws (w.on b w.d.length) (k-w.ways)
def jg(ws:List dF)(b:List UInt8):List UInt8:=ws.foldl (fun b w=>w.on b w.d.length) b
structure aw where
 cap:Nat
 most:Nat
 fs:List fi
 now:cI
 stays:cI
 log:List c_
 ops:Nat
 left:Nat
 dead:Bool
def a1(fs:List fi)(i:Nat):fi:=fs.getD i ⟨[],[],[]⟩
def aw.empty(cap most:Nat):aw:=⟨cap,most,[],[],[],[],0,0,false⟩
def aw.begin(d:aw):Bool×aw:=
 if d.dead=true then(false,d)
 else if d.left=1 then(false,{d with left:=0,dead:=true})
 else(true,{d with left:=d.left-1,ops:=d.ops+1})
def aw.look(d:aw)(p:aD):Nat:=if cH p=true then(if(aH d.now p).isSome then 0 else 2)else 7
def kW(fs:List fi)(l:cI):Nat:=(l.map (fun x=>(a1 fs x.2).now.length)).sum
def aw.used(d:aw):Nat:=kW d.fs d.now
def aw.de(d:aw)(n:aD):List c_:=d.log.filter (fun c=>c.dir=n)
def aw.change(d:aw)(c:c_):aw:={d with now:=c.ap d.now,log:=d.log++[c]}
def aw.make(d:aw)(p:aD):aw×Nat:=match aH d.now p with
 |some i=>(d,i)
 |none=>(({d with fs:=d.fs++[⟨[],[],[]⟩]}:aw).change ⟨[],p,some d.fs.length⟩,d.fs.length)
def aw.eE(d:aw)(p:aD):List UInt8:=match aH d.now p with
 |some i=>(a1 d.fs i).now
 |none=>[]
def aw.gm(d:aw)(i:Nat)(x:fi):aw:={d with fs:=d.fs.set i x}
def aw.write(d:aw)(p:aD)(w:dF):aw:=
 let(d2,i):=d.make p
 d2.gm i ⟨w.on (a1 d2.fs i).now w.d.length,(a1 d2.fs i).stays,(a1 d2.fs i).w++[w]⟩
def aw.jr(d:aw)(p:aD)(w:dF):Nat:=
 if cH p=false then 7
 else if d.most<(w.on (d.eE p) w.d.length).length then 5
 else if d.cap+(d.eE p).length<d.used+(w.on (d.eE p) w.d.length).length then 12
 else 0
def aw.lay(d:aw)(p:aD)(w:dF):Nat×aw:=
 let(g,d1):=d.begin
 if g=false then(11,d1)else(d1.jr p w,if d1.jr p w=0 then d1.write p w else d1)
def aw.w1(d:aw)(i:Nat):aw:=d.gm i ⟨(a1 d.fs i).now,(a1 d.fs i).now,[]⟩
def aw.sync(d:aw)(p:aD):Nat×aw:=
 let(g,d1):=d.begin
 if g=false then(11,d1)else(d1.look p,if d1.look p=0 then d1.w1 ((aH d1.now p).getD 0)else d1)
def aw.mg(d:aw)(a b:aD):Nat:=
 if cH a=false∨cH b=false then 7 else if bV a≠bV b then 13 else d.look a
def aw.rename(d:aw)(a b:aD):Nat×aw:=
 let(g,d1):=d.begin
 if g=false then(11,d1)else(d1.mg a b,if d1.mg a b=0∧a≠b then d1.change ⟨a,b,some ((aH d1.now a).getD 0)⟩else d1)
def merge(now stays:cI)(n:aD):cI:=(now.filter (fun x=>bV x.1=n)).foldl (fun l x=>hJ l x.1 x.2) (stays.filter (fun x=> !decide (bV x.1=n)))
def aw.pY(d:aw)(n:aD):aw:={d with stays:=merge d.now d.stays n,log:=d.log.filter (fun c=> !decide (c.dir=n))}
def k4(n:aD):Nat:=if n≠[]∧cH n=false then 7 else 0
def aw.iG(d:aw)(n:aD):Nat×aw:=
 let(g,d1):=d.begin
 if g=false then(11,d1)else(k4 n,if k4 n=0 then d1.pY n else d1)
def aw.gI(d:aw)(p:aD):Nat:=if d.dead=true then 11 else d.look p
def aw.cM(d:aw)(p:aD):List UInt8:=if d.gI p=0 then d.eE p else[]
def aw.stop(d:aw)(n:Nat):aw:={d with left:=n}
def ht(picks:List Int)(at_ of:Nat):Nat:=if at_<picks.length then(picks.getD at_ 0%(of:Int)).toNat else 0
def eG(picks:List Int)(d:aw)(s:cI×Nat)(n:aD):cI×Nat:=
 if d.de n=[]then s else(jc ((d.de n).take (ht picks s.2 ((d.de n).length+1))) s.1,s.2+1)
def hE(picks:List Int)(s:List fi×Nat)(x:aD×Nat):List fi×Nat:=
 let f:=a1 s.1 x.2
 if f.w=[]then s
 else
  let b:=ik f.w f.stays (ht picks s.2 (jj f.w))
  (s.1.set x.2 ⟨b,b,[]⟩,s.2+1)
def oQ:List aD→aD→List aD
 |[],p=>[p]
 |x::l,p=>if blt x p then x::oQ l p else if x=p then x::l else p::x::l
def aw.oI(d:aw):List aD:=(d.log.map c_.dir).foldl oQ []
def aw.hF(d:aw)(picks:List Int):cI×Nat:=d.oI.foldl (eG picks d) (d.stays,0)
def aw.gr(d:aw)(picks:List Int):List fi×Nat:=(d.hF picks).1.foldl (hE picks) (d.fs,(d.hF picks).2)
def aw.fk(d:aw)(picks:List Int):aw:=
 {d with fs:=(d.gr picks).1,now:=(d.hF picks).1,stays:=(d.hF picks).1,log:=[],left:=0,dead:=false}
theorem D5{l:List aD}{p q:aD}:q∈oQ l p↔q=p∨q∈l:=by
 induction l with
 |nil=>simp[oQ]
 |cons x l ih=>
  unfold oQ;split
  ·simp only[dU,ih]
   constructor
   ·rintro(h|h|h)
    ·exact .inr (.inl h)
    ·exact .inl h
    ·exact .inr (.inr h)
   ·rintro(h|h|h)
    ·exact .inr (.inl h)
    ·exact .inl h
    ·exact .inr (.inr h)
  ·split
   ·rename_i h;subst h
    simp only[dU];constructor
    ·rintro(h|h)
     ·exact .inl h
     ·exact .inr (.inr h)
    ·rintro(h|h|h)
     ·exact .inl h
     ·exact .inl h
     ·exact .inr h
   ·simp only[dU]
theorem NH{l:List aD}(h:h7 l)(p:aD):h7 (oQ l p):=by
 induction l with
 |nil=>exact vJ _ _
 |cons x l ih=>
  unfold h7 at h⊢;have n:=h;rw[jf]at h;unfold oQ;split
  ·rename_i j
   rw[jf];refine⟨fun y hy=>?_,ih h.2⟩;rcases D5.1 hy with e|hy
   ·rw[e];exact j
   ·exact h.1 y hy
  ·rename_i j
   split
   ·exact n
   ·rename_i ab
    have d:blt p x:=mb (fun d=>ab (oH j d));rw[jf];refine⟨fun y hy=>?_,n⟩;rcases dU.1 hy with e|hy
    ·rw[e];exact d
    ·exact ql d (h.1 y hy)
theorem De(m:List aD):∀{l:List aD},h7 l→h7 (m.foldl oQ l)∧∀q,q∈m.foldl oQ l↔q∈m∨q∈l:=by
 induction m with
 |nil=>intro l h;exact⟨h,fun q=>by simp⟩
 |cons p m ih=>
  intro l h;obtain⟨d,ab⟩:=ih (NH h p);refine⟨d,fun q=>?_⟩;rw[gX,ab,D5,dU];constructor
  ·rintro(h|h|h)
   ·exact .inl (.inr h)
   ·exact .inl (.inl h)
   ·exact .inr h
  ·rintro((h|h)|h)
   ·exact .inr (.inl h)
   ·exact .inl h
   ·exact .inr (.inr h)
theorem aw.CC(d:aw):h7 d.oI:=(De _ List.Pairwise.nil).1
theorem aw.LB(d:aw)(n:aD):n∈d.oI↔d.de n≠[]:=by
 unfold aw.oI;rw[(De _ List.Pairwise.nil).2];unfold aw.de;rw[ne_eq,r6];simp
theorem yb{picks:List Int}{d:aw}{s:cI×Nat}{n:aD}(h:d.de n=[]):eG picks d s n=s:=by unfold eG;rw[aM h]
theorem JD(d:aw)(picks:List Int):∀(L:List aD) (s:cI×Nat),L.foldl (eG picks d) s=(L.filter (fun n=> !(d.de n).isEmpty)).foldl (eG picks d) s:=by
 intro L
 induction L with
 |nil=>intro s;rfl
 |cons n L ih=>
  intro s;rw[gX];by_cases h:d.de n=[]
  ·rw[mL (by simp[h]),yb h,ih]
  ·rw[mM (by simpa using h),gX,ih]
theorem aw.Cv(d:aw)(picks:List Int){L:List aD}(j:h7 L)(h:∀n,d.de n≠[]→n∈L):L.foldl (eG picks d) (d.stays,0)=d.hF picks:=by
 unfold aw.hF;rw[JD];congr 1;refine wG (r5 _ j) d.CC (fun n=>?_);rw[jZ,d.LB];constructor
 ·rintro⟨_,ab⟩;simpa using ab
 ·intro ab;exact⟨h n ab,by simpa using ab⟩
theorem LK(l:cI):∀(m:cI) (q:aD),eW l→aH (l.foldl (fun l x=>hJ l x.1 x.2) m) q=match aH l q with|some i=>some i|none=>aH m q:=by
 induction l with
 |nil=>intro m q _;rfl
 |cons x l ih=>
  intro m q h;unfold eW at h;rw[jf]at h;rw[gX,ih _ _ h.2,Ea];simp only[aH];by_cases d:q=x.1
  ·have:aH l q=none:=yQ.1 (fun c=>by
    rw[gF]at c;obtain⟨z,j,e⟩:=cN.1 c;exact oG (h.1 z j) (by rw[e,d]))
   rw[aM d,aM d,this]
  ·rw[aA d,aA d]
theorem qN{now stays:cI}(h:eW now)(n q:aD):aH (merge now stays n) q=if bV q=n then aH now q else aH stays q:=by
 unfold merge;rw[LK _ _ _ (h.filter _),zd (f:=fun p=>decide (bV p=n)),zd (f:=fun p=> !decide (bV p=n))];by_cases d:bV q=n
 ·simp only[d,decide_true,if_true,tn,lF,if_false]
  cases aH now q<;>rfl
 ·simp[d]
theorem Hi(l:cI):∀m:cI,eW m→eW (l.foldl (fun l x=>hJ l x.1 x.2) m):=by
 induction l with
 |nil=>intro m h;exact h
 |cons x l ih=>intro m h;exact ih _ (Bm h _ _)
theorem Bl{now stays:cI}(h:eW stays)(n:aD):eW (merge now stays n):=Hi _ _ (h.filter _)
end E
namespace lY
open uu uC
abbrev Rec:=List UInt8
def hQ:List UInt8:=[83,76,86,71,87,65,76,49]
def lz(n:Nat)(r:Rec):List UInt8:=(sumOf (gK.ck 8 (UInt64.ofNat n)++r)).take 8
def gl(n:Nat)(r:Rec):List UInt8:=k2 r.length++(lz n r++r)
def iZ(n:Nat)(r:Rec):List UInt8:=gl n r++[67]
def gf:Nat→List Rec→List UInt8
 |_,[]=>[]
 |n,r::l=>iZ n r++gf (n+1) l
def c1(l:List Rec):List UInt8:=hQ++gf 0 l
theorem u2(n:Nat)(r:Rec):(lz n r).length=8:=by unfold lz;rw[eJ,o3];rfl
theorem n0(n:Nat)(r:Rec):(gl n r).length=12+r.length:=by unfold gl;rw[bT,bT,u2,sQ];omega
theorem tT(n:Nat)(r:Rec):(iZ n r).length=13+r.length:=by unfold iZ;rw[bT,n0];simp;omega
theorem s5:∀(a b:List Rec) (n:Nat),gf n (a++b)=gf n a++gf (n+a.length) b
 |[],b,n=>rfl
 |r::a,b,n=>by rw[kO,gf,s5 a b (n+1),gf,dA,fx,show n+1+a.length=n+(a.length+1)by omega]
theorem vf(l:List Rec)(r:Rec):c1 (l++[r])=c1 l++iZ l.length r:=by unfold c1;rw[s5,dA];simp[gf]
theorem CJ:∀(l:List Rec) (n:Nat),(gf n l).length=(l.map (fun r=>13+r.length)).sum
 |[],n=>rfl
 |r::l,n=>by rw[gf,bT,CJ l,tT];simp
theorem yi(l:List Rec):(c1 l).length=8+(l.map (fun r=>13+r.length)).sum:=by unfold c1;rw[bT,CJ];rfl
def fF(b:List UInt8):Nat:=m7 0 (b.take 4)
def e5(n:Nat)(b:List UInt8):Option Rec:=
 if b.length≤12∨1048576<fF b∨b.length-12≤fF b then none
 else if b.getD (12+fF b) 0=67∧(b.drop 4).take 8=lz n ((b.drop 12).take (fF b))then some ((b.drop 12).take (fF b))else none
theorem tM{n:Nat}{b:List UInt8}{r:Rec}(h:e5 n b=some r):r.length=fF b∧13+r.length≤b.length∧r.length≤1048576:=by
 unfold e5 at h;split at h
 ·cases h
 ·rename_i d
  split at h
  ·have e:=l6 h
   rw[←e,eJ,ia];omega
  ·cases h
def mW:Nat→Nat→List UInt8→List Rec
 |0,_,_=>[]
 |f+1,n,b=>match e5 n b with
  |none=>[]
  |some r=>r::mW f (n+1) (b.drop (13+r.length))
theorem zE:∀(f g n:Nat) (b:List UInt8),b.length≤f→b.length≤g→mW f n b=mW g n b
 |0,0,_,_,_,_=>rfl
 |0,g+1,n,b,h,_=>by
  have:e5 n b=none:=by unfold e5;rw[aM (.inl J)]
  simp[mW,this]
 |f+1,0,n,b,_,h=>by
  have:e5 n b=none:=by unfold e5;rw[aM (.inl J)]
  simp[mW,this]
 |f+1,g+1,n,b,d,ab=>by
  unfold mW
  cases h:e5 n b with
  |none=>rfl
  |some r=>
   have:=tM h;simp only;rw[zE f g (n+1) _ (by rw[ia];omega) (by rw[ia];omega)]
def lf(n:Nat)(b:List UInt8):List Rec:=mW b.length n b
theorem wA{n:Nat}{b:List UInt8}(h:e5 n b=none):lf n b=[]:=by
 unfold lf
 cases ao:b.length with
 |zero=>rfl
 |succ f=>simp[mW,h]
theorem zG{n:Nat}{b:List UInt8}{r:Rec}(h:e5 n b=some r):lf n b=r::lf (n+1) (b.drop (13+r.length)):=by
 have d:=tM h;unfold lf;rw[zE b.length (b.length+1) n b (dz _) J,mW,h];show r::mW b.length (n+1) (b.drop (13+r.length))=_;rw[zE b.length _ (n+1) (b.drop (13+r.length)) (by rw[ia];omega) (dz _)]
theorem xU(n:Nat)(r:Rec)(t:List UInt8)(h:r.length<4294967296):fF (gl n r++t)=r.length:=by
 unfold fF gl;rw[dA,kP (sQ _),Hp _ h]
theorem MA(n:Nat)(r:Rec)(t:List UInt8)(h:r.length≤1048576):e5 n (iZ n r++t)=some r:=by
 have e:iZ n r++t=k2 r.length++(lz n r++(r++(67::t))):=by unfold iZ gl;simp
 have ao:fF (iZ n r++t)=r.length:=by unfold iZ;rw[dA,xU n r _ J]
 have A:(iZ n r++t).length=13+r.length+t.length:=by rw[bT,tT]
 have d:(iZ n r++t).drop 12=r++(67::t):=by
  rw[e,←dA,ma (by rw[bT,u2,sQ])]
 have j:((iZ n r++t).drop 4).take 8=lz n r:=by
  rw[e,ma (sQ _),kP (u2 _ _)]
 have q:((iZ n r++t).drop 12).take r.length=r:=by rw[d,kP rfl]
 have x:(iZ n r++t).getD (12+r.length) 0=67:=by
  have:(iZ n r++t).getD (12+r.length) 0=((iZ n r++t).drop 12).getD r.length 0:=by
   simp only[List.getD_eq_getElem?_getD,List.getElem?_drop]
  rw[this,d];simp[List.getD_eq_getElem?_getD]
 unfold e5;rw[ao,aA J,q,j,aM ⟨x,o⟩]
theorem EU:∀(l:List Rec) (n:Nat) (t:List UInt8),(∀r∈l,r.length≤1048576)→lf n (gf n l++t)=l++lf (n+l.length) t
 |[],n,t,_=>rfl
 |r::l,n,t,h=>by
  rw[gf,dA,zG (MA n r _ (h r gw)),ma (tT n r),EU l (n+1) t (fun x d=>h x (hj _ d)),kO,fx,show n+1+l.length=n+(l.length+1)by omega]
theorem Hl:∀(a b c d:UInt8),k2 (m7 0 [a,b,c,d])=[a,b,c,d]:=fun a b c d=>by
 have j:=a.toNat_lt;have ao:=b.toNat_lt;have aq:=c.toNat_lt;have ah:=d.toNat_lt;simp only[m7,gX,k_,k2,jC,and_true];refine⟨?_,?_,?_,?_⟩<;>(apply pE;rw[qH];omega)
theorem EM{n:Nat}{b:List UInt8}{r:Rec}(h:e5 n b=some r):b=iZ n r++b.drop (13+r.length):=by
 have j:=tM h;unfold e5 at h;split at h
 ·cases h
 ·rename_i A
  split at h
  ·rename_i ab
   have e:=l6 h;rw[e,←j.1]at ab
   have B:b.take 4=k2 r.length:=by
    rw[j.1];unfold fF
    match b,A with
    |a::b::c::d::t,_=>exact(Hl a b c d).symm
   have C:(b.drop 12).take r.length=r:=by rw[j.1];exact e
   have E:b.drop (12+r.length)=67::b.drop (13+r.length):=by
    have q:12+r.length<b.length:=by omega
    rw[oS q,show 12+r.length+1=13+r.length by omega];have:=ab.1;rw[List.getD_eq_getElem?_getD,List.getElem?_eq_getElem q]at this;rw[show b[12+r.length]=67 from this]
   calc b=b.take 4++b.drop 4:=(hY 4 b).symm
    _=b.take 4++((b.drop 4).take 8++(b.drop 4).drop 8):=aI (fun x=>b.take 4++x) (hY 8 (b.drop 4)).symm
    _=k2 r.length++(lz n r++b.drop 12):=by rw[B,ab.2,mN]
    _=k2 r.length++(lz n r++(r++(b.drop 12).drop r.length)):=by
     rw[show(b.drop 12)=(b.drop 12).take r.length++(b.drop 12).drop r.length from(hY _ _).symm,C];rw[ma rfl]
    _=iZ n r++b.drop (13+r.length):=by rw[mN,E];unfold iZ gl;simp
  ·cases h
def hK(b:List UInt8):Nat:=if b.take 8=hQ then 0 else 16
def e6(b:List UInt8):List Rec:=if b.take 8=hQ then lf 0 (b.drop 8)else[]
def pT(b:List UInt8):Nat:=if b.take 8=hQ then(c1 (e6 b)).length else 0
theorem CQ(l:List Rec)(t:List UInt8):(c1 l++t).take 8=hQ:=by unfold c1;rw[dA,kP (show hQ.length=8 from o)]
theorem MP(l:List Rec)(t:List UInt8):hK (c1 l++t)=0:=by unfold hK;rw[aM (CQ l t)]
theorem MQ(l:List Rec)(t:List UInt8)(h:∀r∈l,r.length≤1048576):e6 (c1 l++t)=l++lf l.length t:=by
 unfold e6;rw[aM (CQ l t)];unfold c1;rw[dA,ma (show hQ.length=8 from o),EU l 0 t h,jL]
theorem EV:∀(f:Nat) (n:Nat) (b:List UInt8),∀r∈mW f n b,r.length≤1048576
 |0,_,_,r,h=>by cases h
 |f+1,n,b,r,h=>by
  unfold mW at h;split at h
  ·cases h
  ·rename_i x d
   rcases dU.1 h with e|h
   ·rw[e];exact(tM d).2.2
   ·exact EV f _ _ r h
theorem ET(b:List UInt8):∀r∈e6 b,r.length≤1048576:=fun r h=>by
 unfold e6 at h;split at h
 ·exact EV _ _ _ r h
 ·cases h
theorem EW:∀(f n:Nat) (b:List UInt8),b.length≤f→∃t,b=gf n (lf n b)++t∧e5 (n+(lf n b).length) t=none
 |0,n,b,h=>by
  have:e5 n b=none:=by unfold e5;rw[aM (.inl J)]
  rw[wA this];exact⟨b,o,by simpa using this⟩
 |f+1,n,b,h=>by
  cases d:e5 n b with
  |none=>rw[wA d];exact⟨b,o,by simpa using d⟩
  |some r=>
   have j:=tM d;obtain⟨t,e,ab⟩:=EW f (n+1) (b.drop (13+r.length)) (by rw[ia];omega);rw[zG d];refine⟨t,?_,by rw[fx,show n+((lf (n+1) (b.drop (13+r.length))).length+1)=n+1+(lf (n+1) (b.drop (13+r.length))).length by omega];exact ab⟩;rw[gf,dA,←e];exact EM d
theorem MR{b:List UInt8}(h:hK b=0):∃t,b=c1 (e6 b)++t∧e5 (e6 b).length t=none:=by
 have j:b.take 8=hQ:=by unfold hK at h;split at h;assumption;cases h
 obtain⟨t,e,ab⟩:=EW _ 0 (b.drop 8) (dz _);have d:e6 b=lf 0 (b.drop 8):=by unfold e6;rw[aM j]
 refine⟨t,?_,by rw[d];simpa using ab⟩;rw[d];unfold c1;rw[dA,←e,←j,hY]
theorem Ga(n:Nat)(r:Rec)(k z:Nat)(h:k+z≤12+r.length)(E:r.length≤1048576):e5 n ((gl n r).take k++List.replicate z 0)=none:=by
 have x:((gl n r).take k).length=k:=by rw[eJ,n0];omega
 have B:((gl n r).take k++List.replicate z (0:UInt8)).length=k+z:=by rw[bT,x,nV]
 unfold e5;by_cases C:k+z≤12
 ·rw[aM (.inl J)]
 by_cases A:4≤k
 ·have ao:fF ((gl n r).take k++List.replicate z 0)=r.length:=by
   have:((gl n r).take k++List.replicate z (0:UInt8)).take 4=(gl n r).take 4:=by
    rw[r1 J,r2,kl A]
   have d:=xU n r [] J;rw[hi]at d;unfold fF at d⊢;rw[this,d]
  rw[aM (.inr (.inr (by rw[ao,B];omega)))]
 ·by_cases q:((gl n r).take k++List.replicate z (0:UInt8)).length≤12∨1048576<fF ((gl n r).take k++List.replicate z 0)∨((gl n r).take k++List.replicate z (0:UInt8)).length-12≤fF ((gl n r).take k++List.replicate z 0)
  ·rw[aM q]
  ·rw[aA q,aA]
   rintro⟨j,_⟩
   have:((gl n r).take k++List.replicate z (0:UInt8)).getD (12+fF ((gl n r).take k++List.replicate z 0)) 0=0:=by
    rw[List.getD_eq_getElem?_getD,List.getElem?_append_right J,List.getElem?_replicate];split<;>rfl
   rw[this]at j;cases j
theorem DQ(n:Nat)(r:Rec)(d:r.length≤1048576):e5 n (gl n r)=none:=by
 have:=Ga n r (12+r.length) 0 J d;rwa[eY (by rw[n0];omega),List.replicate_zero,hi]at this
theorem K1(n:Nat)(r:Rec)(q:r.length≤1048576):e5 n (gl n r++[0])=none:=by
 have ao:=xU n r [0] J;have j:(gl n r++[(0:UInt8)]).length=13+r.length:=by rw[bT,n0];simp;omega
 unfold e5;rw[ao,aA J,aA];rintro⟨d,_⟩;rw[List.getD_eq_getElem?_getD,List.getElem?_append_right (by rw[n0];omega),n0,vE]at d;cases d
end lY
namespace E
section
variable {P : Program} {w0 : World} {n : Nat} {l : cm} {H : Heap} {T : Oper}
theorem Fk{F:Nat→Prop}{v:Value}{xs:List UInt8}(h:Rd F H bd 1 v xs){w:World}(A:At w0 H w):(Extern.Bytes.bytesOf v).run P w= .ok ⟨xs.toArray⟩ w:=by
 obtain⟨ad,cap,rfl,_,_,r⟩:=id h.ex
 cases ad with
 |none=>
  have E:xs=[]:=by
   apply k9;intro B;obtain⟨ad,aB,_⟩:=r B;cases aB
  subst E
  rfl
 |some ad=>
  have C:=h.oY fM o A
  have n:=Lib.run_loadBytesX (P:=P) w (xs.map (fun b=>(b.toNat:Int))) ad .empty (fun j x d=>by
   apply C;rw[rO];rw[List.getElem?_map]at d⊢
   cases q:xs[j]? with
   |none=>simp[q]at d
   |some y=>simp[q]at d⊢;exact d)
  rw[HE,dg]at n
  have he:(⟨ByteArray.empty.data++xs.toArray⟩:ByteArray)=⟨xs.toArray⟩:=by
   apply yD;show(#[]:Array UInt8)++xs.toArray=xs.toArray;simp
  rw[he]at n;exact n
theorem Y.compare{F aQ:Nat→Prop}{f:FuncId}{fn:Func}{args:List Operand}{j:Array TypeId}{u v:Value}{xs ys:List UInt8}(h:Rd F H bd 1 u xs)(ab:Rd aQ H bd 1 v ys)(A:T.op= .call {callee:= .value (.func f),args:=args.toArray,argTypes:=j})(r:P.funcs[f]?=some fn)
 (x:(fn.name== "runtime.NumGoroutine")=false) (ao:fn.body.isNone=true) (aB:Extern.findNext fn=none) (he:Extern.find fn=some Extern.BytealgCompare.compare) (B:iA l args=some [u,v]):Y P w0 n l H T (.int .i64 (Lib.compareBytes xs ys)):=by
 refine Y.ext A r x ao aB he B (fun w d=>?_);have aP:=Fk (P:=P) h d;have q:=Fk (P:=P) ab d;change Sem.run P (do pure (goInt (Extern.BytealgCompare.cmp (←Extern.Bytes.bytesOf u) (←Extern.Bytes.bytesOf v)))) w=_;simp only[Sem.run_bind,aP,q,Sem.run_pure,Result.andThen];rw[Lib.cmp_eq];rfl
end
end E
namespace E
section
variable {h k fG : Nat} {ks : List Nat} {aQ F : Nat → Prop} {N H V : Heap}
theorem ae.z{a:Nat}(x:ae 0 h k):ae a h k:=by unfold ae at*;omega
end
section
variable {κ β : Type} [DecidableEq κ] {aX : κ → Value} {fv : β → Value} {b m r : Nat} {l : List (κ × β)} {es : Array MapEntry} {clock : Nat} {dn : List κ} {H V : Heap}
end
section
variable {κ α : Type} {aQ : Nat → Prop} {e : TypeId} {H V : Heap} {f : α → List Value} {sz : Nat} {val : κ → Value} {eF : κ → List α} {ks : List Nat}
end
end E
namespace E
abbrev p_(ro:Option Nat):Fence:={Fence.wide with round:=ro}
structure gJ (H:Heap) (b:Nat) (r:Loop):Prop where
 at_:H[b]?=some (.loop r)
structure iq (H:Heap) (b:Nat):Prop where
 at_:H[b]?=some (.deferred (some []))
section
variable {H V : Heap} {b : Nat} {r : Loop} {ks : List Nat}
theorem gJ.lt(h:gJ H b r):b<H.size:=(Array.getElem?_eq_some_iff.1 h.at_).1
theorem gJ.up{S:Nat→Prop}(h:gJ H b r)(s:aa S H V)(d:¬S b):gJ V b r:=⟨by rw[s.same b h.lt d];exact h.at_⟩
theorem gJ.aR(h:gJ H b r)(s:al H V):gJ V b r:=h.up s (fun e=>e)
theorem gJ.aJ(h:gJ H b r)(s:aa (ay ks) H V)(d:au (b+1) ks):gJ V b r:=h.up s (fun ab=>d (b+1) ab b o o)
instance:cr (gJ H b r) H V (gJ V b r):=⟨fun s h=>h.aR s⟩
instance:ct (gJ H b r) H V (gJ V b r) (ak (b+1)):=⟨fun s h d=>h.aJ s (au.T d)⟩
theorem iq.lt(h:iq H b):b<H.size:=(Array.getElem?_eq_some_iff.1 h.at_).1
theorem iq.up{S:Nat→Prop}(h:iq H b)(s:aa S H V)(d:¬S b):iq V b:=⟨by rw[s.same b h.lt d];exact h.at_⟩
theorem iq.aR(h:iq H b)(s:al H V):iq V b:=h.up s (fun e=>e)
theorem iq.aJ(h:iq H b)(s:aa (ay ks) H V)(d:au (b+1) ks):iq V b:=h.up s (fun ab=>d (b+1) ab b o o)
instance:cr (iq H b) H V (iq V b):=⟨fun s h=>h.aR s⟩
instance:ct (iq H b) H V (iq V b) (ak (b+1)):=⟨fun s h d=>h.aJ s (au.T d)⟩
end
theorem Var.le{e:TypeId}{H:Heap}{b:Nat}{cs:List Value}(h:Var e H b cs):b+1≤H.size:=h.lt
def fa(ro:Option Nat)(P:Program)(w0:World)(ops:Array Oper)(Q:Exit→Act→World→Prop)(n:Nat)(l:cm)(rest:List Oper)(H:Heap):Prop:=
 ∀a w,Fr n l a→At w0 H w→wpListIn (p_ ro) 0 P ops Q rest a w
def sK(P:Program)(w0:World)(bb:Nat)(args:List Value)(H:Heap)(d:Value→Heap→Prop):Prop:=
 ∀w,At w0 H w→YieldAt (p_ none) 0 P bb args.toArray w (fun e j=>∃r V,e= .returned r∧At w0 V j∧d r V)
section
variable {ro : Option Nat} {P : Program} {w0 : World} {Q : Exit → Act → World → Prop} {n : Nat} {l : cm} {H : Heap} {ops : Array Oper} {rest : List Oper} {T : Oper}
theorem fa.nil(h:aT w0 Q n l H):fa ro P w0 ops Q n l [] H:=fun a w j d=>h a w j d
theorem fa.v{v:Value}{d:Nat}(hy:Y P w0 n l H T v)(x:∀c,T.op≠ .defer c)(hw:dr ops l T)(ah:T.dst=some d)(aB:Nat.blt d n=true)(h:fa ro P w0 ops Q n ((d,v)::l) rest H):fa ro P w0 ops Q n l (T::rest) H:=by
 intro a w j q;have r:=j.put aB v;rw[←ah]at r;unfold wpListIn;rw[aM (hw n a j)];refine⟨fun _ _=>trivial,?_⟩;rw[Oper.semAt_eq _ _ _ x,hy a w j q];exact h _ w r q
theorem fa.z{R:Value→Heap→Prop}{d:Nat}(E:Z P w0 n l H T R)(B:∀c,T.op≠ .defer c)(hw:dr ops l T)(ah:T.dst=some d)(aB:Nat.blt d n=true)(h:∀v V,R v V→fa ro P w0 ops Q n ((d,v)::l) rest V):fa ro P w0 ops Q n l (T::rest) H:=by
 intro a w j x;obtain⟨v,V,F,C,A,r⟩:=E a w j x;have q:=j.put aB v;rw[←ah]at q;unfold wpListIn;rw[aM (hw n a j)];refine⟨fun _ _=>trivial,?_⟩;rw[Oper.semAt_eq _ _ _ B,C];exact h v V r _ F q A
theorem fa.s{j:Heap→Prop}(E:S P w0 n l H T j)(B:∀c,T.op≠ .defer c)(hw:dr ops l T)(ah:T.dst=none)(h:∀V,j V→fa ro P w0 ops Q n l rest V):fa ro P w0 ops Q n l (T::rest) H:=by
 intro a w d x;obtain⟨V,q,C,A,r⟩:=E a w d x;unfold wpListIn;rw[aM (hw n a d)];refine⟨fun _ _=>trivial,?_⟩;rw[Oper.semAt_eq _ _ _ B,C];show wpListIn (p_ ro) 0 P ops Q rest (a.put T.dst undef) q;rw[ah];exact h V r a q d A
theorem fa.round{A:Value→Heap→Prop}{d bb:Nat}{c:Operand}{args:List Operand}{E:Array TypeId}{x:List Value}(B:T.op= .call {callee:= .value c,args:=args.toArray,argTypes:=E})
 (K:aK l c=some (.func (.yield bb) #[] #[])) (M:iA l args=some x) (hw:dr ops l T) (ah:T.dst=some d) (aB:Nat.blt d n=true) (aq:sK P w0 bb x H A)
 (h:∀v V,A v V→fa none P w0 ops Q n ((d,v)::l) rest V):fa none P w0 ops Q n l (T::rest) H:=by
 intro a w j G;obtain⟨fn,tmps,assign,body,hy,L⟩:=aq w G
 have he:(execOp a.eval T).run P w= .ok (.round bb fn tmps assign body) w:=by
  have ab:=j.mC M;have O:(args.toArray.map a.eval)=x.toArray:=by rw[qC,ab]
  simp[execOp,B,resolve,Deferred.ofValue,j.eval K,invoke,ab,hy]
 unfold wpListIn;rw[aM (hw n a j)];refine⟨fun _ _=>trivial,?_⟩;rw[Oper.semAt_eq _ _ _ (by intro c e;rw[B]at e;cases e),he,Oper.uponIn_round];refine⟨fun q=>(by cases q),?_⟩;refine L.mono ?_;rintro e N ⟨r,V,rfl,I,F⟩;have C:=j.put aB r;rw[←ah]at C;exact h r V F _ N C I
theorem I.zO{id:Nat}{d:List Oper}(h:fa none P w0 d.toArray Q n l d H):I P w0 Q n l (.region id d.toArray false) H:=
 fun a w q j=>wpIn_wide.1 (wpIn_region_lit (h a w q j))
theorem fa.mono{j:Exit→Act→World→Prop}(x:∀e a w,Q e a w→j e a w){id:Nat}{d:List Oper}(h:fa ro P w0 d.toArray Q n l d H){a:Act}{w:World}(r:Fr n l a)(q:At w0 H w):(Code.region id d.toArray false).wpIn (p_ ro) 0 P j a w:=
 Code.wpIn_mono x (wpIn_region_lit (h a w r q))
theorem sK.of{r:Loop}{x:Value}{p bb af ag ai:Nat}{E bn:List Oper}{I:Value→Heap→Prop}(V:gJ H bb r)(B:r.state= .ready)(L:r.pending=none)(M:r.params= #[p])(N:r.assign= .region af E.toArray false)(O:r.body= .block ag (.region ai bn.toArray false))
 (S:Fr n l {tmps:=r.tmps.setIfInBounds p x,defers:=[]})
 (h:fa (some bb) P w0 E.toArray (fun e bB aG=>e= .normal∧∃C d,Fr n C bB∧At w0 d aG∧gJ d bb r∧
  fa (some bb) P w0 bn.toArray (fun e a3 G=>e= .normal∧∃j,At w0 j G∧gJ j bb {r with state:= .busy}∧I (.bool true) (j.setIfInBounds bb (.loop r))) n C bn (d.setIfInBounds bb (.loop {r with state:= .busy}))) n l E H):
 sK P w0 bb [x] H I:=by
 intro w K;have Y:w.heap[bb]?=some (.loop r):=by rw[K.heap];exact V.at_
 refine⟨r.fn,r.tmps.setIfInBounds p x,r.assign,r.body,?_,?_⟩
 ·have:=run_yield (P:=P) (args:= #[x]) Y (by rw[M];rfl)
  rw[M]at this
  simpa using this
 ·refine roundIn_of_wpIn (F:=p_ none) trivial ?_
  rw[N,O];refine fa.mono (ro:=some bb) ?_ h S K;rintro e bB aG ⟨rfl,C,d,U,q,W,ao⟩;have Z:aG.heap[bb]?=some (.loop r):=by rw[q.heap];exact W.at_
  refine⟨_,run_beginRound (P:=P) Z B,?_⟩
  have R:At w0 (d.setIfInBounds bb (.loop {r with state:= .busy})) (aG.putObj bb (.loop {r with state:= .busy})):=by
   unfold World.putObj;rw[q.heap];exact q.set
  refine wpIn_block ?_;refine fa.mono (ro:=some bb) ?_ ao U R;rintro e a3 G ⟨rfl,j,A,X,Q⟩;have aa:G.heap[bb]?=some (.loop {r with state:= .busy}):=by rw[A.heap];exact X.at_
  refine⟨_,_,run_endRound (P:=P) none aa,.bool true,j.setIfInBounds bb (.loop r),o,?_,Q⟩
  have ae:({({r with state:= .busy}:Loop)with state:=if(none:Option Code).isNone then .ready else .done,pending:=none}:Loop)=r:=by
   cases r;simp only at B L;subst B L;rfl
  rw[ae];unfold World.putObj;rw[A.heap];exact A.set
end
end E
namespace E
section
variable {F : Nat → Prop} {a k a_ h ab m : Nat} {K PV bF pb ks : List Nat}
def o_(K ks:List Nat):Prop:=∀k∈K,au k ks
def bk(K:List Nat)(h:Nat)(bF:List Nat):Prop:=∀k∈bF,k=0∨k∈K∨h<k
def sF(K:List Nat)(h:Nat):Prop:=∀k∈K,k≤h
theorem au.lT:au 0 K:=fun k _=>ak.z2
theorem au.app(d:au a K)(e:au a ks):au a (K++ks):=fun k j=>(gG.1 j).elim (d k) (e k)
theorem aS.app(d:aS F K)(e:aS F ks):aS F (K++ks):=fun k j=>(gG.1 j).elim (d k) (e k)
theorem o_.nil:o_ K []:=fun k _=>au.nil
theorem o_.cons(d:au m K)(e:o_ K ks):o_ K (m::ks):=fun k j=>au.cons (d k j).symm (e k j)
theorem ar.app{k8:List Nat}(d:ar ks h K)(e:ar ks h k8):ar ks h (K++k8):=fun k j=>(gG.1 j).elim (d k) (e k)
theorem au.hU(b:sF K h):au (h+1) K:=fun k d=>(ak.new (b k d)).symm
theorem au.ej(d:au a K)(q:a≤h)(x:bk K h bF):au a bF:=fun k j=>by
 rcases x k j with e|e|e
 ·subst e;exact ak.z
 ·exact d k e
 ·intro c n ab;omega
theorem aS.ej(d:aS F K)(ao:bp F h)(x:bk K h bF):aS F bF:=fun k n b j he=>by
 have:=ao b j;rcases x k n with e|e|e
 ·omega
 ·exact d k e b j he
 ·omega
theorem au.qh(d:au k K)(b:sF K h)(x:ae k h a_):au a_ K:=fun j n=>by
 rcases x with e|e|e
 ·subst e;exact ak.z2
 ·subst e;exact d j n
 ·have:=b j n;intro c q ab;omega
theorem bk.refl(K:List Nat)(h:Nat):bk K h K:=fun k d=> .inr (.inl d)
theorem bk.O(x:bk K h bF)(y:bk bF ab pb)(bz:h≤ab):bk K h pb:=fun k d=>by
 rcases y k d with e|e|e
 ·exact .inl e
 ·exact x k e
 ·exact .inr (.inr J)
theorem bk.cons(d:ae 0 h a)(x:bk K h bF):bk K h (a::bF):=fun k j=>by
 rcases dU.1 j with e|e
 ·subst e;unfold ae at d;omega
 ·exact x k e
def hO(K:List Nat)(k:Nat):Prop:=∀c,c+1=k→c+1∈K
theorem hO.of(h:k∈K):hO K k:=fun c e=>by rw[e];exact h
theorem hO.or(h:hO K k):k=0∨k∈K:=by
 cases k with
 |zero=>exact .inl o
 |succ c=>exact .inr (h c o)
theorem au.at(d:au a K)(m:hO K k):ak a k:=by
 rcases m.or with e|e
 ·subst e;exact ak.z
 ·exact d k e
theorem aS.at(d:aS F K)(m:hO K k):ax F k:=by
 rcases m.or with e|e
 ·subst e;exact ax.z
 ·exact d k e
theorem ar.at(d:ar ks h K)(m:hO K k):an ks h k:=by
 rcases m.or with e|e
 ·subst e;exact an.z
 ·exact d k e
theorem bk.app{kg:Nat}(x:bk K h bF)(hm:hO bF kg)(y:ae kg ab a)(bz:h≤ab):bk K h (a::bF):=fun k j=>by
 rcases dU.1 j with e|e
 ·subst e
  rcases y with y|y|y
  ·exact .inl y
  ·rcases hm.or with d|d
   ·exact .inl (y.trans d)
   ·rw[y];exact x kg d
  ·exact .inr (.inr J)
 ·exact x k e
theorem bk.Js(x:bk K h bF)(e:a=0∨a∈bF∨h<a):bk K h (a::bF):=fun k d=>by
 rcases dU.1 d with q|q
 ·subst q
  rcases e with e|e|e
  ·exact .inl e
  ·exact x k e
  ·exact .inr (.inr e)
 ·exact x k q
theorem au.tK(b:sF K h)(x:ae 0 h a):au a K:=fun k d=>by
 have:=b k d;intro c j ab;unfold ae at x;omega
theorem ar.cO(x:bk K h bF)(j:∀k∈K,k∈ks):ar ks h bF:=fun k n b ao e=>by
 rcases x k n with d|d|d
 ·omega
 ·unfold ay;rw[e];exact j k d
 ·omega
theorem ar.n3(x:bk [] h bF):ar ks h bF:=fun k j b ao e=>by
 rcases x k j with d|d|d
 ·omega
 ·cases d
 ·omega
theorem aS.jV{n:Nat}(j:∀b,F b→n≤b)(q:sF K n):aS F K:=fun k r b d e=>by have:=j b d;have:=q k r;omega
end
section
open Go.MapKept
variable {P : Program} {w0 : World} {n : Nat} {l : cm} {H : Heap} {T : Oper} {κ β : Type} [DecidableEq κ] {aX : κ → Value} {fv : β → Value} {b : Nat} {m : List (κ × β)} {d : TypeDesc}
theorem Z.u9{t u gH R:TypeId}{x i:Operand}{k:κ}(h:cW H aX fv b m)(C:ou d aX)(O:T.op= .call {callee:= .builtin .delete,args:= #[x,i],argTypes:= #[t,u]})(hm:∀w,(underlying t).run P w= .ok (.map gH R) w)(E:P.underlying gH=some d)
 (Q:aK l x=some (.map (some b))) (N:aK l i=some (aX k)):Z P w0 n l H T (fun r V=>r= .tuple #[]∧cW V aX fv b (e4 m k)∧aa (fun c=>c=b) H V):=by
 intro ac w B q;obtain⟨r,es,clock,ae,ab,L,F,G⟩:=h.fX.ex;obtain rfl:=ab;have A:w.heap[r]?=some (.map es clock):=by rw[q.heap];exact L
 have W:=(Array.getElem?_eq_some_iff.1 L).1;have M:∀I,(H.setIfInBounds r I)[r]?=some I:=fun I=>by simp[W]
 rcases vl (k:=k) C es.toList m 0 G with⟨bh,bW,cw⟩|⟨j,K,Y,bh,bW,cw,ep,gT⟩
 ·refine⟨_,H.setIfInBounds r (.map es clock),{w with heap:=H.setIfInBounds r (.map es clock)},?_,q.set,rfl,⟨⟨r,_,_,rfl,rfl,M _,F,?_⟩⟩,lb _⟩
  ·simp[execOp,O,B.eval Q,B.eval N,resolve,invoke,builtin,Builtin.delete_,hm,MapKept.run_getObj_map A,MapKept.run_checkKey E (C.key k),MapKept.run_findKey E bW,MapKept.run_setObj_map _ A,q.heap]
  ·rw[G]
   congr 1;unfold e4;exact(tm.2 (fun p X=>by simpa using D_ bh p X)).symm
 ·have S:es[j]?=some K:=by simpa using cw
  refine⟨_,H.setIfInBounds r (.map (es.eraseIdxIfInBounds j) clock),{w with heap:=H.setIfInBounds r (.map (es.eraseIdxIfInBounds j) clock)},?_,q.set,rfl,⟨⟨r,_,_,rfl,rfl,M _,stamped_erase F _,?_⟩⟩,lb _⟩
  ·simp[execOp,O,B.eval Q,B.eval N,resolve,invoke,builtin,Builtin.delete_,hm,MapKept.run_getObj_map A,MapKept.run_checkKey E (C.key k),MapKept.run_findKey E bW,MapKept.run_setObj_map _ A,q.heap]
  ·have U:j<es.size:=(Array.getElem?_eq_some_iff.1 S).1
   rw[Array.eraseIdxIfInBounds,dif_pos U,Array.toList_eraseIdx];exact CU C.inj es.toList m j K G F.2.2 cw ep
end
def AE(K:List Nat)(k:Nat):Prop:=au k K
theorem iv{K:List Nat}{k:Nat}(d:au k K):AE K k:=d
end E
namespace ho
theorem aE.still{P:Program}{w0:World}{f:FuncId}{args:Array Value}{H:Heap}{v:Value}(h:∀w,At w0 H w→Calls P f args w fun e j=>e= .returned v∧j=w):aE P w0 f args H (fun r n=>r=v∧al H n):=
 fun w d=>(h w d).mono (fun e j ⟨he,hw⟩=>⟨v,H,he,by rw[hw];exact d,o,al.refl _⟩)
abbrev fj(m:Int)(H:Heap):Prop:=lr (fun b=>b=0) H ⟨0,0,none⟩ [.int .i64 m]
theorem fj.cell{m:Int}{H:Heap}{w0 w:World}(h:fj m H)(d:At w0 H w):w.cell? ⟨0,0,none⟩=some (.int .i64 m):=by
 have:=h.W.cells 0 (.int .i64 m) o;rw[d.cell];exact this
theorem x_(s sub:List UInt8)(bC:Int)(w0:World)(N:Heap)(aL:fj bC N)(ag:s.length<4294967281):aE Tryz.prog w0 166 #[aN s,aN sub] N (fun r d=>r= .bool (Lib.contains s sub)∧al N d):=
 aE.still (fun w j=>by
  have h:Calls Tryz.prog 166 #[aN s,aN sub] w fun e n=>e= .returned (.bool (Lib.contains s sub))∧n=w:=Any.strings_Contains Tryz.lays144 ⟨s.toArray⟩ ⟨sub.toArray⟩ bC w (by simpa[ByteArray.size]using ag) (aL.cell j);exact h)
theorem l5(s:List UInt8)(c:UInt8)(w0:World)(N:Heap):aE Tryz.prog w0 167 #[aN s,.int .u8 c.toNat] N (fun r d=>r= .int .i64 (Lib.indexByte s c)∧al N d):=
 aE.still (fun w n=>by
  have h:Calls Tryz.prog 167 #[aN s,.int .u8 c.toNat] w fun e j=>e= .returned (.int .i64 (Lib.indexByte s ((c.toNat:Int)).toNat.toUInt8))∧j=w:=Any.strings_IndexByte Tryz.lays137 ⟨s.toArray⟩ c.toNat w;have e:((c.toNat:Int)).toNat.toUInt8=c:=by simp
  rw[e]at h;exact h)
def sa(p:List UInt8):List UInt8:=(p.reverse.takeWhile (fun c=>c≠47)).reverse
theorem DL{p:List UInt8}{j:Nat}(B:j≤p.length)(x:∀q (h:q<p.length),j≤q→p[q]≠47)(ab:∀h:0<j,p[j-1]' J=47):sa p=p.drop j:=by
 have e:p.reverse=(p.drop j).reverse++(p.take j).reverse:=by rw[←List.reverse_append,hY]
 have ah:∀c∈(p.drop j).reverse,(decide (c≠47))=true:=by
  intro c aq;rw[List.mem_reverse,yP]at aq;obtain⟨q,A,rfl⟩:=aq;rw[List.getElem_drop]
  simpa using x (j+q) (by simpa using(by rw[ia]at A;omega)) J
 unfold sa;rw[e,List.takeWhile_append_of_pos ah];rcases qE j with d|d
 ·subst d;simp
 ·have r:(p.take j).reverse=47::(p.take (j-1)).reverse:=by
   have:p.take j=p.take (j-1)++[47]:=by
    have n:=eP (l:=p) (i:=j-1) J;rw[show j-1+1=j by omega,ab d]at n;exact n
   rw[this];simp
  rw[r,List.takeWhile_cons];simp
theorem aE.OM{P:Program}{w0:World}{f:FuncId}{args:Array Value}{H:Heap}{v:Value}(h:∀w,At w0 H w→Calls P f args w fun e j=>e= .returned v∧(j=w∨j=w.drew)):aE P w0 f args H (fun r n=>r=v∧al H n):=
 fun w d=>(h w d).mono (fun e j ⟨he,hw⟩=>by
  rcases hw with rfl|rfl
  ·exact⟨v,H,he,d,o,al.refl _⟩
  ·exact⟨v,H,he,d.drew,o,al.refl _⟩)
theorem O2(s:List UInt8)(w0:World)(N:Heap)(ag:s.length≤9223372036854775807):aE Tryz.prog w0 165 #[aN s,aN [47]] N (fun r j=>r=aN (Lib.trimB s 47)∧al N j):=
 aE.OM (fun w n=>by
  have h:Calls Tryz.prog 165 #[aN s,aN [47]] w fun e d=>e= .returned (.string ⟨(Lib.trimB (⟨s.toArray⟩:ByteArray).data.toList 47).toArray⟩)∧(d=w∨d=w.drew):=Any.strings_Trim_one Tryz.lays160 ⟨s.toArray⟩ 47 bc w (by simpa[ByteArray.size]using ag);exact h)
def dd:List UInt8→Bool
 |[]=>false
 |[_]=>false
 |a::b::l=>(a==47&&b==47)||dd (b::l)
theorem Cy:∀s:List UInt8,(0≤Lib.index s [47,47])↔dd s=true
 |[]=>by simp[Lib.index,dd]
 |[a]=>by simp[Lib.index,dd,List.isPrefixOf]
 |a::b::l=>by
  have ih:=Cy (b::l);have n:=Lib.index_ge (b::l) [47,47];rw[Lib.index];by_cases h:a=47∧b=47
  ·obtain⟨rfl,rfl⟩:=h
   simp[List.isPrefixOf,dd]
  ·have j:([47,47]:List UInt8).isPrefixOf (a::b::l)=false:=by
    simp only[List.isPrefixOf,Bool.and_true,vK,beq_eq_false_iff_ne];by_cases d:a=47
    ·exact .inr (fun e=>h ⟨d,e.symm⟩)
    ·exact .inl (fun e=>d e.symm)
   have ah:dd (a::b::l)=dd (b::l):=by
    rw[dd]
    have:(a==47&&b==47)=false:=by
     rw[vK,beq_eq_false_iff_ne,beq_eq_false_iff_ne];by_cases d:a=47
     ·exact .inr (fun e=>h ⟨d,e⟩)
     ·exact .inl d
    rw[this,yR]
   rw[j,ah,←ih];simp only[lF,if_false];by_cases hm:Lib.index (b::l) [47,47]= -1
   ·simp[hm]
   ·simp[hm];omega
theorem ye:∀s:List UInt8,dd s=true↔∃i,i+1<s.length∧s.getD i 0=47∧s.getD (i+1) 0=47
 |[]=>by simp[dd]
 |[a]=>by simp[dd]
 |a::b::l=>by
  rw[dd,vv,ye (b::l),nW,beq_iff_eq,beq_iff_eq];constructor
  ·rintro(⟨d,ab⟩|⟨i,d,ab,j⟩)
   ·exact⟨0,by simp,by simpa using d,by simpa using ab⟩
   ·exact⟨i+1,by simp at d⊢;omega,by simpa using ab,by simpa using j⟩
  ·rintro⟨i,d,ab,j⟩
   cases i with
   |zero=>exact .inl ⟨by simpa using ab,by simpa using j⟩
   |succ i=>exact .inr ⟨i,by simp at d⊢;omega,by simpa using ab,by simpa using j⟩
theorem FI{p:List UInt8}(q:1≤p.length):zY p=true↔p.getD 0 0≠47∧p.getD (p.length-1) 0≠47∧dd p=false:=by
 unfold zY;rw[rX];simp only[List.mem_range,tp,vK,beq_eq_false_iff_ne,yS];constructor
 ·intro h
  refine⟨?_,?_,?_⟩
  ·rcases h 0 J with h|h
   ·exact h
   ·exact absurd o h.1.1
  ·rcases h (p.length-1) J with h|h
   ·exact h
   ·exact absurd o h.1.2
  ·cases ah:dd p with
   |false=>rfl
   |true=>
    obtain⟨i,j,ab,n⟩:=(ye p).1 ah;rcases h (i+1) j with h|h
    ·exact absurd n h
    ·exact absurd ab (by simpa using h.2)
 ·rintro⟨j,ab,n⟩ i r
  by_cases e:p.getD i 0=47
  ·refine .inr ⟨⟨fun d=>?_,fun d=>?_⟩,fun d=>?_⟩
   ·subst d;exact j e
   ·subst d;exact ab e
   ·have:dd p=true:=(ye p).2 ⟨i-1,by
     rcases qE i with h|h
     ·subst h;exact absurd e j
     ·omega,d,by
     rcases qE i with h|h
     ·subst h;exact absurd e j
     ·rw[show i-1+1=i by omega];exact e⟩
    rw[n]at this;cases this
  ·exact .inl e
theorem Gb{p:List UInt8}(j:1≤p.length):Lib.trimB p 47=p↔p.getD 0 0≠47∧p.getD (p.length-1) 0≠47:=by
 have B:∀q:List UInt8,(Lib.trimLeftB q 47).length≤q.length:=fun q=>(vL _).length_le;have E:∀q:List UInt8,(Lib.trimRightB q 47).length≤q.length:=fun q=>by unfold Lib.trimRightB;rw[vM];have:=(vL (l:=q.reverse) (fun x:UInt8=>x==47)).length_le;rwa[vM]at this
 have d:∀q:List UInt8,1≤q.length→(Lib.trimLeftB q 47=q↔q.getD 0 0≠47):=by
  intro q C
  cases q with
  |nil=>simp at C
  |cons a l=>
   unfold Lib.trimLeftB;rw[List.dropWhile_cons];by_cases r:a=47
   ·have:(List.dropWhile (fun x:UInt8=>x==47) l).length≤l.length:=(vL _).length_le
    simp only[r,beq_self_eq_true,if_true,vN,ne_eq,not_true,iff_false];intro e;rw[e]at this;simp only[fx]at this;omega
   ·simp[r]
 have A:Lib.trimRightB p 47=p↔p.getD (p.length-1) 0≠47:=by
  have h:=d p.reverse (by rw[vM];omega)
  have aP:p.reverse.getD 0 0=p.getD (p.length-1) 0:=by
   simp[List.getD,List.getElem?_reverse (show 0<p.length by omega)]
  rw[←aP,←h];unfold Lib.trimRightB Lib.trimLeftB;constructor
  ·intro h;have:=aI List.reverse h;rwa[tq]at this
  ·intro h;rw[h,tq]
 unfold Lib.trimB;constructor
 ·intro h
  have e:Lib.trimRightB p 47=p:=by
   refine(List.IsPrefix.eq_of_length_le ?_ ?_)
   ·unfold Lib.trimRightB
    rw[←List.reverse_suffix,tq];exact vL _
   ·have n:=aI List.length h
    have ab:=B (Lib.trimRightB p 47);omega
  rw[e]at h;exact⟨(d p j).1 h,A.1 e⟩
 ·rintro⟨n,ab⟩
  rw[A.2 ab];exact(d p j).2 n
theorem zt(p:List UInt8):cH p=true↔p≠[]∧p.length≤100∧Lib.trimB p 47=p∧Lib.contains p [47,47]=false∧∀i (h:i<p.length),qU p[i]=true:=by
 have aq:Lib.contains p [47,47]=dd p:=by
  unfold Lib.contains;rw[vO,decide_eq_true_iff];exact Cy p
 unfold cH;simp only[nW,km,rX];rw[aq];constructor
 ·rintro⟨⟨⟨d,ab⟩,q⟩,r⟩
  have j:=(FI d).1 r;exact⟨fun e=>by rw[e]at d;simp at d,ab,(Gb d).2 ⟨j.1,j.2.1⟩,j.2.2,fun i h=>q _ (cU h)⟩
 ·rintro⟨d,ab,q,r,j⟩
  have n:1≤p.length:=by cases p with
   |nil=>exact absurd o d
   |cons a l=>simp
  have A:=(Gb n).1 q;refine⟨⟨⟨n,ab⟩,fun x C=>?_⟩,(FI n).2 ⟨A.1,A.2,r⟩⟩;obtain⟨i,B,rfl⟩:=yP.1 C;exact j i B
theorem pO{p:List UInt8}(h:¬(p≠[]∧p.length≤100∧Lib.trimB p 47=p∧Lib.contains p [47,47]=false∧∀i (h:i<p.length),qU p[i]=true)):cH p=false:=by
 cases aB:cH p with
 |false=>rfl
 |true=>exact absurd ((zt p).1 aB) h
theorem nq(c:UInt8):qU c=true↔(97≤c.toNat∧c.toNat≤122)∨(48≤c.toNat∧c.toNat≤57)∨0≤Lib.indexByte [46,95,45,47] c:=by
 have h:∀n:Fin 256,(qU (UInt8.ofNat n.val)=decide ((97≤n.val∧n.val≤122)∨(48≤n.val∧n.val≤57)∨0≤Lib.indexByte [46,95,45,47] (UInt8.ofNat n.val))):=by decide+kernel
 have:=h ⟨c.toNat,c.toNat_lt⟩;simp only[UInt8.ofNat_toNat]at this;rw[this,decide_eq_true_iff]
theorem Kz{s:List UInt8}{j:Nat}(n:j≤s.length)(h:sa s=s.drop j):qy s=s.take (j-1):=by
 unfold qy;have d:=aI List.length h;unfold sa at d;rw[vM,ia]at d;rw[d];congr 1;omega
theorem Ld(s:List UInt8)(w0:World)(N:Heap)
 (ai:s.length≤9223372036854775807):
 aE Tryz.prog w0 255 #[aN s,.int .u8 (47:UInt8).toNat] N (fun r F=>∃j:Nat,r= .int .i64 ((j:Int)-1)∧j≤s.length∧sa s=s.drop j∧al N F):=by
 refine aE.aP [aN s,.int .u8 (47:UInt8).toNat] Tryz.func255 ?_;intro af E;have d:al N N:=aa.refl _ _;refine I.O (fun M=>?_);refine G.aj ?_;refine M (I.t2 (fun O P=>I.O (fun Q=>?_)));refine G.af ?_;refine G.v1 (hb e0) ?_;refine G.v1 gq ?_;refine G.aj ?_;refine Q (I.aC (fun _ R az=>?_))
 refine I.bb (fun(j:Nat)=>[(0,aN s),(1,.int .u8 (47:UInt8).toNat),(5,.int .i64 ((j:Int)-1))])
  (fun(j:Nat) (H:Heap)=>(j≤s.length)∧(∀q (h:q<s.length),j≤q→s[q]≠47)∧al N H)
  (fun(j:Nat)=>j) s.length ⟨o,o,o,trivial⟩ ?_ ?_
 ·
  exact⟨J,(fun q h ab=>absurd ab J),aa.refl _ _⟩
 intro j ag am ae S A;obtain⟨C,n,x⟩:=am;obtain⟨d,_⟩:=b6 x d;refine I.t2 (fun ap U=>I.O (fun V=>?_));refine G.af ?_;refine G.v1 eT (G.nil (V ?_));refine a8 (fun W=>?_) (fun W=>?_)
 ·
  refine I.skip (ap (I.t2 (fun a7 X=>I.aC (fun Y _ Z=>I.O (fun K=>?_)))));refine G.av 2 ?_;refine G.v1 (lS (j-1) e0) ?_;refine G.af ?_;refine G.v1 cC (G.nil (K ?_));refine a8 (fun ac=>?_) (fun ac=>?_)
  ·
   refine I.O (fun ad=>?_);refine G.aZ 2 ?_;refine ad ?_;refine I.ret (Z (X (A (az (P (E ?_))))));exact⟨j,o,J,DL C n (fun h=>by apply vC.1;have:=ac;simp at this⊢;omega),d⟩
  ·
   refine I.skip (Y (a7 (I.region ?_)));refine G.af ?_;refine G.v1 gq ?_;refine G.aj ?_;refine aT.sub (S (j-1) _ ?_ ?_) ⟨o,(aF J),(aF J),trivial⟩
   ·exact⟨J,(fun q h ab=>by rcases rW q j with B|B;(obtain rfl:q=j-1:=by omega);exact(fun e=>ac (by first|(rw[e];done)|(rw[e];rfl)));exact n q h B),x⟩
   ·first|omega|(simp only;omega)|(simp;omega)
 ·
  refine I.exit (U (A (R ?_)));refine O (I.O (fun L=>?_));refine G.aj ?_;refine L ?_;refine I.ret (E ?_);obtain rfl:j=0:=by omega
  exact⟨0,o,J,DL C n (fun h=>absurd h (Nat.lt_irrefl _)),d⟩
theorem Lc(s:List UInt8)(w0:World)(N:Heap)
 (B:s.length≤9223372036854775807):
 aE Tryz.prog w0 223 #[aN s,.int .u8 (47:UInt8).toNat] N (fun r n=>∃j:Nat,r= .int .i64 ((j:Int)-1)∧j≤s.length∧sa s=s.drop j∧al N n):=by
 refine aE.aP [aN s,.int .u8 (47:UInt8).toNat] Tryz.func223 ?_;intro K E;have d:al N N:=aa.refl _ _;refine I.O (fun q=>?_);refine G.aj ?_;refine q (I.O (fun x=>?_));refine G.av 2 ?_;refine aW Ir (Ld s w0 _ B) ?_;rintro L H ⟨F,rfl,A,C,ac⟩;have d:=d.O ac;refine G.aj ?_;refine x ?_;refine I.ret (E ?_);exact⟨F,o,A,C,d⟩
theorem qQ(bC:Int)(l:List UInt8)(w0:World)(N:Heap)
 (aL:fj bC N)(bq:bp (fun b=>b=0) N.size)(bw:l.length≤4294967280):
 aE Tryz.prog w0 88 #[aN l] N (fun r ay=>r= .bool (cH l)∧al N ay):=by
 refine aE.aP [aN l] Tryz.func88 ?_;intro bj B;have n:al N N:=aa.refl _ _;refine I.O (fun aR=>?_);refine G.aj ?_;refine aR (I.t2 (fun aS V=>I.O (fun W=>?_)));refine G.af ?_;refine G.v1 (Y.oc o o o) ?_;refine G.af ?_;refine G.bL (d:=7) o (fun g7=>?_) (fun g7=>?_)
 ·
  refine G.av 14 ?_;refine G.nil (W ?_);refine I.kc o ?_;refine I.O (fun aU=>?_);refine G.aj ?_;refine aU ?_;refine I.ret (V (B ?_));exact⟨aI Value.bool (pO (fun h=>by obtain⟨F,ab,K,L,M⟩:=h;first|exact F g7|omega|exact ap K|(rw[L]at A;cases A))).symm,n⟩
 ·
  refine G.b4 ?_;refine G.aG (hb e0) ?_;refine G.aG fA ?_;refine G.av 2 ?_;refine G.bL (d:=12) o (fun aV=>?_) (fun aV=>?_)
  ·
   refine G.av 9 ?_;refine G.nil (W ?_);refine I.kc o ?_;refine I.O (fun aW=>?_);refine G.aj ?_;refine aW ?_;refine I.ret (V (B ?_));exact⟨aI Value.bool (pO (fun h=>by obtain⟨F,ab,K,L,M⟩:=h;first|exact F g7|omega|exact ap K|(rw[L]at A;cases A))).symm,n⟩
  ·
   refine G.b4 ?_;refine G.call o H3 o bR o o (O2 l w0 _ J) ?_;rintro a5 bk ⟨rfl,a7⟩;obtain⟨aL,n,_⟩:=bO a7 aL n;refine G.b4 ?_;refine G.aG (Y.lO o o o) ?_;refine G.av 2 ?_;refine G.bL (d:=18) o (fun ap=>?_) (fun ap=>?_)
   ·
    refine G.av 3 ?_;refine G.nil (W ?_);refine I.kc o ?_;refine I.O (fun aX=>?_);refine G.aj ?_;refine aX ?_;refine I.ret (V (B ?_));exact⟨aI Value.bool (pO (fun h=>by obtain⟨F,ab,K,L,M⟩:=h;first|exact F g7|omega|exact ap K|(rw[L]at A;cases A))).symm,n⟩
   ·
    refine G.b4 ?_;refine G.call o BP o bR o o (x_ l [47,47] bC w0 _ aL J) ?_;rintro bl bm ⟨rfl,bb⟩;obtain⟨n,_⟩:=b6 bb n;refine G.eh ?_;refine G.nil (W ?_);refine dm (fun A=>?_) (fun A=>?_)
    ·
     refine I.O (fun aZ=>?_);refine G.aj ?_;refine aZ ?_;refine I.ret (V (B ?_));exact⟨aI Value.bool (pO (fun h=>by obtain⟨F,ab,K,L,M⟩:=h;first|exact F g7|omega|exact ap K|(rw[L]at A;cases A))).symm,n⟩
    ·
     refine I.skip (aS (I.t2 (fun a6 X=>I.O (fun a_=>?_))));refine G.af ?_;refine G.aU (Z.Af o Tryz.underlying9 Tryz.underlying57 Tryz.underlying5 o J) ?_;rintro av a0 ⟨P,bc,bn⟩;obtain⟨n,_⟩:=b6 bc n;refine G.v1 (bu P.rd dV) ?_;refine G.af (G.nil (a_ ?_));refine I.aC (fun _ bd Q=>?_)
     refine I.bb (fun(i:Nat)=>[(23,av),(24,.int .i64 l.length),(25,.int .i64 i)])
      (fun(i:Nat) (H:Heap)=>(i≤l.length)∧(∀q (h:q<l.length),q<i→qU l[q]=true)∧al a0 H)
      (fun(i:Nat)=>l.length-i) 0 ⟨o,o,o,trivial⟩ ?_ ?_
     ·
      exact⟨J,(fun q h ab=>absurd ab J),aa.refl _ _⟩
     intro i an bB a9 aB O;obtain⟨bt,ax,R⟩:=bB;obtain⟨P,n,_⟩:=bO R P n;refine I.O (fun aC=>?_);refine G.v1 bZ (G.nil (aC ?_));refine I.t2 (fun aD aG=>?_);refine a8 (fun a2=>?_) (fun a2=>?_)
     ·
      have ae:i<l.length:=by omega
      refine I.skip (aD ?_)
      refine I.bQ (fun(_:Unit)=>[(23,av),(24,.int .i64 l.length),(25,.int .i64 i)])
       (fun(_:Unit) (H:Heap)=>(qU l[i]=true)∧al an H) (fun _ C S=>?_) ?_
      ·
       have x:al an an:=aa.refl _ _;refine I.aC (fun ac _ U=>I.O (fun aH=>?_));refine G.v1 (mo P i dV dK) ?_;refine G.v1 (bf (P.W (j:=i) ic) fE) ?_;refine G.aj ?_;refine aH (I.O (fun ad=>?_));refine G.af ?_;refine G.v1 eT ?_;refine G.af ?_;refine G.bL (d:=31) o (fun a3=>?_) (fun a3=>?_)
       ·
        refine G.b4 ?_;refine G.aG fK ?_;refine G.av 2 ?_;refine G.bL (d:=35) o (fun a4=>?_) (fun a4=>?_)
        ·
         refine G.av 3 ?_;refine il ?_;refine il ?_;refine G.av 7 ?_;refine G.v1 fB (G.nil (ad ?_));refine dZ ?_;refine I.skip (ac ?_);refine aT.sub (C () _ ?_) ⟨o,(aF J),(aF J),trivial⟩;exact⟨(nq _).2 (by simp at*;omega),x⟩
        ·
         refine G.b4 ?_;refine G.aG eT ?_;refine G.b4 ?_;refine G.bL (d:=38) o (fun af=>?_) (fun af=>?_)
         ·
          refine G.b4 ?_;refine G.aG fK ?_;refine G.aG ga ?_;refine G.av 2 ?_;refine G.bL (d:=43) o (fun ag=>?_) (fun ag=>?_)
          ·
           refine G.av 4 ?_;refine G.v1 fB (G.nil (ad ?_));refine dZ ?_;refine I.skip (ac ?_);refine aT.sub (C () _ ?_) ⟨o,(aF J),(aF J),trivial⟩;exact⟨(nq _).2 (by simp at*;omega),x⟩
          ·
           refine G.b4 ?_;refine G.call o mB o bR o o (l5 [46,95,45,47] l[i] w0 _) ?_;rintro ai ak ⟨rfl,E⟩;obtain⟨n,x,_⟩:=bO E n x;refine G.aG eT ?_;refine G.eh ?_;refine G.v1 (Y.kp o o) (G.nil (ad ?_));refine a8 (fun am=>?_) (fun am=>?_)
           ·
            refine I.O (fun aJ=>?_);refine G.aj ?_;refine aJ ?_;refine I.ret (U (S (O (Q (X (B ?_))))));exact⟨aI Value.bool (pO (fun h=>by have ar:=(nq _).1 (h.2.2.2.2 i ae);simp at*;omega)).symm,n⟩
           ·
            refine I.skip (ac ?_);refine aT.sub (C () _ ?_) ⟨o,(aF J),(aF J),trivial⟩;exact⟨(nq _).2 (by simp at*;omega),x⟩
         ·
          refine G.av 2 ?_;refine G.aG fT ?_;refine G.av 3 ?_;refine G.call o mB o bR o o (l5 [46,95,45,47] l[i] w0 _) ?_;rintro ai ak ⟨rfl,E⟩;obtain⟨n,x,_⟩:=bO E n x;refine G.aG eT ?_;refine G.eh ?_;refine G.v1 (Y.kp o o) (G.nil (ad ?_));refine a8 (fun am=>?_) (fun am=>?_)
          ·
           refine I.O (fun aK=>?_);refine G.aj ?_;refine aK ?_;refine I.ret (U (S (O (Q (X (B ?_))))));exact⟨aI Value.bool (pO (fun h=>by have ar:=(nq _).1 (h.2.2.2.2 i ae);simp at*;omega)).symm,n⟩
          ·
           refine I.skip (ac ?_);refine aT.sub (C () _ ?_) ⟨o,(aF J),(aF J),trivial⟩;exact⟨(nq _).2 (by simp at*;omega),x⟩
       ·
        refine G.av 5 ?_;refine G.aG eT ?_;refine G.b4 ?_;refine G.bL (d:=38) o (fun af=>?_) (fun af=>?_)
        ·
         refine G.b4 ?_;refine G.aG fK ?_;refine G.aG ga ?_;refine G.av 2 ?_;refine G.bL (d:=43) o (fun ag=>?_) (fun ag=>?_)
         ·
          refine G.av 4 ?_;refine G.v1 fB (G.nil (ad ?_));refine dZ ?_;refine I.skip (ac ?_);refine aT.sub (C () _ ?_) ⟨o,(aF J),(aF J),trivial⟩;exact⟨(nq _).2 (by simp at*;omega),x⟩
         ·
          refine G.b4 ?_;refine G.call o mB o bR o o (l5 [46,95,45,47] l[i] w0 _) ?_;rintro ai ak ⟨rfl,E⟩;obtain⟨n,x,_⟩:=bO E n x;refine G.aG eT ?_;refine G.eh ?_;refine G.v1 (Y.kp o o) (G.nil (ad ?_));refine a8 (fun am=>?_) (fun am=>?_)
          ·
           refine I.O (fun aO=>?_);refine G.aj ?_;refine aO ?_;refine I.ret (U (S (O (Q (X (B ?_))))));exact⟨aI Value.bool (pO (fun h=>by have ar:=(nq _).1 (h.2.2.2.2 i ae);simp at*;omega)).symm,n⟩
          ·
           refine I.skip (ac ?_);refine aT.sub (C () _ ?_) ⟨o,(aF J),(aF J),trivial⟩;exact⟨(nq _).2 (by simp at*;omega),x⟩
        ·
         refine G.av 2 ?_;refine G.aG fT ?_;refine G.av 3 ?_;refine G.call o mB o bR o o (l5 [46,95,45,47] l[i] w0 _) ?_;rintro ai ak ⟨rfl,E⟩;obtain⟨n,x,_⟩:=bO E n x;refine G.aG eT ?_;refine G.eh ?_;refine G.v1 (Y.kp o o) (G.nil (ad ?_));refine a8 (fun am=>?_) (fun am=>?_)
         ·
          refine I.O (fun aP=>?_);refine G.aj ?_;refine aP ?_;refine I.ret (U (S (O (Q (X (B ?_))))));exact⟨aI Value.bool (pO (fun h=>by have ar:=(nq _).1 (h.2.2.2.2 i ae);simp at*;omega)).symm,n⟩
         ·
          refine I.skip (ac ?_);refine aT.sub (C () _ ?_) ⟨o,(aF J),(aF J),trivial⟩;exact⟨(nq _).2 (by simp at*;omega),x⟩
      ·
       intro _ bo ba;obtain⟨bg,az⟩:=ba;obtain⟨R,_⟩:=b6 az R;refine I.region ?_;refine G.v1 bN ?_;refine G.af (G.nil ?_);refine aT.sub (aB (i+1) _ ?_ ?_) ⟨o,(aF J),(aF J),trivial⟩
       ·exact⟨J,(fun q h ab=>by rcases rW q i with M|M;exact ax q h M;(obtain rfl:q=i:=by omega);exact bg),R⟩
       ·first|omega|(simp only;omega)|(simp;omega)
     ·
      refine I.exit (aG (O (bd ?_)));refine a6 (I.O (fun aQ=>?_));refine G.aj ?_;refine aQ ?_;refine I.ret (B ?_);obtain rfl:i=l.length:=by omega
      exact⟨aI Value.bool ((zt l).2 ⟨g7,by omega,by simpa using ap,by simpa using A,fun i h=>ax i h h⟩).symm,n⟩
theorem rD(bC:Int)(l:List UInt8)(w0:World)(N:Heap)
 (aL:fj bC N)(K:bp (fun b=>b=0) N.size)(M:l.length≤4294967280):
 aE Tryz.prog w0 177 #[aN l] N (fun r x=>r=aN (bV l)∧al N x):=by
 refine aE.aP [aN l] Tryz.func177 ?_;intro R n;have d:al N N:=aa.refl _ _;refine I.O (fun A=>?_);refine G.aj ?_;refine A (I.t2 (fun B ac=>I.O (fun ad=>?_)));refine G.af ?_;refine aW qo (qQ bC l w0 _ aL (K.mono J) M) ?_;rintro v4 P ⟨rfl,C⟩;obtain⟨d,_⟩:=b6 C d;refine G.v1 fB (G.nil (ad ?_));refine dm (fun j=>?_) (fun j=>?_)
 ·
  refine I.O (fun E=>?_);refine G.aj ?_;refine E ?_;refine I.ret (ac (n ?_));exact⟨by rw[bV,aA (by simpa using j)];rfl,d⟩
 ·
  refine I.skip (B (I.O (fun F=>?_)));refine G.av 2 ?_;refine aW Il (Lc l w0 _ J) ?_;rintro S Q ⟨q,rfl,L,O,H⟩;obtain⟨d,_⟩:=b6 H d;refine G.v1 (Y.cast (v2:= .int .i64 ((q-1:Nat):Int)) (Y.tA o o o) (eI J)) ?_;refine G.v1 (Y.FO (0) (q-1) o e0 o (.inl ⟨o,o⟩) (.inr ⟨_,_,_,o,o,by first|rfl|omega⟩) J J) ?_;refine G.aj ?_;refine F ?_;refine I.ret (n ?_);exact⟨by rw[bV,aM (by simpa using j),Kz L O];simp,d⟩
end ho
namespace E
open Go.Lib
section
variable {P : Program} {w0 : World} {n : Nat} {l : cm} {H : Heap} {T : Oper} {α : Type} {f : α → List Value} {sz : Nat} {v : Value} {e : TypeId}
theorem PT{z:Value}{z0:α}(h:z.cells.toList=f z0):∀m,(Builtin.zeroCells z.cells m).toList=(List.replicate m z0).flatMap f:=by
 have r:(f z0).length=z.cells.size:=by rw[←h,l8]
 have n:∀m,(Builtin.zeroCells z.cells m).toList=(List.range (m*z.cells.size)).map (fun i=>z.cells[i%z.cells.size]!):=fun m=>by
  unfold Builtin.zeroCells;rw[Array.toList_map,Array.toList_range]
 have aP:(List.range z.cells.size).map (fun i=>z.cells[i%z.cells.size]!)=f z0:=by
  rw[←h];apply r7
  ·simp
  ·intro j q ab
   have d:j<z.cells.size:=by simpa using q
   simp[oT d,getElem!_pos z.cells j d]
 intro m;rw[n]
 induction m with
 |zero=>simp
 |succ m ih=>
  rw[Nat.succ_mul,vw,List.range_add,gg,l9,aP,yO,lD,←ih];congr 1;apply mK;intro j _;simp
theorem Z.He{aQ:Nat→Prop}{xs:List α}{s x:Operand}{t ll:TypeId}{ae S:IntKind}{bytes m:Nat}{af:Value}(h:Own aQ e H f sz v xs)(z0:α)(N:T.op= .call {callee:= .builtin .append,args:= #[s,x],argTypes:= #[t,ll]})
 (aD:hC P t e sz bytes) (I:P.underlying ll=some (.int ae)) (aN:∀w,(zeroValue e).run P w= .ok af w) (aJ:af.cells.toList=f z0) (an:0<sz) (ag:aK l s=some v) (Q:aK l x=some (.int S (m:Nat)))
 (ao:(xs.length+m)*bytes≤140737488355328) (hm:xs.length+m≤9223372036854775807):
 Z P w0 n l H T (fun r V=>Own (fun b=>aQ b∨H.size≤b) e V f sz r (xs++List.replicate m z0)∧aa aQ H V):=by
 obtain⟨G,i,z,B,R,aH,ax,aL⟩:=aD;subst aH;subst ax;intro a w A d
 have aO:z=af:=by
  have K:=aN w;simp[zeroValue,typeInfo,B,R]at K;exact K
 subst aO;have ak:((List.replicate m z0).flatMap f).length=m*i.size:=by rw[length_flatMap h.cells,nV]
 have K:∀c∈(List.replicate m z0).flatMap f,c.oneCell'=true:=by
  intro c aq;obtain⟨y,hy,aq⟩:=tf.1 aq;exact h.one y c aq
 have ar:Builtin.zeroCells z.cells m=((List.replicate m z0).flatMap f).toArray:=by apply Array.ext';rw[PT aJ]
 have hw:IntKind.i64.wrap (m:Int)=m:=by rw[IntKind.wrap_i64];omega
 have aF:¬((m:Int)<0):=by omega
 have av:¬(281474976710656<(m:Int)*(i.bytes:Int)):=by
  have:m*i.bytes≤(xs.length+m)*i.bytes:=kN _ J;rw[←Int.natCast_mul];omega
 have grown:∀(C:Nat) (r:Value),C<xs.length+m→r= .slice (some ⟨w.heap.size,0,none⟩) (xs.length+m) (grownCap w (xs.length+m) C e)→∀E,E=Obj.cells ((xs.flatMap f).toArray++Builtin.zeroCells z.cells m++Builtin.zeroCells z.cells (grownCap w (xs.length+m) C e-(xs.length+m))) e→
  At w0 (w.drew.alloc E).heap (w.drew.alloc E)∧Own (fun b=>aQ b∨H.size≤b) e (w.drew.alloc E).heap f i.size r (xs++List.replicate m z0)∧aa aQ H (w.drew.alloc E).heap:=by
  rintro C r aR rfl E rfl;have aB:=grownCap_ge w (xs.length+m) C e;have ay:grownCap w (xs.length+m) C e≤maxLen:=grownCap_le_maxLen w (xs.length+m) C e (by unfold maxLen;omega);have W:At w0 H w.drew:=d.drew;refine⟨⟨o,d.os,d.tape,d.output,W.hg⟩,?_,?_⟩
  ·have:=Own.new (e:=e) (G':=fun b=>aQ b∨H.size≤b) (w:=w.drew) (z:=z) (cap:=grownCap w (xs.length+m) C e) (zs:=xs++List.replicate m z0) h.cells h.one aL (.inr (by rw[W.heap];exact dz _)) (by simpa using aB) ay
   rw[ar]
   simpa using this
  ·rw[(W.alloc _).heap];exact aa.push _ _ _
 rcases h.ex with⟨rfl,rfl⟩|⟨g,q,cur,rfl,L,bz,eM,fh,aP,fQ⟩
 ·by_cases M:m=0
  ·subst M
   refine⟨.slice none 0 0,H,w,?_,d,by simpa using h.imp (fun b _ L=> .inl L),aa.refl _ _⟩;simp[execOp,N,resolve,invoke,builtin,A.eval ag,A.eval Q,Builtin.append_,run_underlying G,run_underlying I,sizeOf,typeInfo,B,asInt,asIntOf,IntKind.wrap_i64]
  ·simp only[je,jL]at ao hm
   have F:=run_append_nil_zeros (P:=P) w t ll T.type e i z S ae G I B R m J an J J;have:=grown 0 _ b2 o _ o;simp only[je,jL,vy,hq,Array.empty_append]at this;exact⟨_,_,_,by simp[execOp,N,resolve,invoke,builtin,A.eval ag,A.eval Q,F],this.1,this.2.1,this.2.2⟩
 ·obtain⟨U,aC,Y⟩:=id bz
  have ai:w.heap[g]?=some (.cells cur e U):=by rw[d.heap];exact aC
  by_cases X:xs.length+m≤q
  ·have az:xs.length*i.size+((List.replicate m z0).flatMap f).length≤cur.size:=by rw[ak,aP,←hH];exact kN _ X
   have O:=qY P g (xs.length*i.size) e U ((List.replicate m z0).flatMap f) 0 cur w ai Y (by simpa using az) K;simp only[mI]at O
   have F:(Builtin.append_ #[t,ll] T.type #[.slice (some ⟨g,0,none⟩) xs.length q,.int S m]).run P w= .ok (.slice (some ⟨g,0,none⟩) (xs.length+m) q) (w.setRow g (cur.toList.take (xs.length*i.size)++(List.replicate m z0).flatMap f++cur.toList.drop (xs.length*i.size+((List.replicate m z0).flatMap f).length)).toArray):=by
    by_cases M:m=0
    ·subst M
     simp only[List.replicate_zero,vy]at O;simp[Builtin.append_,run_underlying G,run_underlying I,sizeOf,typeInfo,B,asInt,asIntOf,IntKind.wrap_i64,eM,Addr.add_lit,O]
    ·have aG:¬(m*i.size=0):=Nat.mul_ne_zero M J
     simp[Builtin.append_,run_underlying G,run_underlying I,sizeOf,typeInfo,zeroValue,B,R,asInt,asIntOf,hw,aF,av,aG,X,ar,Addr.add_lit,O]
   refine⟨.slice (some ⟨g,0,none⟩) (xs.length+m) q,(w.setRow g (cur.toList.take (xs.length*i.size)++(List.replicate m z0).flatMap f++cur.toList.drop (xs.length*i.size+((List.replicate m z0).flatMap f).length)).toArray).heap,w.setRow g (cur.toList.take (xs.length*i.size)++(List.replicate m z0).flatMap f++cur.toList.drop (xs.length*i.size+((List.replicate m z0).flatMap f).length)).toArray,by simp[execOp,N,resolve,invoke,builtin,A.eval ag,A.eval Q,F],⟨o,d.os,d.tape,d.output,d.hg⟩,⟨h.cells,h.one,.inr ⟨g,q,_,by rw[bT,nV],.inl L,⟨U,setRow_heap w g cur _ e _ ai,Y.1,fun i B=>Y.2 i (by simp only[nU,bT,eJ,ia,l8]at B;omega)⟩,by rw[bT,nV];exact X,fh,?_,?_⟩⟩,?_⟩
   ·simp only[nU,bT,eJ,ia,l8]
    omega
   ·have aE:=length_flatMap h.cells xs
    rw[fQ,←jq,bT,hH,nV,←ak,←aE,←bT,←jq];exact qD
   ·exact(tZ d g _).weaken (fun b _ e=>by rw[e];exact L)
  ·have holds:∀j c,(xs.flatMap f)[j]?=some c→w.drew.cell? ((⟨g,0,none⟩:Addr).add j)=some c:=h.rd.oY h.cells o d.drew
   have hold:(Builtin.firstCells i.size xs.length (.slice (some ⟨g,0,none⟩) xs.length q)).run P w.drew= .ok (xs.flatMap f).toArray w.drew:=run_firstCells_some (P:=P) w.drew i.size xs.length ⟨g,0,none⟩ xs.length q _ (length_flatMap h.cells xs) holds
   have F:=Lib.run_append_grow_zeros (P:=P) w t ll T.type e i z S ae G I B R (some ⟨g,0,none⟩) xs.length q (xs.flatMap f) hold m J an J J (by
    have:m*i.bytes≤(xs.length+m)*i.bytes:=kN _ J;omega) (growslice_fits J ao)
   have:=grown q _ J o _ o;exact⟨_,_,_,by simp[execOp,N,resolve,invoke,builtin,A.eval ag,A.eval Q,F],this.1,this.2.1,this.2.2⟩
theorem Z.Bg{k:Nat}{xs:List α}{s x:Operand}{t ll:TypeId}{M N:IntKind}{bytes m:Nat}{j:Value}(h:aY k e H f sz v xs)(z0:α)(E:T.op= .call {callee:= .builtin .append,args:= #[s,x],argTypes:= #[t,ll]})
 (C:hC P t e sz bytes) (G:P.underlying ll=some (.int M)) (L:∀w,(zeroValue e).run P w= .ok j w) (K:j.cells.toList=f z0) (F:0<sz) (ag:aK l s=some v) (I:aK l x=some (.int N (m:Nat)))
 (ao:(xs.length+m)*bytes≤140737488355328) (hm:xs.length+m≤9223372036854775807):
 Z P w0 n l H T (fun r V=>∃d,aY d e V f sz r (xs++List.replicate m z0)∧(d=0∨d=k∨H.size<d)∧aa (fun b=>b+1=k) H V):=
 (Z.He h.own z0 E C G L K F ag I ao hm).mono fun r V ⟨q,ab⟩=>by
  obtain⟨d,A,B⟩:=aY.of q;refine⟨d,A,?_,ab⟩;rcases B with rfl|⟨g,rfl,O⟩
  ·exact .inl o
  ·omega
theorem Y.Of{x:Operand}{q d:Option Operand}{t e:TypeId}{a:Option Addr}{len cap sz:Nat}(i j:Nat)(C:T.op= .slice t x q d none)(E:∀w,(underlying t).run P w= .ok (.slice e) w)(ag:∀w,(sizeOf e).run P w= .ok sz w)(F:aK l x=some (.slice a len cap))
 (B:q=none∧i=0∨∃p k aF,q=some p∧aK l p=some (.int k aF)∧aF=(i:Int))(A:d=none∧j=len∨∃p k aF,d=some p∧aK l p=some (.int k aF)∧aF=(j:Int))(L:i≤j)(M:j≤cap):
 Y P w0 n l H T (.slice (if cap=i then a else a.map (·.add (i*sz))) (j-i) (cap-i)):=by
 intro ac w r K
 have aP:∀w,(Instr.sliceBounds true len cap (q.map ac.eval) (d.map ac.eval) none).run P w= .ok (i,j,cap) w:=by
  intro w
  rcases B with⟨rfl,rfl⟩|⟨p,k,aF,rfl,G,rfl⟩<;>rcases A with⟨rfl,rfl⟩|⟨eR,a_,N,rfl,I,rfl⟩<;>
   simp[Instr.sliceBounds,Instr.sliceBound,asIntOf,r.eval, *]
 have hu:∀w,(underlying t).run P w= .ok (.slice e) w:=E;simp[execOp,C,r.eval F,Instr.sliceAt,Instr.slice,hu,ag,aP]
theorem Y.Cd{x:Operand}{t e:TypeId}{a:Option Addr}{len cap:Nat}(j:T.op= .call {callee:= .builtin .cap,args:= #[x],argTypes:= #[t]})(q:∀w,(underlying t).run P w= .ok (.slice e) w)(r:aK l x=some (.slice a len cap)):Y P w0 n l H T (.int .i64 cap):=by
 intro ac w d A;simp[execOp,j,d.eval r,resolve,invoke,builtin,Builtin.cap_,q,goInt]
end
end E
namespace nC
open ho
theorem qk(v1:Value)(a:List UInt8)(w0:World)(N:Heap)
 (j:b7 N bd 1 v1 a)(ag:a.length≤140737488355328):
 aE Tryz.prog w0 59 #[v1] N (fun r x=>∃s:aO,∃k:Nat,r=s.v∧aY k 5 x bd 1 s.v a∧ae 0 N.size k∧al N x):=by
 refine aE.aP [v1] Tryz.func59 ?_;intro X B;have d:al N N:=aa.refl _ _;have j:=j.ch;obtain⟨p,af,rfl,_,_,R⟩:=id j.ex;refine I.O (fun E=>?_);refine G.aj ?_;refine E (I.t2 (fun F H=>I.O (fun K=>?_)));refine G.af ?_;refine G.v1 (Y.ub o Tryz.underlying57 o o) (G.nil (K ?_));refine dm (fun q=>?_) (fun q=>?_)
 ·
  obtain rfl:a=[]:=by
   apply k9;intro h;obtain⟨ad,Q,_⟩:=R h;rw[Q]at q;cases q
  refine I.O (fun L=>?_);refine G.aj ?_;refine L ?_;refine I.ret (H (B ?_));exact⟨⟨none,0,0⟩,0,o,aY.nil fM hh,ae.refl _ _,d⟩
 ·
  refine I.skip (F (I.O (fun M=>?_)));refine G.aU (Z.c2 (dE _ (([]:List UInt8)) fw fM hh)) ?_;rintro v5 V ⟨O,az,_⟩;have A:=ae.new d.size;obtain⟨j,d,_⟩:=bO az j d;refine G.af ?_;refine G.aU (eO O j fw h0 h0) ?_;rintro C W ⟨S,ac,am,n⟩;have n:=n.md;have P:=ae.O A am d.size;have d:=d.gn n (ar.T (an.q A));refine G.aj ?_;refine M ?_;refine I.ret (B ?_);obtain⟨U,rfl⟩:∃s:aO,C=s.v:=⟨cF C,ac.bA.symm⟩;exact⟨U,S,o,by simpa using ac,P,d⟩
def h8(l:List (aO×List UInt8)):List UInt8:=l.flatMap (·.2)
theorem u0{l:List (aO×List UInt8)}{i:Nat}(h:i<l.length):h8 (l.take (i+1))=h8 (l.take i)++l[i].2:=by
 unfold h8;rw[eP h,jq];simp
theorem I7(l:List (aO×List UInt8))(i:Nat):(h8 (l.take i)).length≤(h8 l).length:=by
 have:h8 l=h8 (l.take i)++h8 (l.drop i):=by unfold h8;rw[←jq,hY]
 rw[this,bT];omega
theorem Ce{l:List (aO×List UInt8)}{i:Nat}(h:i<l.length):(h8 (l.take i)).length+l[i].2.length≤(h8 l).length:=by
 have:=I7 l (i+1);rw[u0 h,bT]at this;exact this
theorem Kq(m:Nat)(w0:World)(N:Heap)
 (hm:m≤1099511627776):
 aE Tryz.prog w0 227 #[.slice none 0 0,.int .i64 (m:Int)] N (fun r n=>∃s:aO,∃k:Nat,r=s.v∧aY k 5 n bd 1 s.v []∧ae 0 N.size k∧al N n):=by
 refine aE.aP [.slice none 0 0,.int .i64 (m:Int)] Tryz.func227 ?_;intro R B;have d:al N N:=aa.refl _ _;refine I.O (fun E=>?_);refine G.aj ?_;refine E (I.t1 (fun F=>I.O (fun H=>?_)));refine G.af ?_;refine G.v1 ((bZ).gE J) (G.nil (H ?_));refine dZ ?_;refine I.skip (F (I.t1 (fun x=>I.O (fun K=>?_))));refine G.av 2 ?_;refine G.v1 (Y.Cd o dV o) ?_;refine G.af ?_;refine G.v1 (Y.cast (v2:= .int .i64 ((0:Nat):Int)) (bu (Rd.nil (fun _=>False) _ bd 1) dV) o) ?_;refine G.v1 (Y.cast (v2:= .int .i64 ((0:Nat):Int)) gq o) ?_;refine G.v1 (Y.cast (v2:= .int .i64 (m:Int)) gq (eI bl)) ?_;refine G.aj ?_;refine K (I.O (fun az=>?_));refine G.af ?_;refine G.v1 fA (G.nil (az ?_));refine a8 (fun am=>?_) (fun am=>?_)
 ·
  refine I.region ?_;refine G.av 2 ?_;refine G.v1 (Y.Cd o dV o) ?_;refine G.v1 (Y.Of 0 0 o dV dK o (.inl ⟨o,o⟩) (.inr ⟨_,_,_,o,o,o⟩) J J) ?_;refine G.af ?_;have Q:aY 0 5 N bd 1 (.slice none 0 0) []:=aY.nil fM hh;refine G.aU (Z.Bg (m:=m) Q (0:UInt8) o fw Tryz.underlying3 AA o bc o o b2 b2) ?_;rintro a7 S ⟨L,q,C,j⟩;have j:=j.md;have ap:=ae.O (ae.refl 0 _) C d.size;have d:=d.gn j (ar.cons an.z ar.nil);have U:=j.size;have ac:=q.le;refine G.af ?_;refine G.v1 (Y.cast (v2:= .int .i64 ((0:Nat):Int)) (bu (Rd.nil (fun _=>False) _ bd 1) dV) o) ?_;refine G.aP (g:=fun v=>v) (Y.MI q (0) o dV dK o o gP J) fun A ad=>?_;refine G.aj ?_;refine x (I.O (fun M=>?_));refine G.aZ 2 ?_;refine M ?_;refine I.ret (B ?_);obtain⟨O,rfl⟩:∃s:aO,A=s.v:=⟨cF A,ad.bA.symm⟩;exact⟨O,L,o,by simpa using ad,ap,d⟩
 ·
  refine I.skip (x (I.O (fun P=>?_)));refine G.aZ 2 ?_;refine P ?_;refine I.ret (B ?_);exact⟨⟨none,0,0⟩,0,o,aY.nil fM hh,ae.refl _ _,d⟩
theorem Cm(v:Value)(l:List (aO×List UInt8))(w0:World)(N:Heap)
 (d:b7 N kI 1 v l)(n:∀x∈l,b7 N bd 1 x.1.v x.2)(aq:(h8 l).length≤1099511627776):
 aE Tryz.prog w0 186 #[v] N (fun r O=>∃s:aO,∃k:Nat,r=s.v∧aY k 5 O bd 1 s.v (h8 l)∧ae 0 N.size k∧al N O):=by
 refine aE.aP [v] Tryz.func186 ?_;intro bA bq;have j:al N N:=aa.refl _ _;have d:=d.ch;have a_:=d.cD;have n:=fun x aJ=>(n x aJ).ch;have ba:bp (fun b=>True∧b<N.size) N.size:=fun b h=>h.2;have bK:=d.len;refine I.O (fun aK=>?_);refine G.aj ?_;refine aK (I.O (fun aL=>?_));refine G.aj ?_;refine aL (I.t1 (fun aN=>I.O (fun aP=>?_)));refine G.af ?_;refine G.v1 (bu d jO) ?_;refine G.af (G.nil (aP ?_));refine I.aC (fun _ aQ _=>?_)
 refine I.bb (fun(i:Nat)=>[(0,v),(3,.int .i64 ((h8 (l.take i)).length:Int)),(9,v),(10,.int .i64 l.length),(11,.int .i64 i)])
  (fun(i:Nat) (H:Heap)=>(i≤l.length)∧al N H)
  (fun(i:Nat)=>l.length-i) 0 ⟨o,o,o,o,o,trivial⟩ ?_ ?_
 ·
  exact⟨J,aa.refl _ _⟩
 intro i bC aR bz aS aU;obtain⟨bJ,W⟩:=aR;obtain⟨d,n,j,_⟩:=cf W d n j;refine I.O (fun aV=>?_);refine G.v1 bZ (G.nil (aV ?_));refine I.t2 (fun aX aZ=>?_);refine a8 (fun a0=>?_) (fun a0=>?_)
 ·
  have E:i<l.length:=by omega
  have bF:=Ce E;have bt:=n l[i] (cU E);refine I.skip (aX (I.t1 (fun bB=>I.aC (fun bb _ _=>I.O (fun az=>?_)))));refine G.cn (Y.cg d i o jO dt o o) fun a2 am=>?_;refine G.v1 (bf am.W fe) ?_;refine G.aj ?_;refine az (I.O (fun bc=>?_));refine G.av 2 ?_;refine G.v1 (bu bt dV) ?_;refine G.v1 (Y.cast (v2:= .int .i64 ((h8 (l.take (i+1))).length:Int)) bN (eI (by rw[u0 E,bT];omega))) ?_;refine G.aj ?_;refine bc (I.O (fun ap=>?_));refine G.af ?_;refine G.v1 ((bZ).gE J) (G.nil (ap ?_));refine dZ ?_;refine I.skip (bb (bB (I.region ?_)));refine G.v1 bN ?_;refine G.af (G.nil ?_);have bH:=u0 E;refine aT.sub (aS (i+1) _ ?_ ?_) ⟨o,(aF J),o,(aF J),(aF J),trivial⟩
  ·exact⟨J,W⟩
  ·first|omega|(simp only;omega)|(simp;omega)
 ·
  obtain rfl:i=l.length:=by omega
  refine I.exit (aZ (aU (aQ ?_)));refine aN (I.O (fun bg=>?_));refine G.v1 (Y.cast (v2:= .int .i64 ((h8 l).length:Int)) gj (by rw[eD])) ?_;refine aW Io (Kq (h8 l).length w0 _ aq) ?_;rintro bD P ⟨a3,L,rfl,ac,F,bj⟩;have a4:=ax.app ax.z (a_.mono j.size) F;have a5:=ax.app ax.z (ba.mono j.size) F;have Q:=ae.O (ae.refl 0 _) F j.size;obtain⟨d,n,j,_⟩:=cf bj d n j;have U:=ac.le;refine G.aj ?_;refine bg (I.t1 (fun a7=>I.O (fun bk=>?_)));refine G.af ?_;refine G.v1 (bu d jO) ?_;refine G.af (G.nil (bk ?_));refine I.aC (fun _ bl _=>?_)
  refine I.bb (fun(bx:Nat×aO×Nat)=>match bx with|(q,B,A)=>[(6,B.v),(25,v),(26,.int .i64 l.length),(27,.int .i64 q)])
   (fun(q,B,A) (H:Heap)=>(q≤l.length)∧aY A 5 H bd 1 B.v (h8 (l.take q))∧ae L P.size A∧aa (ay [L]) P H)
   (fun(q,B,A)=>l.length-q) (0,a3,L) ⟨o,o,o,o,trivial⟩ ?_ ?_
  ·
   exact⟨J,by simpa[h8]using ac,ae.refl _ _,aa.refl _ _⟩
  rintro⟨q,B,A⟩ cR X be bm bn;obtain⟨bL,ac,V,C⟩:=X;have Z:=ae.O Q V j.size;obtain⟨d,n,j,_⟩:=dQ C d a4 n a5 j Q;have U:=ac.le;have R:=V;refine I.O (fun ag=>?_);refine G.v1 bZ (G.nil (ag ?_));refine I.t2 (fun ai ak=>?_);refine a8 (fun af=>?_) (fun af=>?_)
  ·
   have M:q<l.length:=by omega
   have bG:=Ce M;have bw:=n l[q] (cU M);refine I.skip (ai (I.t1 (fun ar=>I.aC (fun av _ _=>I.O (fun aB=>?_)))));refine G.cn (Y.cg d q o jO dt o o) fun a9 aC=>?_;refine G.v1 (bf aC.W fe) ?_;refine G.aj ?_;refine aB (I.region ?_);refine G.av 2 ?_;refine G.aU (eO ac bw fw h0 h0) ?_;rintro S bE ⟨a6,ac,aD,K⟩;have K:=K.md;have aG:=ae.O R aD C.size;obtain⟨C,_⟩:=c0 K C (an.r R);have U:=ac.le;refine G.aj ?_;refine av (ar (I.region ?_));refine G.v1 bN ?_;refine G.af (G.nil ?_);obtain⟨bo,rfl⟩:∃s:aO,S=s.v:=⟨cF S,ac.bA.symm⟩;refine aT.sub (bm (q+1,bo,a6) _ ?_ ?_) ⟨o,o,(aF J),(aF J),trivial⟩
   ·exact⟨J,by rw[u0 M];exact ac,aG,C⟩
   ·first|omega|(simp only;omega)|(simp;omega)
  ·
   refine I.exit (ak (bn (bl ?_)));refine a7 (I.O (fun aH=>?_));refine G.aZ 2 ?_;refine aH ?_;refine I.ret (bq ?_);obtain rfl:q=l.length:=by omega
   rw[eD]at ac;exact⟨B,A,o,ac,Z,j⟩
abbrev l0:=dF×aO
abbrev lB(x:l0):List Value:=[.bool x.1.b,x.2.v]
theorem kL(x:l0):(lB x).length=2:=rfl
theorem qt(x:l0):∀u∈lB x,u.oneCell'=true:=by intro u hu;simp only[dU,nf,or_false]at hu;rcases hu with rfl|rfl<;>rfl
abbrev oj(x:l0):Value:= .agg (lB x).toArray
theorem zz(w:dF)(b:List UInt8)(n:Nat):(w.on b n).length≤b.length+n:=by
 unfold dF.on;rw[bT,eJ];split<;>simp<;>omega
theorem sl(x:l0)(cA:aO)(b:List UInt8)(n:Nat)(w0:World)(N:Heap)
 (ah:b7 N bd 1 x.2.v x.1.d)(ao:b7 N bd 1 cA.v b)(aB:n≤x.1.d.length)(aG:b.length+n≤1099511627776):
 aE Tryz.prog w0 160 #[oj x,cA.v,.int .i64 (n:Int)] N (fun r F=>∃s:aO,∃k:Nat,r=s.v∧aY k 5 F bd 1 s.v (x.1.on b n)∧ae 0 N.size k∧al N F):=by
 refine aE.aP [oj x,cA.v,.int .i64 (n:Int)] Tryz.func160 ?_;intro ar ak;have d:al N N:=aa.refl _ _;have ah:=ah.ch;have ao:=ao.ch;refine I.O (fun V=>?_);refine G.aU Z.bv ?_;rintro v3 A ⟨rfl,q,ap,_⟩;obtain⟨ah,ao,d,_⟩:=cf ap ah ao d;have q:Var 275 A N.size (lB x):=q;refine G.aj ?_;refine V ?_
 refine I.cut (fun(an:aO×(List UInt8))=>match an with|(s1,j)=>[(1,s1.v),(2,.int .i64 (n:Int)),(3,.pointer (some ⟨N.size,0,none⟩))])
  (fun(s1,j) (H:Heap)=>(b7 H bd 1 s1.v j)∧(j=if x.1.b=true then b else[])∧al A H) (fun _ az _=>?_) ?_
 ·
  have ac:al A A:=aa.refl _ _;refine I.O (fun W=>?_);refine G.a6 q.W ln ee fc ?_;refine G.v1 fB (G.nil (W ?_));refine dm (fun E=>?_) (fun E=>?_)
  ·
   refine I.region ?_;refine G.aj ?_;refine aT.sub (az (⟨none,0,0⟩,[]) _ ?_) ⟨o,(aF J),o,trivial⟩;exact⟨Rd.nil _ _ _ _,by rw[aA (by simpa using E)],ac⟩
  ·
   refine I.skip ?_;refine aT.sub (az (cA,b) _ ?_) ⟨o,(aF J),o,trivial⟩;exact⟨ao.any,by rw[aM (by simpa using E)],ac⟩
 ·
  rintro⟨s1,j⟩ av O;obtain⟨ai,K,M⟩:=O;obtain⟨ah,q,d,_⟩:=cf M ah q d;have aD:j.length≤b.length:=by rw[K];split<;>simp
  refine I.O (fun X=>?_);refine G.af ?_;refine G.a6 q.W ln dt fe ?_;refine G.af ?_;refine G.aP (g:=fun v=>v) (Y.slice ah (0) n o dV dK o (.inl ⟨o,o⟩) (.inr ⟨_,_,_,o,o,by first|rfl|omega⟩) J J) fun am B=>?_;obtain⟨C,rfl⟩:∃s:aO,am=s.v:=⟨cF am,B.bA.symm⟩;refine G.aU (Z.c2 (dE _ ([(s1,j),(C,(x.1.d.take n).drop 0)]) rT rI rJ)) ?_;rintro af ax ⟨P,ad,_⟩;obtain⟨B,d,_⟩:=bO ad B d;refine aW BT (Cm af [(s1,j),(C,(x.1.d.take n).drop 0)] w0 _ P.rd.any (fun x L=>by simp only[dU,nf,or_false]at L;rcases L with rfl|rfl;exact ai.aR ad;exact B.any) (by simp[h8];omega)) ?_;rintro ay aC ⟨a7,ag,rfl,Q,R,S⟩;have U:=ae.O (ae.refl 0 _) R d.size;have d:=d.O S;refine G.aj ?_;refine X ?_;refine I.ret (ak ?_);exact⟨a7,ag,o,by have e:h8 [(s1,j),(C,(x.1.d.take n).drop 0)]=x.1.on b n:=(by unfold dF.on;rw[←K];simp[h8]);rw[←e];exact Q,U,d⟩
theorem Aw(x:l0)(w0:World)(N:Heap)
 (ah:b7 N bd 1 x.2.v x.1.d)(E:x.1.d.length≤1099511627776):
 aE Tryz.prog w0 158 #[oj x] N (fun r n=>r= .int .i64 (x.1.ways:Int)∧al N n):=by
 refine aE.aP [oj x] Tryz.func158 ?_;intro C B;have d:al N N:=aa.refl _ _;have ah:=ah.ch;refine I.O (fun q=>?_);refine G.aU Z.bv ?_;rintro v1 H1 ⟨rfl,j,A,_⟩;obtain⟨ah,d,_⟩:=bO A ah d;have j:Var 275 H1 N.size (lB x):=j;refine G.aj ?_;refine q (I.O (fun ac=>?_));refine G.a6 j.W ln dt fe ?_;refine G.v1 (bu ah dV) ?_;refine G.v1 (Y.cast (v2:= .int .i64 ((2*x.1.d.length:Nat):Int)) (Y.lJ o o o J) (eI J)) ?_;refine G.v1 (Y.cast (v2:= .int .i64 (x.1.ways:Int)) (Y.tA o o o) (eI (by unfold dF.ways;omega))) ?_;refine G.aj ?_;refine ac ?_;refine I.ret (B ?_);exact⟨o,d⟩
theorem zH(x:l0)(cA:aO)(b:List UInt8)(j:Nat)(w0:World)(N:Heap)
 (ah:b7 N bd 1 x.2.v x.1.d)(ao:b7 N bd 1 cA.v b)(hw:j<x.1.ways)(aQ:b.length+x.1.d.length≤1099511627776):
 aE Tryz.prog w0 159 #[oj x,cA.v,.int .i64 (j:Int)] N (fun r O=>∃s:aO,∃k:Nat,r=s.v∧aY k 5 O bd 1 s.v (x.1.part b j)∧ae 0 N.size k∧al N O):=by
 refine aE.aP [oj x,cA.v,.int .i64 (j:Int)] Tryz.func159 ?_;intro aG M;have n:al N N:=aa.refl _ _;have ah:=ah.ch;have ao:=ao.ch;have aH:j<1∨j<2*x.1.d.length:=by unfold dF.ways at hw;omega
 refine I.O (fun a7=>?_);refine G.aU Z.bv ?_;rintro v3 U ⟨rfl,A,aB,_⟩;obtain⟨ah,ao,n,_⟩:=cf aB ah ao n;have A:Var 275 U N.size (lB x):=A;refine G.aj ?_;refine a7 (I.O (fun aC=>?_));refine G.a6 A.W ln dt fe ?_;refine G.v1 (bu ah dV) ?_;refine G.aj ?_;refine aC (I.t2 (fun aD Q=>I.O (fun R=>?_)));refine G.av 2 ?_;refine G.v1 bZ ?_;refine G.af ?_;refine G.bL (d:=14) o (fun aF=>?_) (fun aF=>?_)
 ·
  refine G.av 3 ?_;refine G.nil (R ?_);refine I.kc o ?_;refine I.O (fun V=>?_);refine G.v1 (ba A.W lv j9 o) ?_;refine G.av 2 ?_;refine G.v1 bN ?_;refine G.af ?_;refine G.v1 (Y.cast (v2:= .int .i64 ((min (j+1) x.1.d.length:Nat):Int)) (Y.zi o o o) (eI J)) ?_;refine aW rv (sl x cA b (min (j+1) x.1.d.length) w0 _ ah.any ao.any J J) ?_;rintro W X ⟨K,L,rfl,B,E,F⟩;have af:=ae.O (ae.refl 0 _) E n.size;obtain⟨n,_⟩:=b6 F n;have ac:=B.le;refine G.aj ?_;refine V ?_;refine I.ret (Q (M ?_));exact⟨K,L,o,by have C:x.1.part b j=x.1.on b (min (j+1) x.1.d.length):=(by unfold dF.part;rw[aM (by first|exact .inl J|exact .inr J)]);rw[C];exact B,af,n⟩
 ·
  refine G.b4 ?_;refine G.aG cC ?_;refine G.eh ?_;refine G.nil (R ?_);refine a8 (fun ag=>?_) (fun ag=>?_)
  ·
   refine I.O (fun ai=>?_);refine G.v1 (ba A.W lv j9 o) ?_;refine G.av 2 ?_;refine G.v1 bN ?_;refine G.af ?_;refine G.v1 (Y.cast (v2:= .int .i64 ((min (j+1) x.1.d.length:Nat):Int)) (Y.zi o o o) (eI J)) ?_;refine aW rv (sl x cA b (min (j+1) x.1.d.length) w0 _ ah.any ao.any J J) ?_;rintro W X ⟨K,L,rfl,B,E,F⟩;have ax:=ae.O (ae.refl 0 _) E n.size;obtain⟨n,_⟩:=b6 F n;have ac:=B.le;refine G.aj ?_;refine ai ?_;refine I.ret (Q (M ?_));exact⟨K,L,o,by have C:x.1.part b j=x.1.on b (min (j+1) x.1.d.length):=(by unfold dF.part;rw[aM (by first|exact .inl J|exact .inr J)]);rw[C];exact B,ax,n⟩
  ·
   refine I.skip (aD (I.O (fun ak=>?_)));refine G.av 2 ?_;refine G.v1 (Y.cast (v2:= .int .i64 ((j-x.1.d.length:Nat):Int)) gq (eI J)) ?_;refine G.aj ?_;refine ak (I.O (fun an=>?_));refine G.v1 (ba A.W lv j9 o) ?_;refine G.av 2 ?_;refine aW rv (sl x cA b (j-x.1.d.length) w0 _ ah.any ao.any J J) ?_;rintro aJ aK ⟨aL,aN,rfl,q,az,am⟩;have P:=ae.O (ae.refl 0 _) az n.size;obtain⟨n,_⟩:=b6 am n;have ad:=q.le;have aR:=zz x.1 b (j-x.1.d.length);refine G.av 2 ?_;refine G.v1 (Y.cast (v2:= .int .i64 ((x.1.d.length-(j-x.1.d.length):Nat):Int)) gq (eI J)) ?_;refine G.aU (Z.Bg (m:=x.1.d.length-(j-x.1.d.length)) q (0:UInt8) o fw Tryz.underlying3 AA o bc o o h0 h0) ?_;rintro S aP ⟨ar,q,ay,H⟩;have H:=H.md;have ap:=ae.O P ay n.size;obtain⟨n,_⟩:=c0 H n P;have ad:=q.le;refine G.aj ?_;refine an ?_;refine I.ret (M ?_);obtain⟨av,rfl⟩:∃s:aO,S=s.v:=⟨cF S,q.bA.symm⟩;exact⟨av,ar,o,by have C:x.1.part b j=x.1.on b (j-x.1.d.length)++List.replicate (x.1.d.length-(j-x.1.d.length)) 0:=(by unfold dF.part;rw[aA J]);rw[C];exact q,ap,n⟩
end nC
namespace pg
open rj uB uC A1 uu ho nC lY
abbrev dp(l:List (aO×Rec)):List Rec:=l.map (·.2)
theorem CK{l:List (aO×Rec)}{i:Nat}(h:i<l.length):gf 0 (dp (l.take (i+1)))=gf 0 (dp (l.take i))++iZ i l[i].2:=by
 have e:(dp (l.take i)).length=i:=by simp;omega
 rw[eP h];unfold dp;rw[gg,s5];unfold dp at e;rw[e];simp[gf]
theorem JV(l:List (aO×Rec))(i:Nat):(gf 0 (dp (l.take i))).length≤(gf 0 (dp l)).length:=by
 have h:l=l.take i++l.drop i:=(hY i l).symm;have ab:dp l=dp (l.take i)++dp (l.drop i):=by unfold dp;rw[←gg,←h]
 rw[ab,s5,bT];omega
theorem JW{l:List (aO×Rec)}{i:Nat}(h:i<l.length):(gf 0 (dp (l.take i))).length+(13+l[i].2.length)≤(gf 0 (dp l)).length:=by
 have:=JV l (i+1);rw[CK h,bT,tT]at this;exact this
theorem EG(k:Nat)(v:Value)(xs:List UInt8)(n:Nat)(x:UInt64)(w0:World)(N:Heap)
 (d:aY k 5 N bd 1 v xs)(aB:n≤8)(aU:xs.length≤1099511627776):
 aE Tryz.prog w0 187 #[v,.int .i64 n,.int .u64 x.toNat] N (fun r L=>∃v2:Value,∃a_:Nat,r=v2∧aY a_ 5 L bd 1 v2 (xs++gK.ck n x)∧ae k N.size a_∧aa (ay [k]) N L):=by
 refine aE.aP [v,.int .i64 n,.int .u64 x.toNat] Tryz.func187 ?_;intro aL aH;have E:aa (ay [k]) N N:=aa.refl _ _;have M:=ae.refl k N.size;have ad:=d.le;refine I.O (fun am=>?_);refine G.aj ?_;refine am (I.t1 (fun ai=>I.O (fun ap=>?_)));refine G.af ?_;refine G.v1 gq ?_;refine G.aj ?_;refine ap (I.aC (fun _ ak _=>?_))
 refine I.bb (fun(aJ:Nat×Value×Nat×(List UInt8))=>match aJ with|(j,C,B,ys)=>[(0,C),(2,.int .u64 x.toNat),(7,.int .i64 ((j:Int)-1))])
  (fun(j,C,B,ys) (H:Heap)=>(j≤n)∧aY B 5 H bd 1 C ys∧ys++gK.ck j x=xs++gK.ck n x∧ae k N.size B∧aa (ay [k]) N H)
  (fun(j,C,B,ys)=>j) (n,v,k,xs) ⟨o,o,o,trivial⟩ ?_ ?_
 ·
  exact⟨J,d,o,ae.refl _ _,aa.refl _ _⟩
 rintro⟨j,C,B,ys⟩ aN ar aK av a7;obtain⟨aS,d,F,ac,A⟩:=ar;have ax:=ae.O M ac E.size;obtain⟨E,_⟩:=c0 A E (an.r M);have ad:=d.le;have az:=ac;have aV:ys.length+j=xs.length+n:=by have:=aI List.length F;simpa[gK.eQ]using this
 refine I.t2 (fun aC aD=>I.O (fun aG=>?_));refine G.af ?_;refine G.v1 eT (G.nil (aG ?_));refine a8 (fun P=>?_) (fun P=>?_)
 ·
  obtain⟨j,rfl⟩:∃q,j=q+1:=⟨j-1,by omega⟩;refine I.skip (aC (I.t1 (fun Q=>I.aC (fun R _ _=>I.region ?_))));refine G.av 3 ?_;refine G.v1 (Y.lJ o o o J) ?_;refine G.v1 (Y.ua (8*j) o o o gP J) ?_;refine G.v1 (Y.s0 o hA lP o) ?_;refine G.aU (Z.c2 (dE _ ([UInt8.ofNat (iF x (8*j)).toNat]) fw fM hh)) ?_;rintro aO aP ⟨W,X,_⟩;obtain⟨d,A,_⟩:=bO X d A;refine G.aU (eO d W.rd fw h0 h0) ?_;rintro S aQ ⟨U,O,af,K⟩;have K:=K.md;have V:=ae.O az af A.size;obtain⟨A,_⟩:=c0 K A (an.r az);have aR:=O.le;refine G.aj ?_;refine R (Q (I.region ?_));refine G.af ?_;refine G.v1 gq ?_;refine G.aj ?_;refine aT.sub (av (j,S,U,ys++[UInt8.ofNat (iF x (8*j)).toNat]) _ ?_ ?_) ⟨o,(aF J),(aF J),trivial⟩
  ·exact⟨J,O,by rw[←F,dA];rfl,V,A⟩
  ·first|omega|(simp only;omega)|(simp;omega)
 ·
  obtain rfl:j=0:=by omega
  rw[gK.ck,hi]at F;subst F;refine I.exit (aD (a7 (ak ?_)));refine ai (I.O (fun ag=>?_));refine G.aZ 2 ?_;refine ag ?_;refine I.ret (aH ?_);exact⟨C,B,o,d,ax,E⟩
theorem Om{d cs:List Value}(h:cs.length=d.length):er cs 0 d=d:=by simp[er,h]
theorem sZ(n:Nat)(s:aO)(rc:List UInt8)(w0:World)(N:Heap)
 (j:b7 N bd 1 s.v rc)(aG:rc.length≤1099511000000):
 aE Tryz.prog w0 180 #[.int .i64 (n:Int),s.v] N (fun r E=>∃t:aO,r=t.v∧Rd (fun b=>N.size≤b) E bd 1 t.v (lz n rc)∧al N E):=by
 refine aE.aP [.int .i64 (n:Int),s.v] Tryz.func180 ?_;intro ai af;have d:al N N:=aa.refl _ _;have j:=j.ch;refine I.O (fun V=>?_);refine G.aj ?_;refine V (I.O (fun W=>?_));refine G.af ?_;refine G.v1 (Y.cast (v2:= .int .u64 (UInt64.ofNat n).toNat) (Y.jm o gZ hA o) o) ?_;refine aW BU (EG 0 _ [] 8 (UInt64.ofNat n) w0 _ (aY.nil fM hh) J bl) ?_;rintro M ag ⟨av,aH,rfl,q,ay,ad⟩;have j:=j.aJ ad (aS.T ax.z);have d:=d.gn ad (ar.cons an.z ar.nil);have aB:=ad.size;have ac:=q.le;rw[hq]at q;obtain⟨C,rfl⟩:∃s:aO,M=s.v:=⟨cF M,q.bA.symm⟩;refine G.af ?_;refine G.aU (Z.c2 (dE _ ([(C,gK.ck 8 (UInt64.ofNat n)),(s,rc)]) rT rI rJ)) ?_;rintro aC aD ⟨Q,R,_⟩;obtain⟨j,q,d,_⟩:=cf R j q d;refine aW Im (M0 _ [(C,gK.ck 8 (UInt64.ofNat n)),(s,rc)] w0 _ Q.rd.any (fun x L=>by simp only[dU,nf,or_false]at L;rcases L with rfl|rfl;exact q.rd.any;exact j.any) (by simp[cat,gK.eQ];omega)) ?_;rintro aF H ⟨rfl,U⟩;obtain⟨d,_⟩:=b6 U d;rw[show cat [(C,gK.ck 8 (UInt64.ofNat n)),(s,rc)]=(gK.ck 8 (UInt64.ofNat n)++rc)from by simp[cat]];refine G.aU (Z.a7 o7) ?_;rintro v5 O ⟨rfl,A,az,_⟩;have am:=ae.new d.size;obtain⟨d,_⟩:=b6 az d;have A:Var 26 O H.size ((List.replicate 32 (0:UInt8)).map jI):=A;refine G.s1 (S.var A ((sumOf (gK.ck 8 (UInt64.ofNat n)++rc)).map jI) ((sumOf (gK.ck 8 (UInt64.ofNat n)++rc)).map jI) o o o o (by intro u hu;obtain⟨x,_,rfl⟩:=cN.1 hu;rfl) bx (by simp[o3]) (by simp[o3]) (Om (by simp[o3]))) ?_;rintro ak ⟨A,P⟩;obtain⟨d,_⟩:=c0 P d am;refine G.nil (W (I.O (fun ap=>?_)));refine G.aP (g:=fun v=>v) (Y.uc (F:=fun c=>c=H.size) (f:=bd) (xs:=sumOf (gK.ck 8 (UInt64.ofNat n)++rc)) A.W o A.lt (o3 _) (fun i x h=>⟨by simp[h],o⟩) (0) (8) o (fun w=> .inl (nv w)) dK o (.inl ⟨o,o⟩) (.inr ⟨_,_,_,o,o,by first|rfl|omega⟩) J J bc) fun K B=>?_;rw[nh]at B;obtain⟨X,rfl⟩:∃s:aO,K=s.v:=⟨cF K,B.bA.symm⟩;refine G.aj ?_;refine ap ?_;refine I.ret (af ?_);exact⟨X,o,(B.imp (fun b _ e=>by omega)),d⟩
theorem Gu(n:Nat)(s:aO)(rc:List UInt8)(w0:World)(N:Heap)
 (d:b7 N bd 1 s.v rc)(aC:rc.length≤4294967000):
 aE Tryz.prog w0 111 #[.int .i64 (n:Int),s.v] N (fun r E=>∃t:aO,∃k:Nat,r=t.v∧aY k 5 E bd 1 t.v (gl n rc)∧ae 0 N.size k∧al N E):=by
 refine aE.aP [.int .i64 (n:Int),s.v] Tryz.func111 ?_;intro X V;have j:al N N:=aa.refl _ _;have d:=d.ch;refine I.O (fun am=>?_);refine G.aj ?_;refine am (I.O (fun R=>?_));refine G.af ?_;refine G.v1 (bu d dV) ?_;refine G.v1 (Y.cast (v2:= .int .u64 (UInt64.ofNat rc.length).toNat) (Y.jm o gZ hA o) o) ?_;refine aW BU (EG 0 _ [] 4 (UInt64.ofNat rc.length) w0 _ (aY.nil fM hh) J bl) ?_;rintro H W ⟨ai,aD,rfl,q,a7,ad⟩;have d:=d.aJ ad (aS.T ax.z);have j:=j.gn ad (ar.cons an.z ar.nil);have ak:=ad.size;have ac:=q.le;rw[hq]at q;obtain⟨C,rfl⟩:∃s:aO,H=s.v:=⟨cF H,q.bA.symm⟩;rw[Mp _ J]at q;refine G.av 2 ?_;refine aW BR (sZ n s rc w0 _ d.any J) ?_;rintro av ay ⟨B,rfl,A,K⟩;obtain⟨d,q,j,_⟩:=cf K d q j;have A:=A.ch;refine G.af ?_;refine G.aU (Z.c2 (dE _ ([(C,k2 rc.length),(B,lz n rc),(s,rc)]) rT rI rJ)) ?_;rintro ap aB ⟨L,M,_⟩;obtain⟨d,q,A,j,_⟩:=ed M d q A j;refine aW BT (Cm ap [(C,k2 rc.length),(B,lz n rc),(s,rc)] w0 _ L.rd.any (fun x F=>by simp only[dU,nf,or_false]at F;rcases F with rfl|rfl|rfl;exact q.rd.any;exact A.any;exact d.any) (by simp[h8,sQ,u2];omega)) ?_;rintro af ag ⟨S,U,rfl,O,P,Q⟩;have az:=ae.O (ae.refl 0 _) P j.size;have j:=j.O Q;refine G.aj ?_;refine R ?_;refine I.ret (V ?_);exact⟨S,U,o,by have e:h8 [(C,k2 rc.length),(B,lz n rc),(s,rc)]=gl n rc:=(by simp[h8,gl]);rw[←e];exact O,az,j⟩
theorem JX(s:aO)(l:List (aO×Rec))(w0:World)(N:Heap)
 (n:b7 N kI 1 s.v l)(A:∀x∈l,b7 N bd 1 x.1.v x.2)(bb:∀x∈l,x.2.length≤1048576)(bE:(gf 0 (dp l)).length≤1099510000000):
 aE Tryz.prog w0 171 #[s.v] N (fun r L=>∃t:aO,∃k:Nat,r=t.v∧aY k 5 L bd 1 t.v (c1 (dp l))∧ae 0 N.size k∧al N L):=by
 refine aE.aP [s.v] Tryz.func171 ?_;intro bn ba;have q:al N N:=aa.refl _ _;have n:=n.ch;have aQ:=n.cD;have A:=fun x V=>(A x V).ch;have aR:bp (fun b=>True∧b<N.size) N.size:=fun b h=>h.2;have bH:=n.len;refine I.O (fun W=>?_);refine G.aj ?_;refine W (I.O (fun X=>?_));refine G.aU (Z.c2 (dE _ hQ fw fM hh)) ?_;rintro v6 bl ⟨d,af,_⟩;have U:=ax.new (aQ.mono q.size);have O:=ax.new (aR.mono q.size);have az:=ae.new q.size;obtain⟨n,A,q,_⟩:=cf af n A q;refine G.aU (Z.Br d bc o Tryz.underlying57 Tryz.underlying5 o) ?_;rintro bk M ⟨rfl,d,ag⟩;obtain⟨n,A,q,_⟩:=dQ ag n U A O q az;refine G.aj ?_;refine X (I.t1 (fun ai=>I.O (fun ak=>?_)));refine G.af ?_;refine G.v1 (bu n jO) ?_;refine G.af (G.nil (ak ?_));refine I.aC (fun _ ar _=>?_)
 refine I.bb (fun(bj:Nat×Value×Nat)=>match bj with|(i,B,E)=>[(3,B),(8,s.v),(9,.int .i64 (l.length:Int)),(10,.int .i64 (i:Int))])
  (fun(i,B,E) (H:Heap)=>(i≤l.length)∧aY E 5 H bd 1 B (hQ++gf 0 (dp (l.take i)))∧ae (N.size+1) M.size E∧aa (ay [(N.size+1)]) M H)
  (fun(i,B,E)=>l.length-i) (0,bk,(N.size+1)) ⟨o,o,o,o,trivial⟩ ?_ ?_
 ·
  exact⟨J,by simpa only[ni,dp,lG,gf,hi]using d,ae.refl _ _,aa.refl _ _⟩
 rintro⟨i,B,E⟩ bz av bm aB aC;obtain⟨bG,d,Q,j⟩:=av;have aD:=ae.O az Q q.size;obtain⟨n,A,q,_⟩:=dQ j n U A O q az;have ac:=d.le;have P:=Q;refine I.O (fun aG=>?_);refine G.v1 bZ (G.nil (aG ?_));refine I.t2 (fun aH aJ=>?_);refine a8 (fun aK=>?_) (fun aK=>?_)
 ·
  refine I.skip (aH (I.t1 (fun aL=>I.aC (fun am _ _=>I.O (fun aS=>?_)))));refine G.af ?_;have C:i<l.length:=by omega
  have bF:=JW C;have bg:=A l[i] (cU C);have bJ:=bb l[i] (cU C);have bD:hQ.length=8:=rfl;have bK:=n0 i l[i].2;refine G.cn (Y.cg n i o jO dt o o) fun bw ap=>?_;refine G.v1 (bf ap.W fe) ?_;refine G.aZ 2 ?_;refine aS (I.region ?_);refine G.av 3 ?_;refine aW BK (Gu i l[i].1 l[i].2 w0 _ bg.any J) ?_;rintro bA bB ⟨a0,a2,rfl,R,bx,aU⟩;obtain⟨d,j,_⟩:=bO aU d j;have bC:=R.le;refine G.aU (eO d R.rd fw (by simp only[bT];omega) (by simp only[bT];omega)) ?_;rintro a3 a4 ⟨a5,d,aV,F⟩;have F:=F.md;have S:=ae.O P aV j.size;obtain⟨j,_⟩:=c0 F j (an.r P);have ac:=d.le;refine G.aU (Z.c2 (dE _ ([(67:UInt8)]) fw fM hh)) ?_;rintro bo bq ⟨aX,a7,_⟩;obtain⟨d,j,_⟩:=bO a7 d j;refine G.aU (eO d aX.rd fw (by simp only[bT,iU];omega) (by simp only[bT,iU];omega)) ?_;rintro aN bt ⟨aP,d,aZ,K⟩;have K:=K.md;have a6:=ae.O S aZ j.size;obtain⟨j,_⟩:=c0 K j (an.r S);have ac:=d.le;refine G.aj ?_;refine am (aL (I.region ?_));refine G.v1 bN ?_;refine G.af (G.nil ?_);refine aT.sub (aB (i+1,aN,aP) _ ?_ ?_) ⟨o,o,(aF J),(aF J),trivial⟩
  ·exact⟨J,by rw[CK C,←dA];unfold iZ;rw[←dA];exact d,a6,j⟩
  ·first|omega|(simp only;omega)|(simp;omega)
 ·
  refine I.exit (aJ (aC (ar ?_)));refine ai (I.O (fun a_=>?_));refine G.aZ 2 ?_;refine a_ ?_;refine I.ret (ba ?_);have C:i=l.length:=by omega
  rw[C,eD]at d;obtain⟨so,rfl⟩:∃s:aO,B=s.v:=⟨cF B,d.bA.symm⟩;exact⟨so,E,o,d,aD,q⟩
theorem CT(s t:aO)(a b:List UInt8)(w0:World)(N:Heap)
 (d:b7 N bd 1 s.v a)(ao:b7 N bd 1 t.v b):
 aE Tryz.prog w0 179 #[s.v,t.v] N (fun r j=>r= .bool (decide (a=b))∧al N j):=by
 refine aE.aP [s.v,t.v] Tryz.func179 ?_;intro B A;have x:al N N:=aa.refl _ _;have d:=d.ch;have ao:=ao.ch;refine I.O (fun n=>?_);refine G.aj ?_;refine n (I.O (fun q=>?_));refine G.af ?_;refine G.v1 (Y.qn d o Tryz.underlying57 Tryz.underlying9 Tryz.underlying5 o) ?_;refine G.af ?_;refine G.v1 (Y.qn ao o Tryz.underlying57 Tryz.underlying9 Tryz.underlying5 o) ?_;refine G.v1 (Y.oc o o o) ?_;refine G.aj ?_;refine q ?_;refine I.ret (A ?_);exact⟨o,x⟩
end pg
namespace ph
open uu ho nC lY pg
theorem Hq{b:List UInt8}(h:4≤b.length):((b[0].toNat*2^24|||b[1].toNat*2^16)|||b[2].toNat*2^8)|||b[3].toNat=fF b:=by
 match b,h with
 |a::b::c::d::t,_=>
  have n:=a.toNat_lt;have ab:=b.toNat_lt;have q:=c.toNat_lt;have r:=d.toNat_lt
  have aP:a.toNat*2^24|||b.toNat*2^16=(a.toNat*256+b.toNat)*2^16:=by
   rw[show a.toNat*2^24=(a.toNat*2^8)*2^16 by omega,←qI _ 16,←qI b.toNat 16,←DA,zA,qI]
  have j:(a.toNat*256+b.toNat)*2^16|||c.toNat*2^8=((a.toNat*256+b.toNat)*256+c.toNat)*2^8:=by
   rw[show(a.toNat*256+b.toNat)*2^16=((a.toNat*256+b.toNat)*2^8)*2^8 by omega,←qI _ 8,←qI c.toNat 8,←DA,zA,qI]
  simp only[nX,List.getElem_cons_succ];rw[aP,j,zA];simp[fF,m7]
structure m2 (b:List UInt8) (l:List Rec) (at_:Nat):Prop where
 pM:at_=(c1 l).length
 eq:b=c1 l++b.drop at_
 pp:e6 b=l++lf l.length (b.drop at_)
 e:hK b=0
theorem m2.le{b:List UInt8}{l:List Rec}{a:Nat}(h:m2 b l a):a≤b.length:=by
 have d:=aI List.length h.eq;rw[bT,←h.pM]at d;omega
theorem m2.start{b:List UInt8}(h:b.take 8=hQ):m2 b [] 8:=
 ⟨o,by show b=(hQ++[])++b.drop 8;rw[hi,←h,hY],by unfold e6;rw[aM h];rfl,by unfold hK;rw[aM h]⟩
theorem m2.step{b:List UInt8}{l:List Rec}{a:Nat}{r:Rec}(h:m2 b l a)(d:e5 l.length (b.drop a)=some r):m2 b (l++[r]) (a+(13+r.length)):=by
 have ab:=EM d;refine⟨by rw[vf,bT,tT,←h.pM],?_,?_,h.e⟩
 ·rw[vf,dA,←mN,←ab];exact h.eq
 ·rw[h.pp,zG d,mN,dA];simp
theorem m2.stop{b:List UInt8}{l:List Rec}{a:Nat}(h:m2 b l a)(d:e5 l.length (b.drop a)=none):l=e6 b∧a=pT b:=by
 have ab:l=e6 b:=by rw[h.pp,wA d,hi]
 refine⟨ab,?_⟩;have j:b.take 8=hQ:=by have:=h.e;unfold hK at this;split at this;assumption;cases this
 unfold pT;rw[aM j,←ab];exact h.pM
theorem MB{n:Nat}{b:List UInt8}(h:b.length≤12):e5 n b=none:=by unfold e5;rw[aM (.inl h)]
theorem EL{n:Nat}{b:List UInt8}(h:1048576<fF b∨b.length≤12+fF b):e5 n b=none:=by unfold e5;rw[aM J]
theorem Mz{n:Nat}{b:List UInt8}(h:b.getD (12+fF b) 0≠67):e5 n b=none:=by
 unfold e5;split
 ·rfl
 ·rw[aA (fun ab=>h ab.1)]
theorem My{n:Nat}{b:List UInt8}(h:(b.drop 4).take 8≠lz n ((b.drop 12).take (fF b))):e5 n b=none:=by
 unfold e5;split
 ·rfl
 ·rw[aA (fun ab=>h ab.2)]
theorem MC{n:Nat}{b:List UInt8}(q:¬b.length≤12)(r:¬1048576<fF b)(ab:¬b.length≤12+fF b)(d:b.getD (12+fF b) 0=67)(j:(b.drop 4).take 8=lz n ((b.drop 12).take (fF b))):e5 n b=some ((b.drop 12).take (fF b)):=by
 unfold e5;rw[aA J,aM ⟨d,j⟩]
theorem F1(b:List UInt8)(i n:Nat):(b.take (i+n)).drop i=(b.drop i).take n:=by rw[yE];congr 1;omega
theorem Pb{x:UInt8}{n:Nat}(h:(x.toNat:Int)≠(n:Int))(aB:n<256):x≠UInt8.ofNat n:=fun e=>h (by rw[e,qH];omega)
theorem Pa{x:UInt8}{n:Nat}(h:(x.toNat:Int)=(n:Int))(aB:n<256):x=UInt8.ofNat n:=pE (by rw[qH];omega)
theorem kM{b:List UInt8}{i:Nat}(h:i<b.length):b.getD i 0=b[i]:=by rw[List.getD_eq_getElem?_getD,List.getElem?_eq_getElem h];rfl
theorem ax.e8{aQ:Nat→Prop}{d k:Nat}(h:ax aQ k)(j:ak k d):ax (fun b=>aQ b∨b+1=d) k:=by
 rintro b (e|e) ab
 ·exact h b e ab
 ·exact j b ab e
theorem bp.e8{aQ:Nat→Prop}{n d:Nat}(h:bp aQ n)(j:d≤n):bp (fun b=>aQ b∨b+1=d) n:=by
 rintro b (e|e)
 ·exact h b e
 ·omega
theorem zB{a b:Nat}(d:a<2^62)(ab:b<2^62):a|||b<2^62:=Nat.or_lt_two_pow d ab
theorem CN(l:List Rec):l.length≤(c1 l).length:=by
 rw[yi]
 have:∀l:List Rec,l.length≤(l.map (fun r=>13+r.length)).sum:=fun l=>by
  induction l with
  |nil=>simp
  |cons r l ih=>simp only[fx,dk,ib];omega
 have:=this l;omega
theorem Oh{α:Type}{F aQ:Nat→Prop}{H:Heap}{fb:α→aO×Rec}{l:List (aO×Rec)}{x:aO×Rec}(h:∀y∈l,Rd F H bd 1 y.1.v y.2)(d:∀b,F b→aQ b)(j:Rd aQ H bd 1 x.1.v x.2):∀y∈l++[x],Rd aQ H bd 1 y.1.v y.2:=fun y hy=>by
 rcases gG.1 hy with hy|hy
 ·exact(h y hy).imp (fun b _ e=>d b e)
 ·rw[eU.1 hy];exact j
theorem Ks(s t:aO)(a p:List UInt8)(w0:World)(N:Heap)
 (j:b7 N bd 1 s.v a)(ao:b7 N bd 1 t.v p):
 aE Tryz.prog w0 178 #[s.v,t.v] N (fun r B=>r= .bool (decide (a.take p.length=p))∧al N B):=by
 refine aE.aP [s.v,t.v] Tryz.func178 ?_;intro H A;have n:al N N:=aa.refl _ _;have j:=j.ch;have ao:=ao.ch;refine I.O (fun ad=>?_);refine G.aj ?_;refine ad (I.O (fun x=>?_));refine G.af ?_;refine G.v1 (bu j dV) ?_;refine G.af ?_;refine G.v1 (bu ao dV) ?_;refine G.v1 eT ?_;refine G.af ?_;refine G.bL (d:=10) o (fun E=>?_) (fun E=>?_)
 ·
  refine G.av 2 ?_;refine G.aG (bu ao dV) ?_;refine G.e (g:=fun v=>v) (Y.slice j (0) p.length o dV dK o (.inl ⟨o,o⟩) (.inr ⟨_,_,_,o,o,by first|rfl|omega⟩) J J) bR o o (fun ac q=>?_);rw[nh]at q;obtain⟨F,rfl⟩:∃s:aO,ac=s.v:=⟨cF ac,q.bA.symm⟩;refine G.b4 ?_;refine G.call o BQ o bR o o (CT F t (a.take p.length) p w0 _ q.any ao.any) ?_;rintro K L ⟨rfl,C⟩;have n:=n.O C;refine G.aZ 2 ?_;refine x ?_;refine I.ret (A ?_);exact⟨o,n⟩
 ·
  refine G.aZ 8 ?_;refine x ?_;refine I.ret (A ?_);exact⟨by rw[cL (fun h=>by have ab:=aI List.length h;rw[eJ]at ab;omega)],n⟩
set_option maxHeartbeats 2000000 in
theorem EX(s:aO)(b:List UInt8)(w0:World)(N:Heap)
 (ao:b7 N bd 1 s.v b)(cX:b.length≤1000000000):
 aE Tryz.prog w0 91 #[s.v] N (fun r aB=>∃t:aO,∃l:List (aO×Rec),r= .tuple #[t.v,.int .i64 (pT b:Int),.int .i64 (hK b:Int)]∧dp l=e6 b∧Rd (fun b=>N.size≤b) aB kI 1 t.v l∧(∀x∈l,Rd (fun b=>N.size≤b) aB bd 1 x.1.v x.2)∧al N aB):=by
 refine aE.aP [s.v] Tryz.func91 ?_;intro cw V;have q:al N N:=aa.refl _ _;have ao:=ao.ch;have ap:=ao.cD;refine I.O (fun b_=>?_);refine G.aZ 3 ?_;refine b_ (I.N7 (fun _ R=>I.t2 (fun ca cb=>I.O (fun cc=>?_))));refine G.af ?_;refine G.aU (Z.c2 (dE _ hQ fw fM hh)) ?_;rintro cD cG ⟨ay,bl,_⟩;have br:=ax.new (ap.mono q.size);have bK:=ae.new q.size;obtain⟨ao,q,_⟩:=bO bl ao q;refine G.aU (Z.Br ay bc o Tryz.underlying57 Tryz.underlying5 o) ?_;rintro cR cH ⟨rfl,ay,bm⟩;obtain⟨ao,q,_⟩:=dW bm ao br q bK;obtain⟨cd,rfl⟩:∃s:aO,cR=s.v:=⟨cF cR,ay.bA.symm⟩;refine aW Ib (Ks s cd b hQ w0 _ ao.any ay.rd.any) ?_;rintro cI be ⟨rfl,bn⟩;obtain⟨ao,q,_⟩:=bO bn ao q;refine G.v1 (Y.kp o o) (G.nil (cc ?_));refine a8 (fun aG=>?_) (fun aG=>?_)
 ·
  refine I.O (fun cg=>?_);refine G.aZ 3 ?_;refine cg ?_;refine I.ret (cb (R (V ?_)));have ar:¬b.take 8=hQ:=aG;exact⟨⟨none,0,0⟩,[],by unfold pT hK;rw[aA ar,aA ar];rfl,by unfold e6;rw[aA ar];rfl,Rd.nil _ _ _ _,(fun x h=>by cases h),q⟩
 ·
  have ar:b.take 8=hQ:=k9 (fun h=>aG h);refine I.skip (ca (I.O (fun bv=>?_)));refine G.aj ?_;refine bv (I.O (fun ch=>?_));refine G.aj ?_;refine ch (I.t1 (fun ck=>?_));refine I.label ?_;refine ck (I.t1 (fun ag=>I.aC (fun _ X _=>?_)))
  refine I.bb (fun(cv:Nat×Value×Nat×(List (aO×Rec))×(Nat→Prop))=>match cv with|(a,B,W,l,aQ)=>[(0,s.v),(5,B),(6,.int .i64 (a:Int))])
   (fun(a,B,W,l,aQ) (H:Heap)=>(m2 b (dp l) a)∧aY W 57 H kI 1 B l∧(∀x∈l,Rd aQ H bd 1 x.1.v x.2)∧bp aQ H.size∧ax aQ W∧(∀c,aQ c→N.size≤c)∧ae 0 be.size W∧al be H)
   (fun(a,B,W,l,aQ)=>b.length-a) (8,.slice none 0 0,0,[],fun _=>False) ⟨o,o,o,trivial⟩ ?_ ?_
  ·
   exact⟨m2.start ar,aY.nil rI rJ,(fun x h=>by cases h),(fun b e=>e.elim),(fun b e=>e.elim),(fun c e=>e.elim),ae.refl _ _,aa.refl _ _⟩
  rintro⟨a,B,W,l,aQ⟩ aZ cl cJ bo ac;obtain⟨E,j,A,aP,f1,S,aR,C⟩:=cl;have ai:=ae.O (ae.refl 0 _) aR q.size;obtain⟨ao,q,_⟩:=bO C ao q;have bT:=j.le;have a6:=aR;have cV:=E.le;have c2:(b.drop a).length=b.length-a:=ia;have aK:(dp l).length=l.length:=by simp[dp]
  have cZ:=E.pM;have cY:l.length≤(c1 (dp l)).length:=by rw[←aK];exact CN _
  refine I.aC (fun bq _ af=>I.O (fun bt=>?_));refine G.av 2 ?_;refine G.aP (g:=fun v=>v) (Y.slice ao a _ o dV dK o (.inr ⟨_,_,_,o,o,by first|rfl|omega⟩) (.inl ⟨o,o⟩) J J) fun cK M=>?_;rw[eD]at M;refine G.aj ?_;refine bt (I.t2 (fun bw bx=>I.O (fun bz=>?_)));refine G.af ?_;refine G.v1 (bu M dV) ?_;refine G.v1 fK (G.nil (bz ?_));refine a8 (fun bV=>?_) (fun bV=>?_)
  ·
   have O:e5 (dp l).length (b.drop a)=none:=MB J;refine I.exit (bx (af (ac (X ?_))));refine ag (I.O (fun bA=>?_));refine G.aZ 5 ?_;refine bA ?_;refine I.ret (R (V ?_));obtain⟨bh,bW⟩:=E.stop O;obtain⟨so,rfl⟩:∃s:aO,B=s.v:=⟨cF B,j.bA.symm⟩;exact⟨so,l,by rw[E.e,←bW];rfl,bh,(j.rd.imp (fun c _ e=>by have K:=ai;unfold ae at K;omega)),(fun x h=>(A x h).imp (fun c _ e=>S c e)),q⟩
  ·
   have cU:12<(b.drop a).length:=by omega
   have cn:=Hq (b:=b.drop a) J;have cW:fF (b.drop a)<4294967296:=Ho _ (by rw[eJ];omega);refine I.skip (bw (I.t1 (fun bB=>?_)));refine jk ?_;refine G.af ?_;refine G.cn (Y.cg M (0) o dV dK o o) fun cy bC=>?_;refine G.v1 (bf bC.W fE) ?_;refine G.v1 (Y.u6 o lP gZ o) ?_;refine G.v1 (Y.od (24) o o o gP J (by have:=((b.drop a)[0]).toNat_lt;omega)) ?_;refine G.af ?_;refine G.cn (Y.cg M (1) o dV dK o o) fun cz bE=>?_;refine G.v1 (bf bE.W fE) ?_;refine G.v1 (Y.u6 o lP gZ o) ?_;refine G.v1 (Y.od (16) o o o gP J (by have:=((b.drop a)[1]).toNat_lt;omega)) ?_;refine G.v1 (Y.mU o o o (by have an:=(b.drop a)[0].toNat_lt;omega) (by have an:=(b.drop a)[1].toNat_lt;omega)) ?_;refine G.af ?_;refine G.cn (Y.cg M (2) o dV dK o o) fun cA bF=>?_;refine G.v1 (bf bF.W fE) ?_;refine G.v1 (Y.u6 o lP gZ o) ?_;refine G.v1 (Y.od (8) o o o gP J (by have:=((b.drop a)[2]).toNat_lt;omega)) ?_;refine G.v1 (Y.mU o o o (by have an:=(b.drop a)[0].toNat_lt;have cm:=(b.drop a)[1].toNat_lt;exact fg (Nat.le_of_lt (zB J J)) bc) (by have an:=(b.drop a)[2].toNat_lt;omega)) ?_;refine G.af ?_;refine G.cn (Y.cg M (3) o dV dK o o) fun cB bG=>?_;refine G.v1 (bf bG.W fE) ?_;refine G.v1 (Y.u6 o lP gZ o) ?_;refine G.v1 (Y.cast (v2:= .int .i64 (fF (b.drop a):Int)) (Y.mU o o o (by have an:=(b.drop a)[0].toNat_lt;have cm:=(b.drop a)[1].toNat_lt;have ab:=(b.drop a)[2].toNat_lt;exact fg (Nat.le_of_lt (zB (zB J J) J)) bc) (by have an:=(b.drop a)[3].toNat_lt;omega)) (by rw[cn])) ?_;refine G.aj ?_;refine bB (I.t2 (fun bH aS=>I.O (fun a7=>?_)));refine G.af ?_;refine G.v1 fA ?_;refine G.af ?_;refine G.bL (d:=45) o (fun bX=>?_) (fun bX=>?_)
   ·
    have O:e5 (dp l).length (b.drop a)=none:=EL (.inl J);refine G.av 6 ?_;refine G.nil (a7 ?_);refine I.kc o ?_;refine I.exit (aS (af (ac (X ?_))));refine ag (I.O (fun bJ=>?_));refine G.aZ 5 ?_;refine bJ ?_;refine I.ret (R (V ?_));obtain⟨bh,bW⟩:=E.stop O;obtain⟨so,rfl⟩:∃s:aO,B=s.v:=⟨cF B,j.bA.symm⟩;exact⟨so,l,by rw[E.e,←bW];rfl,bh,(j.rd.imp (fun c _ e=>by have K:=ai;unfold ae at K;omega)),(fun x h=>(A x h).imp (fun c _ e=>S c e)),q⟩
   ·
    refine G.b4 ?_;refine G.aG (bu M dV) ?_;refine G.aG gq ?_;refine G.b4 ?_;refine G.aG fK ?_;refine G.eh ?_;refine G.nil (a7 ?_);refine a8 (fun bY=>?_) (fun bY=>?_)
    ·
     have O:e5 (dp l).length (b.drop a)=none:=EL (.inr J);refine I.exit (aS (af (ac (X ?_))));refine ag (I.O (fun bL=>?_));refine G.aZ 5 ?_;refine bL ?_;refine I.ret (R (V ?_));obtain⟨bh,bW⟩:=E.stop O;obtain⟨so,rfl⟩:∃s:aO,B=s.v:=⟨cF B,j.bA.symm⟩;exact⟨so,l,by rw[E.e,←bW];rfl,bh,(j.rd.imp (fun c _ e=>by have K:=ai;unfold ae at K;omega)),(fun x h=>(A x h).imp (fun c _ e=>S c e)),q⟩
    ·
     have c0:(((b.drop a).drop 12).take (fF (b.drop a))).length=fF (b.drop a):=by rw[eJ,ia];omega
     refine I.skip (bH (I.O (fun bM=>?_)));refine G.av 2 ?_;refine G.v1 bN ?_;refine G.aP (g:=fun v=>v) (Y.slice M (12) (12+fF (b.drop a)) o dV dK o (.inr ⟨_,_,_,o,o,by first|rfl|omega⟩) (.inr ⟨_,_,_,o,o,by first|rfl|omega⟩) J J) fun bi Q=>?_;rw[F1]at Q;obtain⟨bZ,rfl⟩:∃s:aO,bi=s.v:=⟨cF bi,Q.bA.symm⟩;refine G.aj ?_;refine bM (I.t2 (fun bP aU=>I.t1 (fun aV=>?_)));refine eA (fun F=>al aZ F) [] ?_;have n:=al.refl aZ;refine U.af 0 o n ?_;refine U.af 1 o n ?_;refine U.t1 2 o (fun F L=>bN) n ?_;refine U.e (g:=fun ad=> .pointer (some ad)) 3 bD o bD bD bD (Y.cg M (12+fF (b.drop a)) o dV dK o o) cS o o n (fun cC bQ=>?_);refine U.t1 4 o (fun F L=>bf (bQ.W.aR L) fE) n ?_;refine U.t1 5 o (fun F L=>dX) n ?_;refine U.af 6 o n ?_;refine U.bL (d:=62) o (fun a0=>?_) (fun a0=>?_)
     ·
      have O:e5 (dp l).length (b.drop a)=none:=Mz (by rw[kM J];exact Pb a0 bc);refine U.g1 7 o o o o n ?_;refine U.g1 8 o o o o n ?_;refine U.g1 9 o o o o n ?_;refine U.g1 10 o o o o n ?_;refine U.g1 11 o o o o n ?_;refine U.g1 12 o o o o n ?_;refine U.g1 13 o o o o n ?_;refine U.g1 14 o o o o n ?_;refine U.t1 15 o (fun F L=>ga) n ?_;refine dB ?_;have cq:=n;refine aV ?_;refine I.kc o ?_;refine I.exit (aU (af (ac (X ?_))));refine ag (I.O (fun a2=>?_));refine G.aZ 5 ?_;refine a2 ?_;refine I.ret (R (V ?_));obtain⟨bh,bW⟩:=E.stop O;obtain⟨so,rfl⟩:∃s:aO,B=s.v:=⟨cF B,j.bA.symm⟩;exact⟨so,l,by rw[E.e,←bW];rfl,bh,(j.rd.imp (fun c _ e=>by have K:=ai;unfold ae at K;omega)),(fun x h=>(A x h).imp (fun c _ e=>S c e)),q⟩
     ·
      have cp:(b.drop a).getD (12+fF (b.drop a)) 0=67:=by rw[kM J];exact Pa (k9 a0) bc
      refine U.cB 7 o (fun F L=>gj) bR n ?_;refine U.e (g:=fun v=>v) 8 bD o bD bD bD (Y.slice M (4) (12) o dV dK o (.inr ⟨_,_,_,o,o,by first|rfl|omega⟩) (.inr ⟨_,_,_,o,o,by first|rfl|omega⟩) J J) bR o o n (fun a_ av=>?_);rw[show(12:Nat)=4+8 from o,F1]at av;obtain⟨b0,rfl⟩:∃s:aO,a_=s.v:=⟨cF a_,av.bA.symm⟩;refine U.cB 9 o (fun F L=>gj) bR n ?_;refine U.cB 10 o (fun F L=>Y.cast (v2:= .int .i64 (l.length:Int)) (bu (j.rd.aR L) jO) o) bR n ?_;refine U.cB 11 o (fun F L=>gj) bR n ?_;refine U.bg 12 ?_;refine e_.call o o BR o bR o o (sZ l.length bZ (((b.drop a).drop 12).take (fF (b.drop a))) w0 _ Q.any J) ?_;rintro cL aC ⟨b1,rfl,aJ,aX⟩;obtain⟨j,A,Q,av,q,C,_⟩:=fY aX j A Q av q C;have aJ:=aJ.ch;have bU:=n.O aX;refine U.dx bU ?_;have bj:=al.refl aC;refine U.bg 13 ?_;refine e_.call o o BQ o bR o o (CT b0 b1 _ _ w0 _ av.any aJ.any) ?_;rintro cN b9 ⟨rfl,aL⟩;obtain⟨j,A,Q,q,C,_⟩:=dH aL j A Q q C;have bk:=bj.O aL;refine U.dx bk ?_;have aH:=al.refl b9;refine U.cB 14 o (fun F L=>Y.kp o o) bR aH ?_;refine U.t1 15 o (fun F L=>fT) aH ?_;refine dB ?_;have cq:=aH;refine aV ?_;refine a8 (fun a3=>?_) (fun a3=>?_)
      ·
       have O:e5 (dp l).length (b.drop a)=none:=by rw[aK];exact My a3
       refine I.exit (aU (af (ac (X ?_))));refine ag (I.O (fun a4=>?_));refine G.aZ 5 ?_;refine a4 ?_;refine I.ret (R (V ?_));obtain⟨bh,bW⟩:=E.stop O;obtain⟨so,rfl⟩:∃s:aO,B=s.v:=⟨cF B,j.bA.symm⟩;exact⟨so,l,by rw[E.e,←bW];rfl,bh,(j.rd.imp (fun c _ e=>by have K:=ai;unfold ae at K;omega)),(fun x h=>(A x h).imp (fun c _ e=>S c e)),q⟩
      ·
       have cr:e5 (dp l).length (b.drop a)=some (((b.drop a).drop 12).take (fF (b.drop a))):=by rw[aK];exact MC J J J cp (k9 (fun h=>a3 h))
       refine I.skip (bP (I.O (fun a5=>?_)));refine G.av 2 ?_;refine aW rA (qk _ (((b.drop a).drop 12).take (fF (b.drop a))) w0 _ Q.any J) ?_;rintro cO cP ⟨aD,b2,rfl,P,aN,bb⟩;have ba:=ak.app ak.z j.le aN;have bg:=ae.O (ae.refl 0 _) aN q.size;obtain⟨j,A,C,_⟩:=cf bb j A C;have a9:=P.le;refine G.aU (Z.c2 (dE _ ([(aD,((b.drop a).drop 12).take (fF (b.drop a)))]) rT rI rJ)) ?_;rintro cQ cT ⟨ct,bS,_⟩;obtain⟨j,A,P,C,_⟩:=ed bS j A P C;refine G.aU (eO j ct.rd rT (by simp only[iU];omega) (by simp only[iU];omega)) ?_;rintro b3 cx ⟨b4,j,az,am⟩;have am:=am.md;have b5:=ax.app f1 (aP.mono J) az;have b6:=ak.app ba.symm P.le az;have b8:=ae.O a6 az C.size;obtain⟨A,P,C,_⟩:=dQ am A f1 P ba.symm C a6;have bT:=j.le;refine G.aj ?_;refine a5 (I.region ?_);refine G.av 2 ?_;refine G.v1 bN ?_;refine G.v1 bN ?_;refine G.v1 (Y.cast (v2:= .int .i64 ((a+(13+(((b.drop a).drop 12).take (fF (b.drop a))).length):Nat):Int)) bN (eI J)) ?_;refine G.aj ?_;refine bq ?_;refine aT.sub (bo (a+(13+(((b.drop a).drop 12).take (fF (b.drop a))).length),b3,b4,l++[(aD,((b.drop a).drop 12).take (fF (b.drop a)))],fun c=>aQ c∨c+1=b2) _ ?_ ?_) ⟨o,o,(aF J),trivial⟩
       ·exact⟨by unfold dp;rw[gg];exact E.step cr,j,Oh (α:=Unit) (fb:=fun _=>(aD,[])) A (fun c e=> .inl e) (P.rd.imp (fun c _ e=> .inr e)),bp.e8 (aP.mono J) P.le,ax.e8 b5 b6.symm,fun c e=>by rcases e with e|e;exact S c e;exact(by have K:=bg;unfold ae at K;omega),b8,C⟩
       ·show b.length-(a+(13+_))<b.length-a;omega
end ph
namespace E
section
variable {P : Program} {w0 : World} {n : Nat} {l : cm} {H : Heap} {T : Oper}
theorem Z.ext{f:FuncId}{fn:Func}{e:Array Value→Sem Value}{args:List Operand}{x:Array TypeId}{q:List Value}{r:Value→Heap→Prop}(G:T.op= .call {callee:= .value (.func f),args:=args.toArray,argTypes:=x})(C:P.funcs[f]?=some fn)
 (F:(fn.name== "runtime.NumGoroutine")=false) (ao:fn.body.isNone=true) (aB:Extern.findNext fn=none) (he:Extern.find fn=some e) (K:iA l args=some q) (I:∀w,At w0 H w→∃v V d,(e q.toArray).run P w= .ok v d∧At w0 V d∧r v V):Z P w0 n l H T r:=by
 intro a w E B;have A:a.eval (.func f)= .func (.func f) #[] #[]:=rfl;have ab:=E.mC K;have j:=run_callFunc_extern (P:=P) C F ao aB he q.toArray w;obtain⟨v,V,d,bh,bW,cw⟩:=I w B;rw[bh]at j;simp only[Result.andThen]at j;exact⟨v,V,d,by simp[execOp,G,resolve,Deferred.ofValue,A,invoke,ab,j],bW,cw⟩
theorem Var.cell{e:TypeId}{b:Nat}{cs:List Value}(h:Var e H b cs){w:World}(q:At w0 H w){i:Nat}{c:Value}(aq:cs[i]?=some c):w.cell? ⟨b,i,none⟩=some c∧w.frozen? ⟨b,i,none⟩=false∧∃d,w.heap[b]?=some (.cells cs.toArray e d):=by
 obtain⟨d,n,ab⟩:=id h.row;have r:=(List.getElem?_eq_some_iff.1 aq).1;have j:w.heap[b]?=some (.cells cs.toArray e d):=by rw[q.heap];exact n
 refine⟨by simp[World.cell?,j,aq],?_,d,j⟩;obtain⟨A,x⟩:=d;have:=ab.2 i (by simpa using r);simp only at this;simp[World.frozen?,j];omega
theorem Z.GQ{f:FuncId}{fn:Func}{args:List Operand}{B:Array TypeId}{e:TypeId}{b i:Nat}{cs:List Value}{x y:Int}(h:Var e H b cs)(aq:cs[i]?=some (.int .i64 x))(I:T.op= .call {callee:= .value (.func f),args:=args.toArray,argTypes:=B})(F:P.funcs[f]?=some fn)
 (G:(fn.name== "runtime.NumGoroutine")=false) (ao:fn.body.isNone=true) (aB:Extern.findNext fn=none) (he:Extern.find fn=some (Extern.Atomic.update (Op.intArith .add) .i64 true)) (K:iA l args=some [.pointer (some ⟨b,i,none⟩),.int .i64 y]) (M: -9223372036854775808≤x+y∧x+y≤9223372036854775807):
 Z P w0 n l H T (fun r V=>r= .int .i64 (x+y)∧Var e V b (cs.set i (.int .i64 (x+y)))∧aa (fun c=>c=b) H V):=by
 refine Z.ext I F G ao aB he K (fun w d=>?_);obtain⟨j,ab,C,E⟩:=h.cell d aq;have hw:IntKind.i64.wrap (x+y)=x+y:=by rw[IntKind.wrap_i64];omega
 have L:=(List.getElem?_eq_some_iff.1 aq).1;refine⟨.int .i64 (x+y),_,w.setRow b (cs.toArray.setIfInBounds i (.int .i64 (x+y))),?_,d.row _ _,o,?_,tZ d _ _⟩
 ·have ag:(store ⟨b,i,none⟩ (.int .i64 (x+y)) .atomic).run P w= .ok () (w.setRow b (cs.toArray.setIfInBounds i (.int .i64 (x+y)))):=by
   rw[Go.run_store P w _ _ _ o,j];simp only[ab,lF,if_false];rw[setCell_eq_setRow w b i cs.toArray e C _ E]
  have aP:Extern.Atomic.update (Op.intArith .add) .i64 true #[.pointer (some ⟨b,i,none⟩),.int .i64 y]=(asAddr (.pointer (some ⟨b,i,none⟩))>>=fun a=>Extern.Atomic.read (.int .i64) a>>=fun A=>asInt A>>=fun p=>asInt (.int .i64 y)>>=fun q=>Op.intArith .add .i64 p q>>=fun new=>store a new .atomic>>=fun _=>pure (if true then new else A)):=rfl;show(Extern.Atomic.update (Op.intArith .add) .i64 true #[.pointer (some ⟨b,i,none⟩),.int .i64 y]).run P w=_;rw[aP];simp[Extern.Atomic.read,asAddr,j,asInt,asIntOf,Op.intArith,hw,ag]
 ·have:=wN d h.row (c:=cs.toArray.setIfInBounds i (.int .i64 (x+y))) bl
  exact⟨by simpa using this⟩
end
end E
namespace jz
open nC
inductive gL|out|fs|hG|dir (p:aD)|now (p:aD)|pZ (p:aD)|pt (p:aD)|gu (i:Nat)|p7 (i:Nat)|h_
abbrev ptr(b:Nat):Value:= .pointer (some ⟨b,0,none⟩)
abbrev gC(fb:List Nat)(i:Nat):Value:=ptr (fb.getD i 0)
abbrev oM(fb:List Nat)(T:Option Nat):Option Addr:=T.map (fun i=>⟨fb.getD i 0,0,none⟩)
abbrev jn(fb:List Nat)(c:c_):List Value:=[aN c.g,aN c.n,.pointer (oM fb c.f)]
theorem oJ(fb:List Nat)(c:c_):(jn fb c).length=3:=rfl
theorem rG(fb:List Nat)(c:c_):∀u∈jn fb c,u.oneCell'=true:=by
 intro u hu;simp only[dU,nf,or_false]at hu;rcases hu with rfl|rfl|rfl<;>rfl
theorem MM{α:Type}{aQ:Nat→Prop}{e:TypeId}{H:Heap}{f g:α→List Value}{sz:Nat}{v:Value}{l:List α}(h:Own aQ e H f sz v l)(aq:∀x,(g x).length=sz)(B:∀x,∀u∈g x,u.oneCell'=true)(C:∀x∈l,f x=g x):Own aQ e H g sz v l:=by
 refine⟨aq,B,?_⟩;rcases h.ex with h|⟨b,cap,cur,aP,d,j,n,q,r,A⟩
 ·exact .inl h
 ·refine .inr ⟨b,cap,cur,aP,d,j,n,q,r,?_⟩
  rw[A,rZ,rZ,mK C]
theorem MJ{α:Type}{k:Nat}{e:TypeId}{H:Heap}{f g:α→List Value}{sz:Nat}{v:Value}{l:List α}(h:aY k e H f sz v l)(aq:∀x,(g x).length=sz)(d:∀x,∀u∈g x,u.oneCell'=true)(j:∀x∈l,f x=g x):aY k e H g sz v l:=⟨MM h.own aq d j,h.le⟩
theorem Em{κ β:Type}{H:Heap}{aX:κ→Value}{f g:β→Value}{b:Nat}{m:List (κ×β)}(h:cW H aX f b m)(A:∀x∈m,f x.2=g x.2):cW H aX g b m:=by
 obtain⟨r,es,clock,d,ab,j,n,q⟩:=h.fX.ex;exact⟨⟨r,es,clock,d,ab,j,n,by rw[q];exact mK (fun x B=>by rw[A x B])⟩⟩
section
variable {ρ ρ' : Nat → gL} {fb : List Nat} {H V : Heap} {D D' : aw} {p : aD} {bo cu cA k i b : Nat} {bA fO gi : aO} {b5 fJ : cI} {x : fi} {l : List l0} {S : Nat → Prop}
structure oq (ρ:Nat→gL) (fb:List Nat) (H:Heap) (D:aw) (p:aD) (bo cu cA k:Nat) (bA:aO) (b5 fJ:cI):Prop where
 rd:ρ bo= .dir p
 cV:Var 173 H bo [.map (some cu),.map (some cA),bA.v]
 iC:ρ cu= .now p
 aB:cW H aN (gC fb) cu b5
 rs:ρ cA= .pZ p
 ag:cW H aN (gC fb) cA fJ
 iP:∀q,aH b5 q=if bV q=p then aH D.now q else none
 es:∀q,aH fJ q=if bV q=p then aH D.stays q else none
 aq:aY k 177 H (jn fb) 3 bA.v (D.de p)
 rc:∀c,c+1=k→ρ c= .pt p
structure kD (ρ:Nat→gL) (H:Heap) (i b:Nat) (x:fi) (fO bA gi:aO) (k:Nat) (l:List l0):Prop where
 cv:ρ b= .gu i
 ez:Var 186 H b [fO.v,bA.v,gi.v]
 aB:Rd (fun c=>ρ c= .h_) H bd 1 fO.v x.now
 ag:Rd (fun c=>ρ c= .h_) H bd 1 bA.v x.stays
 hw:aY k 275 H lB 2 gi.v l
 lw:l.map (·.1)=x.w
 ah:∀y∈l,Rd (fun c=>ρ c= .h_) H bd 1 y.2.v y.1.d
 kV:∀c,c+1=k→ρ c= .p7 i
def Ext(ρ ρ':Nat→gL):Prop:=∀c,ρ c≠ .out→ρ' c=ρ c
theorem Ext.refl(ρ:Nat→gL):Ext ρ ρ:=fun _ _=>rfl
theorem Ext.of(h:Ext ρ ρ'){c:Nat}{r:gL}(e:ρ c=r)(d:r≠ .out):ρ' c=r:=by rw[h c (by rw[e];exact d)];exact e
theorem n6{α:Type}{f:α→List Value}{sz:Nat}{v:Value}{l:List α}(h:Rd (fun c=>ρ c= .h_) H f sz v l)(j:Ext ρ ρ')(s:aa S H V)(d:∀c,S c→ρ c≠ .h_):Rd (fun c=>ρ' c= .h_) V f sz v l:=
 (h.up s (fun b _ e ag=>d b ag e)).imp (fun b _ e=>j.of e bl)
theorem oq.O(h:oq ρ fb H D p bo cu cA k bA b5 fJ)(j:Ext ρ ρ')(s:aa S H V)(d:∀c,S c→ρ c≠ .dir p∧ρ c≠ .now p∧ρ c≠ .pZ p∧ρ c≠ .pt p)
 (aB:∀q,bV q=p→aH D'.now q=aH D.now q)(ag:∀q,bV q=p→aH D'.stays q=aH D.stays q)(aq:D'.de p=D.de p):oq ρ' fb V D' p bo cu cA k bA b5 fJ where
 rd:=j.of h.rd bl
 cV:=h.cV.up s (fun e=>(d _ e).1 h.rd)
 iC:=j.of h.iC bl
 aB:=h.aB.up s (fun e=>(d _ e).2.1 h.iC)
 rs:=j.of h.rs bl
 ag:=h.ag.up s (fun e=>(d _ e).2.2.1 h.rs)
 iP:=fun q=>by rw[h.iP];split
               ·rename_i e;rw[aB q e]
               ·rfl
 es:=fun q=>by rw[h.es];split
               ·rename_i e;rw[ag q e]
               ·rfl
 aq:=by rw[aq];exact h.aq.up s (fun b _ e ao=>(d b ao).2.2.2 (h.rc b e))
 rc:=fun c e=>j.of (h.rc c e) bl
theorem kD.O(h:kD ρ H i b x fO bA gi k l)(j:Ext ρ ρ')(s:aa S H V)(d:∀c,S c→ρ c≠ .gu i∧ρ c≠ .p7 i∧ρ c≠ .h_):kD ρ' V i b x fO bA gi k l where
 cv:=j.of h.cv bl
 ez:=h.ez.up s (fun e=>(d _ e).1 h.cv)
 aB:=n6 h.aB j s (fun c e=>(d c e).2.2)
 ag:=n6 h.ag j s (fun c e=>(d c e).2.2)
 hw:=h.hw.up s (fun b _ e ao=>(d b ao).2.1 (h.kV b e))
 lw:=h.lw
 ah:=fun y hy=>n6 (h.ah y hy) j s (fun c e=>(d c e).2.2)
 kV:=fun c e=>j.of (h.kV c e) bl
structure cQ where
 ρ:Nat→gL
 fb:List Nat
 bE:Nat
 cJ:List (aD×Nat)
 c9:Nat
structure bq (K:List Nat) (g:cQ) (H:Heap) (b:Nat) (D:aw):Prop where
 ec:∀c,c+1∈K↔g.ρ c≠ .out
 lt:∀c,g.ρ c≠ .out→c<H.size
 b0:g.ρ b= .fs
 cy:Var 102 H b [.int .i64 D.cap,.int .i64 D.most,.map (some g.bE),.int .i64 D.ops,.int .i64 g.c9,.bool D.dead]
 kS:D.dead=false→g.c9=D.left
 kR:g.c9≤9223372036854775807
 l1:D.cap≤9223372036854775807
 me:D.most≤9223372036854775807
 jD:g.ρ g.bE= .hG
 hm:cW H aN ptr g.bE g.cJ
 hG:∀p bo,aH g.cJ p=some bo→∃cu cA k bA b5 fJ,oq g.ρ g.fb H D p bo cu cA k bA b5 fJ
 abs:∀p,aH g.cJ p=none→(∀q,bV q=p→aH D.now q=none∧aH D.stays q=none)∧D.de p=[]
 len:g.fb.length=D.fs.length
 gu:∀i,i<D.fs.length→∃fO bA gi k l,kD g.ρ H i (g.fb.getD i 0) (a1 D.fs i) fO bA gi k l
 ids:(∀p i,aH D.now p=some i→i<D.fs.length)∧(∀p i,aH D.stays p=some i→i<D.fs.length)∧(∀c∈D.log,∀i,c.f=some i→i<D.fs.length)
 kd:g.cJ.length≤D.ops
variable {K hN : List Nat} {g : cQ} {ks : List Nat}
theorem bq.aC(h:bq K g H b D):sF K H.size:=fun k d=>by
 rcases qE k with e|this
 ·omega
 ·have ab:=h.lt (k-1) ((h.ec (k-1)).1 (by rw[Nat.sub_add_cancel this];exact d))
  omega
theorem bq.up(h:bq K g H b D)(s:aa S H V)(d:∀c,S c→g.ρ c= .out):bq K g V b D where
 ec:=h.ec
 lt:=fun c e=>l7 (h.lt c e) s.size
 b0:=h.b0
 cy:=h.cy.up s (fun e=>by have:=d _ e;rw[h.b0]at this;cases this)
 kS:=h.kS
 kR:=h.kR
 l1:=h.l1
 me:=h.me
 jD:=h.jD
 hm:=h.hm.up s (fun e=>by have:=d _ e;rw[h.jD]at this;cases this)
 hG:=fun p bo e=>by
  obtain⟨cu,cA,k,bA,b5,fJ,ah⟩:=h.hG p bo e;exact⟨cu,cA,k,bA,b5,fJ,ah.O (Ext.refl _) s (fun c aq=>by rw[d c aq];simp) (fun _ _=>rfl) (fun _ _=>rfl) o⟩
 abs:=h.abs
 len:=h.len
 gu:=fun i n=>by
  obtain⟨fO,bA,gi,k,l,j⟩:=h.gu i n;exact⟨fO,bA,gi,k,l,j.O (Ext.refl _) s (fun c aq=>by rw[d c aq];simp)⟩
 ids:=h.ids
 kd:=h.kd
theorem bq.aR(h:bq K g H b D)(s:al H V):bq K g V b D:=h.up s (fun c e=>e.elim)
theorem bq.role(h:bq K g H b D){c:Nat}(aq:c+1∉K):g.ρ c= .out:=mb (fun e=>aq ((h.ec c).2 e))
theorem bq.aJ(h:bq K g H b D)(s:aa (ay ks) H V)(d:o_ K ks):bq K g V b D:=h.up s (fun c e=>h.role (fun j=>d (c+1) j (c+1) e c o o))
instance:cr (bq K g H b D) H V (bq K g V b D):=⟨fun s h=>h.aR s⟩
instance:ct (bq K g H b D) H V (bq K g V b D) (AE K):=⟨fun s h d=>h.aJ s (o_.cons d o_.nil)⟩
theorem bq.mem(h:bq K g H b D){c:Nat}{r:gL}(e:g.ρ c=r)(d:r≠ .out):c+1∈K:=(h.ec c).2 (by rw[e];exact d)
theorem bq.nZ{r:gL}(h:bq K g H b D)(d:∀c,c+1=k→g.ρ c=r)(j:r≠ .out):hO K k:=fun c e=>h.mem (d c e) j
theorem bq.nk{c:Nat}{r:gL}(h:bq K g H b D)(e:g.ρ c=r)(d:r≠ .out):hO K (c+1):=hO.of (h.mem e d)
theorem bq.ms(h:bq K g H b D)(s:aa S H V)(d:∀c,S c→g.ρ c≠ .out):aa (ay K) H V:=s.weaken (fun c _ e=>(h.ec c).2 (d c e))
theorem bq.wM{d:cQ}(h:bq K g H b D)(s:aa (ay [b+1]) H V)(x:d.ρ=g.ρ∧d.fb=g.fb∧d.bE=g.bE∧d.cJ=g.cJ)
 (F:Var 102 V b [.int .i64 D.cap,.int .i64 D.most,.map (some g.bE),.int .i64 D'.ops,.int .i64 d.c9,.bool D'.dead])(B:D'.dead=false→d.c9=D'.left)(C:d.c9≤9223372036854775807)
 (n:D'.cap=D.cap∧D'.most=D.most∧D'.fs=D.fs∧D'.now=D.now∧D'.stays=D.stays∧D'.log=D.log)(E:D.ops≤D'.ops):bq K d V b D':=by
 obtain⟨r,fb,bE,cJ,c9⟩:=d;obtain⟨rfl,rfl,rfl,rfl⟩:=x;obtain⟨cap,most,fs,now,stays,log,ops,left,dead⟩:=D';obtain⟨rfl,rfl,rfl,rfl,rfl,rfl⟩:=n
 have j:∀c,ay [b+1] c→g.ρ c= .fs:=fun c e=>by
  have:c=b:=by simpa[ay]using e
  rw[this];exact h.b0
 exact{
  ec:=h.ec,lt:=fun c e=>l7 (h.lt c e) s.size,b0:=h.b0,cy:=F,kS:=B,kR:=C,l1:=h.l1,me:=h.me,jD:=h.jD
  hm:=h.hm.up s (fun e=>by have:=j _ e;rw[h.jD]at this;cases this)
  hG:=fun p bo e=>by
   obtain⟨cu,cA,k,bA,b5,fJ,ah⟩:=h.hG p bo e;exact⟨cu,cA,k,bA,b5,fJ,ah.O (Ext.refl _) s (fun c aq=>by rw[j c aq];simp) (fun _ _=>rfl) (fun _ _=>rfl) o⟩
  abs:=h.abs,len:=h.len
  gu:=fun i A=>by
   obtain⟨fO,bA,gi,k,l,q⟩:=h.gu i A;exact⟨fO,bA,gi,k,l,q.O (Ext.refl _) s (fun c aq=>by rw[j c aq];simp)⟩
  ids:=h.ids,kd:=fg h.kd E}
theorem bq.wK(h:bq K g H b D)(s:aa S H V)(x:∀c,S c→g.ρ c= .dir p∨g.ρ c= .now p∨g.ρ c= .pZ p∨g.ρ c= .pt p∨g.ρ c= .out)(A:Ext g.ρ ρ')(ec:∀c,c+1∈hN↔ρ' c≠ .out)(lt:∀c,ρ' c≠ .out→c<V.size)
 (C:aH g.cJ p=some bo)(ah:∃cu cA k bA b5 fJ,oq ρ' g.fb V D' p bo cu cA k bA b5 fJ)
 (G:D'.cap=D.cap∧D'.most=D.most∧D'.fs=D.fs∧D'.ops=D.ops∧D'.left=D.left∧D'.dead=D.dead)
 (aB:∀q,bV q≠p→aH D'.now q=aH D.now q)(ag:∀q,bV q≠p→aH D'.stays q=aH D.stays q)(aq:∀n,n≠p→D'.de n=D.de n)
 (ids:(∀p i,aH D'.now p=some i→i<D'.fs.length)∧(∀p i,aH D'.stays p=some i→i<D'.fs.length)∧(∀c∈D'.log,∀i,c.f=some i→i<D'.fs.length)):bq hN {g with ρ:=ρ'} V b D':=by
 obtain⟨cap,most,fs,now,stays,log,ops,left,dead⟩:=D';obtain⟨rfl,rfl,rfl,rfl,rfl,rfl⟩:=G
 exact{
  ec:=ec,lt:=lt,b0:=A.of h.b0 bl
  cy:=h.cy.up s (fun e=>by have:=x _ e;rw[h.b0]at this;simp at this)
  kS:=h.kS,kR:=h.kR,l1:=h.l1,me:=h.me,jD:=A.of h.jD bl
  hm:=h.hm.up s (fun e=>by have:=x _ e;rw[h.jD]at this;simp at this)
  hG:=fun q B e=>by
   by_cases d:q=p
   ·subst d
    have:B=bo:=l6 (e.symm.trans C);subst this;exact ah
   ·obtain⟨cu,cA,k,bA,b5,fJ,ah⟩:=h.hG q B e
    refine⟨cu,cA,k,bA,b5,fJ,ah.O A s (fun c aq=>?_) (fun r j=>aB r (by rw[j];exact d)) (fun r j=>ag r (by rw[j];exact d)) (aq q d)⟩;rcases x c aq with e|e|e|e|e<;>(rw[e];simp[kj d])
  abs:=fun q e=>by
   have d:q≠p:=fun E=>by subst E;rw[C]at e;cases e
   obtain⟨F,ab⟩:=h.abs q e;exact⟨fun r j=>by rw[aB r (by rw[j];exact d),ag r (by rw[j];exact d)];exact F r j,by rw[aq q d];exact ab⟩
  len:=h.len
  gu:=fun i L=>by
   obtain⟨fO,bA,gi,k,l,I⟩:=h.gu i L;refine⟨fO,bA,gi,k,l,I.O A s (fun c aq=>?_)⟩;rcases x c aq with e|e|e|e|e<;>(rw[e];simp)
  ids:=ids,kd:=h.kd}
theorem bq.wL{y:fi}(h:bq K g H b D)(E:i<D.fs.length)(s:aa S H V)(d:∀c,S c→g.ρ c= .gu i∨g.ρ c= .p7 i∨g.ρ c= .out)(n:Ext g.ρ ρ')(ec:∀c,c+1∈hN↔ρ' c≠ .out)(lt:∀c,ρ' c≠ .out→c<V.size)
 (r:∃fO bA gi k l,kD ρ' V i (g.fb.getD i 0) y fO bA gi k l):bq hN {g with ρ:=ρ'} V b (D.gm i y):=by
 have x:(D.gm i y).fs.length=D.fs.length:=by simp[aw.gm]
 exact{
  ec:=ec,lt:=lt,b0:=n.of h.b0 bl
  cy:=h.cy.up s (fun e=>by have:=d _ e;rw[h.b0]at this;simp at this)
  kS:=h.kS,kR:=h.kR,l1:=h.l1,me:=h.me,jD:=n.of h.jD bl
  hm:=h.hm.up s (fun e=>by have:=d _ e;rw[h.jD]at this;simp at this)
  hG:=fun q C e=>by
   obtain⟨cu,cA,k,bA,b5,fJ,ah⟩:=h.hG q C e;refine⟨cu,cA,k,bA,b5,fJ,ah.O n s (fun c aq=>?_) (fun _ _=>rfl) (fun _ _=>rfl) o⟩;rcases d c aq with e|e|e<;>(rw[e];simp)
  abs:=h.abs,len:=by rw[x];exact h.len
  gu:=fun j B=>by
   rw[x]at B;by_cases A:j=i
   ·subst A
    have e:a1 (D.gm j y).fs j=y:=by simp[a1,aw.gm,List.getD,E]
    rw[e];exact r
   ·have e:a1 (D.gm i y).fs j=a1 D.fs j:=by simp[a1,aw.gm,List.getD,List.getElem?_set,kj A]
    rw[e];obtain⟨fO,bA,gi,k,l,r⟩:=h.gu j B;refine⟨fO,bA,gi,k,l,r.O n s (fun c aq=>?_)⟩;rcases d c aq with e|e|e<;>(rw[e];simp[kj A])
  ids:=by rw[x];exact h.ids
  kd:=h.kd}
def ha(ρ:Nat→gL)(x:Nat)(r:gL):Nat→gL:=fun c=>if c=x then r else ρ c
theorem sB{x:Nat}{r:gL}:ha ρ x r x=r:=aM o
theorem p4{x c:Nat}{r:gL}(h:c≠x):ha ρ x r c=ρ c:=aA h
theorem Ext.ha{x:Nat}{r:gL}(h:ρ x= .out):Ext ρ (ha ρ x r):=fun c aq=>by
 by_cases e:c=x
 ·subst e;exact absurd h aq
 ·exact p4 e
theorem Ext.trans{ρ2:Nat→gL}(h:Ext ρ ρ')(ab:Ext ρ' ρ2):Ext ρ ρ2:=fun c aq=>by
 have e:=h c aq;rw[ab c (by rw[e];exact aq),e]
theorem rR{x:Nat}{r:gL}(ec:∀c,c+1∈K↔ρ c≠ .out)(d:r≠ .out):∀c,c+1∈(x+1)::K↔ha ρ x r c≠ .out:=fun c=>by
 unfold ha;rw[dU];by_cases e:c=x
 ·rw[aM e];simp[e,d]
 ·rw[aA e,←ec]
  constructor
  ·rintro(h|h)
   ·omega
   ·exact h
  ·exact .inr
theorem sd{x:Nat}{r:gL}(lt:∀c,ρ c≠ .out→c<H.size)(ag:H.size≤V.size)(d:x<V.size):∀c,ha ρ x r c≠ .out→c<V.size:=fun c aq=>by
 unfold ha at aq;split at aq
 ·rename_i e;rw[e];exact d
 ·exact l7 (lt c aq) ag
def gy(ρ:Nat→gL)(k:Nat)(r:gL):Nat→gL:=fun c=>if c+1=k then r else ρ c
theorem q8{c:Nat}{r:gL}(h:c+1=k):gy ρ k r c=r:=aM h
theorem Gl{c:Nat}{r:gL}(h:c+1≠k):gy ρ k r c=ρ c:=aA h
theorem Ext.gy{r:gL}(h:∀c,c+1=k→ρ c= .out∨ρ c=r):Ext ρ (gy ρ k r):=fun c aq=>by
 unfold jz.gy;split
 ·rename_i e;rcases h c e with d|d
  ·exact absurd d aq
  ·exact d.symm
 ·rfl
theorem qx{r:gL}(ec:∀c,c+1∈K↔ρ c≠ .out)(d:r≠ .out):∀c,c+1∈k::K↔gy ρ k r c≠ .out:=fun c=>by
 unfold gy;rw[dU];by_cases e:c+1=k
 ·rw[aM e];simp[e,d]
 ·rw[aA e,←ec];simp[e]
theorem qK{r:gL}(lt:∀c,ρ c≠ .out→c<H.size)(ag:H.size≤V.size)(d:k≤V.size):∀c,gy ρ k r c≠ .out→c<V.size:=fun c aq=>by
 unfold gy at aq;split at aq
 ·omega
 ·exact l7 (lt c aq) ag
theorem bq.tH(h:bq K g H b D)(d:au k K):∀c,c+1=k→g.ρ c= .out:=fun c e=>h.role (fun hm=>d (c+1) hm c e o)
theorem bq.EH{a_:Nat}(h:bq K g H b D)(j:ae k H.size a_){r:gL}(q:∀c,c+1=k→g.ρ c=r):∀c,c+1=a_→g.ρ c= .out∨g.ρ c=r:=fun c e=>by
 rcases j with d|d|d
 ·omega
 ·exact .inr (q c J)
 ·exact .inl (mb (fun n=>by have:=h.lt c n;omega))
theorem bq.Mc{x:Nat}(h:bq K g H b D)(B:Var 186 H x [.slice none 0 0,.slice none 0 0,.slice none 0 0])(P:au (x+1) K):
 bq ((x+1)::K) {g with ρ:=ha g.ρ x (.gu D.fs.length),fb:=g.fb++[x]} H b {D with fs:=D.fs++[⟨[],[],[]⟩]}:=by
 have O:g.ρ x= .out:=h.role (fun M=>P (x+1) M x o o);have he:Ext g.ρ (ha g.ρ x (.gu D.fs.length)):=Ext.ha O;have r:∀i,i<D.fs.length→(g.fb++[x]).getD i 0=g.fb.getD i 0:=fun i G=>by simp[List.getD,List.getElem?_append_left (show i<g.fb.length by rw[h.len];exact G)]
 have Q:∀c,(fun _=>False) c→g.ρ c= .out:=fun _ e=>e.elim
 exact{
  ec:=rR h.ec bl,lt:=sd h.lt (dz _) B.lt,b0:=he.of h.b0 bl,cy:=h.cy
  kS:=h.kS,kR:=h.kR,l1:=h.l1,me:=h.me,jD:=he.of h.jD bl,hm:=h.hm
  hG:=fun q C e=>by
   obtain⟨cu,cA,k,bA,b5,fJ,ah⟩:=h.hG q C e;have n:=ah.O (D':=D) he (aa.refl (fun _=>False) H) (fun c aq=>aq.elim) (fun _ _=>rfl) (fun _ _=>rfl) o;refine⟨cu,cA,k,bA,b5,fJ,{n with aB:=Em n.aB (fun y hy=>?_),ag:=Em n.ag (fun y hy=>?_),aq:=MJ n.aq (oJ _) (rG _) (fun c aq=>?_)}⟩
   ·have:=h.ids.1 y.1 y.2 (by
     have d:=n1 ah.aB.fX.nodup (show(y.1,y.2)∈b5 from hy);rw[ah.iP]at d;split at d
     ·exact d
     ·cases d)
    rw[gC,gC,r _ this]
   ·have:=h.ids.2.1 y.1 y.2 (by
     have d:=n1 ah.ag.fX.nodup (show(y.1,y.2)∈fJ from hy);rw[ah.es]at d;split at d
     ·exact d
     ·cases d)
    rw[gC,gC,r _ this]
   ·have:=h.ids.2.2 c (jZ.1 aq).1
    unfold jn oM
    cases E:c.f with
    |none=>rfl
    |some i=>simp only[qA];rw[r i (this i E)]
  abs:=h.abs
  len:=by simp[h.len]
  gu:=fun j I=>by
   by_cases A:j<D.fs.length
   ·obtain⟨fO,bA,gi,k,l,F⟩:=h.gu j A
    have e:a1 (D.fs++[⟨[],[],[]⟩]) j=a1 D.fs j:=by simp[a1,List.getD,List.getElem?_append_left A]
    rw[r j A];refine⟨fO,bA,gi,k,l,?_⟩;show kD _ H j _ (a1 (D.fs++[⟨[],[],[]⟩]) j) _ _ _ _ _;rw[e];exact F.O he (aa.refl (fun _=>False) H) (fun c aq=>aq.elim)
   ·have L:j=D.fs.length:=by simp at I;omega
    subst L;have e:a1 (D.fs++[⟨[],[],[]⟩]) D.fs.length=⟨[],[],[]⟩:=by simp[a1,List.getD]
    have d:(g.fb++[x]).getD D.fs.length 0=x:=by rw[←h.len];simp[List.getD]
    refine⟨⟨none,0,0⟩,⟨none,0,0⟩,⟨none,0,0⟩,0,[],?_⟩;show kD _ H _ ((g.fb++[x]).getD D.fs.length 0) (a1 (D.fs++[⟨[],[],[]⟩]) D.fs.length) _ _ _ _ _;rw[e,d];exact{cv:=sB,ez:=B,aB:=Rd.nil _ _ _ _,ag:=Rd.nil _ _ _ _,hw:=aY.nil kL qt,lw:=rfl,ah:=fun y hy=>(by cases hy),kV:=fun c e=>J}
  ids:=by
   have N:({D with fs:=D.fs++[⟨[],[],[]⟩]}:aw).fs.length=D.fs.length+1:=by simp
   rw[N];exact⟨fun p i e=>yT (h.ids.1 p i e),fun p i e=>yT (h.ids.2.1 p i e),fun c aq i e=>yT (h.ids.2.2 c aq i e)⟩
  kd:=h.kd}
theorem bq.Mb{bo cu cA:Nat}(h:bq K g H b D)(I:aH g.cJ p=none)(L:Var 173 H bo [.map (some cu),.map (some cA),.slice none 0 0])(aB:cW H aN (gC g.fb) cu ([]:cI))(ag:cW H aN (gC g.fb) cA ([]:cI))
 (R:au (bo+1) K)(S:au (cu+1) K)(U:au (cA+1) K)(E:bo≠cu)(F:bo≠cA)(G:cu≠cA)(s:aa (ay [g.bE+1]) H V)(hm:cW V aN ptr g.bE (hk g.cJ p bo))(W:g.cJ.length+1≤D.ops):
 bq ((bo+1)::(cA+1)::(cu+1)::K) {g with ρ:=ha (ha (ha g.ρ cu (.now p)) cA (.pZ p)) bo (.dir p),cJ:=hk g.cJ p bo} V b D:=by
 have on:g.ρ cu= .out:=h.role (fun j=>S (cu+1) j cu o o);have os:g.ρ cA= .out:=h.role (fun j=>U (cA+1) j cA o o);have M:g.ρ bo= .out:=h.role (fun j=>R (bo+1) j bo o o)
 have he:Ext g.ρ (ha (ha (ha g.ρ cu (.now p)) cA (.pZ p)) bo (.dir p)):=by
  refine(Ext.ha on).trans ((Ext.ha ?_).trans (Ext.ha ?_))
  ·rw[p4 (kj G)];exact os
  ·rw[p4 F,p4 E];exact M
 have n:∀c,ay [g.bE+1] c→g.ρ c= .hG:=fun c e=>by
  have:c=g.bE:=by simpa[ay]using e
  rw[this];exact h.jD
 have X:∀c,g.ρ c= .out→c≠g.bE:=fun c e x=>by rw[x,h.jD]at e;cases e
 obtain⟨C,N⟩:=h.abs p I
 exact{
  ec:=rR (rR (rR h.ec bl) bl) bl
  lt:=sd (sd (sd h.lt (dz _) aB.lt) (dz _) ag.lt) s.size (l7 L.lt s.size),b0:=he.of h.b0 bl
  cy:=h.cy.up s (fun e=>by have:=n _ e;rw[h.b0]at this;simp at this)
  kS:=h.kS,kR:=h.kR,l1:=h.l1,me:=h.me,jD:=he.of h.jD bl,hm:=hm
  hG:=fun q O e=>by
   rw[nn]at e;by_cases d:q=p
   ·rw[aM d]at e
    have e:=l6 e;subst e;subst d;refine⟨cu,cA,0,⟨none,0,0⟩,[],[],?_⟩;have B:∀c,g.ρ c= .out→¬ay [g.bE+1] c:=fun c e x=>by have:=n c x;rw[e]at this;cases this
    exact{rd:=sB,cV:=L.up s (B _ M),iC:=by show ha (ha (ha g.ρ cu _) cA _) bo _ cu=_;rw[p4 (kj E),p4 G,sB],aB:=aB.up s (B _ on),rs:=by show ha (ha (ha g.ρ cu _) cA _) bo _ cA=_;rw[p4 (kj F),sB],ag:=ag.up s (B _ os)
          iP:=fun r=>by
           rw[aH];split
           ·rename_i A;rw[(C r A).1]
           ·rfl
          es:=fun r=>by
           rw[aH];split
           ·rename_i A;rw[(C r A).2]
           ·rfl
          aq:=by rw[N];exact aY.nil (oJ _) (rG _),rc:=fun c e=>J}
   ·rw[aA d]at e
    obtain⟨cu,cA,k,bA,b5,fJ,ah⟩:=h.hG q O e;exact⟨cu,cA,k,bA,b5,fJ,ah.O he s (fun c aq=>by rw[n c aq];simp) (fun _ _=>rfl) (fun _ _=>rfl) o⟩
  abs:=fun q e=>by
   rw[nn]at e;by_cases d:q=p
   ·rw[aM d]at e;cases e
   ·rw[aA d]at e;exact h.abs q e
  len:=h.len
  gu:=fun i Q=>by
   obtain⟨fO,bA,gi,k,l,P⟩:=h.gu i Q;exact⟨fO,bA,gi,k,l,P.O he s (fun c aq=>by rw[n c aq];simp)⟩
  ids:=h.ids
  kd:=by
   have:(hk g.cJ p bo).length=g.cJ.length+1:=by simp[hk,I]
   show(hk g.cJ p bo).length≤_;omega}
theorem bq.put{c:c_}{C:cI}(h:bq K g H b D)(L:aH g.cJ p=some bo)(ah:oq g.ρ g.fb H D p bo cu cA k bA b5 fJ)(s:aa (ay [cu+1]) H V)(hm:cW V aN (gC g.fb) cu C)(I:∀q,aH C q=c.at q (aH b5 q))
 (G:∀i,c.f=some i→bV c.n=p∧i<D.fs.length)(F:c.g≠[]→bV c.g=p):bq K g V b {D with now:=c.ap D.now}∧aa (ay K) H V:=by
 have A:∀x,ay [cu+1] x→g.ρ x= .now p:=fun x e=>by
  have:x=cu:=by simpa[ay]using e
  rw[this];exact ah.iC
 have E:∀q T,bV q≠p→c.at q T=T:=fun q T d=>by
  unfold c_.at
  cases r:c.f with
  |none=>
   simp only
   rw[aA (fun e=>d (by rw[e.2];exact F e.1))]
  |some i=>
   simp only;rw[aA (fun e=>d (by rw[e];exact(G i r).1)),aA (fun e=>d (by rw[e.2];exact F e.1))]
 refine⟨?_,h.ms s (fun x e=>by rw[A x e];simp)⟩;have B:∀x,g.ρ x≠ .now p→¬ay [cu+1] x:=fun x M e=>M (A x e);refine h.wK (ρ':=g.ρ) s (fun x e=> .inr (.inl (A x e))) (Ext.refl _) h.ec (fun x e=>l7 (h.lt x e) s.size) L ⟨cu,cA,k,bA,C,fJ,?_⟩ ⟨o,o,o,o,o,o⟩ (fun q d=>?_) (fun q d=>rfl) (fun n aB=>rfl) ⟨fun q i e=>?_,h.ids.2.1,h.ids.2.2⟩
 ·exact{rd:=ah.rd,cV:=ah.cV.up s (B _ (by rw[ah.rd];simp)),iC:=ah.iC,aB:=hm,rs:=ah.rs,ag:=ah.ag.up s (B _ (by rw[ah.rs];simp))
        iP:=fun q=>by
         show _=if bV q=p then aH (c.ap D.now) q else none;rw[I,ah.iP,qM];split
         ·rfl
         ·rename_i d;exact E q none d
        es:=ah.es,aq:=ah.aq.up s (fun x _ e=>B x (by rw[ah.rc x e];simp)),rc:=ah.rc}
 ·show aH (c.ap D.now) q=aH D.now q
  rw[qM];exact E q _ d
 ·have e:aH (c.ap D.now) q=some i:=e
  rw[qM]at e;unfold c_.at at e
  cases r:c.f with
  |none=>
   rw[r]at e;simp only at e;split at e
   ·cases e
   ·exact h.ids.1 q i e
  |some j=>
   rw[r]at e;simp only at e;split at e
   ·cases e;exact(G _ r).2
   ·split at e
    ·cases e
    ·exact h.ids.1 q i e
theorem bq.note{c:c_}{a_:Nat}{j:aO}(h:bq K g H b D)(I:aH g.cJ p=some bo)(ah:oq g.ρ g.fb H D p bo cu cA k bA b5 fJ)(s:aa (ay [bo+1,k]) H V)(M:Var 173 V bo [.map (some cu),.map (some cA),j.v])(aq:aY a_ 177 V (jn g.fb) 3 j.v (D.de p++[c]))(G:ae k H.size a_)
 (A:c.dir=p)(E:∀i,c.f=some i→i<D.fs.length):bq (a_::K) {g with ρ:=gy g.ρ a_ (.pt p)} V b {D with log:=D.log++[c]}:=by
 have r:∀x,ay [bo+1,k] x→g.ρ x= .dir p∨g.ρ x= .pt p:=fun x e=>by
  have:x+1=bo+1∨x+1=k:=by simpa[ay]using e
  rcases this with e|e
  ·exact .inl (by rw[show x=bo by omega];exact ah.rd)
  ·exact .inr (ah.rc x e)
 have d:Ext g.ρ (gy g.ρ a_ (.pt p)):=Ext.gy (h.EH G ah.rc);have B:∀x,g.ρ x≠ .dir p→g.ρ x≠ .pt p→¬ay [bo+1,k] x:=fun x C ab e=>(r x e).elim C ab;have F:({D with log:=D.log++[c]}:aw).de p=D.de p++[c]:=by simp[aw.de,A]
 refine h.wK s (fun x e=>(r x e).elim .inl (fun e=> .inr (.inr (.inr (.inl e))))) d (qx h.ec bl) (qK h.lt s.size aq.le) I ⟨cu,cA,a_,j,b5,fJ,?_⟩ ⟨o,o,o,o,o,o⟩ (fun q L=>rfl) (fun q L=>rfl) (fun n aB=>?_) ⟨h.ids.1,h.ids.2.1,fun x N i e=>?_⟩
 ·exact{rd:=d.of ah.rd bl,cV:=M,iC:=d.of ah.iC bl,aB:=ah.aB.up s (B _ (by rw[ah.iC];simp) (by rw[ah.iC];simp)),rs:=d.of ah.rs bl,ag:=ah.ag.up s (B _ (by rw[ah.rs];simp) (by rw[ah.rs];simp))
        iP:=ah.iP,es:=ah.es,aq:=by rw[F];exact aq,rc:=fun x e=>q8 e}
 ·simp[aw.de,A,kj aB]
 ·rcases gG.1 N with hm|hm
  ·exact h.ids.2.2 x hm i e
  ·rw[eU.1 hm]at e;exact E i e
theorem bq.Dd{aR:List UInt8}{n:Nat}{r:aO}{bi:Nat}(h:bq K g H b D)(B:i<D.fs.length)(d:kD g.ρ H i (g.fb.getD i 0) (a1 D.fs i) fO bA gi k l)(e:g.fb.getD i 0=bi)(s:aa (ay [bi+1]) H V)(E:Var 186 V bi [r.v,bA.v,gi.v])(aB:aY n 5 V bd 1 r.v aR)(C:au n K):
 bq (n::K) {g with ρ:=gy g.ρ n .h_} V b (D.gm i ⟨aR,(a1 D.fs i).stays,(a1 D.fs i).w⟩):=by
 subst e
 have q:∀x,ay [g.fb.getD i 0+1] x→g.ρ x= .gu i:=fun x e=>by
  have:x=g.fb.getD i 0:=by simpa[ay]using e
  rw[this];exact d.cv
 have j:Ext g.ρ (gy g.ρ n .h_):=Ext.gy (fun c e=> .inl (h.tH C c e));have A:∀c,ay [g.fb.getD i 0+1] c→g.ρ c≠ .h_:=fun c e=>by rw[q c e];simp
 refine h.wL B s (fun x e=> .inl (q x e)) j (qx h.ec bl) (qK h.lt s.size aB.le) ⟨r,bA,gi,k,l,?_⟩
 exact{cv:=j.of d.cv bl,ez:=E,aB:=aB.rd.imp (fun c _ e=>q8 e),ag:=n6 d.ag j s A
       hw:=d.hw.up s (fun c _ e aq=>by have:=q c aq;rw[d.kV c e]at this;cases this),lw:=d.lw,ah:=fun y hy=>n6 (d.ah y hy) j s A,kV:=fun c e=>j.of (d.kV c e) bl}
theorem bq.Di{w:dF}{C E:aO}{j a_ bi:Nat}(h:bq K g H b D)(L:i<D.fs.length)(d:kD g.ρ H i (g.fb.getD i 0) (a1 D.fs i) fO bA gi k l)(e:g.fb.getD i 0=bi)(s:aa (ay [bi+1,k]) H V)(M:Var 186 V bi [fO.v,bA.v,E.v])(hw:aY a_ 275 V lB 2 E.v (l++[(w,C)]))(A:ae k H.size a_)
 (ah:aY j 5 V bd 1 C.v w.d)(G:au j (a_::K)):
 bq (j::a_::K) {g with ρ:=gy (gy g.ρ a_ (.p7 i)) j .h_} V b (D.gm i ⟨(a1 D.fs i).now,(a1 D.fs i).stays,(a1 D.fs i).w++[w]⟩):=by
 subst e
 have F:∀x,ay [g.fb.getD i 0+1,k] x→g.ρ x= .gu i∨g.ρ x= .p7 i:=fun x e=>by
  have:x+1=g.fb.getD i 0+1∨x+1=k:=by simpa[ay]using e
  rcases this with e|e
  ·exact .inl (by rw[show x=g.fb.getD i 0 by omega];exact d.cv)
  ·exact .inr (d.kV x e)
 have N:Ext g.ρ (gy g.ρ a_ (.p7 i)):=Ext.gy (h.EH A d.kV)
 have B:∀c,c+1=j→c+1≠a_∧g.ρ c= .out:=fun c e=>by
  have I:c+1≠a_:=fun q=>G a_ gw c e q;exact⟨I,h.tH (fun k A=>G k (hj _ A)) c e⟩
 have O:Ext (gy g.ρ a_ (.p7 i)) (gy (gy g.ρ a_ (.p7 i)) j .h_):=Ext.gy (fun c e=> .inl (by rw[Gl (B c e).1];exact(B c e).2));have n:=N.trans O;have r:∀c,ay [g.fb.getD i 0+1,k] c→g.ρ c≠ .h_:=fun c e=>by rcases F c e with e|e<;>(rw[e];simp)
 refine h.wL L s (fun x e=>(F x e).elim .inl (fun e=> .inr (.inl e))) n (qx (qx h.ec bl) bl) (qK (qK h.lt s.size hw.le) (dz _) ah.le) ⟨fO,bA,E,a_,l++[(w,C)],?_⟩
 exact{cv:=n.of d.cv bl,ez:=M,aB:=n6 d.aB n s r,ag:=n6 d.ag n s r,hw:=hw,lw:=by rw[gg,d.lw];rfl
       ah:=fun y hy=>by
        rcases gG.1 hy with hy|hy
        ·exact n6 (d.ah y hy) n s r
        ·rw[eU.1 hy];exact ah.rd.imp (fun c _ e=>q8 e)
       kV:=fun c e=>by rw[Gl (fun q=>(B c q).1 e)];exact q8 e}
theorem bq.fsync{bi:Nat}(h:bq K g H b D)(q:i<D.fs.length)(d:kD g.ρ H i (g.fb.getD i 0) (a1 D.fs i) fO bA gi k l)(e:g.fb.getD i 0=bi)(s:aa (ay [bi+1]) H V)(r:Var 186 V bi [fO.v,fO.v,.slice none 0 0]):bq K g V b (D.w1 i):=by
 subst e
 have j:∀x,ay [g.fb.getD i 0+1] x→g.ρ x= .gu i:=fun x e=>by
  have:x=g.fb.getD i 0:=by simpa[ay]using e
  rw[this];exact d.cv
 have n:∀c,ay [g.fb.getD i 0+1] c→g.ρ c≠ .h_:=fun c e=>by rw[j c e];simp
 refine h.wL (ρ':=g.ρ) q s (fun x e=> .inl (j x e)) (Ext.refl _) h.ec (fun c e=>l7 (h.lt c e) s.size) ⟨fO,fO,⟨none,0,0⟩,0,[],?_⟩;exact{cv:=d.cv,ez:=r,aB:=n6 d.aB (Ext.refl _) s n,ag:=n6 d.aB (Ext.refl _) s n,hw:=aY.nil kL qt,lw:=rfl,ah:=fun y hy=>(by cases hy),kV:=fun c e=>J}
theorem bq.Kj{n:List UInt8}{d bi:Nat}{j:aO}(h:bq K g H b D)(C:i<D.fs.length)(q:kD g.ρ H i (g.fb.getD i 0) (a1 D.fs i) fO bA gi k l)(e:g.fb.getD i 0=bi)(s:aa (ay [bi+1]) H V)(F:Var 186 V bi [j.v,j.v,.slice none 0 0])(aB:k0 d V bd 1 j.v n)(E:∀c,c+1=d→g.ρ c= .h_∨g.ρ c= .out):
 bq (d::K) {g with ρ:=gy g.ρ d .h_} V b (D.gm i ⟨n,n,[]⟩):=by
 subst e
 have B:∀x,ay [g.fb.getD i 0+1] x→g.ρ x= .gu i:=fun x e=>by
  have:x=g.fb.getD i 0:=by simpa[ay]using e
  rw[this];exact q.cv
 have A:Ext g.ρ (gy g.ρ d .h_):=Ext.gy (fun c e=>(E c e).symm);have r:Rd (fun c=>gy g.ρ d .h_ c= .h_) V bd 1 j.v n:=aB.rd.imp (fun c _ e=>q8 e);refine h.wL C s (fun x e=> .inl (B x e)) A (qx h.ec bl) (qK h.lt s.size aB.le) ⟨j,j,⟨none,0,0⟩,0,[],?_⟩;exact{cv:=A.of q.cv bl,ez:=F,aB:=r,ag:=r,hw:=aY.nil kL qt,lw:=rfl,ah:=fun y hy=>(by cases hy),kV:=fun c e=>J}
theorem kD.qj{d bi:Nat}(h:kD ρ H i d x fO bA gi k l)(e:d=bi):Var 186 H bi [fO.v,bA.v,gi.v]:=e▸h.ez
theorem bq.ts{d bi:Nat}(h:bq K g H b D)(j:kD g.ρ H i d x fO bA gi k l)(e:d=bi):hO K (bi+1):=e▸h.nk j.cv bl
theorem kD.ne{d bi:Nat}(h:kD ρ H i d x fO bA gi k l)(e:d=bi):ak (bi+1) k:=fun c n ab=>by
 have j:=h.kV c ab;rw[show c=d by omega,h.cv]at j;cases j
theorem Nc{α:Type}{F:Nat→Prop}{f:α→List Value}{sz:Nat}{v:Value}{l:List α}(h:Rd F H f sz v l):∃k,k0 k H f sz v l∧∀c,c+1=k→F c:=by
 obtain⟨a,cap,j,ab,n,B⟩:=h.ex;by_cases q:l=[]
 ·exact⟨0,⟨⟨a,cap,j,ab,n,fun h=>absurd q h⟩,iT _⟩,fun c e=>J⟩
 ·obtain⟨ad,aP,r,x,d,A⟩:=B q
  exact⟨ad.block+1,⟨⟨a,cap,j,ab,n,fun _=>⟨ad,aP,r,o,d,A⟩⟩,d⟩,fun c e=>by rw[show c=ad.block by omega];exact x⟩
theorem bq.CF{s2:Nat}{r:cI}(h:bq K g H b D)(C:eW D.now)(G:aH g.cJ p=some bo)(ah:oq g.ρ g.fb H D p bo cu cA k bA b5 fJ)(s:aa (ay [bo+1]) H V)(L:Var 173 V bo [.map (some cu),.map (some s2),.slice none 0 0])(hm:cW V aN (gC g.fb) s2 r)(F:∀q,aH r q=aH b5 q)(E:au (s2+1) K):
 bq ((s2+1)::K) {g with ρ:=gy g.ρ (s2+1) (.pZ p)} V b (D.pY p):=by
 have A:∀x,ay [bo+1] x→g.ρ x= .dir p:=fun x e=>by
  have:x=bo:=by simpa[ay]using e
  rw[this];exact ah.rd
 have d:Ext g.ρ (gy g.ρ (s2+1) (.pZ p)):=Ext.gy (fun c e=> .inl (h.tH E c e));have I:∀x,g.ρ x≠ .dir p→¬ay [bo+1] x:=fun x d e=>d (A x e);have j:∀q,aH (D.pY p).stays q=if bV q=p then aH D.now q else aH D.stays q:=fun q=>qN C p q;refine h.wK s (fun x e=> .inl (A x e)) d (qx h.ec bl) (qK h.lt s.size hm.lt) G ⟨cu,s2,0,⟨none,0,0⟩,b5,r,?_⟩ ⟨o,o,o,o,o,o⟩ (fun q B=>rfl) (fun q B=>by rw[j,aA B]) (fun n aB=>?_) ⟨h.ids.1,fun q i e=>?_,fun c aq i e=>h.ids.2.2 c (jZ.1 aq).1 i e⟩
 ·exact{rd:=d.of ah.rd bl,cV:=L,iC:=d.of ah.iC bl,aB:=ah.aB.up s (I _ (by rw[ah.iC];simp)),rs:=q8 o,ag:=hm,iP:=ah.iP
        es:=fun q=>by
         rw[F,ah.iP,j];split<;>rfl
        aq:=by
         have:(D.pY p).de p=[]:=by unfold aw.pY aw.de;rw[r8,r6];intro c _;simp
         rw[this];exact aY.nil (oJ _) (rG _)
        rc:=fun c e=>J}
 ·unfold aw.pY aw.de
  rw[r8];refine vP (fun c _=>?_);by_cases e:c.dir=n
  ·simp[e,aB]
  ·simp[e]
 ·rw[j]at e
  split at e
  ·exact h.ids.1 q i e
  ·exact h.ids.2.1 q i e
end
end jz
namespace m3
open ho jz
def c_.rk(c:c_)(m:cI):cI:=
 let af:=if c.g=[]then m else e4 m c.g
 match c.f with
 |none=>af
 |some i=>hk af c.n i
theorem D9(c:c_)(l:cI)(q:aD):aH (c_.rk c l) q=c.at q (aH l q):=by
 unfold c_.rk c_.at
 cases c.f with
 |none=>
  simp only;by_cases d:c.g=[]
  ·simp[d]
  ·rw[aA d,lH];simp[d]
 |some i=>
  simp only;rw[nn];by_cases d:c.g=[]
  ·simp[d]
  ·rw[aA d,lH];simp[d]
theorem E3(fb:List Nat)(cu:Nat)(m:cI)(c:c_)(w0:World)(N:Heap)
 (hm:cW N aN (gC fb) cu m):
 aE Tryz.prog w0 78 #[.map (some cu),.agg (jn fb c).toArray] N (fun r B=>(cW B aN (gC fb) cu (c_.rk c m))∧aa (ay [(cu+1)]) N B):=by
 refine aE.enter (args:=[.map (some cu),.agg (jn fb c).toArray]) Tryz.func78 o o o ?_;intro W L;have j:aa (ay [(cu+1)]) N N:=aa.refl _ _;have C:=ae.refl (cu+1) N.size;have X:=hm.lt;refine I.O (fun az=>?_);refine G.aU Z.bv ?_;rintro v3 n ⟨rfl,d,am,_⟩;have aj:=ak.new hm.lt;obtain⟨hm,j,_⟩:=bO am hm j;have d:Var 177 n N.size (jn fb c):=d;refine G.nil (az ?_)
 refine I.cut (fun(af:cI)=>[(0,.map (some cu)),(3,.pointer (some ⟨N.size,0,none⟩))])
  (fun(af:cI) (H:Heap)=>(cW H aN (gC fb) cu af)∧(af=if c.g=[]then m else e4 m c.g)∧aa (ay [(cu+1)]) n H) (fun _ E _=>?_) ?_
 ·
  have ad:aa (ay [(cu+1)]) n n:=aa.refl _ _;have M:=ae.refl (cu+1) n.size;refine I.O (fun R=>?_);refine G.a6 d.W uj b3 cd ?_;refine G.v1 (Y.lO o o o) (G.nil (R ?_));refine a8 (fun x=>?_) (fun x=>?_)
  ·
   refine I.region ?_;refine G.af ?_;refine G.a6 d.W uj b3 cd ?_;refine G.xd (Z.u9 hm gx o p0 Tryz.underlying9 o o) cS o ?_;rintro ap ai ⟨rfl,hm,P⟩;obtain⟨ad,_⟩:=c0 P ad (an.r M);refine G.nil ?_;refine aT.sub (E (e4 m c.g) _ ?_) ⟨o,o,trivial⟩;exact⟨hm,by rw[aA (by simpa using x)],ad⟩
  ·
   refine I.skip ?_;refine aT.sub (E m _ ?_) ⟨o,o,trivial⟩;exact⟨hm,by rw[aM (by simpa using x)],ad⟩
 ·
  intro af ag O;obtain⟨hm,K,ac⟩:=O;obtain⟨d,j,_⟩:=dW ac d aj.symm j (an.r C);refine I.O (fun U=>?_);refine G.a6 d.W uj Fv A4 ?_;refine G.v1 (Y.wD o bD bD o o) (G.nil (U ?_));refine dm (fun q=>?_) (fun q=>?_)
  ·
   obtain⟨i,F⟩:∃i,c.f=some i:=by
    cases A:c.f with
    |none=>rw[A]at q;cases q
    |some i=>exact⟨i,o⟩
   refine I.region ?_;refine G.af ?_;refine G.a6 d.W uj b3 cd ?_;refine G.aV uj Fv ?_;refine G.v1 (Y.cast (v2:=gC fb i) (bf (d.W.drop 2) A4) (by rw[F];rfl)) ?_;refine G.s1 (S.oZ i hm gx o p0 Tryz.underlying9 o o o) ?_;rintro ar ⟨hm,Q⟩;obtain⟨j,_⟩:=c0 Q j (an.r C);refine G.nil ?_;refine L .normal (.inl o) _ _ _ (jt o) ?_;exact⟨by rw[c_.rk,←K,F];exact hm,j⟩
  ·
   refine I.skip ?_;refine L .normal (.inl o) _ _ _ (jt o) ?_
   exact⟨by
    have V:c.f=none:=by
     cases A:c.f with
     |none=>rfl
     |some i=>rw[A]at q;cases q
    rw[c_.rk,←K,V];exact hm,j⟩
theorem GV(e:TypeId)(b:Nat)(cs:List Value)(x y:Int)(w0:World)(N:Heap)
 (j:Var e N b cs)(aq:cs[3]?=some (.int .i64 x))(C: -9223372036854775808≤x+y∧x+y≤9223372036854775807):
 aE Tryz.prog w0 225 #[.pointer (some ⟨b,3,none⟩),.int .i64 y] N (fun r n=>r= .int .i64 (x+y)∧Var e n b (cs.set 3 (.int .i64 (x+y)))∧aa (ay [(b+1)]) N n):=by
 refine aE.aP [.pointer (some ⟨b,3,none⟩),.int .i64 y] Tryz.func225 ?_;intro F B;have d:aa (ay [(b+1)]) N N:=aa.refl _ _;have q:=ae.refl (b+1) N.size;refine I.O (fun A=>?_);refine G.aj ?_;refine A (I.O (fun ac=>?_));refine G.av 2 ?_;refine G.aV O9 N3 ?_;refine G.af ?_;refine G.aU (Z.GQ j aq o Tryz.func259 bD bD bD bD o C) ?_;rintro v9 E ⟨rfl,j,ad⟩;obtain⟨d,_⟩:=c0 ad d (an.r q);refine G.aj ?_;refine ac ?_;refine I.ret (B ?_);exact⟨o,j,d⟩
section
variable {w0 : World} {n : Nat} {l : cm} {H : Heap} {T : Oper} {K : List Nat} {g : cQ} {b c9 : Nat} {D : aw} {x y : Operand} {t : TypeId}
theorem zI(h:bq K g H b D)(c9:Nat)(q:T.op= .store t x y)(r:aK l x=some (.pointer (some ⟨b,4,none⟩)))(hy:aK l y=some (.int .i64 (c9:Int)))(ag:∀w,(sizeOf t).run Tryz.prog w= .ok 1 w)(j:c9≤9223372036854775807):
 S Tryz.prog w0 n l H T (fun V=>bq K {g with c9:=c9} V b {D with left:=c9}∧aa (ay K) H V):=
 (S.p5 h.cy 4 _ q r hy o ag bl o).mono fun V ⟨d,ab⟩=>⟨h.wM ab.e3 ⟨o,o,o,o⟩ d (fun _=>rfl) j ⟨o,o,o,o,o,o⟩ (dz _),h.ms ab (fun c e=>by rw[e,h.b0];simp)⟩
theorem EZ(h:bq K g H b D)(dd:Bool)(j:dd=false→D.dead=false)(q:T.op= .store t x y)(r:aK l x=some (.pointer (some ⟨b,5,none⟩)))(hy:aK l y=some (.bool dd))(ag:∀w,(sizeOf t).run Tryz.prog w= .ok 1 w):
 S Tryz.prog w0 n l H T (fun V=>bq K g V b {D with dead:=dd}∧aa (ay K) H V):=
 (S.p5 h.cy 5 _ q r hy o ag bl o).mono fun V ⟨d,ab⟩=>⟨h.wM ab.e3 ⟨o,o,o,o⟩ d (fun e=>h.kS (j e)) h.kR ⟨o,o,o,o,o,o⟩ (dz _),h.ms ab (fun c e=>by rw[e,h.b0];simp)⟩
theorem MW(h:bq K g H b D)(ah:D.dead=true)(x:Nat):bq K g H b {D with left:=x}:=
 {h with
  kS:=fun e=>(by rw[show({D with left:=x}:aw).dead=D.dead from rfl,ah]at e;cases e)
  hG:=fun p bo e=>(by
   obtain⟨cu,cA,k,bA,b5,fJ,q⟩:=h.hG p bo e;exact⟨cu,cA,k,bA,b5,fJ,{q with iP:=q.iP,es:=q.es,aq:=q.aq}⟩)}
theorem xT{dd:Bool}{x:Nat}(n:D.dead=false→c9=D.left)(h:bq K g H b {D with left:=x,dead:=dd})(j:dd=true)(d:D.dead=true∨(D.dead=false∧c9=1∧x=0)):bq K g H b D.begin.2∧ .bool false=Value.bool D.begin.1:=by
 subst j;rcases d with ah|⟨ah,q,ab⟩
 ·have e:D.begin=(false,D):=by unfold aw.begin;rw[aM ah]
  rw[e];refine⟨?_,o⟩;have:=MW h o D.left;obtain⟨cap,most,fs,now,stays,log,ops,left,dead⟩:=D;simp only at ah;subst ah;exact this
 ·have:=n ah
  have e:D.begin=(false,{D with left:=0,dead:=true}):=by unfold aw.begin;rw[aA (by simp[ah]),aM J]
  rw[e];subst ab;exact⟨h,o⟩
theorem rl{dd:Bool}{x:Nat}(h:bq K g H b {D with left:=x,dead:=dd,ops:=D.ops+1})(j:dd=false)(ah:D.dead=false)(d:D.left≠1)(n:x=D.left-1):bq K g H b D.begin.2∧ .bool true=Value.bool D.begin.1:=by
 subst j;subst n;have e:D.begin=(true,{D with left:=D.left-1,ops:=D.ops+1}):=by unfold aw.begin;rw[aA (by simp[ah]),aA d]
 rw[e];obtain⟨cap,most,fs,now,stays,log,ops,left,dead⟩:=D;simp only at ah;subst ah;exact⟨h,o⟩
end
theorem xG{K:List Nat}{g:cQ}{b:Nat}{D:aw}(w0:World)(N:Heap)(h:bq K g N b D)(q:D.ops≤1099511627776):aE Tryz.prog w0 225 #[.pointer (some ⟨b,3,none⟩),.int .i64 1] N (fun r d=>r= .int .i64 ((D.ops:Int)+1)∧bq K g d b {D with ops:=D.ops+1}∧aa (ay K) N d):=
 (GV _ b _ (D.ops:Int) 1 w0 N h.cy o J).mono fun r d ⟨n,ab,j⟩=>⟨n,h.wM j ⟨o,o,o,o⟩ ab h.kS h.kR ⟨o,o,o,o,o,o⟩ (pF _),h.ms j (fun c e=>by
  have:c=b:=by simpa[ay]using e
  rw[this,h.b0];simp)⟩
theorem uQ(K:List Nat)(g:cQ)(b:Nat)(D:aw)(w0:World)(N:Heap)
 (n:bq K g N b D)(P:D.ops≤1099511627776):
 aE Tryz.prog w0 184 #[ptr b] N (fun r Q=>∃g2:cQ,r= .bool D.begin.1∧bq K g2 Q b D.begin.2∧(g2.ρ=g.ρ∧g2.fb=g.fb∧g2.bE=g.bE∧g2.cJ=g.cJ)∧aa (ay K) N Q):=by
 refine aE.aP [ptr b] Tryz.func184 ?_;intro aH H;have A:aa (ay K) N N:=aa.refl _ _;have F:=bk.refl K N.size;have M:=n.aC;have aR:=n.kR;have C:=n.kS;refine I.O (fun U=>?_);refine G.aj ?_;refine U (I.t1 (fun O=>I.O (fun V=>?_)));refine G.av 2 ?_;refine G.a6 n.cy.W hL b8 cX ?_;refine G.v1 fA (G.nil (V ?_));refine a8 (fun c5=>?_) (fun c5=>?_)
 ·
  refine I.O (fun W=>?_);refine G.av 2 ?_;refine G.a6 n.cy.W hL b8 cX ?_;refine G.v1 (Y.cast (v2:= .int .i64 ((g.c9-1:Nat):Int)) gq (eI J)) ?_;refine G.bs ?_;refine G.aV hL b8 ?_;refine G.s1 (zI n (g.c9-1) o o o b8 J) ?_;rintro aJ ⟨n,R⟩;have A:=A.bt R (ar.cO F (by intro k E;simp[E]));have aK:=R.size;have M:=n.aC;refine G.nil (W (I.region ?_));refine G.av 3 ?_;refine G.a6 n.cy.W hL ee fc ?_;refine G.af ?_;refine G.split (d:=20) o (fun B=>?_) (fun B=>?_)
  ·
   refine G.av 7 ?_;refine G.aV hL ee ?_;refine G.s1 (EZ n _ (by intro h;first|exact B|cases h) rfl rfl rfl ee) ?_;rintro ak ⟨n,ac⟩;have A:=A.bt ac (ar.cO F (by intro k E;simp[E]));have aL:=ac.size;have M:=n.aC;refine G.nil (O (I.t2 (fun X Z=>I.O (fun ae=>?_))));refine G.av 2 ?_;refine G.a6 n.cy.W hL ee fc ?_;refine G.nil (ae ?_);refine dm (fun j=>?_) (fun j=>?_)
   ·
    first
    |(simp at j;done)
    |skip
     refine I.O (fun af=>?_);refine G.aj ?_;refine af ?_;refine I.ret (Z (H ?_));have q:=xT C n (by first|rfl|exact j) (by first|exact .inl B|exact .inr ⟨B,by simp at j;omega,by simp at j;omega⟩);exact⟨_,q.2,q.1,⟨o,o,o,o⟩,A⟩
   ·
    first
    |(simp at j;done)
    |skip
     refine I.skip (X (I.O (fun ag=>?_)));refine G.av 2 ?_;refine G.aV hL zV ?_;refine aW x3 (xG w0 _ n P) ?_;rintro S L ⟨rfl,n,ad⟩;have A:=A.bt ad (ar.cO F (by intro k E;simp[E]));have aN:=ad.size;refine G.nil (ag (I.O (fun ai=>?_)));refine G.aj ?_;refine ai ?_;refine I.ret (H ?_)
     obtain⟨g2,q⟩:∃g2:cQ,(bq K g2 L b D.begin.2∧ .bool true=Value.bool D.begin.1)∧(g2.ρ=g.ρ∧g2.fb=g.fb∧g2.bE=g.bE∧g2.cJ=g.cJ):=by
      first
      |exact⟨_,rl (x:=g.c9-1) n (by simpa using j) B (by have:=C B;simp at j;omega) (by have:=C B;omega),o,o,o,o⟩
      |exact⟨_,rl (x:=D.left) (dd:=D.dead) n (by simpa using j) (by simpa using j) (by have:=C (by simpa using j);omega) (by have:=C (by simpa using j);omega),o,o,o,o⟩
     exact⟨g2,q.1.2,q.1.1,q.2,A⟩
  ·
   refine G.b4 ?_;refine G.aG kX ?_;refine G.wl n.cy.W hL b8 cX ?_;refine G.aG cC ?_;refine G.av 2 ?_;refine G.aV hL ee ?_;refine G.s1 (EZ n _ (by intro h;first|exact B|cases h) rfl rfl rfl ee) ?_;rintro ak ⟨n,ac⟩;have A:=A.bt ac (ar.cO F (by intro k E;simp[E]));have aO:=ac.size;have M:=n.aC;refine G.nil (O (I.t2 (fun an az=>I.O (fun am=>?_))));refine G.av 2 ?_;refine G.a6 n.cy.W hL ee fc ?_;refine G.nil (am ?_);refine dm (fun j=>?_) (fun j=>?_)
   ·
    first
    |(simp at j;done)
    |skip
     refine I.O (fun av=>?_);refine G.aj ?_;refine av ?_;refine I.ret (az (H ?_));have q:=xT C n (by first|rfl|exact j) (by first|exact .inl B|exact .inr ⟨B,by simp at j;omega,by simp at j;omega⟩);exact⟨_,q.2,q.1,⟨o,o,o,o⟩,A⟩
   ·
    first
    |(simp at j;done)
    |skip
     refine I.skip (an (I.O (fun ap=>?_)));refine G.av 2 ?_;refine G.aV hL zV ?_;refine aW x3 (xG w0 _ n P) ?_;rintro S L ⟨rfl,n,ad⟩;have A:=A.bt ad (ar.cO F (by intro k E;simp[E]));have aP:=ad.size;refine G.nil (ap (I.O (fun ax=>?_)));refine G.aj ?_;refine ax ?_;refine I.ret (H ?_)
     obtain⟨g2,q⟩:∃g2:cQ,(bq K g2 L b D.begin.2∧ .bool true=Value.bool D.begin.1)∧(g2.ρ=g.ρ∧g2.fb=g.fb∧g2.bE=g.bE∧g2.cJ=g.cJ):=by
      first
      |exact⟨_,rl (x:=g.c9-1) n (by simpa using j) B (by have:=C B;simp at j;omega) (by have:=C B;omega),o,o,o,o⟩
      |exact⟨_,rl (x:=D.left) (dd:=D.dead) n (by simpa using j) (by simpa using j) (by have:=C (by simpa using j);omega) (by have:=C (by simpa using j);omega),o,o,o,o⟩
     exact⟨g2,q.1.2,q.1.1,q.2,A⟩
 ·
  refine I.skip (O (I.t2 (fun aB aC=>I.O (fun a7=>?_))));refine G.av 2 ?_;refine G.a6 n.cy.W hL ee fc ?_;refine G.nil (a7 ?_);refine dm (fun j=>?_) (fun j=>?_)
  ·
   first
   |(simp at j;done)
   |skip
    refine I.O (fun aD=>?_);refine G.aj ?_;refine aD ?_;refine I.ret (aC (H ?_));have q:=xT (x:=D.left) (dd:=D.dead) C n (by simpa using j) (.inl (by simpa using j));exact⟨_,q.2,q.1,⟨o,o,o,o⟩,A⟩
  ·
   first
   |(simp at j;done)
   |skip
    refine I.skip (aB (I.O (fun aF=>?_)));refine G.av 2 ?_;refine G.aV hL zV ?_;refine aW x3 (xG w0 _ n P) ?_;rintro S L ⟨rfl,n,ad⟩;have A:=A.bt ad (ar.cO F (by intro k E;simp[E]));have aQ:=ad.size;refine G.nil (aF (I.O (fun aG=>?_)));refine G.aj ?_;refine aG ?_;refine I.ret (H ?_)
    obtain⟨g2,q⟩:∃g2:cQ,(bq K g2 L b D.begin.2∧ .bool true=Value.bool D.begin.1)∧(g2.ρ=g.ρ∧g2.fb=g.fb∧g2.bE=g.bE∧g2.cJ=g.cJ):=by
     first
     |exact⟨_,rl (x:=g.c9-1) n (by simpa using j) B (by have:=C B;simp at j;omega) (by have:=C B;omega),o,o,o,o⟩
     |exact⟨_,rl (x:=D.left) (dd:=D.dead) n (by simpa using j) (by simpa using j) (by have:=C (by simpa using j);omega) (by have:=C (by simpa using j);omega),o,o,o,o⟩
    exact⟨g2,q.1.2,q.1.1,q.2,A⟩
section
open Go.MapKept
variable {P : Program} {w0 : World} {n : Nat} {l : cm} {H : Heap} {T : Oper} {κ β : Type} [DecidableEq κ] {aQ : Nat → Prop} {aX : κ → Value} {fv : β → Value} {v : Value} {m : List (κ × β)} {d : TypeDesc}
theorem sc{t gH j:TypeId}{x i:Operand}{k:κ}(ad:β→Addr)(h:jy aQ H aX fv v m)(C:∀b,fv b= .pointer (some (ad b)))(B:ou d aX)(G:T.op= .lookup t x i false)(hm:∀w,(underlying t).run P w= .ok (.map gH j) w)(F:P.underlying gH=some d)(K:∀w,(zeroValue j).run P w= .ok (.pointer none) w)
 (I:aK l x=some v)(E:aK l i=some (aX k)):Y P w0 n l H T (.pointer ((aH m k).map ad)):=by
 intro a w r A;have q:=Fq (ok:=false) (k:=k) h B A hm F K;simp only[lF,if_false]at q
 have ab:(Instr.lookup t v (aX k) false).run P w= .ok (.pointer ((aH m k).map ad)) w:=by
  rw[q]
  cases aH m k with
  |none=>rfl
  |some b=>simp[C]
 simp[execOp,G,r.eval I,r.eval E,ab]
end
abbrev uK(b:Nat):Addr:=⟨b,0,none⟩
theorem vk(bC:Int)(K:List Nat)(g:cQ)(b:Nat)(D:aw)(p:aD)(w0:World)(N:Heap)
 (aL:fj bC N)(O:bp (fun b=>b=0) N.size)(j:bq K g N b D)(Q:p.length≤4294967280):
 aE Tryz.prog w0 168 #[ptr b,aN p] N (fun r R=>r= .tuple #[.pointer (oM g.fb (if D.look p=0 then aH D.now p else none)),.int .i64 (D.look p:Int)]∧al N R):=by
 refine aE.aP [ptr b,aN p] Tryz.func168 ?_;intro av C;have n:al N N:=aa.refl _ _;have ay:=j.aC;refine I.O (fun am=>?_);refine G.aZ 2 ?_;refine am (I.t2 (fun Z ap=>I.O (fun ae=>?_)));refine G.af ?_;refine aW qo (qQ bC p w0 _ aL (O.mono J) Q) ?_;rintro v9 H ⟨rfl,af⟩;obtain⟨aL,j,n,_⟩:=cf af aL j n;refine G.v1 fB (G.nil (ae ?_));refine dm (fun ad=>?_) (fun ad=>?_)
 ·
  refine I.O (fun ag=>?_);refine G.aZ 2 ?_;refine ag ?_;refine I.ret (ap (C ?_))
  have x:D.look p=7:=by
   unfold aw.look;rw[aA (by simpa using ad)]
  exact⟨by rw[x];rfl,n⟩
 ·
  refine I.skip (Z (I.t2 (fun M a7=>I.t1 (fun ai=>?_))));refine eA (fun B=>al H B) [] ?_;have A:=al.refl H;refine U.af 0 o A ?_;refine U.bs 1 o A ?_;refine U.aV 2 hL q0 A ?_;refine U.t1 3 o (fun B d=>bf ((j.cy.W.drop 2).aR d) po) A ?_;refine U.af 4 o A ?_;refine U.bg 5 ?_;refine cP ry (rD bC p w0 _ aL (O.mono J) Q) ?_;rintro ax az ⟨rfl,L⟩;obtain⟨j,n,_⟩:=bO L j n;have S:=A.O L;refine U.dx S ?_;have E:=al.refl az;refine U.t1 6 o (fun B d=>sc uK (j.hm.fX.aR d) (fun _=>rfl) gx o q7 Tryz.underlying9 xa o o) E ?_;refine U.t1 7 o (fun B d=>gp) E ?_;refine dB ?_;have aB:=E;refine ai (I.O (fun ak=>?_));refine G.af ?_;refine G.v1 (Y.wD o bD bD o o) (G.nil (ak ?_));refine dm (fun q=>?_) (fun q=>?_)
  ·
   obtain⟨bo,P⟩:∃bo,aH g.cJ (bV p)=some bo:=by
    cases d:aH g.cJ (bV p)with
    |none=>rw[d]at q;cases q
    |some bo=>exact⟨bo,o⟩
   obtain⟨cu,cA,aC,bA,b5,fJ,ah⟩:=j.hG _ bo P;refine I.O (fun an=>?_);refine G.v1 (Y.cast (v2:=ptr bo) gj (by rw[P];rfl)) ?_;refine G.bs ?_;refine G.aV jP nt ?_;refine G.a6 (ah.cV.W.drop 0) nu lN oB ?_;refine G.af ?_;refine G.v1 (Y.cast (v2:= .pointer (oM g.fb (aH D.now p))) (sc (fun i=>⟨g.fb.getD i 0,0,none⟩) ah.aB.fX (fun _=>rfl) gx o p0 Tryz.underlying9 GD o o) (by rw[ah.iP p,aM rfl])) ?_;refine G.aj ?_;refine an (I.O (fun ar=>?_));refine G.af ?_;refine G.v1 (Y.wD o bD bD o o) (G.nil (ar ?_));refine dm (fun ac=>?_) (fun ac=>?_)
   ·
    refine I.O (fun V=>?_);refine G.aZ 3 ?_;refine V ?_;refine I.ret (a7 (C ?_))
    have x:D.look p=0:=by
     unfold aw.look
     rw[aM (by simpa using ad),aM (by cases d:aH D.now p with
      |none=>rw[d]at ac;cases ac
      |some i=>rfl)]
    exact⟨by rw[x,aM rfl];rfl,n⟩
   ·
    refine I.skip (M (I.O (fun W=>?_)));refine G.aZ 2 ?_;refine W ?_;refine I.ret (C ?_)
    have x:D.look p=2:=by
     unfold aw.look;rw[aM (by simpa using ad),aA]
     first
     |(cases d:aH D.now p with
      |none=>simp
      |some i=>rw[d]at ac;cases ac)
     |(have F:aH g.cJ (bV p)=none:=(by cases d:aH g.cJ (bV p)with
       |none=>rfl
       |some bo=>rw[d]at q;cases q)
       rw[((j.abs _ F).1 p o).1];simp)
    exact⟨by rw[x];rfl,n⟩
  ·
   refine I.skip (M (I.O (fun X=>?_)));refine G.aZ 2 ?_;refine X ?_;refine I.ret (C ?_)
   have x:D.look p=2:=by
    unfold aw.look;rw[aM (by simpa using ad),aA]
    first
    |(cases d:aH D.now p with
     |none=>simp
     |some i=>rw[d]at ac;cases ac)
    |(have F:aH g.cJ (bV p)=none:=(by cases d:aH g.cJ (bV p)with
      |none=>rfl
      |some bo=>rw[d]at q;cases q)
      rw[((j.abs _ F).1 p o).1];simp)
   exact⟨by rw[x];rfl,n⟩
end m3
namespace kE
open ho nC jz m3
section
variable {H : Heap} {b bE : Nat}
theorem bq.new(cap most:Nat)(d:Var 102 H b [.int .i64 cap,.int .i64 most,.map (some bE),.int .i64 0,.int .i64 0,.bool false])(hm:cW H aN ptr bE ([]:List (aD×Nat)))(aq:cap≤9223372036854775807)(n:most≤9223372036854775807)(r:b≠bE):
 bq [b+1,bE+1] ⟨ha (ha (fun _=> .out) bE .hG) b .fs,[],bE,[],0⟩ H b (aw.empty cap most) where
 ec:=rR (rR (K:=[]) (ρ:=fun _=> .out) (fun c=>by simp) bl) bl
 lt:=sd (sd (H:=H) (fun c h=>absurd o h) (dz _) hm.lt) (dz _) d.lt
 b0:=sB
 cy:=d
 kS:=fun _=>rfl
 kR:=by simp
 l1:=aq
 me:=n
 jD:=by show ha (ha (fun _=> .out) bE .hG) b .fs bE=_;rw[p4 (kj r),sB]
 hm:=hm
 hG:=fun p bo e=>(by cases e)
 abs:=fun p _=>⟨fun q _=>⟨o,o⟩,o⟩
 len:=rfl
 gu:=fun i j=>(by simp[aw.empty]at j)
 ids:=⟨fun p i e=>(by cases e),fun p i e=>(by cases e),fun c aq=>(by cases aq)⟩
 kd:=dz _
end
theorem wj(cap most:Nat)(w0:World)(N:Heap)
 (aq:cap≤9223372036854775807)(O:most≤9223372036854775807):
 aE Tryz.prog w0 12 #[.int .i64 (cap:Int),.int .i64 (most:Int)] N (fun r q=>∃K:List Nat,∃g:cQ,∃b:Nat,r= .tuple #[ptr b,.int .i64 0]∧bq K g q b (aw.empty cap most)∧bk [] N.size K∧al N q):=by
 refine aE.aP [.int .i64 (cap:Int),.int .i64 (most:Int)] Tryz.func12 ?_;intro Q P;have d:al N N:=aa.refl _ _;refine I.O (fun ad=>?_);refine G.aZ 2 ?_;refine ad (I.t1 (fun A=>I.O (fun B=>?_)));refine G.af ?_;refine G.v1 ((bZ).gE J) ?_;refine G.av 2 ?_;refine G.aG ((bZ).gE J) ?_;refine G.eh ?_;refine G.nil (B ?_);refine dZ ?_;refine I.skip (A (I.O (fun C=>?_)));refine G.av 2 ?_;refine G.aU (Z.ey (Z.qL aN ptr o)) ?_;rintro S E ⟨rfl,j,x,_⟩;have F:=ae.new d.size;obtain⟨d,_⟩:=b6 x d;have R:=j.lt;refine G.v1 (Y.build (v:= .agg #[.int .i64 cap,.int .i64 most,.map (some N.size),.int .i64 0,.int .i64 0,.bool false]) o o fy) ?_;refine G.aU Z.bv ?_;rintro ap H ⟨rfl,n,ac,_⟩;have L:=ae.new d.size;obtain⟨j,d,_⟩:=bO ac j d;have n:Var 102 H E.size ([.int .i64 cap,.int .i64 most,.map (some N.size),.int .i64 0,.int .i64 0,.bool false]):=n;have az:=bk.cons F (bk.refl [] _);have am:=bk.cons L az;have M:=bq.new cap most n j aq O J;refine G.aZ 2 ?_;refine C ?_;refine I.ret (P ?_);exact⟨_,_,_,o,M,am,d⟩
theorem PX(a m:Int)(w0:World)(N:Heap)
 (aB:a<0∨m<0):
 aE Tryz.prog w0 12 #[.int .i64 a,.int .i64 m] N (fun r A=>r= .tuple #[.pointer none,.int .i64 1]∧al N A):=by
 refine aE.aP [.int .i64 a,.int .i64 m] Tryz.func12 ?_;intro C x;have q:al N N:=aa.refl _ _;refine I.O (fun ac=>?_);refine G.aZ 2 ?_;refine ac (I.t2 (fun _ j=>I.O (fun n=>?_)));refine G.af ?_;refine G.v1 bZ ?_;refine G.af ?_;refine G.bL (d:=8) o (fun g8=>?_) (fun g8=>?_)
 ·
  refine G.av 2 ?_;refine G.v1 (Y.cast (v2:= .bool true) ga (by first|rfl|(congr 1;simp;omega))) (G.nil (n ?_));refine I.kc o ?_;refine I.O (fun ad=>?_);refine G.aZ 2 ?_;refine ad ?_;refine I.ret (j (x ?_));exact⟨o,q⟩
 ·
  refine G.b4 ?_;refine G.aG bZ ?_;refine G.v1 (Y.cast (v2:= .bool true) fT (by first|rfl|(congr 1;simp;omega))) (G.nil (n ?_));refine I.kc o ?_;refine I.O (fun B=>?_);refine G.aZ 2 ?_;refine B ?_;refine I.ret (j (x ?_));exact⟨o,q⟩
theorem E7(bC:Int)(K:List Nat)(g:cQ)(b:Nat)(D:aw)(p:aD)(w0:World)(N:Heap)
 (aL:fj bC N)(ag:bp (fun b=>b=0) N.size)(n:bq K g N b D)(ak:p.length≤4294967280)(ai:∀i,(a1 D.fs i).now.length≤1099511627776):
 aE Tryz.prog w0 89 #[ptr b,aN p] N (fun r E=>∃s:aO,∃k:Nat,r= .tuple #[s.v,.int .i64 (D.gI p:Int)]∧aY k 5 E bd 1 s.v (D.cM p)∧ae 0 N.size k∧al N E):=by
 refine aE.aP [ptr b,aN p] Tryz.func89 ?_;intro ar C;have j:al N N:=aa.refl _ _;have ac:=n.aC;refine I.O (fun O=>?_);refine G.aZ 2 ?_;refine O (I.t2 (fun P Q=>I.O (fun R=>?_)));refine G.av 2 ?_;refine G.a6 n.cy.W hL ee fc ?_;refine G.nil (R ?_);refine dm (fun A=>?_) (fun A=>?_)
 ·
  refine I.O (fun az=>?_);refine G.aZ 2 ?_;refine az ?_;refine I.ret (Q (C ?_));have d:D.gI p=11:=by unfold aw.gI;rw[aM A]
  have x:D.cM p=[]:=by unfold aw.cM;rw[aA (by rw[d];omega)]
  exact⟨⟨none,0,0⟩,0,by rw[d];rfl,by rw[x];exact aY.nil fM hh,ae.refl _ _,j⟩
 ·
  refine I.skip (P (I.O (fun am=>?_)));refine G.av 2 ?_;refine aW uV (vk bC K g b D p w0 _ aL (ag.mono J) n ak) ?_;rintro aC av ⟨rfl,ad⟩;obtain⟨n,j,_⟩:=bO ad n j;refine G.af ?_;refine G.v1 c3 ?_;refine G.v1 c3 ?_;refine G.aZ 2 ?_;refine am (I.t2 (fun S ap=>I.O (fun U=>?_)));refine G.af ?_;refine G.v1 dX (G.nil (U ?_));refine a8 (fun V=>?_) (fun V=>?_)
  ·
   refine I.O (fun W=>?_);refine G.aZ 3 ?_;refine W ?_;refine I.ret (ap (C ?_));have d:D.gI p=D.look p:=by unfold aw.gI;rw[aA (by simpa using A)]
   have x:D.cM p=[]:=by unfold aw.cM;rw[aA (by rw[d];omega)]
   exact⟨⟨none,0,0⟩,0,by rw[d];rfl,by rw[x];exact aY.nil fM hh,ae.refl _ _,j⟩
  ·
   have q:D.look p=0:=by omega
   obtain⟨i,B⟩:∃i,aH D.now p=some i:=by
    cases an:aH D.now p with
    |some i=>exact⟨i,o⟩
    |none=>exfalso;unfold aw.look at q;rw[an]at q;by_cases aB:cH p=true<;>simp[aB]at q
   obtain⟨fO,bA,gi,kw,lw,F⟩:=n.gu i (n.ids.1 p i B);refine I.skip (S (I.O (fun a7=>?_)));refine G.v1 (Y.cast (v2:=gC g.fb i) gj (by rw[aM q,B];rfl)) ?_;refine G.bs ?_;refine G.aV jw mZ ?_;refine G.a6 (F.ez.W.drop 0) m0 dt fe ?_;refine aW rA (qk _ (a1 D.fs i).now w0 _ F.aB.any (by have:=ai i;omega)) ?_;rintro ax ay ⟨X,Z,rfl,H,L,M⟩;have af:=ae.O (ae.refl 0 _) L j.size;have j:=j.O M;refine G.aZ 2 ?_;refine a7 ?_;refine I.ret (C ?_);have d:D.gI p=0:=by unfold aw.gI;rw[aA (by simpa using A)];exact q
   have x:D.cM p=(a1 D.fs i).now:=by unfold aw.cM aw.eE;rw[aM d,B]
   exact⟨X,Z,by rw[d];rfl,by rw[x];exact H,af,j⟩
theorem ON(K:List Nat)(g:cQ)(b:Nat)(D:aw)(n:Int)(w0:World)(N:Heap)
 (d:bq K g N b D)(aB:n≤9223372036854775807):
 aE Tryz.prog w0 32 #[ptr b,.int .i64 n] N (fun r q=>∃g2:cQ,r= .tuple #[]∧bq K g2 q b (D.stop n.toNat)∧(g2.ρ=g.ρ∧g2.fb=g.fb∧g2.bE=g.bE∧g2.cJ=g.cJ)∧aa (ay K) N q):=by
 refine aE.enter (args:=[ptr b,.int .i64 n]) Tryz.func32 o o o ?_;intro E C;have j:aa (ay K) N N:=aa.refl _ _;have x:=bk.refl K N.size;have ac:=d.aC;refine I.region ?_;refine G.av 2 ?_;refine G.v1 (Y.cast (v2:= .int .i64 (n.toNat:Int)) (Y.tA o o o) (eI J)) ?_;refine G.bs ?_;refine G.aV hL b8 ?_;refine G.s1 (zI d n.toNat o o o b8 J) ?_;rintro ad ⟨d,A⟩;have j:=j.bt A (ar.cO x (by intro k B;simp[B]));refine G.nil ?_;refine C .normal (.inl o) _ _ _ (jt o) ?_;exact⟨_,o,d,⟨o,o,o,o⟩,j⟩
end kE
namespace pf
open ho jz kE
def kx(ks dn:List aD)(w:aD→Nat):Nat:=((ks.filter (fun k=> !decide (k∈dn))).map w).sum
theorem Fj(ks:List aD)(w:aD→Nat):kx ks [] w=(ks.map w).sum:=by
 unfold kx;rw[tm.2 (fun k _=>by simp)]
theorem Fi{ks dn:List aD}{w:aD→Nat}(h:∀k∈ks,k∈dn):kx ks dn w=0:=by
 unfold kx;rw[r6.2 (fun k d=>by simp[h k d])];rfl
theorem zS{w:aD→Nat}{k:aD}{dn:List aD}(ah:k∉dn):∀{ks:List aD},ks.Nodup→k∈ks→kx ks dn w=w k+kx ks (dn++[k]) w
 |[],_,h=>by cases h
 |x::ks,aB,h=>by
  rw[ng]at aB;unfold kx;by_cases j:x=k
  ·subst j
   have e:(x::ks).filter (fun q=> !decide (q∈dn++[x]))=ks.filter (fun q=> !decide (q∈dn)):=by
    rw[mL bl];refine vP (fun q r=>?_);have:q≠x:=fun e=>aB.1 (by rw[←e];exact r);simp[this]
   rw[e,mM (by simp[ah]),dk,ib]
  ·have n:k∈ks:=by
    rcases dU.1 h with e|h
    ·exact absurd e.symm j
    ·exact h
   have ih:=zS (w:=w) (dn:=dn) ah aB.2 n;unfold kx at ih;by_cases d:x∈dn
   ·rw[mL (by simp[d]),mL (by simp[d])];exact ih
   ·rw[mM (by simp[d]),mM (by simp[d,j]),dk,dk,ib,ib,ih];omega
def nP(D:aw)(d:aD):Nat:=kW D.fs (D.now.filter (fun x=>bV x.1=d))
theorem FW(ks:List aD)(aB:ks.Nodup)(d:aD)(a:Nat):d∈ks→(ks.map (fun k=>if d=k then a else 0)).sum=a:=by
 induction ks with
 |nil=>intro h;cases h
 |cons x ks ih=>
  intro h;rw[ng]at aB;rw[dk,ib];by_cases j:d=x
  ·subst j
   rw[aM rfl]
   have:(ks.map (fun k=>if d=k then a else 0)).sum=0:=by
    have:ks.map (fun k=>if d=k then a else 0)=ks.map (fun _=>0):=mK (fun k n=>aA (fun e=>aB.1 (by rw[e];exact n)));rw[this];clear this ih aB h
    induction ks with
    |nil=>rfl
    |cons x ks ih=>rw[dk,ib,ih]
   omega
  ·rw[aA j,ih aB.2 (by
    rcases dU.1 h with e|h
    ·exact absurd e j
    ·exact h)];omega
theorem sum_add(ks:List aD)(f g:aD→Nat):(ks.map (fun k=>f k+g k)).sum=(ks.map f).sum+(ks.map g).sum:=by
 induction ks with
 |nil=>rfl
 |cons x ks ih=>simp only[dk,ib,ih];omega
theorem CA(fs:List fi)(ks:List aD)(aB:ks.Nodup):∀l:cI,(∀x∈l,bV x.1∈ks)→(ks.map (fun d=>kW fs (l.filter (fun x=>bV x.1=d)))).sum=kW fs l
 |[],_=>by
  have:ks.map (fun d=>kW fs (([]:cI).filter (fun x=>bV x.1=d)))=ks.map (fun _=>0):=mK (fun k _=>rfl);rw[this];clear this aB;rename_i bz;clear bz
  induction ks with
  |nil=>rfl
  |cons x ks ih=>rw[dk,ib,ih];rfl
 |x::l,h=>by
  have ih:=CA fs ks aB l (fun y hy=>h y (hj _ hy))
  have e:ks.map (fun d=>kW fs ((x::l).filter (fun x=>bV x.1=d)))=ks.map (fun d=>(if bV x.1=d then(a1 fs x.2).now.length else 0)+kW fs (l.filter (fun x=>bV x.1=d))):=by
   refine mK (fun k _=>?_);by_cases j:bV x.1=k
   ·rw[mM (by simpa using j),aM j];simp[kW]
   ·rw[mL (by simpa using j),aA j];simp
  rw[e,sum_add,FW ks aB _ _ (h x gw),ih];simp[kW]
theorem Ma{D:aw}{b5:cI}{d:aD}(j:eW D.now)(aB:(b5.map (·.1)).Nodup)(he:∀q,aH b5 q=if bV q=d then aH D.now q else none):((b5.map (·.1)).map (fun q=>(D.eE q).length)).sum=nP D d:=by
 have n:eW (D.now.filter (fun x=>decide (bV x.1=d))):=j.filter _
 have r:(b5.map (·.1)).Perm ((D.now.filter (fun x=>decide (bV x.1=d))).map (·.1)):=(List.perm_ext_iff_of_nodup aB n.nodup).2 (fun q=>by
  rw[←gF,←gF,he,zd (f:=fun p=>decide (bV p=d))];by_cases h:bV q=d<;>simp[h])
 rw[(r.map _).sum_nat];unfold nP kW;rw[l9];congr 1;refine mK (fun x A=>?_);have:=n1 j.nodup (show(x.1,x.2)∈D.now from(jZ.1 A).1);simp only[Function.comp,aw.eE,this]
theorem Pd{K:List Nat}{g:cQ}{H:Heap}{b:Nat}{D:aw}(j:bq K g H b D)(n:eW D.now):((g.cJ.map (·.1)).map (nP D)).sum=D.used:=
 CA D.fs _ j.hm.fX.nodup D.now (fun x r=>by
  have d:=n1 n.nodup (show(x.1,x.2)∈D.now from r);rw[←gF]
  cases q:aH g.cJ (bV x.1)with
  |some _=>rfl
  |none=>rw[((j.abs _ q).1 x.1 o).1]at d;cases d)
theorem jM{α:Type}[DecidableEq α]:∀{a b:List α},a.Nodup→(∀k∈a,k∈b)→a.length≤b.length
 |[],b,_,_=>iT _
 |x::a,b,aB,ag=>by
  rw[ng]at aB;have h:=jM (b:=b.erase x) aB.2 (fun k d=>(List.mem_erase_of_ne (fun e=>aB.1 (by rw[←e];exact d))).2 (ag k (hj _ d)));have j:=ag x gw;rw[DB j]at h;have:=List.length_pos_of_mem j;simp only[fx];omega
set_option maxHeartbeats 2000000 in
theorem Gn(K:List Nat)(g:cQ)(b:Nat)(D:aw)(w0:World)(N:Heap)
 (j:bq K g N b D)(aS:eW D.now)(b8:D.used≤4611686018427387904):
 aE Tryz.prog w0 226 #[ptr b] N (fun r aZ=>r= .int .i64 (D.used:Int)∧al N aZ):=by
 refine aE.aP [ptr b] Tryz.func226 ?_;intro bX bU;have F:al N N:=aa.refl _ _;have b3:=j.aC;refine I.O (fun ba=>?_);refine G.aj ?_;refine ba (I.O (fun bb=>?_));refine G.aj ?_;refine bb (I.t1 (fun bc=>I.O (fun bd=>?_)));refine G.av 2 ?_;refine G.a6 j.cy.W hL q0 po ?_;have B:=j.hm;have b0:=B.lt;obtain⟨es,bK,B⟩:=B.raw;refine G.aU (Z.ey (Z.sq B o q7 o)) ?_;rintro a0 aC ⟨rfl,it,bx,_⟩;have aG:=au.hU j.aC;have aJ:=ak.new B.lt;have aK:=ae.new F.size;obtain⟨j,B,F,_⟩:=cf bx j B F;have b4:=it.lt;refine G.nil (bd (I.aC (fun _ bf _=>?_)))
 refine I.bb (fun(aB:(List aD)×Nat)=>match aB with|(A,n)=>[(3,.int .i64 (n:Int)),(12,.pointer (some ⟨N.size,0,none⟩))])
  (fun(A,n) (H:Heap)=>(h6 H N.size g.bE aN es bK A)∧(A.Nodup∧∀k∈A,k∈g.cJ.map (·.1))∧n+kx (g.cJ.map (·.1)) A (nP D)=D.used∧aa (ay [(N.size+1)]) aC H)
  (fun(A,n)=>g.cJ.length-A.length) ([],0) ⟨o,o,trivial⟩ ?_ ?_
 ·
  exact⟨it,⟨qB,by simp⟩,by rw[Fj,Pd j aS];omega,aa.refl _ _⟩
 rintro⟨A,n⟩ bB bg bW bj bk;obtain⟨it,R,b_,C⟩:=bg;obtain⟨j,B,F,_⟩:=dQ C j (iv aG) B aJ F aK;have ac:=ae.refl (N.size+1) aC.size;have ag:=jM R.1 R.2;rw[dg]at ag;refine I.O (fun bl=>?_);refine G.aU (Z.si it B gx.inj o o) ?_;rintro a2 Q ⟨cb,d,bo,b6,rfl,it,bP,bN,az⟩;obtain⟨j,B,F,C,_⟩:=dT az j (iv aG) B aJ F aK C (an.r ac);refine G.v1 (Y.rF o o) (G.nil (bl ?_));refine I.t2 (fun bm bn=>?_);refine dm (fun am=>?_) (fun am=>?_)
 ·
  obtain⟨E,P,av⟩:=bP am;rw[av]at it;have bR:=n1 B.fX.nodup E;obtain⟨cu,cA,ca,bA,b5,fJ,ah⟩:=j.hG _ bo bR;have bV:=E;have bS:=P;have b9:kx (g.cJ.map (·.1)) A (nP D)=nP D d+kx (g.cJ.map (·.1)) (A++[d]) (nP D):=zS (w:=nP D) P B.fX.nodup (cN.2 ⟨_,E,o⟩);refine I.skip (bm (I.aC (fun bp _ _=>I.O (fun bz=>?_))));refine G.v1 (Y.rE it B gx.inj E o o) ?_;refine G.v1 c3 ?_;refine G.aj ?_;refine bz (I.O (fun ap=>?_));refine G.av 2 ?_;refine G.aV jP nt ?_;refine G.a6 (ah.cV.W.drop 0) nu lN oB ?_;have x:=ah.aB;have b1:=x.lt;obtain⟨bM,bL,x⟩:=x.raw;refine G.aU (Z.ey (Z.sq x o p0 o)) ?_;rintro a3 aL ⟨rfl,L,bC,_⟩;have aO:=au.hU j.aC;have aP:=ak.new it.lt;have aQ:=ak.new x.lt;have aR:=ae.new C.size;obtain⟨j,it,x,C,_⟩:=ed bC j it x C;have b2:=L.lt;refine G.nil (ap (I.aC (fun _ bD _=>?_)))
  refine I.bb (fun(aB:(List aD)×Nat)=>match aB with|(dn,m)=>[(3,.int .i64 (m:Int)),(12,.pointer (some ⟨N.size,0,none⟩)),(22,.pointer (some ⟨Q.size,0,none⟩))])
   (fun(dn,m) (H:Heap)=>(h6 H Q.size cu aN bM bL dn)∧(dn.Nodup∧∀k∈dn,k∈b5.map (·.1))∧m+kx (b5.map (·.1)) dn (fun q=>(D.eE q).length)+kx (g.cJ.map (·.1)) (A++[d]) (nP D)=D.used∧aa (ay [(Q.size+1)]) aL H)
   (fun(dn,m)=>b5.length-dn.length) ([],n) ⟨o,o,o,trivial⟩ ?_ ?_
  ·
   exact⟨L,⟨qB,by simp⟩,by rw[Fj,Ma aS x.fX.nodup ah.iP];omega,aa.refl _ _⟩
  rintro⟨dn,m⟩ a4 bt a5 bE a7;obtain⟨L,S,U,ad⟩:=bt;obtain⟨j,it,x,C,_⟩:=dT ad j (iv aO) it aP x aQ C (an.q aR);have bw:=ae.refl (Q.size+1) aL.size;have ag:=jM S.1 S.2;rw[dg]at ag;refine I.O (fun bF=>?_);refine G.aU (Z.si L x gx.inj o o) ?_;rintro bY bZ ⟨cc,q,i,b7,rfl,L,bQ,bO,bG⟩;obtain⟨j,it,x,C,ad,_⟩:=g_ bG j (iv aO) it aP x aQ C (an.q aR) ad (an.r bw);refine G.v1 (Y.rF o o) (G.nil (bF ?_));refine I.t2 (fun bH bJ=>?_);refine dm (fun V=>?_) (fun V=>?_)
  ·
   obtain⟨E,P,av⟩:=bQ V;rw[av]at L;have O:=n1 x.fX.nodup E;rw[ah.iP]at O
   have O:aH D.now q=some i:=by
    split at O
    ·exact O
    ·cases O
   obtain⟨fO,cd,gi,kw,lw,aU⟩:=j.gu i (j.ids.1 q i O);have aW:kx (b5.map (·.1)) dn (fun q=>(D.eE q).length)=(D.eE q).length+kx (b5.map (·.1)) (dn++[q]) (fun q=>(D.eE q).length):=zS (w:=fun q=>(D.eE q).length) P x.fX.nodup (cN.2 ⟨_,E,o⟩);have aX:D.eE q=(a1 D.fs i).now:=by unfold aw.eE;rw[O]
   refine I.skip (bH (I.aC (fun a6 _ _=>I.O (fun a8=>?_))));refine G.v1 (Y.rE L x gx.inj E o o) ?_;refine G.v1 c3 ?_;refine G.aj ?_;refine a8 (I.region ?_);refine G.av 3 ?_;refine G.aV jw mZ ?_;refine G.a6 (aU.ez.W.drop 0) m0 dt fe ?_;refine G.v1 (bu aU.aB dV) ?_;refine G.v1 (Y.cast (v2:= .int .i64 ((m+(D.eE q).length:Nat):Int)) (Y.xH o o o (by rw[aX]at aW;omega)) (eI (by rw[aX];omega))) ?_;refine G.aj ?_;refine a6 ?_
   have ar:(dn++[q]).Nodup∧∀k∈dn++[q],k∈b5.map (·.1):=by
    refine⟨?_,fun k M=>?_⟩
    ·rw[nY]
     exact⟨S.1,by simp,fun a W b ao e=>by simp only[eU]at ao;subst ao;subst e;exact P W⟩
    ·rcases gG.1 M with h|h
     ·exact S.2 k h
     ·rw[eU.1 h];exact cN.2 ⟨_,E,o⟩
   have ai:=jM ar.1 ar.2;rw[bT,iU,dg]at ai;refine aT.sub (bE (dn++[q],m+(D.eE q).length) _ ?_ ?_) ⟨(aF J),o,o,trivial⟩
   ·exact⟨L,ar,by rw[aW,←rV]at U;exact U,ad⟩
   ·simp only[bT,iU];omega
  ·
   obtain⟨X,_⟩:=bO V;have aV:kx (b5.map (·.1)) dn (fun q=>(D.eE q).length)=0:=Fi (fun k M=>by obtain⟨p,ax,rfl⟩:=cN.1 M;exact X p ax);refine I.exit (bJ (a7 (bD ?_)));refine bp ?_
   have af:(A++[d]).Nodup∧∀k∈A++[d],k∈g.cJ.map (·.1):=by
    refine⟨?_,fun k M=>?_⟩
    ·rw[nY]
     exact⟨R.1,by simp,fun a W b ao e=>by simp only[eU]at ao;subst ao;subst e;exact bS W⟩
    ·rcases gG.1 M with h|h
     ·exact R.2 k h
     ·rw[eU.1 h];exact cN.2 ⟨_,bV,o⟩
   have ai:=jM af.1 af.2;rw[bT,iU,dg]at ai;refine aT.sub (bj (A++[d],m) _ ?_ ?_) ⟨(aF J),o,trivial⟩
   ·exact⟨it,af,by rw[aV,mI]at U;exact U,C⟩
   ·simp only[bT,iU];omega
 ·
  obtain⟨X,_⟩:=bN am;have aV:kx (g.cJ.map (·.1)) A (nP D)=0:=Fi (fun k M=>by obtain⟨p,ax,rfl⟩:=cN.1 M;exact X p ax);refine I.exit (bn (bk (bf ?_)));refine bc (I.O (fun a_=>?_));refine G.aZ 2 ?_;refine a_ ?_;refine I.ret (bU ?_);exact⟨by rw[show n=D.used by omega],F⟩
end pf
namespace xv
open ho jz m3 kE
theorem zj(K:List Nat)(g:cQ)(b:Nat)(D:aw)(p:aD)(w0:World)(N:Heap)
 (d:bq K g N b D)(aC:g.cJ.length+1≤D.ops):
 aE Tryz.prog w0 222 #[ptr b,aN p] N (fun r B=>∃bF:List Nat,∃g2:cQ,∃bo:Nat,r=ptr bo∧bq bF g2 B b D∧bk K N.size bF∧aH g2.cJ p=some bo∧g2.fb=g.fb∧aa (ay K) N B):=by
 refine aE.aP [ptr b,aN p] Tryz.func222 ?_;intro aK H;have j:aa (ay K) N N:=aa.refl _ _;have n:=bk.refl K N.size;have aS:=d.aC;refine I.O (fun af=>?_);refine G.aj ?_;refine af (I.seq (fun bF ai _=>I.region ?_));refine G.av 2 ?_;refine G.a6 d.cy.W hL q0 po ?_;refine G.af ?_;refine G.v1 (sc uK d.hm.fX (fun _=>rfl) gx o q7 Tryz.underlying9 xa o o) ?_;refine G.aj ?_;refine ai _ _ (I.t1 (fun ap=>I.O (fun a7=>?_)));refine G.af ?_;refine G.v1 (Y.peq o bD bD o o) (G.nil (a7 ?_));refine dm (fun ad=>?_) (fun ad=>?_)
 ·
  have aJ:aH g.cJ p=none:=by
   cases x:aH g.cJ p with
   |none=>rfl
   |some bo=>rw[x]at ad;cases ad
  refine I.O (fun ak=>?_);refine G.aU (Z.ey (Z.qL aN (gC g.fb) o)) ?_;rintro aO q ⟨rfl,aB,U,_⟩;have an:=au.hU d.aC;have av:=ae.new j.size;obtain⟨d,j,_⟩:=bO U d j;have aT:=aB.lt;refine G.aU (Z.ey (Z.qL aN (gC g.fb) o)) ?_;rintro aP E ⟨rfl,ag,V,_⟩;have ax:=au.hU d.aC;have L:=ae.new j.size;obtain⟨d,aB,j,_⟩:=cf V d aB j;have aU:=ag.lt;refine G.v1 (Y.build (v:= .agg #[.map (some N.size),.map (some q.size)]) o o fy) ?_;refine G.v1 (Y.build (v:= .agg #[.map (some N.size),.map (some q.size),.slice none 0 0]) o o fy) ?_;refine G.aU Z.bv ?_;rintro aQ M ⟨rfl,A,W,_⟩;have O:=au.hU d.aC;have P:=ae.new j.size;obtain⟨d,aB,ag,j,_⟩:=ed W d aB ag j;have A:Var 173 M E.size ([.map (some N.size),.map (some q.size),.slice none 0 0]):=A;refine G.aj ?_;refine ak (I.region ?_);refine G.av 2 ?_;refine G.a6 d.cy.W hL q0 po ?_;refine G.av 2 ?_;refine G.s1 (S.oZ E.size d.hm gx o q7 Tryz.underlying9 o o o) ?_;rintro aL ⟨aG,C⟩;have ac:=d.ms C (fun c e=>by rw[e,d.jD];simp);have j:=j.bt ac (ar.cO n (by intro k aF;simp[aF]));have aR:=ac.size;have az:=bk.cons av n;have am:=bk.cons L az;have X:=bk.cons P am;have d:=d.Mb aJ A aB ag O an ax J J J C.e3 aG aC;refine G.nil (ap (I.O (fun Q=>?_)));refine G.aZ 2 ?_;refine Q ?_;refine I.ret (H ?_);exact⟨_,_,_,o,d,X,by show aH (hk g.cJ p _) p=_;rw[nn,aM rfl],o,j⟩
 ·
  obtain⟨bo,F⟩:∃bo,aH g.cJ p=some bo:=by
   cases x:aH g.cJ p with
   |none=>rw[x]at ad;cases ad
   |some bo=>exact⟨bo,o⟩
  refine I.skip (ap (I.O (fun R=>?_)));refine G.aZ 2 ?_;refine R ?_;refine I.ret (H ?_);exact⟨K,g,bo,by rw[F];rfl,d,n,F,o,j⟩
set_option maxHeartbeats 2000000 in
theorem Ch(K:List Nat)(g:cQ)(b:Nat)(D:aw)(p:aD)(c:c_)(w0:World)(N:Heap)
 (d:bq K g N b D)(bx:g.cJ.length+1≤D.ops)(bu:c.dir=p)(ai:∀i,c.f=some i→bV c.n=p∧i<D.fs.length)(bw:c.g≠[]→bV c.g=p)(bW:D.log.length≤1099511627776):
 aE Tryz.prog w0 221 #[ptr b,aN p,.agg (jn g.fb c).toArray] N (fun r R=>∃bF:List Nat,∃g2:cQ,r= .tuple #[]∧bq bF g2 R b (D.change c)∧bk K N.size bF∧g2.fb=g.fb∧aa (ay K) N R):=by
 refine aE.enter (args:=[ptr b,aN p,.agg (jn g.fb c).toArray]) Tryz.func221 o o o ?_;intro bK bz;have j:aa (ay K) N N:=aa.refl _ _;have aG:=bk.refl K N.size;have aH:=d.aC;refine I.O (fun aZ=>?_);refine G.aU Z.bv ?_;rintro v5 aQ ⟨rfl,q,a6,_⟩;have aB:=au.hU d.aC;obtain⟨d,j,_⟩:=bO a6 d j;have q:Var 177 aQ N.size (jn g.fb c):=q;refine G.nil (aZ (I.seq (fun bF a8 _=>I.region ?_)));refine G.av 2 ?_;refine aW x2 (zj K g b D p w0 _ d bx) (fun v9 bJ bE=>?_);have a_:=q.lt;obtain⟨V,g9,bo,rfl,d,aJ,P,aC,ag⟩:=bE;have aF:=au.ej aB a_ aJ;have O:=bk.O aG aJ j.size;have q:=q.aJ ag aB;have j:=j.bt ag (ar.cO aG (by intro k C;simp[C]));have bP:=ag.size;have aH:=d.aC;rw[←aC]at q;refine G.aj ?_;refine a8 _ _ (I.t1 (fun bb=>?_));obtain⟨bC,b0,bY,b4,aP,b1,av⟩:=d.hG _ bo P;refine ka 6 (fun bL bt=>?_);refine G.av 2 ?_;refine G.aV jP nt ?_;refine G.a6 (av.cV.W.drop 0) nu lN oB ?_;refine G.v1 (ba q.W uF qZ o) ?_;refine G.nil (bt _ ?_);refine aW Ca ((E3 g9.fb bC aP c w0 _ av.aB).mono (fun r R h=>d.put P av h.2 h.1 (D9 c aP) (fun i Q=>⟨(ai i Q).1,(ai i Q).2⟩) bw)) ?_;rintro bQ ad ⟨d,X⟩;have q:=q.aJ X aF;have j:=j.bt X (ar.cO O (by intro k C;simp[C]));have bR:=X.size;have aH:=d.aC;refine G.nil (bb ?_);obtain⟨bD,bG,n,bH,bZ,b2,B⟩:=d.hG _ bo P;have bX:(D.de p).length≤D.log.length:=r9 _ _;have A:aa (ay [(bo+1),n]) ad ad:=aa.refl _ _;have bB:hO V (bo+1):=(d.nk B.rd bl);have cV:=B.cV;have bT:=cV.lt;have bd:an K N.size (bo+1):=ar.at (ar.cO O (by intro k C;simp[C])) bB;have a7:=ae.refl (bo+1) ad.size;have ax:hO V n:=(d.nZ B.rc bl);have aq:=(show aY n 177 _ (jn g9.fb) 3 bH.v (D.de p)from B.aq);have bg:=aq.le;have bj:=au.at aF ax;have bm:an K N.size n:=ar.at (ar.cO O (by intro k C;simp[C])) ax;have az:=ae.refl n ad.size;have M:ak (bo+1) n:=fun x bU ab=>by have aL:=B.rc x ab;rw[show x=bo by omega,B.rd]at aL;cases aL
 refine eA (fun L=>aa (ay [n]) ad L) [8,9,10] ?_;have ac:aa (ay [n]) ad ad:=aa.refl _ _;have bn:=ae.refl n ad.size;refine U.af 0 o ac ?_;refine U.af 1 o ac ?_;refine U.bs 2 o ac ?_;refine U.t1 3 o (fun L H=>Y.fieldAddr (cV.aJ H (au.T M)).W o jP o o mY bc o) ac ?_;refine U.t1 4 o (fun L H=>bf ((cV.aJ H (au.T M)).W.drop 2) uE) ac ?_;refine U.t1 5 o (fun L H=>Y.qJ (q.aJ H (au.T bj)).W o uF qZ o o) ac ?_;refine U.bg 6 ?_;refine fC o (Z.c2 (dE _ ([c]) Dr (oJ _) (rG _))) ?_;rintro bS am ⟨bp,aR,_⟩;have aS:=ae.new ac.size;obtain⟨cV,aq,j,A,ac,_⟩:=dH aR cV aq j A ac;refine U.b5 ac (ar.cons (an.r bn) (ar.T (an.q aS))) ?_;have ac:aa (ay [n,(ad.size+1)]) am am:=aa.refl _ _;have aK:=ae.refl n am.size;have aT:=ae.refl (ad.size+1) am.size;refine U.bg 7 ?_;refine fC o (eO aq bp.rd Dr h0 h0) ?_;rintro W bN ⟨bA,aq,af,F⟩;have F:=F.md;have aU:=ak.app M cV.lt af;have ap:=ae.O az af A.size;have aV:=ae.O aK af ac.size;have cV:=cV.aJ F (au.T M);have j:=j.bt F (ar.cons bm ar.nil);obtain⟨A,ac,_⟩:=dW F A (an.r az) ac (an.r aK);have bg:=aq.le;refine U.b5 ac (ar.cons (an.r aV) (ar.T (an.r aT))) ?_;refine U.bg 8 ?_;refine iJ o kX (.inl o) ?_;refine U.bg 9 ?_;refine iJ o (Y.hc cV.W o jP o mY) (.inl o) ?_;refine U.bg 10 ?_;refine iK o (S.p5 cV 2 ([.map (some bD),.map (some bG),W]) o o o aq.rd.tL mY bl o) ?_;rintro bM ⟨cV,E⟩;have E:=E.e3;obtain⟨aq,_⟩:=c0 E aq aU.symm;have j:=j.bt E (ar.cons bd ar.nil);obtain⟨A,_⟩:=c0 E A (an.r a7);refine⟨.inl o,?_⟩;refine dB ?_;obtain⟨b3,rfl⟩:∃s:aO,W=s.v:=⟨cF W,aq.bA.symm⟩;have aX:bk K N.size (bA::V):=(bk.app O ax ap J);have d:=d.note P B A cV aq ap bu (fun i Q=>(ai i Q).2);refine bz .normal (.inl o) _ _ _ (jt o) ?_;exact⟨_,_,o,d,aX,aC,j⟩
end xv
namespace ox
open ho nC jz m3 kE pf xv
structure h5 (n:Nat) (D:aw):Prop where
 aj:eW D.now
 jX:eW D.stays
 us:D.used≤2305843009213693952
 eg:D.log.length≤n
 op:D.ops≤n
 aR:∀i,(a1 D.fs i).now.length≤n
 ug:∀i,(a1 D.fs i).stays.length≤n
 w:∀i,(a1 D.fs i).w.length≤n
 wd:∀i,∀y∈(a1 D.fs i).w,y.d.length≤n
 nl:D.now.length≤n
 j_:D.stays.length≤n
 a6:D.fs.length≤n
 eh:∀i j,(jg ((a1 D.fs i).w.take j) (a1 D.fs i).stays).length≤n
 la:∀c∈D.log,∀i,c.f=some i→bV c.n=c.dir
theorem Bs(D:aw):D.begin.2.cap=D.cap∧D.begin.2.most=D.most∧D.begin.2.fs=D.fs∧D.begin.2.now=D.now∧D.begin.2.stays=D.stays∧D.begin.2.log=D.log∧D.begin.2.ops≤D.ops+1:=by
 unfold aw.begin;split
 ·exact⟨o,o,o,o,o,o,pF _⟩
 ·split
  ·exact⟨o,o,o,o,o,o,pF _⟩
  ·exact⟨o,o,o,o,o,o,dz _⟩
theorem uR{D:aw}(h:D.begin.1=true):D.begin.2.ops=D.ops+1∧D.begin.2.dead=false:=by
 unfold aw.begin at h⊢;split at h
 ·cases h
 ·rename_i d
  split at h
  ·cases h
  ·rename_i ab
   rw[aA d,aA ab];exact⟨o,by simpa using d⟩
theorem h5.mono{n m:Nat}{D:aw}(h:h5 n D)(hm:n≤m):h5 m D:=⟨h.aj,h.jX,h.us,fg h.eg hm,fg h.op hm,fun i=>fg (h.aR i) hm,fun i=>fg (h.ug i) hm,fun i=>fg (h.w i) hm,fun i y hy=>fg (h.wd i y hy) hm,fg h.nl hm,fg h.j_ hm,fg h.a6 hm,fun i j=>fg (h.eh i j) hm,h.la⟩
theorem h5.begin{n:Nat}{D:aw}(h:h5 n D):h5 (n+1) D.begin.2:=by
 obtain⟨aP,x,d,j,q,r,A⟩:=Bs D;have h:=h.mono (pF n);exact⟨by rw[j];exact h.aj,by rw[q];exact h.jX,by unfold aw.used;rw[d,j];exact h.us,by rw[r];exact h.eg,by have:=h5.op ‹h5 n D›;omega,by rw[d];exact h.aR,by rw[d];exact h.ug,by rw[d];exact h.w,by rw[d];exact h.wd,by rw[j];exact h.nl,by rw[q];exact h.j_,by rw[d];exact h.a6,by rw[d];exact h.eh,by rw[r];exact h.la⟩
theorem vY{D:aw}{p:aD}(h:D.look p=0):cH p=true∧∃i,aH D.now p=some i:=by
 unfold aw.look at h
 cases aB:cH p with
 |false=>rw[aB]at h;simp at h
 |true=>
  rw[aB]at h
  cases d:aH D.now p with
  |none=>rw[d]at h;simp at h
  |some i=>exact⟨o,i,o⟩
theorem Lr{D:aw}{p:aD}(h:D.look p=2):cH p=true∧aH D.now p=none:=by
 unfold aw.look at h
 cases aB:cH p with
 |false=>rw[aB]at h;simp at h
 |true=>
  rw[aB]at h
  cases d:aH D.now p with
  |none=>exact⟨o,o⟩
  |some i=>rw[d]at h;simp at h
theorem Ls{D:aw}{p:aD}(h:D.look p=7):cH p=false:=by
 unfold aw.look at h
 cases aB:cH p with
 |false=>rfl
 |true=>
  rw[aB]at h
  cases d:aH D.now p with
  |none=>rw[d]at h;simp at h
  |some i=>rw[d]at h;simp at h
theorem Lt(D:aw)(p:aD):D.look p=0∨D.look p=2∨D.look p=7:=by
 unfold aw.look;split
 ·split
  ·exact .inl o
  ·exact .inr (.inl o)
 ·exact .inr (.inr o)
theorem qV(w:dF)(b:List UInt8):(w.on b w.d.length).length=(if w.b=true then b.length else 0)+w.d.length:=by
 unfold dF.on;rw[bT,eJ,Nat.min_self];split<;>rfl
theorem s9{D:aw}{i:Nat}{x:fi}(h:i<D.fs.length):a1 (D.gm i x).fs i=x:=by simp[a1,aw.gm,List.getD,h]
theorem yo{D:aw}{i:Nat}{x:fi}:(D.gm i x).fs.length=D.fs.length:=by simp[aw.gm]
theorem E4{D:aw}{i:Nat}{x y:fi}:(D.gm i x).gm i y=D.gm i y:=by simp[aw.gm]
theorem y7{D:aw}{p:aD}{w:dF}(h:D.begin.1=false):D.lay p w=(11,D.begin.2):=by unfold aw.lay;simp[h]
theorem vW{D:aw}{p:aD}{w:dF}(h:D.begin.1=true):D.lay p w=(D.begin.2.jr p w,if D.begin.2.jr p w=0 then D.begin.2.write p w else D.begin.2):=by unfold aw.lay;simp[h]
theorem K3{D:aw}{p:aD}{w:dF}(h:cH p=false):D.jr p w=7:=by unfold aw.jr;rw[aM h]
theorem DO{D:aw}{p:aD}{w:dF}(h:cH p=true)(ab:D.most<(w.on (D.eE p) w.d.length).length):D.jr p w=5:=by unfold aw.jr;rw[aA (by simp[h]),aM ab]
theorem DN{D:aw}{p:aD}{w:dF}(h:cH p=true)(ab:¬D.most<(w.on (D.eE p) w.d.length).length)(d:D.cap+(D.eE p).length<D.used+(w.on (D.eE p) w.d.length).length):D.jr p w=12:=by unfold aw.jr;rw[aA (by simp[h]),aA ab,aM d]
theorem tt{D:aw}{p:aD}{w:dF}(h:cH p=true)(ab:¬D.most<(w.on (D.eE p) w.d.length).length)(d:¬D.cap+(D.eE p).length<D.used+(w.on (D.eE p) w.d.length).length):D.jr p w=0:=by unfold aw.jr;rw[aA (by simp[h]),aA ab,aA d]
theorem Au{D:aw}{p:aD}{i:Nat}(h:aH D.now p=some i):D.eE p=(a1 D.fs i).now:=by unfold aw.eE;rw[h]
theorem Pk{D:aw}{p:aD}(h:aH D.now p=none):D.eE p=[]:=by unfold aw.eE;rw[h]
theorem GB{D:aw}{p:aD}{i:Nat}{w:dF}(h:aH D.now p=some i)(d:i<D.fs.length):
 (D.gm i ⟨w.on (D.eE p) w.d.length,(a1 D.fs i).stays,(a1 D.fs i).w⟩).gm i ⟨(a1 (D.gm i ⟨w.on (D.eE p) w.d.length,(a1 D.fs i).stays,(a1 D.fs i).w⟩).fs i).now,(a1 (D.gm i ⟨w.on (D.eE p) w.d.length,(a1 D.fs i).stays,(a1 D.fs i).w⟩).fs i).stays,(a1 (D.gm i ⟨w.on (D.eE p) w.d.length,(a1 D.fs i).stays,(a1 D.fs i).w⟩).fs i).w++[w]⟩=D.write p w:=by
 rw[s9 d,E4,Au h];unfold aw.write aw.make;rw[h]
def iy(D:aw)(p:aD):aw:=({D with fs:=D.fs++[⟨[],[],[]⟩]}:aw).change ⟨[],p,some D.fs.length⟩
theorem Ec(D:aw)(p:aD):a1 (iy D p).fs D.fs.length=⟨[],[],[]⟩:=by simp[iy,aw.change,a1,List.getD]
theorem Ed(D:aw)(p:aD):D.fs.length<(iy D p).fs.length:=by simp[iy,aw.change]
theorem GA{D:aw}{p:aD}{w:dF}(h:aH D.now p=none):
 ((iy D p).gm D.fs.length ⟨w.on (a1 (iy D p).fs D.fs.length).now w.d.length,(a1 (iy D p).fs D.fs.length).stays,(a1 (iy D p).fs D.fs.length).w⟩).gm D.fs.length ⟨(a1 ((iy D p).gm D.fs.length ⟨w.on (a1 (iy D p).fs D.fs.length).now w.d.length,(a1 (iy D p).fs D.fs.length).stays,(a1 (iy D p).fs D.fs.length).w⟩).fs D.fs.length).now,(a1 ((iy D p).gm D.fs.length ⟨w.on (a1 (iy D p).fs D.fs.length).now w.d.length,(a1 (iy D p).fs D.fs.length).stays,(a1 (iy D p).fs D.fs.length).w⟩).fs D.fs.length).stays,(a1 ((iy D p).gm D.fs.length ⟨w.on (a1 (iy D p).fs D.fs.length).now w.d.length,(a1 (iy D p).fs D.fs.length).stays,(a1 (iy D p).fs D.fs.length).w⟩).fs D.fs.length).w++[w]⟩=D.write p w:=by
 rw[s9 (Ed D p),E4];unfold aw.write aw.make;rw[h];rfl
set_option maxHeartbeats 1000000 in
theorem DP(bC:Int)(K:List Nat)(g:cQ)(b:Nat)(D:aw)(p:aD)(x:l0)(F:Nat→Prop)(w0:World)(N:Heap)
 (d:bq K g N b D)(aL:fj bC N)(cN:bp (fun b=>b=0) N.size)(ek:aS (fun b=>b=0) K)(ah:Rd F N bd 1 x.2.v x.1.d)(er:bp F N.size)(c4:aS F K)(db:p.length≤4294967280)(c6:h5 274877906944 D)(gz:x.1.d.length≤274877906944):
 aE Tryz.prog w0 185 #[ptr b,aN p,oj x] N (fun r cw=>∃bF:List Nat,∃g2:cQ,r= .int .i64 ((D.lay p x.1).1:Int)∧bq bF g2 cw b (D.lay p x.1).2∧bk K N.size bF∧aa (ay K) N cw):=by
 refine aE.aP [ptr b,aN p,oj x] Tryz.func185 ?_;intro gk bb;have j:aa (ay K) N N:=aa.refl _ _;have aR:=bk.refl K N.size;have az:=d.aC;have gB:=c6.op;have gA:=d.kd;obtain⟨B,bL⟩:∃B,B=D.begin.2:=⟨_,o⟩;have a_:=c6.begin;rw[←bL]at a_;refine I.O (fun eD=>?_);refine G.aU Z.bv ?_;rintro v5 dh ⟨rfl,n,eK,_⟩;have bA:=au.hU d.aC;have c2:=ae.new j.size;obtain⟨d,aL,ah,j,_⟩:=ed eK d aL ah j;have n:Var 275 dh N.size (lB x):=n;refine G.aj ?_;refine eD (I.seq (fun bF eE eG=>I.O (fun eI=>?_)));refine G.af ?_;refine aW uW (uQ K g b D w0 _ d J) ?_;rintro ds gm ⟨g1,rfl,d,c5,bB⟩;have aL:=aL.aJ bB ek;have ah:=ah.aJ bB c4;have n:=n.aJ bB bA;have j:=j.bt bB (ar.cO aR (by intro k X;simp[X]));have gn:=bB.size;rw[←bL]at d;refine G.v1 fB (G.nil (eI ?_));refine dm (fun b9=>?_) (fun b9=>?_)
 ·
  refine I.O (fun eJ=>?_);refine G.aj ?_;refine eJ ?_;refine I.ret (eG .ret nofun _ _ (bb ?_));have c8:=y7 (p:=p) (w:=x.1) (show D.begin.1=false by simpa using b9);exact⟨_,_,by rw[c8];rfl,by rw[c8];rw[bL]at d;exact d,aR,j⟩
 ·
  have da:D.begin.1=true:=by simpa using b9
  have fZ:=(uR da).1;rw[←bL]at fZ;have dc:=Lt B p;have af:=vW (p:=p) (w:=x.1) da;rw[←bL]at af;refine I.skip (eE _ _ (I.O (fun eM=>?_)));refine G.av 2 ?_;refine aW uV (vk bC K g1 b B p w0 _ aL (cN.mono J) d db) ?_;rintro gu ai ⟨rfl,d_⟩;obtain⟨d,aL,ah,n,j,_⟩:=dH d_ d aL ah n j;refine G.af ?_;refine G.v1 c3 ?_;refine G.v1 c3 ?_;refine G.aZ 2 ?_;refine eM (I.t2 (fun fk fL=>I.O (fun bo=>?_)));refine G.af ?_;refine G.v1 cC (G.nil (bo ?_));refine a8 (fun eH=>?_) (fun eH=>?_)
  ·
   refine I.O (fun dd=>?_);refine G.aZ 2 ?_;refine dd ?_;refine I.ret (fL (bb ?_));have ag:B.jr p x.1=7:=K3 (Ls (D:=B) J);exact⟨_,_,by rw[af,ag];rw[show B.look p=7 by omega];rfl,by rw[af];simp only[ag];exact d,aR,j⟩
  ·
   refine I.skip (fk (I.O (fun fM=>?_)));refine G.aj ?_;refine fM (I.t1 (fun cx=>I.O (fun eb=>?_)));refine G.af ?_;refine G.v1 (Y.peq o bD bD o o) (G.nil (eb ?_));refine dm (fun a9=>?_) (fun a9=>?_)
   ·
    have bM:B.look p=2:=by
     rcases dc with h|h|h
     ·obtain⟨_,i,cc⟩:=vY h
      rw[aM h,cc]at a9;cases a9
     ·exact h
     ·omega
    obtain⟨bx,aU⟩:=Lr bM;have Q:=Pk aU;have gD:(B.eE p).length=0:=by rw[Q];rfl
    refine I.region ?_;refine G.v1 (Y.build (v:= .agg #[.slice none 0 0,.slice none 0 0,.slice none 0 0]) o o fy) ?_;refine G.aU Z.bv ?_;rintro gv bS ⟨rfl,ez,ec,_⟩;have h9:=au.hU d.aC;have fN:=ax.new (er.mono j.size);have fO:=ak.new n.lt;have fP:=ae.new j.size;obtain⟨d,aL,ah,n,j,_⟩:=dH ec d aL ah n j;have ez:Var 186 bS ai.size ([.slice none 0 0,.slice none 0 0,.slice none 0 0]):=ez;refine G.aj ?_;refine cx (I.O (fun ef=>?_));refine G.a6 n.W ln dt fe ?_;refine G.v1 (bu ah dV) ?_;refine G.aj ?_;refine ef ?_
    refine I.cut (fun(sz:Nat)=>[(0,ptr b),(1,aN p),(5,.pointer (some ⟨N.size,0,none⟩)),(7,ptr ai.size),(8,.int .i64 (B.look p:Int)),(9,.int .i64 (0)),(10,.int .i64 (sz:Int))])
     (fun(sz:Nat) (H:Heap)=>(sz=(x.1.on (B.eE p) x.1.d.length).length)∧(B.eE p).length≤274877906945∧al bS H) (fun _ cJ _=>?_) ?_
    ·
     have cy:al bS bS:=aa.refl _ _;refine I.O (fun eg=>?_);refine G.a6 n.W ln ee fc ?_;refine G.nil (eg ?_);refine dm (fun bg=>?_) (fun bg=>?_)
     ·
      refine I.region ?_;refine G.av 2 ?_;refine G.v1 bN ?_;refine G.aj ?_;refine aT.sub (cJ ((B.eE p).length+x.1.d.length) _ ?_) ⟨o,o,o,o,(aF J),(aF J),(aF J),trivial⟩;exact⟨by rw[qV,aM bg],by first|(rw[Q];omega)|(rw[Q];simp),cy⟩
     ·
      refine I.skip ?_;refine aT.sub (cJ x.1.d.length _ ?_) ⟨o,o,o,o,(aF J),(aF J),(aF J),trivial⟩;exact⟨by rw[qV,aA (by simpa using bg)];omega,by first|(rw[Q];omega)|(rw[Q];simp),cy⟩
    ·
     intro sz bG ap;obtain⟨cg,gd,am⟩:=ap;obtain⟨d,aL,ah,n,ez,j,_⟩:=fY am d aL ah n ez j;have gb:=a_.us;have ga:sz≤274877906945+274877906944:=by rw[cg,qV];split<;>omega
     refine I.t2 (fun eh cK=>I.aC (fun ei _ cL=>I.O (fun ej=>?_)));refine G.av 3 ?_;refine G.a6 d.cy.W hL b8 cX ?_;refine G.v1 fA ?_;refine G.aj ?_;refine ej ?_;refine a8 (fun b_=>?_) (fun b_=>?_)
     ·
      refine I.O (fun eo=>?_);refine G.aj ?_;refine eo ?_;refine I.ret (cL (cK (bb ?_)));have ag:B.jr p x.1=5:=DO bx J;exact⟨_,_,by rw[af,ag];rfl,by rw[af];simp only[ag];exact d,aR,j⟩
     ·
      refine I.t1 (fun dp=>?_);refine eA (fun A=>al bG A) [] ?_;have P:=al.refl bG;refine U.af 0 o P ?_;refine U.af 2 o P ?_;refine U.af 4 o P ?_;refine U.af 6 o P ?_;refine U.bs 7 o P ?_;refine U.aV 8 hL b8 P ?_;refine U.t1 9 o (fun A q=>bf ((d.cy.W.drop 0).aR q) cX) P ?_;refine U.bg 1 ?_;refine cP BZ (Gn _ _ b B w0 _ d a_.aj J) ?_;rintro fQ ca ⟨rfl,bE⟩;obtain⟨d,aL,ah,n,ez,j,_⟩:=fY bE d aL ah n ez j;have bW:=P.O bE;refine U.dx bW ?_;have aP:=al.refl ca;refine U.t1 3 o (fun A q=>gq) aP ?_;refine U.t1 5 o (fun A q=>bN) aP ?_;refine U.t1 10 o (fun A q=>fA) aP ?_;refine U.t1 11 o (fun A q=>gp) aP ?_;refine dB ?_;have f_:=aP;refine dp ?_;refine a8 (fun b5=>?_) (fun b5=>?_)
      ·
       refine I.O (fun dq=>?_);refine G.aj ?_;refine dq ?_;refine I.ret (cL (cK (bb ?_)));have ag:B.jr p x.1=12:=DN bx J J;exact⟨_,_,by rw[af,ag];rfl,by rw[af];simp only[ag];exact d,aR,j⟩
      ·
       refine I.skip (ei (eh (I.t1 (fun dx=>I.O (fun dy=>?_)))));refine G.af ?_;refine G.v1 cC (G.nil (dy ?_));refine a8 (fun b6=>?_) (fun b6=>?_)
       ·
        have fV:=d.len;refine I.region ?_;refine G.av 2 ?_;refine aW ry (rD bC p w0 _ aL (cN.mono J) db) ?_;rintro gw gx ⟨rfl,dC⟩;obtain⟨d,ah,n,ez,j,_⟩:=dH dC d ah n ez j;refine G.av 2 ?_;refine G.v1 (Y.cast (v2:= .agg (jn (g1.fb++[ai.size]) ⟨[],p,some B.fs.length⟩).toArray) (Y.build (v:= .agg #[aN [],aN p,ptr ai.size]) o o fy) (by simp[jn,oM,List.getD,←d.len])) ?_;have dD:=aS.cons fN c4;have cR:au (N.size+1) ((ai.size+1)::K):=au.cons fO bA;have be:=bk.cons fP aR;have d:=d.Mc ez h9;have az:=d.aC;refine aW BY (Ch ((ai.size+1)::K) {g1 with ρ:=ha g1.ρ ai.size (.gu B.fs.length),fb:=g1.fb++[ai.size]} b {B with fs:=B.fs++[⟨[],[],[]⟩]} (bV p) ⟨[],p,some B.fs.length⟩ w0 _ d (by show g1.cJ.length+1≤B.ops;rw[c5.2.2.2];omega) (by simp[c_.dir]) (fun i cc=>by cases cc;exact⟨o,by simp⟩) (fun h=>absurd o h) (by have:=a_.eg;show B.log.length≤_;omega)) (fun gy fR dl=>?_);have dF:=n.lt;obtain⟨aV,b7,rfl,d,cz,ep,bO⟩:=dl;have bZ:=au.ej cR dF cz;have cD:=bk.O be cz j.size;have ah:=ah.aJ bO dD;have n:=n.aJ bO cR;have j:=j.bt bO (ar.cO be (by intro k X;simp[X]));have gl:=bO.size;have az:=d.aC;obtain⟨i,bz⟩:∃i,i=B.fs.length:=⟨_,o⟩;have aC:i<(iy B p).fs.length:=by rw[bz];exact Ed B p
        have fU:b7.fb.getD i 0=ai.size:=by rw[ep,bz];simp[List.getD,←fV]
        obtain⟨bi,V,aZ⟩:∃bi,b7.fb.getD i 0=bi∧ptr ai.size=ptr bi:=⟨_,fU,o⟩;have cd:(a1 (iy B p).fs i).now=B.eE p:=by rw[bz,Ec,Q]
        have ch:(a1 (iy B p).fs i).w.length≤274877906945:=by rw[bz,Ec];simp
        have d:bq aV b7 fR b (iy B p):=d;refine G.nil (dx (I.O (fun fm=>?_)));refine G.a6 n.W ln dt fe ?_;refine aW rA (qk _ x.1.d w0 _ ah.any J) ?_;rintro dn fS ⟨bj,bm,rfl,ac,bt,b0⟩;have cO:au bm aV:=au.qh au.lT d.aC bt;have fo:=ak.app ak.z n.lt bt;have fp:=ae.O (ae.refl 0 _) bt j.size;obtain⟨d,n,j,_⟩:=cf b0 d n j;have dj:=ac.le;refine G.aV ln dt ?_;refine G.s1 (du n 1 ([.bool x.1.b,bj.v]) dt bl o) ?_;rintro av ⟨n,bn⟩;have bn:=bn.e3;obtain⟨d,ac,j,_⟩:=dQ bn d (iv bZ) ac fo.symm j (an.q c2);refine G.nil (fm (I.t1 (fun fq=>?_)));obtain⟨cp,cr,cv,gf,gg,a6⟩:=d.gu i aC;have L:aa (ay [(bi+1)]) av av:=aa.refl _ _;have ck:hO aV (bi+1):=(d.ts a6 V);have C:=a6.qj V;have b3:=C.lt;have ce:=au.at bZ ck;have fr:=au.at cO ck;have ft:an K N.size (bi+1):=ar.at (ar.cO cD (by intro k X;simp[X])) ck;have eF:=ae.refl (bi+1) av.size;refine eA (fun A=>al av A) [11,12,13,14] ?_;have E:al av av:=aa.refl _ _;refine U.t1 0 o (fun A q=>Y.cast (v2:=ptr bi) gj aZ) E ?_;refine U.t1 1 o (fun A q=>ba (n.W.aR q) lv j9 o) E ?_;refine U.t1 2 o (fun A q=>Y.cast (v2:=ptr bi) gj aZ) E ?_;refine U.bs 3 o E ?_;refine U.aV 4 jw mZ E ?_;refine U.aV 5 m0 dt E ?_;refine U.t1 6 o (fun A q=>bf (C.W.aR q) fe) E ?_;refine U.aV 7 ln dt E ?_;refine U.t1 8 o (fun A q=>bf ((n.W.drop 1).aR q) fe) E ?_;refine U.t1 9 o (fun A q=>bu (ac.rd.aR q) dV) E ?_;refine U.bg 10 ?_;refine cP rv (sl (x.1,bj) cp _ x.1.d.length w0 _ ac.rd.any a6.aB.any (dz _) (by rw[cd];omega)) ?_;rintro fT ci ⟨cb,R,rfl,aX,aB,b1⟩;have fw:=ak.app ak.z n.lt aB;have dG:=ak.app ak.z ac.le aB;have fx:=ak.app ak.z C.lt aB;have fz:=ae.O (ae.refl 0 _) aB j.size;have co:=ae.O (ae.refl 0 _) aB L.size;have fD:=ae.O (ae.refl 0 _) aB E.size;obtain⟨n,ac,C,j,L,E,_⟩:=fY b1 n ac C j L E;have dk:=aX.le;refine⟨.inr E,U.narrow (SH2:=fun A=>aa (ay [R]) ci A) (fun A q=>(aa.bt (ks:=[]) (E.nm []) q (ar.T (an.q fD))).nil) ?_⟩;refine U.bg 11 ?_;refine iJ o kX (.inl o) ?_;refine U.bg 12 ?_;refine iJ o (Y.hc C.W o jw o mZ) (.inl o) ?_;refine U.bg 13 ?_;refine iJ o (Y.hc C.W o m0 o dt) (.inl o) ?_;refine U.bg 14 ?_;refine iK o (du C 0 ([cb.v,cr.v,cv.v]) dt bl o) ?_;rintro M ⟨C,aJ⟩;have aJ:=aJ.e3;obtain⟨n,ac,aX,_⟩:=dQ aJ n ce ac fr aX fx.symm;have j:=j.bt aJ (ar.cons ft ar.nil);obtain⟨L,_⟩:=c0 aJ L (an.r eF);refine⟨.inl o,?_⟩;refine dB ?_;have fE:au (N.size+1) (R::aV):=(au.cons fw bZ);have b2:au bm (R::aV):=(au.cons dG cO);have a0:bk K N.size (R::aV):=(bk.cons fz cD);have d:=d.Dd aC a6 V L C aX (au.tK d.aC co);have az:=d.aC;refine fq (I.t1 (fun fF=>?_));have bw:=aC;rw[←yo]at bw;obtain⟨cq,ct,gi,O,cn,W⟩:=d.gu i bw;have fW:cn.length≤274877906945:=by have bJ:=aI List.length W.lw;rw[dg,s9 aC]at bJ;rw[bJ];exact ch
        have L:aa (ay [(bi+1),O]) M M:=aa.refl _ _;have df:hO (R::aV) (bi+1):=(d.ts W V);have C:=W.qj V;have b3:=C.lt;have cs:=au.at b2 df;have fG:an K N.size (bi+1):=ar.at (ar.cO a0 (by intro k X;simp[X])) df;have bQ:=ae.refl (bi+1) M.size;have bU:hO (R::aV) O:=(d.nZ W.kV bl);have hw:=W.hw;have b4:=hw.le;have fl:=au.at fE bU;have cT:=au.at b2 bU;have fH:an K N.size O:=ar.at (ar.cO a0 (by intro k X;simp[X])) bU;have cU:=ae.refl O M.size;have bP:ak (bi+1) O:=W.ne V;refine eA (fun A=>aa (ay [O]) M A) [8,9,10] ?_;have ad:aa (ay [O]) M M:=aa.refl _ _;have fI:=ae.refl O M.size;refine U.t1 0 o (fun A q=>Y.cast (v2:=ptr bi) gj aZ) ad ?_;refine U.t1 1 o (fun A q=>Y.cast (v2:=ptr bi) gj aZ) ad ?_;refine U.bs 2 o ad ?_;refine U.t1 3 o (fun A q=>Y.fieldAddr (C.aJ q (au.T bP)).W o jw o o mh bc o) ad ?_;refine U.t1 4 o (fun A q=>bf ((C.aJ q (au.T bP)).W.drop 2) sM) ad ?_;refine U.t1 5 o (fun A q=>Y.qJ (n.aJ q (au.T fl)).W o lv j9 o o) ad ?_;refine U.bg 6 ?_;refine fC o (dE _ ([(x.1,bj)]) vs kL qt) ?_;rintro hg aG ⟨a2,a3,fJ,a4⟩;have et:aG.size=M.size+1:=by rw[a4];simp
        have fK:=ae.new ad.size;obtain⟨ac,C,hw,j,L,ad,_⟩:=fY a3 ac C hw j L ad;refine U.b5 ad (ar.cons (an.r fI) (ar.T (an.q fK))) ?_;have ad:aa (ay [O,(M.size+1)]) aG aG:=aa.refl _ _;have cV:=ae.refl O aG.size;have eN:=ae.refl (M.size+1) aG.size;refine U.bg 7 ?_;refine fC o (eO hw a2.rd vs h0 h0) ?_;rintro a5 eP ⟨cm,hw,a7,aQ⟩;have aQ:=aQ.md;have eQ:=ak.app cT ac.le a7;have eR:=ak.app bP C.lt a7;have cW:=ae.O cU a7 L.size;have eS:=ae.O cV a7 ad.size;obtain⟨ac,C,_⟩:=dW aQ ac cT C bP;have j:=j.bt aQ (ar.cons fH ar.nil);obtain⟨L,ad,_⟩:=dW aQ L (an.r cU) ad (an.r cV);have b4:=hw.le;refine U.b5 ad (ar.cons (an.r eS) (ar.T (an.r eN))) ?_;refine U.bg 8 ?_;refine iJ o kX (.inl o) ?_;refine U.bg 9 ?_;refine iJ o (Y.hc C.W o jw o mh) (.inl o) ?_;refine U.bg 10 ?_;refine iK o (S.p5 C 2 ([cq.v,ct.v,a5]) o o o hw.rd.tL mh bl o) ?_;rintro di ⟨C,aK⟩;have aK:=aK.e3;obtain⟨ac,hw,_⟩:=dW aK ac cs hw eR.symm;have j:=j.bt aK (ar.cons fG ar.nil);obtain⟨L,_⟩:=c0 aK L (an.r bQ);refine⟨.inl o,?_⟩;refine dB ?_;obtain⟨gh,rfl⟩:∃s:aO,a5=s.v:=⟨cF a5,hw.bA.symm⟩;have eT:bk K N.size (bm::(cm::(R::aV))):=(bk.cons fp ((bk.app a0 bU cW J)));have d:=d.Di bw W V L C hw cW ac (au.cons eQ b2);have az:=d.aC;refine fF (I.O (fun eU=>?_));refine G.aj ?_;refine eU ?_;refine I.ret (bb ?_);have bH:B.jr p x.1=0:=tt bx J J;exact⟨_,_,by rw[af,bH];rfl,by rw[af];simp only[bH,if_true];first|(rw[←GB aU aC];rw[←Q]at d;exact d)|(rw[←GA aU];subst bz;exact d),eT,j⟩
       ·
        exfalso;omega
   ·
    have bM:B.look p=0:=by
     rcases dc with h|h|h
     ·exact h
     ·rw[aA J]at a9;cases a9
     ·omega
    obtain⟨bx,i,aU⟩:=vY bM;have aC:=d.ids.1 p i aU;have Q:=Au aU;obtain⟨bi,V,aZ⟩:∃bi,g1.fb.getD i 0=bi∧ .pointer (oM g1.fb (if B.look p=0 then aH B.now p else none))=ptr bi:=⟨_,o,by rw[aM bM,aU];rfl⟩;have cd:=Q.symm;have fX:=a_.aR i;have gE:(B.eE p).length≤274877906945:=by rw[Q];exact fX
    have ch:=a_.w i;obtain⟨gH,gJ,gK,gF,gG,c9⟩:=d.gu i aC;refine I.region ?_;refine G.v1 (Y.cast (v2:=gC g1.fb i) gj (by rw[aM bM,aU];rfl)) ?_;refine G.bs ?_;refine G.aV jw mZ ?_;refine G.a6 (c9.ez.W.drop 0) m0 dt fe ?_;refine G.v1 (Y.cast (v2:= .int .i64 ((B.eE p).length:Int)) (bu c9.aB dV) (by rw[Q])) ?_;refine G.aj ?_;refine cx (I.O (fun eV=>?_));refine G.a6 n.W ln dt fe ?_;refine G.v1 (bu ah dV) ?_;refine G.aj ?_;refine eV ?_
    refine I.cut (fun(sz:Nat)=>[(0,ptr b),(1,aN p),(5,.pointer (some ⟨N.size,0,none⟩)),(7,.pointer (oM g1.fb (if B.look p=0 then aH B.now p else none))),(8,.int .i64 (B.look p:Int)),(9,.int .i64 ((B.eE p).length:Int)),(10,.int .i64 (sz:Int))])
     (fun(sz:Nat) (H:Heap)=>(sz=(x.1.on (B.eE p) x.1.d.length).length)∧(B.eE p).length≤274877906945∧al ai H) (fun _ cY _=>?_) ?_
    ·
     have cA:al ai ai:=aa.refl _ _;refine I.O (fun eW=>?_);refine G.a6 n.W ln ee fc ?_;refine G.nil (eW ?_);refine dm (fun bg=>?_) (fun bg=>?_)
     ·
      refine I.region ?_;refine G.av 2 ?_;refine G.v1 bN ?_;refine G.aj ?_;refine aT.sub (cY ((B.eE p).length+x.1.d.length) _ ?_) ⟨o,o,o,o,(aF J),(aF J),(aF J),trivial⟩;exact⟨by rw[qV,aM bg],by first|(rw[Q];omega)|(rw[Q];simp),cA⟩
     ·
      refine I.skip ?_;refine aT.sub (cY x.1.d.length _ ?_) ⟨o,o,o,o,(aF J),(aF J),(aF J),trivial⟩;exact⟨by rw[qV,aA (by simpa using bg)];omega,by first|(rw[Q];omega)|(rw[Q];simp),cA⟩
    ·
     intro sz bG ap;obtain⟨cg,gd,am⟩:=ap;obtain⟨d,ah,n,j,_⟩:=ed am d ah n j;have gb:=a_.us;have ga:sz≤274877906945+274877906944:=by rw[cg,qV];split<;>omega
     refine I.t2 (fun eY cZ=>I.aC (fun eZ _ br=>I.O (fun e0=>?_)));refine G.av 3 ?_;refine G.a6 d.cy.W hL b8 cX ?_;refine G.v1 fA ?_;refine G.aj ?_;refine e0 ?_;refine a8 (fun b_=>?_) (fun b_=>?_)
     ·
      refine I.O (fun e1=>?_);refine G.aj ?_;refine e1 ?_;refine I.ret (br (cZ (bb ?_)));have ag:B.jr p x.1=5:=DO bx J;exact⟨_,_,by rw[af,ag];rfl,by rw[af];simp only[ag];exact d,aR,j⟩
     ·
      refine I.t1 (fun e2=>?_);refine eA (fun A=>al bG A) [] ?_;have P:=al.refl bG;refine U.af 0 o P ?_;refine U.af 2 o P ?_;refine U.af 4 o P ?_;refine U.af 6 o P ?_;refine U.bs 7 o P ?_;refine U.aV 8 hL b8 P ?_;refine U.t1 9 o (fun A q=>bf ((d.cy.W.drop 0).aR q) cX) P ?_;refine U.bg 1 ?_;refine cP BZ (Gn _ _ b B w0 _ d a_.aj J) ?_;rintro fQ ca ⟨rfl,bE⟩;obtain⟨d,ah,n,j,_⟩:=ed bE d ah n j;have bW:=P.O bE;refine U.dx bW ?_;have aP:=al.refl ca;refine U.t1 3 o (fun A q=>gq) aP ?_;refine U.t1 5 o (fun A q=>bN) aP ?_;refine U.t1 10 o (fun A q=>fA) aP ?_;refine U.t1 11 o (fun A q=>gp) aP ?_;refine dB ?_;have f_:=aP;refine e2 ?_;refine a8 (fun b5=>?_) (fun b5=>?_)
      ·
       refine I.O (fun e3=>?_);refine G.aj ?_;refine e3 ?_;refine I.ret (br (cZ (bb ?_)));have ag:B.jr p x.1=12:=DN bx J J;exact⟨_,_,by rw[af,ag];rfl,by rw[af];simp only[ag];exact d,aR,j⟩
      ·
       refine I.skip (eZ (eY (I.t1 (fun e4=>I.O (fun e6=>?_)))));refine G.af ?_;refine G.v1 cC (G.nil (e6 ?_));refine a8 (fun b6=>?_) (fun b6=>?_)
       ·
        exfalso;omega
       ·
        refine I.skip (e4 (I.O (fun e7=>?_)));refine G.a6 n.W ln dt fe ?_;refine aW rA (qk _ x.1.d w0 _ ah.any J) ?_;rintro dn fS ⟨bj,bm,rfl,ac,bt,b0⟩;have bK:au bm K:=au.qh au.lT d.aC bt;have e8:=ak.app ak.z n.lt bt;have e9:=ae.O (ae.refl 0 _) bt j.size;obtain⟨d,n,j,_⟩:=cf b0 d n j;have dj:=ac.le;refine G.aV ln dt ?_;refine G.s1 (du n 1 ([.bool x.1.b,bj.v]) dt bl o) ?_;rintro av ⟨n,bn⟩;have bn:=bn.e3;obtain⟨d,ac,j,_⟩:=dQ bn d (iv bA) ac e8.symm j (an.q c2);refine G.nil (e7 (I.t1 (fun e_=>?_)));obtain⟨cp,cr,cv,gf,gg,a6⟩:=d.gu i aC;have L:aa (ay [(bi+1)]) av av:=aa.refl _ _;have cl:hO K (bi+1):=(d.ts a6 V);have C:=a6.qj V;have b3:=C.lt;have fa:=au.at bA cl;have ff:=au.at bK cl;have fg:an K N.size (bi+1):=ar.at (ar.cO aR (by intro k X;simp[X])) cl;have fh:=ae.refl (bi+1) av.size;refine eA (fun A=>al av A) [11,12,13,14] ?_;have E:al av av:=aa.refl _ _;refine U.t1 0 o (fun A q=>Y.cast (v2:=ptr bi) gj aZ) E ?_;refine U.t1 1 o (fun A q=>ba (n.W.aR q) lv j9 o) E ?_;refine U.t1 2 o (fun A q=>Y.cast (v2:=ptr bi) gj aZ) E ?_;refine U.bs 3 o E ?_;refine U.aV 4 jw mZ E ?_;refine U.aV 5 m0 dt E ?_;refine U.t1 6 o (fun A q=>bf (C.W.aR q) fe) E ?_;refine U.aV 7 ln dt E ?_;refine U.t1 8 o (fun A q=>bf ((n.W.drop 1).aR q) fe) E ?_;refine U.t1 9 o (fun A q=>bu (ac.rd.aR q) dV) E ?_;refine U.bg 10 ?_;refine cP rv (sl (x.1,bj) cp _ x.1.d.length w0 _ ac.rd.any a6.aB.any (dz _) (by rw[cd];omega)) ?_;rintro fT ci ⟨cb,R,rfl,aX,aB,b1⟩;have eu:=ak.app ak.z n.lt aB;have ev:=ak.app ak.z ac.le aB;have ew:=ak.app ak.z C.lt aB;have ey:=ae.O (ae.refl 0 _) aB j.size;have eB:=ae.O (ae.refl 0 _) aB L.size;have dI:=ae.O (ae.refl 0 _) aB E.size;obtain⟨n,ac,C,j,L,E,_⟩:=fY b1 n ac C j L E;have dk:=aX.le;refine⟨.inr E,U.narrow (SH2:=fun A=>aa (ay [R]) ci A) (fun A q=>(aa.bt (ks:=[]) (E.nm []) q (ar.T (an.q dI))).nil) ?_⟩;refine U.bg 11 ?_;refine iJ o kX (.inl o) ?_;refine U.bg 12 ?_;refine iJ o (Y.hc C.W o jw o mZ) (.inl o) ?_;refine U.bg 13 ?_;refine iJ o (Y.hc C.W o m0 o dt) (.inl o) ?_;refine U.bg 14 ?_;refine iK o (du C 0 ([cb.v,cr.v,cv.v]) dt bl o) ?_;rintro M ⟨C,aJ⟩;have aJ:=aJ.e3;obtain⟨n,ac,aX,_⟩:=dQ aJ n fa ac ff aX ew.symm;have j:=j.bt aJ (ar.cons fg ar.nil);obtain⟨L,_⟩:=c0 aJ L (an.r fh);refine⟨.inl o,?_⟩;refine dB ?_;have dJ:au (N.size+1) (R::K):=(au.cons eu bA);have bX:au bm (R::K):=(au.cons ev bK);have bY:bk K N.size (R::K):=(bk.cons ey aR);have d:=d.Dd aC a6 V L C aX (au.tK d.aC eB);have az:=d.aC;refine e_ (I.t1 (fun fi=>?_));have bw:=aC;rw[←yo]at bw;obtain⟨cq,ct,gi,O,cn,W⟩:=d.gu i bw;have fW:cn.length≤274877906945:=by have bJ:=aI List.length W.lw;rw[dg,s9 aC]at bJ;rw[bJ];exact ch
        have L:aa (ay [(bi+1),O]) M M:=aa.refl _ _;have de:hO (R::K) (bi+1):=(d.ts W V);have C:=W.qj V;have b3:=C.lt;have dK:=au.at bX de;have dL:an K N.size (bi+1):=ar.at (ar.cO bY (by intro k X;simp[X])) de;have dM:=ae.refl (bi+1) M.size;have bT:hO (R::K) O:=(d.nZ W.kV bl);have hw:=W.hw;have b4:=hw.le;have dN:=au.at dJ bT;have cB:=au.at bX bT;have dP:an K N.size O:=ar.at (ar.cO bY (by intro k X;simp[X])) bT;have cG:=ae.refl O M.size;have bR:ak (bi+1) O:=W.ne V;refine eA (fun A=>aa (ay [O]) M A) [8,9,10] ?_;have ad:aa (ay [O]) M M:=aa.refl _ _;have dR:=ae.refl O M.size;refine U.t1 0 o (fun A q=>Y.cast (v2:=ptr bi) gj aZ) ad ?_;refine U.t1 1 o (fun A q=>Y.cast (v2:=ptr bi) gj aZ) ad ?_;refine U.bs 2 o ad ?_;refine U.t1 3 o (fun A q=>Y.fieldAddr (C.aJ q (au.T bR)).W o jw o o mh bc o) ad ?_;refine U.t1 4 o (fun A q=>bf ((C.aJ q (au.T bR)).W.drop 2) sM) ad ?_;refine U.t1 5 o (fun A q=>Y.qJ (n.aJ q (au.T dN)).W o lv j9 o o) ad ?_;refine U.bg 6 ?_;refine fC o (dE _ ([(x.1,bj)]) vs kL qt) ?_;rintro hg aG ⟨a2,a3,fJ,a4⟩;have et:aG.size=M.size+1:=by rw[a4];simp
        have dS:=ae.new ad.size;obtain⟨ac,C,hw,j,L,ad,_⟩:=fY a3 ac C hw j L ad;refine U.b5 ad (ar.cons (an.r dR) (ar.T (an.q dS))) ?_;have ad:aa (ay [O,(M.size+1)]) aG aG:=aa.refl _ _;have cH:=ae.refl O aG.size;have dT:=ae.refl (M.size+1) aG.size;refine U.bg 7 ?_;refine fC o (eO hw a2.rd vs h0 h0) ?_;rintro a5 eP ⟨cm,hw,a7,aQ⟩;have aQ:=aQ.md;have dU:=ak.app cB ac.le a7;have dX:=ak.app bR C.lt a7;have cI:=ae.O cG a7 L.size;have dY:=ae.O cH a7 ad.size;obtain⟨ac,C,_⟩:=dW aQ ac cB C bR;have j:=j.bt aQ (ar.cons dP ar.nil);obtain⟨L,ad,_⟩:=dW aQ L (an.r cG) ad (an.r cH);have b4:=hw.le;refine U.b5 ad (ar.cons (an.r dY) (ar.T (an.r dT))) ?_;refine U.bg 8 ?_;refine iJ o kX (.inl o) ?_;refine U.bg 9 ?_;refine iJ o (Y.hc C.W o jw o mh) (.inl o) ?_;refine U.bg 10 ?_;refine iK o (S.p5 C 2 ([cq.v,ct.v,a5]) o o o hw.rd.tL mh bl o) ?_;rintro di ⟨C,aK⟩;have aK:=aK.e3;obtain⟨ac,hw,_⟩:=dW aK ac dK hw dX.symm;have j:=j.bt aK (ar.cons dL ar.nil);obtain⟨L,_⟩:=c0 aK L (an.r dM);refine⟨.inl o,?_⟩;refine dB ?_;obtain⟨gh,rfl⟩:∃s:aO,a5=s.v:=⟨cF a5,hw.bA.symm⟩;have dZ:bk K N.size (bm::(cm::(R::K))):=(bk.cons e9 ((bk.app bY bT cI J)));have d:=d.Di bw W V L C hw cI ac (au.cons dU bX);have az:=d.aC;refine fi (I.O (fun eC=>?_));refine G.aj ?_;refine eC ?_;refine I.ret (bb ?_);have bH:B.jr p x.1=0:=tt bx J J;exact⟨_,_,by rw[af,bH];rfl,by rw[af];simp only[bH,if_true];first|(rw[←GB aU aC];rw[←Q]at d;exact d)|(rw[←GA aU];subst bz;exact d),dZ,j⟩
end ox
end Go.Proofs.YtfjmpninmdjcaaaGreatDoor
