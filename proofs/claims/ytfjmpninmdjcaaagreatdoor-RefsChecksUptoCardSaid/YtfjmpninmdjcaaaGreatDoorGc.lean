/-
  Contracts of functions of the program, and plain laws: put together of several texts.
-/
import Derived.Test.YtfjmpninmdjcaaaGreatDoorGb
import Derived.Test.YtfjmpninmdjcaaaGreatDoorGa
import Derived.Sort.Walk0
import Derived.RangeFuncLeaves
import Derived.RangeFuncRecord
import Derived.RangeFuncSeq
import Derived.Lib.AppendZerosOnto
import Derived.Lib.Overlaps
set_option linter.unusedVariables false
set_option linter.unusedSimpArgs false
set_option linter.unusedSectionVars false
set_option linter.defProp false
set_option maxHeartbeats 8000000
set_option maxRecDepth 20000
namespace Go.Proofs.YtfjmpninmdjcaaaGreatDoor

namespace gr
open E Go.RowKit ft gd
inductive fT|out|fs|gj|dir (p:aH)|now (p:aH)|na (p:aH)|mJ (p:aH)|fu (i:Nat)|mi (i:Nat)|je
abbrev ptr(b:Nat):Value:= .pointer (some ⟨b,0,none⟩)
abbrev hZ(fb:List Nat)(i:Nat):Value:=ptr (fb.getD i 0)
abbrev lq(fb:List Nat)(J:Option Nat):Option Addr:=J.map (fun i=>⟨fb.getD i 0,0,none⟩)
abbrev ib(fb:List Nat)(c:dN):List Value:=[aI c.g,aI c.n,.pointer (lq fb c.f)]
theorem qb(fb:List Nat)(c:dN):(ib fb c).length=3:=rfl
theorem qc(fb:List Nat)(c:dN):∀u∈ib fb c,u.oneCell'=true:=by
 intro u hu;simp only[List.mem_cons,List.not_mem_nil,or_false]at hu;rcases hu with rfl|rfl|rfl<;>rfl
theorem FN{α:Type}{aR:Nat→Prop}{e:TypeId}{H:Heap}{f g:α→List Value}{sz:Nat}{v:Value}{l:List α}(h:Own aR e H f sz v l)(av:∀x,(g x).length=sz)(q:∀x,∀u∈g x,u.oneCell'=true)(r:∀x∈l,f x=g x):Own aR e H g sz v l:=by
 refine⟨av,q,?_⟩;rcases h.ex with h|⟨b,cap,cur,aK,d,i,j,k,n,o⟩
 ·exact .inl h
 ·refine .inr ⟨b,cap,cur,aK,d,i,j,k,n,?_⟩
  rw[o,List.flatMap_def,List.flatMap_def,List.map_congr_left r]
theorem FK{α:Type}{k:Nat}{e:TypeId}{H:Heap}{f g:α→List Value}{sz:Nat}{v:Value}{l:List α}(h:aV k e H f sz v l)(av:∀x,(g x).length=sz)(d:∀x,∀u∈g x,u.oneCell'=true)(i:∀x∈l,f x=g x):aV k e H g sz v l:=⟨FN h.own av d i,h.le⟩
theorem xH{κ β:Type}{H:Heap}{a7:κ→Value}{f g:β→Value}{b:Nat}{m:List (κ×β)}(h:df H a7 f b m)(n:∀x∈m,f x.2=g x.2):df H a7 g b m:=by
 obtain⟨r,es,clock,d,U,i,j,k⟩:=h.fo.ex;exact⟨⟨r,es,clock,d,U,i,j,by rw[k];exact List.map_congr_left (fun x o=>by rw[n x o])⟩⟩
section
variable {ρ ρ' : Nat → fT} {fb : List Nat} {H aa : Heap} {D D' : aG} {p : aH} {bf bM c8 k i b : Nat} {bl eO fr : aN} {b3 eH : dy} {x : f_} {l : List lO} {S : Nat → Prop}
structure lJ (ρ:Nat→fT) (fb:List Nat) (H:Heap) (D:aG) (p:aH) (bf bM c8 k:Nat) (bl:aN) (b3 eH:dy):Prop where
 rd:ρ bf= .dir p
 cP:Var 173 H bf [.map (some bM),.map (some c8),bl.v]
 g_:ρ bM= .now p
 aA:df H aI (hZ fb) bM b3
 rs:ρ c8= .na p
 al:df H aI (hZ fb) c8 eH
 gP:∀q,aM b3 q=if cr q=p then aM D.now q else none
 es:∀q,aM eH q=if cr q=p then aM D.stays q else none
 av:aV k 177 H (ib fb) 3 bl.v (D.hL p)
 rc:∀c,c+1=k→ρ c= .mJ p
structure iE (ρ:Nat→fT) (H:Heap) (i b:Nat) (x:f_) (eO bl fr:aN) (k:Nat) (l:List lO):Prop where
 b8:ρ b= .fu i
 cJ:Var 186 H b [eO.v,bl.v,fr.v]
 aA:Rd (fun c=>ρ c= .je) H a1 1 eO.v x.now
 al:Rd (fun c=>ρ c= .je) H a1 1 bl.v x.stays
 hw:aV k 275 H lX 2 fr.v l
 lw:l.map (·.1)=x.w
 an:∀y∈l,Rd (fun c=>ρ c= .je) H a1 1 y.2.v y.1.d
 jl:∀c,c+1=k→ρ c= .mi i
def Ext(ρ ρ':Nat→fT):Prop:=∀c,ρ c≠ .out→ρ' c=ρ c
theorem Ext.refl(ρ:Nat→fT):Ext ρ ρ:=fun _ _=>rfl
theorem Ext.of(h:Ext ρ ρ'){c:Nat}{r:fT}(e:ρ c=r)(d:r≠ .out):ρ' c=r:=by rw[h c (by rw[e];exact d)];exact e
theorem kX{α:Type}{f:α→List Value}{sz:Nat}{v:Value}{l:List α}(h:Rd (fun c=>ρ c= .je) H f sz v l)(i:Ext ρ ρ')(s:W S H aa)(d:∀c,S c→ρ c≠ .je):Rd (fun c=>ρ' c= .je) aa f sz v l:=
 (h.up s (fun b _ e al=>d b al e)).imp (fun b _ e=>i.of e (by simp))
theorem lJ.L(h:lJ ρ fb H D p bf bM c8 k bl b3 eH)(i:Ext ρ ρ')(s:W S H aa)(d:∀c,S c→ρ c≠ .dir p∧ρ c≠ .now p∧ρ c≠ .na p∧ρ c≠ .mJ p)
 (aA:∀q,cr q=p→aM D'.now q=aM D.now q) (al:∀q,cr q=p→aM D'.stays q=aM D.stays q) (av:D'.hL p=D.hL p):lJ ρ' fb aa D' p bf bM c8 k bl b3 eH where
 rd:=i.of h.rd (by simp)
 cP:=h.cP.up s (fun e=>(d _ e).1 h.rd)
 g_:=i.of h.g_ (by simp)
 aA:=h.aA.up s (fun e=>(d _ e).2.1 h.g_)
 rs:=i.of h.rs (by simp)
 al:=h.al.up s (fun e=>(d _ e).2.2.1 h.rs)
 gP:=fun q=>by rw[h.gP];split
               ·rename_i e;rw[aA q e]
               ·rfl
 es:=fun q=>by rw[h.es];split
               ·rename_i e;rw[al q e]
               ·rfl
 av:=by rw[av];exact h.av.up s (fun b _ e aw=>(d b aw).2.2.2 (h.rc b e))
 rc:=fun c e=>i.of (h.rc c e) (by simp)
theorem iE.L(h:iE ρ H i b x eO bl fr k l)(j:Ext ρ ρ')(s:W S H aa)(d:∀c,S c→ρ c≠ .fu i∧ρ c≠ .mi i∧ρ c≠ .je):iE ρ' aa i b x eO bl fr k l where
 b8:=j.of h.b8 (by simp)
 cJ:=h.cJ.up s (fun e=>(d _ e).1 h.b8)
 aA:=kX h.aA j s (fun c e=>(d c e).2.2)
 al:=kX h.al j s (fun c e=>(d c e).2.2)
 hw:=h.hw.up s (fun b _ e aw=>(d b aw).2.1 (h.jl b e))
 lw:=h.lw
 an:=fun y hy=>kX (h.an y hy) j s (fun c e=>(d c e).2.2)
 jl:=fun c e=>j.of (h.jl c e) (by simp)
structure cD where
 ρ:Nat→fT
 fb:List Nat
 bK:Nat
 cF:List (aH×Nat)
 cw:Nat
structure bn (K:List Nat) (g:cD) (H:Heap) (b:Nat) (D:aG):Prop where
 da:∀c,c+1∈K↔g.ρ c≠ .out
 lt:∀c,g.ρ c≠ .out→c<H.size
 ec:g.ρ b= .fs
 aS:Var 102 H b [.int .i64 D.cap,.int .i64 D.most,.map (some g.bK),.int .i64 D.ops,.int .i64 g.cw,.bool D.dead]
 iC:D.dead=false→g.cw=D.left
 iL:g.cw≤9223372036854775807
 jt:D.cap≤9223372036854775807
 jw:D.most≤9223372036854775807
 hD:g.ρ g.bK= .gj
 hm:df H aI ptr g.bK g.cF
 gj:∀p bf,aM g.cF p=some bf→∃bM c8 k bl b3 eH,lJ g.ρ g.fb H D p bf bM c8 k bl b3 eH
 abs:∀p,aM g.cF p=none→(∀q,cr q=p→aM D.now q=none∧aM D.stays q=none)∧D.hL p=[]
 len:g.fb.length=D.fs.length
 fu:∀i,i<D.fs.length→∃eO bl fr k l,iE g.ρ H i (g.fb.getD i 0) (b5 D.fs i) eO bl fr k l
 ids:(∀p i,aM D.now p=some i→i<D.fs.length)∧(∀p i,aM D.stays p=some i→i<D.fs.length)∧(∀c∈D.log,∀i,c.f=some i→i<D.fs.length)
 iA:g.cF.length≤D.ops
variable {K gh : List Nat} {g : cD} {ks : List Nat}
theorem bn.aB(h:bn K g H b D):oa K H.size:=fun k d=>by
 rcases Nat.eq_zero_or_pos k with e|this
 ·omega
 ·have U:=h.lt (k-1) ((h.da (k-1)).1 (by rw[Nat.sub_add_cancel this];exact d))
  omega
theorem bn.up(h:bn K g H b D)(s:W S H aa)(d:∀c,S c→g.ρ c= .out):bn K g aa b D where
 da:=h.da
 lt:=fun c e=>Nat.lt_of_lt_of_le (h.lt c e) s.size
 ec:=h.ec
 aS:=h.aS.up s (fun e=>by have:=d _ e;rw[h.ec]at this;cases this)
 iC:=h.iC
 iL:=h.iL
 jt:=h.jt
 jw:=h.jw
 hD:=h.hD
 hm:=h.hm.up s (fun e=>by have:=d _ e;rw[h.hD]at this;cases this)
 gj:=fun p bf e=>by
  obtain⟨bM,c8,k,bl,b3,eH,an⟩:=h.gj p bf e;exact⟨bM,c8,k,bl,b3,eH,an.L (Ext.refl _) s (fun c av=>by rw[d c av];simp) (fun _ _=>rfl) (fun _ _=>rfl) rfl⟩
 abs:=h.abs
 len:=h.len
 fu:=fun i n=>by
  obtain⟨eO,bl,fr,k,l,j⟩:=h.fu i n;exact⟨eO,bl,fr,k,l,j.L (Ext.refl _) s (fun c av=>by rw[d c av];simp)⟩
 ids:=h.ids
 iA:=h.iA
theorem bn.M(h:bn K g H b D)(s:aj H aa):bn K g aa b D:=h.up s (fun c e=>e.elim)
theorem bn.role(h:bn K g H b D){c:Nat}(av:c+1∉K):g.ρ c= .out:=Classical.byContradiction (fun e=>av ((h.da c).2 e))
theorem bn.ab(h:bn K g H b D)(s:W (aE ks) H aa)(d:ez K ks):bn K g aa b D:=h.up s (fun c e=>h.role (fun i=>d (c+1) i (c+1) e c rfl rfl))
theorem bn.mem(h:bn K g H b D){c:Nat}{r:fT}(e:g.ρ c=r)(d:r≠ .out):c+1∈K:=(h.da c).2 (by rw[e];exact d)
theorem bn.mT{r:fT}(h:bn K g H b D)(d:∀c,c+1=k→g.ρ c=r)(i:r≠ .out):gM K k:=fun c e=>h.mem (d c e) i
theorem bn.nL{c:Nat}{r:fT}(h:bn K g H b D)(e:g.ρ c=r)(d:r≠ .out):gM K (c+1):=gM.of (h.mem e d)
theorem bn.ms(h:bn K g H b D)(s:W S H aa)(d:∀c,S c→g.ρ c≠ .out):W (aE K) H aa:=s.weaken (fun c _ e=>(h.da c).2 (d c e))
theorem bn.tB{d:cD}(h:bn K g H b D)(s:W (aE [b+1]) H aa)(q:d.ρ=g.ρ∧d.fb=g.fb∧d.bK=g.bK∧d.cF=g.cF)
 (C:Var 102 aa b [.int .i64 D.cap,.int .i64 D.most,.map (some g.bK),.int .i64 D'.ops,.int .i64 d.cw,.bool D'.dead]) (x:D'.dead=false→d.cw=D'.left) (A:d.cw≤9223372036854775807)
 (n:D'.cap=D.cap∧D'.most=D.most∧D'.fs=D.fs∧D'.now=D.now∧D'.stays=D.stays∧D'.log=D.log) (B:D.ops≤D'.ops):bn K d aa b D':=by
 obtain⟨r,fb,bK,cF,cw⟩:=d;obtain⟨rfl,rfl,rfl,rfl⟩:=q;obtain⟨cap,most,fs,now,stays,log,ops,left,dead⟩:=D';obtain⟨rfl,rfl,rfl,rfl,rfl,rfl⟩:=n
 have j:∀c,aE [b+1] c→g.ρ c= .fs:=fun c e=>by
  have:c=b:=by simpa[aE]using e
  rw[this];exact h.ec
 exact{
  da:=h.da,lt:=fun c e=>Nat.lt_of_lt_of_le (h.lt c e) s.size,ec:=h.ec,aS:=C,iC:=x,iL:=A,jt:=h.jt,jw:=h.jw,hD:=h.hD
  hm:=h.hm.up s (fun e=>by have:=j _ e;rw[h.hD]at this;cases this)
  gj:=fun p bf e=>by
   obtain⟨bM,c8,k,bl,b3,eH,an⟩:=h.gj p bf e;exact⟨bM,c8,k,bl,b3,eH,an.L (Ext.refl _) s (fun c av=>by rw[j c av];simp) (fun _ _=>rfl) (fun _ _=>rfl) rfl⟩
  abs:=h.abs,len:=h.len
  fu:=fun i t=>by
   obtain⟨eO,bl,fr,k,l,o⟩:=h.fu i t;exact⟨eO,bl,fr,k,l,o.L (Ext.refl _) s (fun c av=>by rw[j c av];simp)⟩
  ids:=h.ids,iA:=Nat.le_trans h.iA B}
theorem bn.tz(h:bn K g H b D)(s:W S H aa)(o:∀c,S c→g.ρ c= .dir p∨g.ρ c= .now p∨g.ρ c= .na p∨g.ρ c= .mJ p∨g.ρ c= .out)(t:Ext g.ρ ρ')(da:∀c,c+1∈gh↔ρ' c≠ .out)(lt:∀c,ρ' c≠ .out→c<aa.size)
 (A:aM g.cF p=some bf) (an:∃bM c8 k bl b3 eH,lJ ρ' g.fb aa D' p bf bM c8 k bl b3 eH)
 (E:D'.cap=D.cap∧D'.most=D.most∧D'.fs=D.fs∧D'.ops=D.ops∧D'.left=D.left∧D'.dead=D.dead)
 (aA:∀q,cr q≠p→aM D'.now q=aM D.now q) (al:∀q,cr q≠p→aM D'.stays q=aM D.stays q) (av:∀n,n≠p→D'.hL n=D.hL n)
 (ids:(∀p i,aM D'.now p=some i→i<D'.fs.length)∧(∀p i,aM D'.stays p=some i→i<D'.fs.length)∧(∀c∈D'.log,∀i,c.f=some i→i<D'.fs.length)):bn gh {g with ρ:=ρ'} aa b D':=by
 obtain⟨cap,most,fs,now,stays,log,ops,left,dead⟩:=D';obtain⟨rfl,rfl,rfl,rfl,rfl,rfl⟩:=E
 exact{
  da:=da,lt:=lt,ec:=t.of h.ec (by simp)
  aS:=h.aS.up s (fun e=>by have:=o _ e;rw[h.ec]at this;simp at this)
  iC:=h.iC,iL:=h.iL,jt:=h.jt,jw:=h.jw,hD:=t.of h.hD (by simp)
  hm:=h.hm.up s (fun e=>by have:=o _ e;rw[h.hD]at this;simp at this)
  gj:=fun q x e=>by
   by_cases d:q=p
   ·subst d
    have:x=bf:=Option.some.inj (e.symm.trans A);subst this;exact an
   ·obtain⟨bM,c8,k,bl,b3,eH,an⟩:=h.gj q x e
    refine⟨bM,c8,k,bl,b3,eH,an.L t s (fun c av=>?_) (fun r j=>aA r (by rw[j];exact d)) (fun r j=>al r (by rw[j];exact d)) (av q d)⟩;rcases o c av with e|e|e|e|e<;>(rw[e];simp[Ne.symm d])
  abs:=fun q e=>by
   have d:q≠p:=fun B=>by subst B;rw[A]at e;cases e
   obtain⟨C,U⟩:=h.abs q e;exact⟨fun r j=>by rw[aA r (by rw[j];exact d),al r (by rw[j];exact d)];exact C r j,by rw[av q d];exact U⟩
  len:=h.len
  fu:=fun i G=>by
   obtain⟨eO,bl,fr,k,l,F⟩:=h.fu i G;refine⟨eO,bl,fr,k,l,F.L t s (fun c av=>?_)⟩;rcases o c av with e|e|e|e|e<;>(rw[e];simp)
  ids:=ids,iA:=h.iA}
theorem bn.tA{y:f_}(h:bn K g H b D)(B:i<D.fs.length)(s:W S H aa)(d:∀c,S c→g.ρ c= .fu i∨g.ρ c= .mi i∨g.ρ c= .out)(n:Ext g.ρ ρ')(da:∀c,c+1∈gh↔ρ' c≠ .out)(lt:∀c,ρ' c≠ .out→c<aa.size)
 (o:∃eO bl fr k l,iE ρ' aa i (g.fb.getD i 0) y eO bl fr k l):bn gh {g with ρ:=ρ'} aa b (D.fy i y):=by
 have r:(D.fy i y).fs.length=D.fs.length:=by simp[aG.fy]
 exact{
  da:=da,lt:=lt,ec:=n.of h.ec (by simp)
  aS:=h.aS.up s (fun e=>by have:=d _ e;rw[h.ec]at this;simp at this)
  iC:=h.iC,iL:=h.iL,jt:=h.jt,jw:=h.jw,hD:=n.of h.hD (by simp)
  hm:=h.hm.up s (fun e=>by have:=d _ e;rw[h.hD]at this;simp at this)
  gj:=fun q A e=>by
   obtain⟨bM,c8,k,bl,b3,eH,an⟩:=h.gj q A e;refine⟨bM,c8,k,bl,b3,eH,an.L n s (fun c av=>?_) (fun _ _=>rfl) (fun _ _=>rfl) rfl⟩;rcases d c av with e|e|e<;>(rw[e];simp)
  abs:=h.abs,len:=by rw[r];exact h.len
  fu:=fun j x=>by
   rw[r]at x;by_cases t:j=i
   ·subst t
    have e:b5 (D.fy j y).fs j=y:=by simp[b5,aG.fy,List.getD,B]
    rw[e];exact o
   ·have e:b5 (D.fy i y).fs j=b5 D.fs j:=by simp[b5,aG.fy,List.getD,List.getElem?_set,Ne.symm t]
    rw[e];obtain⟨eO,bl,fr,k,l,o⟩:=h.fu j x;refine⟨eO,bl,fr,k,l,o.L n s (fun c av=>?_)⟩;rcases d c av with e|e|e<;>(rw[e];simp[Ne.symm t])
  ids:=by rw[r];exact h.ids
  iA:=h.iA}
def fA(ρ:Nat→fT)(x:Nat)(r:fT):Nat→fT:=fun c=>if c=x then r else ρ c
theorem n6{x:Nat}{r:fT}:fA ρ x r x=r:=if_pos rfl
theorem mh{x c:Nat}{r:fT}(h:c≠x):fA ρ x r c=ρ c:=if_neg h
theorem Ext.fA{x:Nat}{r:fT}(h:ρ x= .out):Ext ρ (fA ρ x r):=fun c av=>by
 by_cases e:c=x
 ·subst e;exact absurd h av
 ·exact mh e
theorem Ext.trans{ρ2:Nat→fT}(h:Ext ρ ρ')(U:Ext ρ' ρ2):Ext ρ ρ2:=fun c av=>by
 have e:=h c av;rw[U c (by rw[e];exact av),e]
theorem nJ{x:Nat}{r:fT}(da:∀c,c+1∈K↔ρ c≠ .out)(d:r≠ .out):∀c,c+1∈(x+1)::K↔fA ρ x r c≠ .out:=fun c=>by
 unfold fA;rw[List.mem_cons];by_cases e:c=x
 ·rw[if_pos e];simp[e,d]
 ·rw[if_neg e,←da]
  constructor
  ·rintro(h|h)
   ·omega
   ·exact h
  ·exact .inr
theorem nQ{x:Nat}{r:fT}(lt:∀c,ρ c≠ .out→c<H.size)(al:H.size≤aa.size)(d:x<aa.size):∀c,fA ρ x r c≠ .out→c<aa.size:=fun c av=>by
 unfold fA at av;split at av
 ·rename_i e;rw[e];exact d
 ·exact Nat.lt_of_lt_of_le (lt c av) al
def gp(ρ:Nat→fT)(k:Nat)(r:fT):Nat→fT:=fun c=>if c+1=k then r else ρ c
theorem pw{c:Nat}{r:fT}(h:c+1=k):gp ρ k r c=r:=if_pos h
theorem zA{c:Nat}{r:fT}(h:c+1≠k):gp ρ k r c=ρ c:=if_neg h
theorem Ext.gp{r:fT}(h:∀c,c+1=k→ρ c= .out∨ρ c=r):Ext ρ (gp ρ k r):=fun c av=>by
 unfold gr.gp;split
 ·rename_i e;rcases h c e with d|d
  ·exact absurd d av
  ·exact d.symm
 ·rfl
theorem oQ{r:fT}(da:∀c,c+1∈K↔ρ c≠ .out)(d:r≠ .out):∀c,c+1∈k::K↔gp ρ k r c≠ .out:=fun c=>by
 unfold gp;rw[List.mem_cons];by_cases e:c+1=k
 ·rw[if_pos e];simp[e,d]
 ·rw[if_neg e,←da];simp[e]
theorem oZ{r:fT}(lt:∀c,ρ c≠ .out→c<H.size)(al:H.size≤aa.size)(d:k≤aa.size):∀c,gp ρ k r c≠ .out→c<aa.size:=fun c av=>by
 unfold gp at av;split at av
 ·omega
 ·exact Nat.lt_of_lt_of_le (lt c av) al
theorem bn.s7(h:bn K g H b D)(d:ah k K):∀c,c+1=k→g.ρ c= .out:=fun c e=>h.role (fun hm=>d (c+1) hm c e rfl)
theorem bn.xW{a8:Nat}(h:bn K g H b D)(i:T k H.size a8){r:fT}(n:∀c,c+1=k→g.ρ c=r):∀c,c+1=a8→g.ρ c= .out∨g.ρ c=r:=fun c e=>by
 rcases i with d|d|d
 ·omega
 ·exact .inr (n c (by omega))
 ·exact .inl (Classical.byContradiction (fun j=>by have:=h.lt c j;omega))
theorem bn.Fi{x:Nat}(h:bn K g H b D)(t:Var 186 H x [.slice none 0 0,.slice none 0 0,.slice none 0 0])(N:ah (x+1) K):
 bn ((x+1)::K) {g with ρ:=fA g.ρ x (.fu D.fs.length),fb:=g.fb++[x]} H b {D with fs:=D.fs++[⟨[],[],[]⟩]}:=by
 have M:g.ρ x= .out:=h.role (fun I=>N (x+1) I x rfl rfl);have he:Ext g.ρ (fA g.ρ x (.fu D.fs.length)):=Ext.fA M;have o:∀i,i<D.fs.length→(g.fb++[x]).getD i 0=g.fb.getD i 0:=fun i E=>by simp[List.getD,List.getElem?_append_left (show i<g.fb.length by rw[h.len];exact E)]
 have O:∀c,(fun _=>False) c→g.ρ c= .out:=fun _ e=>e.elim
 exact{
  da:=nJ h.da (by simp),lt:=nQ h.lt (Nat.le_refl _) t.lt,ec:=he.of h.ec (by simp),aS:=h.aS
  iC:=h.iC,iL:=h.iL,jt:=h.jt,jw:=h.jw,hD:=he.of h.hD (by simp),hm:=h.hm
  gj:=fun q A e=>by
   obtain⟨bM,c8,k,bl,b3,eH,an⟩:=h.gj q A e;have n:=an.L (D':=D) he (W.refl (fun _=>False) H) (fun c av=>av.elim) (fun _ _=>rfl) (fun _ _=>rfl) rfl;refine⟨bM,c8,k,bl,b3,eH,{n with aA:=xH n.aA (fun y hy=>?_),al:=xH n.al (fun y hy=>?_),av:=FK n.av (qb _) (qc _) (fun c av=>?_)}⟩
   ·have:=h.ids.1 y.1 y.2 (by
     have d:=l5 an.aA.fo.nodup (show(y.1,y.2)∈b3 from hy);rw[an.gP]at d;split at d
     ·exact d
     ·cases d)
    rw[hZ,hZ,o _ this]
   ·have:=h.ids.2.1 y.1 y.2 (by
     have d:=l5 an.al.fo.nodup (show(y.1,y.2)∈eH from hy);rw[an.es]at d;split at d
     ·exact d
     ·cases d)
    rw[hZ,hZ,o _ this]
   ·have:=h.ids.2.2 c (List.mem_filter.1 av).1
    unfold ib lq
    cases B:c.f with
    |none=>rfl
    |some i=>simp only[Option.map_some];rw[o i (this i B)]
  abs:=h.abs
  len:=by simp[h.len]
  fu:=fun j F=>by
   by_cases r:j<D.fs.length
   ·obtain⟨eO,bl,fr,k,l,C⟩:=h.fu j r
    have e:b5 (D.fs++[⟨[],[],[]⟩]) j=b5 D.fs j:=by simp[b5,List.getD,List.getElem?_append_left r]
    rw[o j r];refine⟨eO,bl,fr,k,l,?_⟩;show iE _ H j _ (b5 (D.fs++[⟨[],[],[]⟩]) j) _ _ _ _ _;rw[e];exact C.L he (W.refl (fun _=>False) H) (fun c av=>av.elim)
   ·have G:j=D.fs.length:=by simp at F;omega
    subst G;have e:b5 (D.fs++[⟨[],[],[]⟩]) D.fs.length=⟨[],[],[]⟩:=by simp[b5,List.getD]
    have d:(g.fb++[x]).getD D.fs.length 0=x:=by rw[←h.len];simp[List.getD]
    refine⟨⟨none,0,0⟩,⟨none,0,0⟩,⟨none,0,0⟩,0,[],?_⟩;show iE _ H _ ((g.fb++[x]).getD D.fs.length 0) (b5 (D.fs++[⟨[],[],[]⟩]) D.fs.length) _ _ _ _ _;rw[e,d];exact{b8:=n6,cJ:=t,aA:=Rd.nil _ _ _ _,al:=Rd.nil _ _ _ _,hw:=aV.nil qf qg,lw:=rfl,an:=fun y hy=>(by cases hy),jl:=fun c e=>(by omega)}
  ids:=by
   have L:({D with fs:=D.fs++[⟨[],[],[]⟩]}:aG).fs.length=D.fs.length+1:=by simp
   rw[L];exact⟨fun p i e=>Nat.lt_succ_of_lt (h.ids.1 p i e),fun p i e=>Nat.lt_succ_of_lt (h.ids.2.1 p i e),fun c av i e=>Nat.lt_succ_of_lt (h.ids.2.2 c av i e)⟩
  iA:=h.iA}
theorem bn.Fh{bf bM c8:Nat}(h:bn K g H b D)(F:aM g.cF p=none)(G:Var 173 H bf [.map (some bM),.map (some c8),.slice none 0 0])(aA:df H aI (hZ g.fb) bM ([]:dy))(al:df H aI (hZ g.fb) c8 ([]:dy))
 (P:ah (bf+1) K) (Q:ah (bM+1) K) (R:ah (c8+1) K) (B:bf≠bM) (C:bf≠c8) (E:bM≠c8) (s:W (aE [g.bK+1]) H aa) (hm:df aa aI ptr g.bK (fN g.cF p bf)) (S:g.cF.length+1≤D.ops):
 bn ((bf+1)::(c8+1)::(bM+1)::K) {g with ρ:=fA (fA (fA g.ρ bM (.now p)) c8 (.na p)) bf (.dir p),cF:=fN g.cF p bf} aa b D:=by
 have on:g.ρ bM= .out:=h.role (fun j=>Q (bM+1) j bM rfl rfl);have os:g.ρ c8= .out:=h.role (fun j=>R (c8+1) j c8 rfl rfl);have I:g.ρ bf= .out:=h.role (fun j=>P (bf+1) j bf rfl rfl)
 have he:Ext g.ρ (fA (fA (fA g.ρ bM (.now p)) c8 (.na p)) bf (.dir p)):=by
  refine(Ext.fA on).trans ((Ext.fA ?_).trans (Ext.fA ?_))
  ·rw[mh (Ne.symm E)];exact os
  ·rw[mh C,mh B];exact I
 have n:∀c,aE [g.bK+1] c→g.ρ c= .gj:=fun c e=>by
  have:c=g.bK:=by simpa[aE]using e
  rw[this];exact h.hD
 have T:∀c,g.ρ c= .out→c≠g.bK:=fun c e o=>by rw[o,h.hD]at e;cases e
 obtain⟨A,L⟩:=h.abs p F
 exact{
  da:=nJ (nJ (nJ h.da (by simp)) (by simp)) (by simp)
  lt:=nQ (nQ (nQ h.lt (Nat.le_refl _) aA.lt) (Nat.le_refl _) al.lt) s.size (Nat.lt_of_lt_of_le G.lt s.size),ec:=he.of h.ec (by simp)
  aS:=h.aS.up s (fun e=>by have:=n _ e;rw[h.ec]at this;simp at this)
  iC:=h.iC,iL:=h.iL,jt:=h.jt,jw:=h.jw,hD:=he.of h.hD (by simp),hm:=hm
  gj:=fun q M e=>by
   rw[kV]at e;by_cases d:q=p
   ·rw[if_pos d]at e
    have e:=Option.some.inj e;subst e;subst d;refine⟨bM,c8,0,⟨none,0,0⟩,[],[],?_⟩;have x:∀c,g.ρ c= .out→¬aE [g.bK+1] c:=fun c e o=>by have:=n c o;rw[e]at this;cases this
    exact{rd:=n6,cP:=G.up s (x _ I),g_:=by show fA (fA (fA g.ρ bM _) c8 _) bf _ bM=_;rw[mh (Ne.symm B),mh E,n6],aA:=aA.up s (x _ on),rs:=by show fA (fA (fA g.ρ bM _) c8 _) bf _ c8=_;rw[mh (Ne.symm C),n6],al:=al.up s (x _ os)
          gP:=fun r=>by
           rw[aM];split
           ·rename_i t;rw[(A r t).1]
           ·rfl
          es:=fun r=>by
           rw[aM];split
           ·rename_i t;rw[(A r t).2]
           ·rfl
          av:=by rw[L];exact aV.nil (qb _) (qc _),rc:=fun c e=>(by omega)}
   ·rw[if_neg d]at e
    obtain⟨bM,c8,k,bl,b3,eH,an⟩:=h.gj q M e;exact⟨bM,c8,k,bl,b3,eH,an.L he s (fun c av=>by rw[n c av];simp) (fun _ _=>rfl) (fun _ _=>rfl) rfl⟩
  abs:=fun q e=>by
   rw[kV]at e;by_cases d:q=p
   ·rw[if_pos d]at e;cases e
   ·rw[if_neg d]at e;exact h.abs q e
  len:=h.len
  fu:=fun i O=>by
   obtain⟨eO,bl,fr,k,l,N⟩:=h.fu i O;exact⟨eO,bl,fr,k,l,N.L he s (fun c av=>by rw[n c av];simp)⟩
  ids:=h.ids
  iA:=by
   have:(fN g.cF p bf).length=g.cF.length+1:=by simp[fN,F]
   show(fN g.cF p bf).length≤_;omega}
theorem bn.put{c:dN}{A:dy}(h:bn K g H b D)(G:aM g.cF p=some bf)(an:lJ g.ρ g.fb H D p bf bM c8 k bl b3 eH)(s:W (aE [bM+1]) H aa)(hm:df aa aI (hZ g.fb) bM A)(F:∀q,aM A q=c.at q (aM b3 q))
 (E:∀i,c.f=some i→cr c.n=p∧i<D.fs.length) (C:c.g≠[]→cr c.g=p):bn K g aa b {D with now:=c.ap D.now}∧W (aE K) H aa:=by
 have r:∀x,aE [bM+1] x→g.ρ x= .now p:=fun x e=>by
  have:x=bM:=by simpa[aE]using e
  rw[this];exact an.g_
 have B:∀q J,cr q≠p→c.at q J=J:=fun q J d=>by
  unfold dN.at
  cases o:c.f with
  |none=>
   simp only
   rw[if_neg (fun e=>d (by rw[e.2];exact C e.1))]
  |some i=>
   simp only;rw[if_neg (fun e=>d (by rw[e];exact(E i o).1)),if_neg (fun e=>d (by rw[e.2];exact C e.1))]
 refine⟨?_,h.ms s (fun x e=>by rw[r x e];simp)⟩;have t:∀x,g.ρ x≠ .now p→¬aE [bM+1] x:=fun x I e=>I (r x e);refine h.tz (ρ':=g.ρ) s (fun x e=> .inr (.inl (r x e))) (Ext.refl _) h.da (fun x e=>Nat.lt_of_lt_of_le (h.lt x e) s.size) G ⟨bM,c8,k,bl,A,eH,?_⟩ ⟨rfl,rfl,rfl,rfl,rfl,rfl⟩ (fun q d=>?_) (fun q d=>rfl) (fun n aA=>rfl) ⟨fun q i e=>?_,h.ids.2.1,h.ids.2.2⟩
 ·exact{rd:=an.rd,cP:=an.cP.up s (t _ (by rw[an.rd];simp)),g_:=an.g_,aA:=hm,rs:=an.rs,al:=an.al.up s (t _ (by rw[an.rs];simp))
        gP:=fun q=>by
         show _=if cr q=p then aM (c.ap D.now) q else none;rw[F,an.gP,qF];split
         ·rfl
         ·rename_i d;exact B q none d
        es:=an.es,av:=an.av.up s (fun x _ e=>t x (by rw[an.rc x e];simp)),rc:=an.rc}
 ·show aM (c.ap D.now) q=aM D.now q
  rw[qF];exact B q _ d
 ·have e:aM (c.ap D.now) q=some i:=e
  rw[qF]at e;unfold dN.at at e
  cases o:c.f with
  |none=>
   rw[o]at e;simp only at e;split at e
   ·cases e
   ·exact h.ids.1 q i e
  |some j=>
   rw[o]at e;simp only at e;split at e
   ·cases e;exact(E _ o).2
   ·split at e
    ·cases e
    ·exact h.ids.1 q i e
theorem bn.note{c:dN}{a8:Nat}{j:aN}(h:bn K g H b D)(F:aM g.cF p=some bf)(an:lJ g.ρ g.fb H D p bf bM c8 k bl b3 eH)(s:W (aE [bf+1,k]) H aa)(I:Var 173 aa bf [.map (some bM),.map (some c8),j.v])(av:aV a8 177 aa (ib g.fb) 3 j.v (D.hL p++[c]))(E:T k H.size a8)
 (r:c.dir=p) (B:∀i,c.f=some i→i<D.fs.length):bn (a8::K) {g with ρ:=gp g.ρ a8 (.mJ p)} aa b {D with log:=D.log++[c]}:=by
 have o:∀x,aE [bf+1,k] x→g.ρ x= .dir p∨g.ρ x= .mJ p:=fun x e=>by
  have:x+1=bf+1∨x+1=k:=by simpa[aE]using e
  rcases this with e|e
  ·exact .inl (by rw[show x=bf by omega];exact an.rd)
  ·exact .inr (an.rc x e)
 have d:Ext g.ρ (gp g.ρ a8 (.mJ p)):=Ext.gp (h.xW E an.rc);have t:∀x,g.ρ x≠ .dir p→g.ρ x≠ .mJ p→¬aE [bf+1,k] x:=fun x A U e=>(o x e).elim A U;have C:({D with log:=D.log++[c]}:aG).hL p=D.hL p++[c]:=by simp[aG.hL,r]
 refine h.tz s (fun x e=>(o x e).elim .inl (fun e=> .inr (.inr (.inr (.inl e))))) d (oQ h.da (by simp)) (oZ h.lt s.size av.le) F ⟨bM,c8,a8,j,b3,eH,?_⟩ ⟨rfl,rfl,rfl,rfl,rfl,rfl⟩ (fun q G=>rfl) (fun q G=>rfl) (fun n aA=>?_) ⟨h.ids.1,h.ids.2.1,fun x L i e=>?_⟩
 ·exact{rd:=d.of an.rd (by simp),cP:=I,g_:=d.of an.g_ (by simp),aA:=an.aA.up s (t _ (by rw[an.g_];simp) (by rw[an.g_];simp)),rs:=d.of an.rs (by simp),al:=an.al.up s (t _ (by rw[an.rs];simp) (by rw[an.rs];simp))
        gP:=an.gP,es:=an.es,av:=by rw[C];exact av,rc:=fun x e=>pw e}
 ·simp[aG.hL,r,Ne.symm aA]
 ·rcases List.mem_append.1 L with hm|hm
  ·exact h.ids.2.2 x hm i e
  ·rw[List.mem_singleton.1 hm]at e;exact B i e
theorem bn.wM{M:List UInt8}{n:Nat}{q:aN}{bi:Nat}(h:bn K g H b D)(t:i<D.fs.length)(d:iE g.ρ H i (g.fb.getD i 0) (b5 D.fs i) eO bl fr k l)(e:g.fb.getD i 0=bi)(s:W (aE [bi+1]) H aa)(B:Var 186 aa bi [q.v,bl.v,fr.v])(aA:aV n 5 aa a1 1 q.v M)(A:ah n K):
 bn (n::K) {g with ρ:=gp g.ρ n .je} aa b (D.fy i ⟨M,(b5 D.fs i).stays,(b5 D.fs i).w⟩):=by
 subst e
 have o:∀x,aE [g.fb.getD i 0+1] x→g.ρ x= .fu i:=fun x e=>by
  have:x=g.fb.getD i 0:=by simpa[aE]using e
  rw[this];exact d.b8
 have j:Ext g.ρ (gp g.ρ n .je):=Ext.gp (fun c e=> .inl (h.s7 A c e));have r:∀c,aE [g.fb.getD i 0+1] c→g.ρ c≠ .je:=fun c e=>by rw[o c e];simp
 refine h.tA t s (fun x e=> .inl (o x e)) j (oQ h.da (by simp)) (oZ h.lt s.size aA.le) ⟨q,bl,fr,k,l,?_⟩
 exact{b8:=j.of d.b8 (by simp),cJ:=B,aA:=aA.rd.imp (fun c _ e=>pw e),al:=kX d.al j s r
       hw:=d.hw.up s (fun c _ e av=>by have:=o c av;rw[d.jl c e]at this;cases this),lw:=d.lw,an:=fun y hy=>kX (d.an y hy) j s r,jl:=fun c e=>j.of (d.jl c e) (by simp)}
theorem bn.wR{w:dZ}{A B:aN}{j a8 bi:Nat}(h:bn K g H b D)(G:i<D.fs.length)(d:iE g.ρ H i (g.fb.getD i 0) (b5 D.fs i) eO bl fr k l)(e:g.fb.getD i 0=bi)(s:W (aE [bi+1,k]) H aa)(I:Var 186 aa bi [eO.v,bl.v,B.v])(hw:aV a8 275 aa lX 2 B.v (l++[(w,A)]))(r:T k H.size a8)
 (an:aV j 5 aa a1 1 A.v w.d) (E:ah j (a8::K)):
 bn (j::a8::K) {g with ρ:=gp (gp g.ρ a8 (.mi i)) j .je} aa b (D.fy i ⟨(b5 D.fs i).now,(b5 D.fs i).stays,(b5 D.fs i).w++[w]⟩):=by
 subst e
 have C:∀x,aE [g.fb.getD i 0+1,k] x→g.ρ x= .fu i∨g.ρ x= .mi i:=fun x e=>by
  have:x+1=g.fb.getD i 0+1∨x+1=k:=by simpa[aE]using e
  rcases this with e|e
  ·exact .inl (by rw[show x=g.fb.getD i 0 by omega];exact d.b8)
  ·exact .inr (d.jl x e)
 have L:Ext g.ρ (gp g.ρ a8 (.mi i)):=Ext.gp (h.xW r d.jl)
 have t:∀c,c+1=j→c+1≠a8∧g.ρ c= .out:=fun c e=>by
  have F:c+1≠a8:=fun o=>E a8 List.mem_cons_self c e o;exact⟨F,h.s7 (fun k r=>E k (List.mem_cons_of_mem _ r)) c e⟩
 have M:Ext (gp g.ρ a8 (.mi i)) (gp (gp g.ρ a8 (.mi i)) j .je):=Ext.gp (fun c e=> .inl (by rw[zA (t c e).1];exact(t c e).2));have n:=L.trans M;have q:∀c,aE [g.fb.getD i 0+1,k] c→g.ρ c≠ .je:=fun c e=>by rcases C c e with e|e<;>(rw[e];simp)
 refine h.tA G s (fun x e=>(C x e).elim .inl (fun e=> .inr (.inl e))) n (oQ (oQ h.da (by simp)) (by simp)) (oZ (oZ h.lt s.size hw.le) (Nat.le_refl _) an.le) ⟨eO,bl,B,a8,l++[(w,A)],?_⟩
 exact{b8:=n.of d.b8 (by simp),cJ:=I,aA:=kX d.aA n s q,al:=kX d.al n s q,hw:=hw,lw:=by rw[List.map_append,d.lw];rfl
       an:=fun y hy=>by
        rcases List.mem_append.1 hy with hy|hy
        ·exact kX (d.an y hy) n s q
        ·rw[List.mem_singleton.1 hy];exact an.rd.imp (fun c _ e=>pw e)
       jl:=fun c e=>by rw[zA (fun o=>(t c o).1 e)];exact pw e}
theorem bn.fsync{bi:Nat}(h:bn K g H b D)(o:i<D.fs.length)(d:iE g.ρ H i (g.fb.getD i 0) (b5 D.fs i) eO bl fr k l)(e:g.fb.getD i 0=bi)(s:W (aE [bi+1]) H aa)(q:Var 186 aa bi [eO.v,eO.v,.slice none 0 0]):bn K g aa b (D.tQ i):=by
 subst e
 have j:∀x,aE [g.fb.getD i 0+1] x→g.ρ x= .fu i:=fun x e=>by
  have:x=g.fb.getD i 0:=by simpa[aE]using e
  rw[this];exact d.b8
 have n:∀c,aE [g.fb.getD i 0+1] c→g.ρ c≠ .je:=fun c e=>by rw[j c e];simp
 refine h.tA (ρ':=g.ρ) o s (fun x e=> .inl (j x e)) (Ext.refl _) h.da (fun c e=>Nat.lt_of_lt_of_le (h.lt c e) s.size) ⟨eO,eO,⟨none,0,0⟩,0,[],?_⟩;exact{b8:=d.b8,cJ:=q,aA:=kX d.aA (Ext.refl _) s n,al:=kX d.aA (Ext.refl _) s n,hw:=aV.nil qf qg,lw:=rfl,an:=fun y hy=>(by cases hy),jl:=fun c e=>(by omega)}
theorem iE.oA{d bi:Nat}(h:iE ρ H i d x eO bl fr k l)(e:d=bi):Var 186 H bi [eO.v,bl.v,fr.v]:=e▸h.cJ
theorem bn.oS{d bi:Nat}(h:bn K g H b D)(j:iE g.ρ H i d x eO bl fr k l)(e:d=bi):gM K (bi+1):=e▸h.nL j.b8 (by simp)
theorem iE.ne{d bi:Nat}(h:iE ρ H i d x eO bl fr k l)(e:d=bi):af (bi+1) k:=fun c n U=>by
 have j:=h.jl c U;rw[show c=d by omega,h.b8]at j;cases j
theorem bn.vV{s2:Nat}{o:dy}(h:bn K g H b D)(A:fe D.now)(E:aM g.cF p=some bf)(an:lJ g.ρ g.fb H D p bf bM c8 k bl b3 eH)(s:W (aE [bf+1]) H aa)(G:Var 173 aa bf [.map (some bM),.map (some s2),.slice none 0 0])(hm:df aa aI (hZ g.fb) s2 o)(C:∀q,aM o q=aM b3 q)(B:ah (s2+1) K):
 bn ((s2+1)::K) {g with ρ:=gp g.ρ (s2+1) (.na p)} aa b (D.m9 p):=by
 have r:∀x,aE [bf+1] x→g.ρ x= .dir p:=fun x e=>by
  have:x=bf:=by simpa[aE]using e
  rw[this];exact an.rd
 have d:Ext g.ρ (gp g.ρ (s2+1) (.na p)):=Ext.gp (fun c e=> .inl (h.s7 B c e));have F:∀x,g.ρ x≠ .dir p→¬aE [bf+1] x:=fun x d e=>d (r x e);have j:∀q,aM (D.m9 p).stays q=if cr q=p then aM D.now q else aM D.stays q:=fun q=>xt A p q;refine h.tz s (fun x e=> .inl (r x e)) d (oQ h.da (by simp)) (oZ h.lt s.size hm.lt) E ⟨bM,s2,0,⟨none,0,0⟩,b3,o,?_⟩ ⟨rfl,rfl,rfl,rfl,rfl,rfl⟩ (fun q t=>rfl) (fun q t=>by rw[j,if_neg t]) (fun n aA=>?_) ⟨h.ids.1,fun q i e=>?_,fun c av i e=>h.ids.2.2 c (List.mem_filter.1 av).1 i e⟩
 ·exact{rd:=d.of an.rd (by simp),cP:=G,g_:=d.of an.g_ (by simp),aA:=an.aA.up s (F _ (by rw[an.g_];simp)),rs:=pw rfl,al:=hm,gP:=an.gP
        es:=fun q=>by
         rw[C,an.gP,j];split<;>rfl
        av:=by
         have:(D.m9 p).hL p=[]:=by unfold aG.m9 aG.hL;rw[List.filter_filter,List.filter_eq_nil_iff];intro c _;simp
         rw[this];exact aV.nil (qb _) (qc _)
        rc:=fun c e=>(by omega)}
 ·unfold aG.m9 aG.hL
  rw[List.filter_filter];refine List.filter_congr (fun c _=>?_);by_cases e:c.dir=n
  ·simp[e,aA]
  ·simp[e]
 ·rw[j]at e
  split at e
  ·exact h.ids.1 q i e
  ·exact h.ids.2.1 q i e
end
end gr

namespace gN
open E Go.RowKit ft gd gr
def dN.ox(c:dN)(m:dy):dy:=
 let V:=if c.g=[]then m else ea m c.g
 match c.f with
 |none=>V
 |some i=>fN V c.n i
theorem EO(c:dN)(l:dy)(q:aH):aM (dN.ox c l) q=c.at q (aM l q):=by
 unfold dN.ox dN.at
 cases c.f with
 |none=>
  simp only;by_cases d:c.g=[]
  ·simp[d]
  ·rw[if_neg d,jg];simp[d]
 |some i=>
  simp only;rw[kV];by_cases d:c.g=[]
  ·simp[d]
  ·rw[if_neg d,jg];simp[d]
theorem F2(fb:List Nat)(bM:Nat)(m:dy)(c:dN)(w0:World)(I:Heap)
 (hm:df I aI (hZ fb) bM m):
 aC Tryz.prog w0 78 #[.map (some bM),.agg (ib fb c).toArray] I (fun r C=>(df C aI (hZ fb) bM (dN.ox c m))∧W (aE [(bM+1)]) I C):=by
 refine aC.enter (args:=[.map (some bM),.agg (ib fb c).toArray]) Tryz.func78 rfl rfl rfl ?_;intro ab M;have j:W (aE [(bM+1)]) I I:=W.refl _ _;have E:=T.refl (bM+1) I.size;have al:=hm.lt;refine G.L (fun P=>?_);refine o.aO cq ?_;rintro v3 k ⟨rfl,d,x,aD,ap⟩;have ay:k.size=I.size+1:=by rw[ap];simp
 have Q:af (bM+1) (I.size+1):=af.new hm.lt;replace hm:=hm.M x;replace j:=j.bc x;have ae:=x.size;replace d:Var 177 k I.size (ib fb c):=d;refine o.nil (P ?_)
 refine G.cut (fun(V:(dy))=>[(0,.map (some bM)),(3,.pointer (some ⟨I.size,0,none⟩))])
  (fun(V:(dy)) (H:Heap)=>(df H aI (hZ fb) bM V)∧(V=if c.g=[]then m else ea m c.g)∧W (aE [(bM+1)]) k H) (fun _ ak _=>?_) ?_
 ·
  have q:W (aE [(bM+1)]) k k:=W.refl _ _;have ac:=T.refl (bM+1) k.size;refine G.L (fun R=>?_);refine o.v1 (Y.ai d.N rfl pt rfl bP) ?_;refine o.v1 (ar d.N bN) ?_;refine o.v1 (Y.iT rfl rfl rfl) (o.nil (R ?_));refine aU (fun A=>?_) (fun A=>?_)
  ·
   refine G.region ?_;refine o.V ?_;refine o.v1 (Y.ai d.N rfl pt rfl bP) ?_;refine o.v1 (ar d.N bN) ?_;refine o.rr (Z.p9 hm gv rfl ri Tryz.underlying9 rfl rfl) cQ rfl (fun az aA O=>?_);obtain⟨rfl,hm,ad⟩:=O;replace ad:=ad.bs;replace q:=q.aJ ad (ag.J (aq.r ac));have ai:=ad.size;refine o.nil ?_;refine aP.sub (ak (ea m c.g) _ ?_) ⟨rfl,rfl,trivial⟩;exact⟨hm,by rw[if_neg (by simpa using A)],q⟩
  ·
   refine G.skip ?_;refine aP.sub (ak m _ ?_) ⟨rfl,rfl,trivial⟩;exact⟨hm,by rw[if_pos (by simpa using A)],q⟩
 ·
  intro V au N;obtain⟨hm,L,F⟩:=N;replace d:=d.ab F (ah.J Q.symm);replace j:=j.aJ F (ag.J (aq.r E));refine G.L (fun X=>?_);refine o.v1 (Y.ai d.N rfl pt rfl yK) ?_;refine o.v1 (ar (d.N.drop 2) uo) ?_;refine o.v1 (Y.tm rfl (by kernel_rfl) (by kernel_rfl) rfl rfl) (o.nil (X ?_));refine cK (fun n=>?_) (fun n=>?_)
  ·
   obtain⟨i,K⟩:∃i,c.f=some i:=by
    cases B:c.f with
    |none=>rw[B]at n;cases n
    |some i=>exact⟨i,rfl⟩
   refine G.region ?_;refine o.V ?_;refine o.v1 (Y.ai d.N rfl pt rfl bP) ?_;refine o.v1 (ar (d.N.drop 1) bN) ?_;refine o.v1 (Y.ai d.N rfl pt rfl yK) ?_;refine o.v1 (Y.cast (v2:=hZ fb i) (ar (d.N.drop 2) uo) (by rw[K];rfl)) ?_;refine o.s1 (S.l_ (i) hm gv rfl ri Tryz.underlying9 rfl rfl rfl) fun aB am=>?_;obtain⟨hm,t⟩:=am;replace t:=t.bs;replace j:=j.aJ t (ag.J (aq.r E));refine o.nil ?_;refine M .normal (.inl rfl) _ _ _ (iR rfl) ?_;exact⟨by rw[dN.ox,←L,K];exact hm,j⟩
  ·
   refine G.skip ?_;refine M .normal (.inl rfl) _ _ _ (iR rfl) ?_
   exact⟨by
    have aa:c.f=none:=by
     cases B:c.f with
     |none=>rfl
     |some i=>rw[B]at n;cases n
    rw[dN.ox,←L,aa];exact hm,j⟩
theorem Ad(e:TypeId)(b:Nat)(cs:List Value)(x y:Int)(w0:World)(I:Heap)
 (d:Var e I b cs) (av:cs[3]?=some (.int .i64 x)) (t: -9223372036854775808≤x+y∧x+y≤9223372036854775807):
 aC Tryz.prog w0 225 #[.pointer (some ⟨b,3,none⟩),.int .i64 y] I (fun r k=>r= .int .i64 (x+y)∧(Var e k b (cs.set 3 (.int .i64 (x+y))))∧W (aE [(b+1)]) I k):=by
 refine aC.aK [.pointer (some ⟨b,3,none⟩),.int .i64 y] Tryz.func225 ?_;intro B q;have j:W (aE [(b+1)]) I I:=W.refl _ _;have n:=T.refl (b+1) I.size;refine G.L (fun ac=>?_);refine o.ak ?_;refine ac (G.L (fun ad=>?_));refine o.ax 2 ?_;refine o.v1 (Y.ai (d.N.drop 3) rfl HQ rfl GQ) ?_;refine o.V ?_;refine o.aO (Z.z_ d av rfl Tryz.func259 (by kernel_rfl) (by kernel_rfl) (by kernel_rfl) (by kernel_rfl) rfl t) ?_;rintro v9 A ⟨rfl,d,i⟩;replace i:=i.bs;replace j:=j.aJ i (ag.J (aq.r n));refine o.ak ?_;refine ad ?_;refine G.ret (q ?_);exact⟨rfl,d,j⟩
section
variable {w0 : World} {n : Nat} {l : bZ} {H : Heap} {J : Oper} {K : List Nat} {g : cD} {b cw : Nat} {D : aG} {x y : Operand} {t : TypeId}
theorem FU(h:bn K g H b D)(cw:Nat)(j:J.op= .store t x y)(k:aF l x=some (.pointer (some ⟨b,4,none⟩)))(hy:aF l y=some (.int .i64 (cw:Int)))(al:∀w,(sizeOf t).run Tryz.prog w= .ok 1 w)(i:cw≤9223372036854775807):
 S Tryz.prog w0 n l H J (fun aa=>bn K {g with cw:=cw} aa b {D with left:=cw}∧W (aE K) H aa):=
 (S.ub h.aS 4 _ j k hy rfl al (by simp) rfl).mono fun aa ⟨d,U⟩=>⟨h.tB U.bs ⟨rfl,rfl,rfl,rfl⟩ d (fun _=>rfl) i ⟨rfl,rfl,rfl,rfl,rfl,rfl⟩ (Nat.le_refl _),h.ms U (fun c e=>by rw[e,h.ec];simp)⟩
theorem yc(h:bn K g H b D)(dd:Bool)(i:dd=false→D.dead=false)(j:J.op= .store t x y)(k:aF l x=some (.pointer (some ⟨b,5,none⟩)))(hy:aF l y=some (.bool dd))(al:∀w,(sizeOf t).run Tryz.prog w= .ok 1 w):
 S Tryz.prog w0 n l H J (fun aa=>bn K g aa b {D with dead:=dd}∧W (aE K) H aa):=
 (S.ub h.aS 5 _ j k hy rfl al (by simp) rfl).mono fun aa ⟨d,U⟩=>⟨h.tB U.bs ⟨rfl,rfl,rfl,rfl⟩ d (fun e=>h.iC (i e)) h.iL ⟨rfl,rfl,rfl,rfl,rfl,rfl⟩ (Nat.le_refl _),h.ms U (fun c e=>by rw[e,h.ec];simp)⟩
theorem FV(h:bn K g H b D)(an:D.dead=true)(x:Nat):bn K g H b {D with left:=x}:=
 {h with
  iC:=fun e=>(by rw[show({D with left:=x}:aG).dead=D.dead from rfl,an]at e;cases e)
  gj:=fun p bf e=>(by
   obtain⟨bM,c8,k,bl,b3,eH,q⟩:=h.gj p bf e;exact⟨bM,c8,k,bl,b3,eH,{q with gP:=q.gP,es:=q.es,av:=q.av}⟩)}
theorem rU{dd:Bool}{x:Nat}(j:D.dead=false→cw=D.left)(h:bn K g H b {D with left:=x,dead:=dd})(i:dd=true)(d:D.dead=true∨(D.dead=false∧cw=1∧x=0)):bn K g H b D.begin.2∧ .bool false=Value.bool D.begin.1:=by
 subst i;rcases d with an|⟨an,k,U⟩
 ·have e:D.begin=(false,D):=by unfold aG.begin;rw[if_pos an]
  rw[e];refine⟨?_,rfl⟩;have:=FV h rfl D.left;obtain⟨cap,most,fs,now,stays,log,ops,left,dead⟩:=D;simp only at an;subst an;exact this
 ·have:=j an
  have e:D.begin=(false,{D with left:=0,dead:=true}):=by unfold aG.begin;rw[if_neg (by simp[an]),if_pos (by omega)]
  rw[e];subst U;exact⟨h,rfl⟩
theorem nq{dd:Bool}{x:Nat}(h:bn K g H b {D with left:=x,dead:=dd,ops:=D.ops+1})(i:dd=false)(an:D.dead=false)(d:D.left≠1)(j:x=D.left-1):bn K g H b D.begin.2∧ .bool true=Value.bool D.begin.1:=by
 subst i;subst j;have e:D.begin=(true,{D with left:=D.left-1,ops:=D.ops+1}):=by unfold aG.begin;rw[if_neg (by simp[an]),if_neg d]
 rw[e];obtain⟨cap,most,fs,now,stays,log,ops,left,dead⟩:=D;simp only at an;subst an;exact⟨h,rfl⟩
end
theorem rM{K:List Nat}{g:cD}{b:Nat}{D:aG}(w0:World)(I:Heap)(h:bn K g I b D)(k:D.ops≤1099511627776):aC Tryz.prog w0 225 #[.pointer (some ⟨b,3,none⟩),.int .i64 1] I (fun r d=>r= .int .i64 ((D.ops:Int)+1)∧bn K g d b {D with ops:=D.ops+1}∧W (aE K) I d):=
 (Ad _ b _ (D.ops:Int) 1 w0 I h.aS rfl (by omega)).mono fun r d ⟨j,U,i⟩=>⟨j,h.tB i ⟨rfl,rfl,rfl,rfl⟩ U h.iC h.iL ⟨rfl,rfl,rfl,rfl,rfl,rfl⟩ (Nat.le_succ _),h.ms i (fun c e=>by
  have:c=b:=by simpa[aE]using e
  rw[this,h.ec];simp)⟩
theorem pS(K:List Nat)(g:cD)(b:Nat)(D:aG)(w0:World)(I:Heap)
 (i:bn K g I b D) (N:D.ops≤1099511627776):
 aC Tryz.prog w0 184 #[ptr b] I (fun r O=>∃g2:cD,r= .bool D.begin.1∧(bn K g2 O b D.begin.2)∧(g2.ρ=g.ρ∧g2.fb=g.fb∧g2.bK=g.bK∧g2.cF=g.cF)∧W (aE K) I O):=by
 refine aC.aK [ptr b] Tryz.func184 ?_;intro aH E;have q:W (aE K) I I:=W.refl _ _;have C:=aZ.refl K I.size;have L:=i.aB;have aP:=i.iL;have A:=i.iC;refine G.L (fun T=>?_);refine o.ak ?_;refine T (G.t1 (fun au=>G.L (fun V=>?_)));refine o.ax 2 ?_;refine o.v1 (Y.ai i.aS.N rfl hd rfl b0) ?_;refine o.v1 (ar (i.aS.N.drop 4) cj) ?_;refine o.v1 eY (o.nil (V ?_));refine aU (fun cy=>?_) (fun cy=>?_)
 ·
  refine G.L (fun X=>?_);refine o.ax 2 ?_;refine o.v1 (Y.ai i.aS.N rfl hd rfl b0) ?_;refine o.v1 (ar (i.aS.N.drop 4) cj) ?_;refine o.v1 (Y.cast (v2:= .int .i64 ((g.cw-1:Nat):Int)) fH (fM (by omega))) ?_;refine o.bH ?_;refine o.v1 (Y.ai i.aS.N rfl hd rfl b0) ?_;refine o.s1 (FU i (g.cw-1) rfl rfl rfl b0 (by omega)) fun aI am=>?_;obtain⟨i,Q⟩:=am;replace q:=q.aJ Q (ag.cH (C) (by intro k B;simp[B]));have aJ:=Q.size;have L:=i.aB;refine o.nil (X (G.region ?_));refine o.ax 3 ?_;refine o.v1 (Y.ai i.aS.N rfl hd rfl cX) ?_;refine o.v1 (ar (i.aS.N.drop 5) dA) ?_;refine o.V ?_;refine o.split (d:=20) rfl (fun t=>?_) (fun t=>?_)
  ·
   refine o.ax 7 ?_;refine o.v1 (Y.ai i.aS.N rfl hd rfl cX) ?_;refine o.s1 (yc i _ (by intro h;first|exact t|cases h) rfl rfl rfl cX) fun ai M=>?_;obtain⟨i,ac⟩:=M;replace q:=q.aJ ac (ag.cH (C) (by intro k B;simp[B]));have aK:=ac.size;have L:=i.aB;refine o.nil (au (G.t2 (fun Z aa=>G.L (fun ab=>?_))));refine o.ax 2 ?_;refine o.v1 (Y.ai i.aS.N rfl hd rfl cX) ?_;refine o.v1 (ar (i.aS.N.drop 5) dA) (o.nil (ab ?_));refine cK (fun j=>?_) (fun j=>?_)
   ·
    first
    |(simp at j;done)
    |skip
     refine G.L (fun ae=>?_);refine o.ak ?_;refine ae ?_;refine G.ret (aa (E ?_));have n:=rU A i (by first|rfl|exact j) (by first|exact .inl t|exact .inr ⟨t,by simp at j;omega,by simp at j;omega⟩);exact⟨_,n.2,n.1,⟨rfl,rfl,rfl,rfl⟩,q⟩
   ·
    first
    |(simp at j;done)
    |skip
     refine G.skip (Z (G.L (fun af=>?_)));refine o.ax 2 ?_;refine o.v1 (Y.ai i.aS.N rfl hd rfl tw) ?_;refine aW r5 (rM w0 _ i N) (fun P F H=>?_);obtain⟨rfl,i,ad⟩:=H;replace q:=q.aJ ad (ag.cH (C) (by intro k B;simp[B]));have aL:=ad.size;refine o.nil (af (G.L (fun ah=>?_)));refine o.ak ?_;refine ah ?_;refine G.ret (E ?_)
     obtain⟨g2,n⟩:∃g2:cD,(bn K g2 F b D.begin.2∧ .bool true=Value.bool D.begin.1)∧(g2.ρ=g.ρ∧g2.fb=g.fb∧g2.bK=g.bK∧g2.cF=g.cF):=by
      first
      |exact⟨_,nq (x:=g.cw-1) i (by simpa using j) t (by have:=A t;simp at j;omega) (by have:=A t;omega),rfl,rfl,rfl,rfl⟩
      |exact⟨_,nq (x:=D.left) (dd:=D.dead) i (by simpa using j) (by simpa using j) (by have:=A (by simpa using j);omega) (by have:=A (by simpa using j);omega),rfl,rfl,rfl,rfl⟩
     exact⟨g2,n.1.2,n.1.1,n.2,q⟩
  ·
   refine o.bU ?_;refine o.ao (Y.nilCheck rfl rfl) ?_;refine o.ao (Y.ai i.aS.N rfl hd rfl b0) ?_;refine o.ao (ar (i.aS.N.drop 4) cj) ?_;refine o.ao b9 ?_;refine o.ax 2 ?_;refine o.v1 (Y.ai i.aS.N rfl hd rfl cX) ?_;refine o.s1 (yc i _ (by intro h;first|exact t|cases h) rfl rfl rfl cX) fun ai M=>?_;obtain⟨i,ac⟩:=M;replace q:=q.aJ ac (ag.cH (C) (by intro k B;simp[B]));have aM:=ac.size;have L:=i.aB;refine o.nil (au (G.t2 (fun ak ap=>G.L (fun al=>?_))));refine o.ax 2 ?_;refine o.v1 (Y.ai i.aS.N rfl hd rfl cX) ?_;refine o.v1 (ar (i.aS.N.drop 5) dA) (o.nil (al ?_));refine cK (fun j=>?_) (fun j=>?_)
   ·
    first
    |(simp at j;done)
    |skip
     refine G.L (fun aq=>?_);refine o.ak ?_;refine aq ?_;refine G.ret (ap (E ?_));have n:=rU A i (by first|rfl|exact j) (by first|exact .inl t|exact .inr ⟨t,by simp at j;omega,by simp at j;omega⟩);exact⟨_,n.2,n.1,⟨rfl,rfl,rfl,rfl⟩,q⟩
   ·
    first
    |(simp at j;done)
    |skip
     refine G.skip (ak (G.L (fun ay=>?_)));refine o.ax 2 ?_;refine o.v1 (Y.ai i.aS.N rfl hd rfl tw) ?_;refine aW r5 (rM w0 _ i N) (fun P F H=>?_);obtain⟨rfl,i,ad⟩:=H;replace q:=q.aJ ad (ag.cH (C) (by intro k B;simp[B]));have aN:=ad.size;refine o.nil (ay (G.L (fun az=>?_)));refine o.ak ?_;refine az ?_;refine G.ret (E ?_)
     obtain⟨g2,n⟩:∃g2:cD,(bn K g2 F b D.begin.2∧ .bool true=Value.bool D.begin.1)∧(g2.ρ=g.ρ∧g2.fb=g.fb∧g2.bK=g.bK∧g2.cF=g.cF):=by
      first
      |exact⟨_,nq (x:=g.cw-1) i (by simpa using j) t (by have:=A t;simp at j;omega) (by have:=A t;omega),rfl,rfl,rfl,rfl⟩
      |exact⟨_,nq (x:=D.left) (dd:=D.dead) i (by simpa using j) (by simpa using j) (by have:=A (by simpa using j);omega) (by have:=A (by simpa using j);omega),rfl,rfl,rfl,rfl⟩
     exact⟨g2,n.1.2,n.1.1,n.2,q⟩
 ·
  refine G.skip (au (G.t2 (fun aA aB=>G.L (fun aD=>?_))));refine o.ax 2 ?_;refine o.v1 (Y.ai i.aS.N rfl hd rfl cX) ?_;refine o.v1 (ar (i.aS.N.drop 5) dA) (o.nil (aD ?_));refine cK (fun j=>?_) (fun j=>?_)
  ·
   first
   |(simp at j;done)
   |skip
    refine G.L (fun aF=>?_);refine o.ak ?_;refine aF ?_;refine G.ret (aB (E ?_));have n:=rU (x:=D.left) (dd:=D.dead) A i (by simpa using j) (.inl (by simpa using j));exact⟨_,n.2,n.1,⟨rfl,rfl,rfl,rfl⟩,q⟩
  ·
   first
   |(simp at j;done)
   |skip
    refine G.skip (aA (G.L (fun R=>?_)));refine o.ax 2 ?_;refine o.v1 (Y.ai i.aS.N rfl hd rfl tw) ?_;refine aW r5 (rM w0 _ i N) (fun P F H=>?_);obtain⟨rfl,i,ad⟩:=H;replace q:=q.aJ ad (ag.cH (C) (by intro k B;simp[B]));have aO:=ad.size;refine o.nil (R (G.L (fun S=>?_)));refine o.ak ?_;refine S ?_;refine G.ret (E ?_)
    obtain⟨g2,n⟩:∃g2:cD,(bn K g2 F b D.begin.2∧ .bool true=Value.bool D.begin.1)∧(g2.ρ=g.ρ∧g2.fb=g.fb∧g2.bK=g.bK∧g2.cF=g.cF):=by
     first
     |exact⟨_,nq (x:=g.cw-1) i (by simpa using j) t (by have:=A t;simp at j;omega) (by have:=A t;omega),rfl,rfl,rfl,rfl⟩
     |exact⟨_,nq (x:=D.left) (dd:=D.dead) i (by simpa using j) (by simpa using j) (by have:=A (by simpa using j);omega) (by have:=A (by simpa using j);omega),rfl,rfl,rfl,rfl⟩
    exact⟨g2,n.1.2,n.1.1,n.2,q⟩
section
open Go.MapKept
variable {P : Program} {w0 : World} {n : Nat} {l : bZ} {H : Heap} {J : Oper} {κ β : Type} [DecidableEq κ] {aR : Nat → Prop} {a7 : κ → Value} {fv : β → Value} {v : Value} {m : List (κ × β)} {d : TypeDesc}
theorem sK{t e6 j:TypeId}{x i:Operand}{k:κ}(ad:β→Addr)(h:ht aR H a7 fv v m)(B:∀b,fv b= .pointer (some (ad b)))(A:ld d a7)(F:J.op= .lookup t x i false)(hm:∀w,(underlying t).run P w= .ok (.map e6 j) w)(E:P.underlying e6=some d)(I:∀w,(zeroValue j).run P w= .ok (.pointer none) w)
 (G:aF l x=some v) (C:aF l i=some (a7 k)):Y P w0 n l H J (.pointer ((aM m k).map ad)):=by
 intro a w q r;have o:=yH (ok:=false) (k:=k) h A r hm E I;simp only[Bool.false_eq_true,if_false]at o
 have U:(Instr.lookup t v (a7 k) false).run P w= .ok (.pointer ((aM m k).map ad)) w:=by
  rw[o]
  cases aM m k with
  |none=>rfl
  |some b=>simp[B]
 simp[execOp,F,q.eval G,q.eval C,U]
end
abbrev uy(b:Nat):Addr:=⟨b,0,none⟩
theorem qj(bk:Int)(K:List Nat)(g:cD)(b:Nat)(D:aG)(p:aH)(w0:World)(I:Heap)
 (aL:dY bk I) (L:bh (fun b=>b=0) I.size) (j:bn K g I b D) (N:p.length≤4294967280):
 aC Tryz.prog w0 168 #[ptr b,aI p] I (fun r P=>r= .tuple #[.pointer (lq g.fb (if D.look p=0 then aM D.now p else none)),.int .i64 (D.look p:Int)]∧aj I P):=by
 refine aC.aK [ptr b,aI p] Tryz.func168 ?_;intro ak B;have k:aj I I:=W.refl _ _;have ay:=j.aB;refine G.L (fun X=>?_);refine o.aQ 2 ?_;refine X (G.t2 (fun ap Z=>G.L (fun aa=>?_)));refine o.V ?_;refine aW mI (mX bk p w0 _ aL (L.mono (by omega)) N) ?_;rintro v9 H ⟨rfl,A⟩;replace aL:=aL.M A;replace j:=j.M A;replace k:=k.L A;have al:=A.size;refine o.v1 eL (o.nil (aa ?_));refine cK (fun x=>?_) (fun x=>?_)
 ·
  refine G.L (fun ab=>?_);refine o.aQ 2 ?_;refine ab ?_;refine G.ret (Z (B ?_))
  have n:D.look p=7:=by
   unfold aG.look;rw[if_neg (by simpa using x)]
  exact⟨by rw[n];rfl,k⟩
 ·
  refine G.skip (ap (G.t2 (fun au ae=>G.t1 (fun af=>?_))));refine dx (fun t=>aj H t) [] ?_;have q:=aj.refl H;refine O.V 0 rfl q ?_;refine O.bH 1 rfl q ?_;refine O.t1 2 rfl (fun t d=>Y.ai (j.aS.N.M d) rfl hd rfl q1) q ?_;refine O.t1 3 rfl (fun t d=>ar ((j.aS.N.drop 2).M d) pN) q ?_;refine O.V 4 rfl q ?_;refine O.aX 5 ?_;refine cf nw (nz bk p w0 _ aL (L.mono (by omega)) N) (fun aq am ag=>?_);obtain⟨rfl,E⟩:=ag;replace j:=j.M E;replace k:=k.L E;have R:=q.L E;refine O.cc R ?_;have C:=aj.refl am;refine O.t1 6 rfl (fun t d=>sK uy (j.hm.fo.M d) (fun _=>rfl) gv rfl rj Tryz.underlying9 zQ rfl rfl) C ?_;refine O.t1 7 rfl (fun t d=>ej) C ?_;refine cx ?_;have az:=C;refine af (G.L (fun ah=>?_));refine o.V ?_;refine o.v1 (Y.tm rfl (by kernel_rfl) (by kernel_rfl) rfl rfl) (o.nil (ah ?_));refine cK (fun ac=>?_) (fun ac=>?_)
  ·
   obtain⟨bf,M⟩:∃bf,aM g.cF (cr p)=some bf:=by
    cases d:aM g.cF (cr p)with
    |none=>rw[d]at ac;cases ac
    |some bf=>exact⟨bf,rfl⟩
   obtain⟨bM,c8,aA,bl,b3,eH,an⟩:=j.gj _ bf M;refine G.L (fun ai=>?_);refine o.v1 (Y.cast (v2:=ptr bf) fc (by rw[M];rfl)) ?_;refine o.bH ?_;refine o.v1 (Y.ai an.cP.N rfl kz rfl m5) ?_;refine o.v1 (Y.ai (an.cP.N.drop 0) rfl nb rfl lB) ?_;refine o.v1 (ar ((an.cP.N.drop 0).drop 0) ou) ?_;refine o.V ?_;refine o.v1 (Y.cast (v2:= .pointer (lq g.fb (aM D.now p))) (sK (fun i=>⟨g.fb.getD i 0,0,none⟩) an.aA.fo (fun _=>rfl) gv rfl ri Tryz.underlying9 Ii rfl rfl) (by rw[an.gP p,if_pos rfl])) ?_;refine o.ak ?_;refine ai (G.L (fun Q=>?_));refine o.V ?_;refine o.v1 (Y.tm rfl (by kernel_rfl) (by kernel_rfl) rfl rfl) (o.nil (Q ?_));refine cK (fun ad=>?_) (fun ad=>?_)
   ·
    refine G.L (fun S=>?_);refine o.aQ 3 ?_;refine S ?_;refine G.ret (ae (B ?_))
    have n:D.look p=0:=by
     unfold aG.look
     rw[if_pos (by simpa using x),if_pos (by cases d:aM D.now p with
      |none=>rw[d]at ad;cases ad
      |some i=>rfl)]
    exact⟨by rw[n,if_pos rfl];rfl,k⟩
   ·
    refine G.skip (au (G.L (fun T=>?_)));refine o.aQ 2 ?_;refine T ?_;refine G.ret (B ?_)
    have n:D.look p=2:=by
     unfold aG.look;rw[if_pos (by simpa using x),if_neg]
     first
     |(cases d:aM D.now p with
      |none=>simp
      |some i=>rw[d]at ad;cases ad)
     |(have F:aM g.cF (cr p)=none:=(by cases d:aM g.cF (cr p)with
       |none=>rfl
       |some bf=>rw[d]at ac;cases ac)
       rw[((j.abs _ F).1 p rfl).1];simp)
    exact⟨by rw[n];rfl,k⟩
  ·
   refine G.skip (au (G.L (fun V=>?_)));refine o.aQ 2 ?_;refine V ?_;refine G.ret (B ?_)
   have n:D.look p=2:=by
    unfold aG.look;rw[if_pos (by simpa using x),if_neg]
    first
    |(cases d:aM D.now p with
     |none=>simp
     |some i=>rw[d]at ad;cases ad)
    |(have F:aM g.cF (cr p)=none:=(by cases d:aM g.cF (cr p)with
      |none=>rfl
      |some bf=>rw[d]at ac;cases ac)
      rw[((j.abs _ F).1 p rfl).1];simp)
   exact⟨by rw[n];rfl,k⟩
end gN

namespace gV
open E Go.RowKit ft gd gr gN
section
variable {H : Heap} {b bK : Nat}
theorem bn.new(cap most:Nat)(d:Var 102 H b [.int .i64 cap,.int .i64 most,.map (some bK),.int .i64 0,.int .i64 0,.bool false])(hm:df H aI ptr bK ([]:List (aH×Nat)))(av:cap≤9223372036854775807)(k:most≤9223372036854775807)(n:b≠bK):
 bn [b+1,bK+1] ⟨fA (fA (fun _=> .out) bK .gj) b .fs,[],bK,[],0⟩ H b (aG.empty cap most) where
 da:=nJ (nJ (K:=[]) (ρ:=fun _=> .out) (fun c=>by simp) (by simp)) (by simp)
 lt:=nQ (nQ (H:=H) (fun c h=>absurd rfl h) (Nat.le_refl _) hm.lt) (Nat.le_refl _) d.lt
 ec:=n6
 aS:=d
 iC:=fun _=>rfl
 iL:=by simp
 jt:=av
 jw:=k
 hD:=by show fA (fA (fun _=> .out) bK .gj) b .fs bK=_;rw[mh (Ne.symm n),n6]
 hm:=hm
 gj:=fun p bf e=>(by cases e)
 abs:=fun p _=>⟨fun q _=>⟨rfl,rfl⟩,rfl⟩
 len:=rfl
 fu:=fun i j=>(by simp[aG.empty]at j)
 ids:=⟨fun p i e=>(by cases e),fun p i e=>(by cases e),fun c av=>(by cases av)⟩
 iA:=Nat.le_refl _
end
theorem s6(cap most:Nat)(w0:World)(I:Heap)
 (av:cap≤9223372036854775807) (P:most≤9223372036854775807):
 aC Tryz.prog w0 12 #[.int .i64 (cap:Int),.int .i64 (most:Int)] I (fun r n=>∃K:List Nat,∃g:cD,∃b:Nat,r= .tuple #[ptr b,.int .i64 0]∧(bn K g n b (aG.empty cap most))∧(aZ [] I.size K)∧aj I n):=by
 refine aC.aK [.int .i64 (cap:Int),.int .i64 (most:Int)] Tryz.func12 ?_;intro R Q;have d:aj I I:=W.refl _ _;refine G.L (fun B=>?_);refine o.aQ 2 ?_;refine B (G.t1 (fun C=>G.L (fun au=>?_)));refine o.V ?_;refine o.v1 ((bJ).fm (by omega)) ?_;refine o.ax 2 ?_;refine o.ao ((bJ).fm (by omega)) ?_;refine o.dF ?_;refine o.nil (au ?_);refine dw ?_;refine G.skip (C (G.L (fun am=>?_)));refine o.ax 2 ?_;refine o.aO (Z.nR aI ptr rfl) fun ae ac E=>?_;obtain⟨rfl,i,q,ap,x⟩:=E;have X:ac.size=I.size+1:=by rw[x];simp
 have F:T 0 I.size (I.size+1):=T.new d.size;replace d:=d.L q;have af:=q.size;have ad:=i.lt;refine o.v1 (Y.build (v:= .agg #[.int .i64 cap,.int .i64 most,.map (some I.size),.int .i64 0,.int .i64 0,.bool false]) rfl rfl (by intro w;kernel_rfl)) ?_;refine o.aO cq fun S t H=>?_;obtain⟨rfl,k,j,ab,A⟩:=H;have aa:t.size=ac.size+1:=by rw[A];simp
 have L:T 0 I.size (ac.size+1):=T.new d.size;replace i:=i.M j;replace d:=d.L j;have V:=j.size;replace k:Var 102 t ac.size ([.int .i64 cap,.int .i64 most,.map (some I.size),.int .i64 0,.int .i64 0,.bool false]):=k;have M:=aZ.cons (F) (aZ.refl [] _);have N:=aZ.cons (L) (M);have O:=bn.new cap most k i av P (by omega);refine o.aQ 2 ?_;refine am ?_;refine G.ret (Q ?_);exact⟨_,_,_,rfl,O,N,d⟩
theorem Iv(a m:Int)(w0:World)(I:Heap)
 (aA:a<0∨m<0):
 aC Tryz.prog w0 12 #[.int .i64 a,.int .i64 m] I (fun r q=>r= .tuple #[.pointer none,.int .i64 1]∧aj I q):=by
 refine aC.aK [.int .i64 a,.int .i64 m] Tryz.func12 ?_;intro x n;have k:aj I I:=W.refl _ _;refine G.L (fun ac=>?_);refine o.aQ 2 ?_;refine ac (G.t2 (fun _ i=>G.L (fun j=>?_)));refine o.V ?_;refine o.v1 bJ ?_;refine o.V ?_;refine o.bj (d:=8) rfl (fun g8=>?_) (fun g8=>?_)
 ·
  refine o.ax 2 ?_;refine o.v1 (Y.cast (v2:= .bool true) eh (by first|rfl|(congr 1;simp;omega))) (o.nil (j ?_));refine G.iz rfl ?_;refine G.L (fun ad=>?_);refine o.aQ 2 ?_;refine ad ?_;refine G.ret (i (n ?_));exact⟨rfl,k⟩
 ·
  refine o.bU ?_;refine o.ao bJ ?_;refine o.v1 (Y.cast (v2:= .bool true) dH (by first|rfl|(congr 1;simp;omega))) (o.nil (j ?_));refine G.iz rfl ?_;refine G.L (fun t=>?_);refine o.aQ 2 ?_;refine t ?_;refine G.ret (i (n ?_));exact⟨rfl,k⟩
theorem yn(bk:Int)(K:List Nat)(g:cD)(b:Nat)(D:aG)(p:aH)(w0:World)(I:Heap)
 (aL:dY bk I) (ag:bh (fun b=>b=0) I.size) (j:bn K g I b D) (ai:p.length≤4294967280) (ah:∀i,(b5 D.fs i).now.length≤1099511627776):
 aC Tryz.prog w0 89 #[ptr b,aI p] I (fun r E=>∃s:aN,∃k:Nat,r= .tuple #[s.v,.int .i64 (D.fz p:Int)]∧(aV k 5 E a1 1 s.v (D.cB p))∧(T 0 I.size k)∧aj I E):=by
 refine aC.aK [ptr b,aI p] Tryz.func89 ?_;intro al C;have n:aj I I:=W.refl _ _;have ad:=j.aB;refine G.L (fun O=>?_);refine o.aQ 2 ?_;refine O (G.t2 (fun P Q=>G.L (fun au=>?_)));refine o.ax 2 ?_;refine o.v1 (Y.ai j.aS.N rfl hd rfl cX) ?_;refine o.v1 (ar (j.aS.N.drop 5) dA) (o.nil (au ?_));refine cK (fun ac=>?_) (fun ac=>?_)
 ·
  refine G.L (fun am=>?_);refine o.aQ 2 ?_;refine am ?_;refine G.ret (Q (C ?_));have d:D.fz p=11:=by unfold aG.fz;rw[if_pos ac]
  have t:D.cB p=[]:=by unfold aG.cB;rw[if_neg (by rw[d];omega)]
  exact⟨⟨none,0,0⟩,0,by rw[d];rfl,by rw[t];exact aV.nil eE fK,T.refl _ _,n⟩
 ·
  refine G.skip (P (G.L (fun R=>?_)));refine o.ax 2 ?_;refine aW pW (qj bk K g b D p w0 _ aL (ag.mono (by omega)) j ai) (fun aq ay ap=>?_);obtain⟨rfl,A⟩:=ap;replace j:=j.M A;replace n:=n.L A;have az:=A.size;refine o.V ?_;refine o.v1 cO ?_;refine o.v1 cO ?_;refine o.aQ 2 ?_;refine R (G.t2 (fun S V=>G.L (fun X=>?_)));refine o.V ?_;refine o.v1 cU (o.nil (X ?_));refine aU (fun Z=>?_) (fun Z=>?_)
  ·
   refine G.L (fun aa=>?_);refine o.aQ 3 ?_;refine aa ?_;refine G.ret (V (C ?_));have d:D.fz p=D.look p:=by unfold aG.fz;rw[if_neg (by simpa using ac)]
   have t:D.cB p=[]:=by unfold aG.cB;rw[if_neg (by rw[d];omega)]
   exact⟨⟨none,0,0⟩,0,by rw[d];rfl,by rw[t];exact aV.nil eE fK,T.refl _ _,n⟩
  ·
   have q:D.look p=0:=by omega
   obtain⟨i,B⟩:∃i,aM D.now p=some i:=by
    cases ak:aM D.now p with
    |some i=>exact⟨i,rfl⟩
    |none=>exfalso;unfold aG.look at q;rw[ak]at q;by_cases aA:cz p=true<;>simp[aA]at q
   obtain⟨eO,bl,fr,kw,lw,x⟩:=j.fu i (j.ids.1 p i B);refine G.skip (S (G.L (fun ab=>?_)));refine o.v1 (Y.cast (v2:=hZ g.fb i) fc (by rw[if_pos q,B];rfl)) ?_;refine o.bH ?_;refine o.v1 (Y.ai x.cJ.N rfl jm rfl lC) ?_;refine o.v1 (Y.ai (x.cJ.N.drop 0) rfl lG rfl db) ?_;refine o.v1 (ar ((x.cJ.N.drop 0).drop 0) eD) ?_;refine aW nx (mF _ (b5 D.fs i).now w0 _ x.aA.any (by have:=ah i;omega)) (fun aB aD ae=>?_);obtain⟨af,F,rfl,L,M,N⟩:=ae;have H:T 0 I.size F:=T.L (T.refl 0 _) M n.size;replace n:=n.L N;refine o.aQ 2 ?_;refine ab ?_;refine G.ret (C ?_);have d:D.fz p=0:=by unfold aG.fz;rw[if_neg (by simpa using ac)];exact q
   have t:D.cB p=(b5 D.fs i).now:=by unfold aG.cB aG.dp;rw[if_pos d,B]
   exact⟨af,F,by rw[d];rfl,by rw[t];exact L,H,n⟩
end gV

namespace hi
open E Go.RowKit ft gd gr gN gV
def im(ks dn:List aH)(w:aH→Nat):Nat:=((ks.filter (fun k=> !decide (k∈dn))).map w).sum
theorem yA(ks:List aH)(w:aH→Nat):im ks [] w=(ks.map w).sum:=by
 unfold im;rw[List.filter_eq_self.2 (fun k _=>by simp)]
theorem yz{ks dn:List aH}{w:aH→Nat}(h:∀k∈ks,k∈dn):im ks dn w=0:=by
 unfold im;rw[List.filter_eq_nil_iff.2 (fun k d=>by simp[h k d])];rfl
theorem tu{w:aH→Nat}{k:aH}{dn:List aH}(an:k∉dn):∀{ks:List aH},ks.Nodup→k∈ks→im ks dn w=w k+im ks (dn++[k]) w
 |[],_,h=>by cases h
 |x::ks,aA,h=>by
  rw[List.nodup_cons]at aA;unfold im;by_cases i:x=k
  ·subst i
   have e:(x::ks).filter (fun q=> !decide (q∈dn++[x]))=ks.filter (fun q=> !decide (q∈dn)):=by
    rw[List.filter_cons_of_neg (by simp)];refine List.filter_congr (fun q n=>?_);have:q≠x:=fun e=>aA.1 (by rw[←e];exact n);simp[this]
   rw[e,List.filter_cons_of_pos (by simp[an]),List.map_cons,List.sum_cons]
  ·have j:k∈ks:=by
    rcases List.mem_cons.1 h with e|h
    ·exact absurd e.symm i
    ·exact h
   have ih:=tu (w:=w) (dn:=dn) an aA.2 j;unfold im at ih;by_cases d:x∈dn
   ·rw[List.filter_cons_of_neg (by simp[d]),List.filter_cons_of_neg (by simp[d])];exact ih
   ·rw[List.filter_cons_of_pos (by simp[d]),List.filter_cons_of_pos (by simp[d,i]),List.map_cons,List.map_cons,List.sum_cons,List.sum_cons,ih];omega
def kM(D:aG)(d:aH):Nat:=iD D.fs (D.now.filter (fun x=>cr x.1=d))
theorem Hv(ks:List aH)(aA:ks.Nodup)(d:aH)(a:Nat):d∈ks→(ks.map (fun k=>if d=k then a else 0)).sum=a:=by
 induction ks with
 |nil=>intro h;cases h
 |cons x ks ih=>
  intro h;rw[List.nodup_cons]at aA;rw[List.map_cons,List.sum_cons];by_cases i:d=x
  ·subst i
   rw[if_pos rfl]
   have:(ks.map (fun k=>if d=k then a else 0)).sum=0:=by
    have:ks.map (fun k=>if d=k then a else 0)=ks.map (fun _=>0):=List.map_congr_left (fun k j=>if_neg (fun e=>aA.1 (by rw[e];exact j)));rw[this];clear this ih aA h
    induction ks with
    |nil=>rfl
    |cons x ks ih=>rw[List.map_cons,List.sum_cons,ih]
   omega
  ·rw[if_neg i,ih aA.2 (by
    rcases List.mem_cons.1 h with e|h
    ·exact absurd e i
    ·exact h)];omega
theorem sum_add(ks:List aH)(f g:aH→Nat):(ks.map (fun k=>f k+g k)).sum=(ks.map f).sum+(ks.map g).sum:=by
 induction ks with
 |nil=>rfl
 |cons x ks ih=>simp only[List.map_cons,List.sum_cons,ih];omega
theorem vS(fs:List f_)(ks:List aH)(aA:ks.Nodup):∀l:dy,(∀x∈l,cr x.1∈ks)→(ks.map (fun d=>iD fs (l.filter (fun x=>cr x.1=d)))).sum=iD fs l
 |[],_=>by
  have:ks.map (fun d=>iD fs (([]:dy).filter (fun x=>cr x.1=d)))=ks.map (fun _=>0):=List.map_congr_left (fun k _=>rfl);rw[this];clear this aA;rename_i bE;clear bE
  induction ks with
  |nil=>rfl
  |cons x ks ih=>rw[List.map_cons,List.sum_cons,ih];rfl
 |x::l,h=>by
  have ih:=vS fs ks aA l (fun y hy=>h y (List.mem_cons_of_mem _ hy))
  have e:ks.map (fun d=>iD fs ((x::l).filter (fun x=>cr x.1=d)))=ks.map (fun d=>(if cr x.1=d then(b5 fs x.2).now.length else 0)+iD fs (l.filter (fun x=>cr x.1=d))):=by
   refine List.map_congr_left (fun k _=>?_);by_cases i:cr x.1=k
   ·rw[List.filter_cons_of_pos (by simpa using i),if_pos i];simp[iD]
   ·rw[List.filter_cons_of_neg (by simpa using i),if_neg i];simp
  rw[e,sum_add,Hv ks aA _ _ (h x List.mem_cons_self),ih];simp[iD]
theorem Fg{D:aG}{b3:dy}{d:aH}(i:fe D.now)(aA:(b3.map (·.1)).Nodup)(he:∀q,aM b3 q=if cr q=d then aM D.now q else none):((b3.map (·.1)).map (fun q=>(D.dp q).length)).sum=kM D d:=by
 have j:fe (D.now.filter (fun x=>decide (cr x.1=d))):=i.filter _
 have k:(b3.map (·.1)).Perm ((D.now.filter (fun x=>decide (cr x.1=d))).map (·.1)):=(List.perm_ext_iff_of_nodup aA j.nodup).2 (fun q=>by
  rw[←gQ,←gQ,he,sP (f:=fun p=>decide (cr p=d))];by_cases h:cr q=d<;>simp[h])
 rw[(k.map _).sum_nat];unfold kM iD;rw[List.map_map];congr 1;refine List.map_congr_left (fun x n=>?_);have:=l5 i.nodup (show(x.1,x.2)∈D.now from(List.mem_filter.1 n).1);simp only[Function.comp,aG.dp,this]
theorem HV{K:List Nat}{g:cD}{H:Heap}{b:Nat}{D:aG}(i:bn K g H b D)(j:fe D.now):((g.cF.map (·.1)).map (kM D)).sum=D.used:=
 vS D.fs _ i.hm.fo.nodup D.now (fun x n=>by
  have d:=l5 j.nodup (show(x.1,x.2)∈D.now from n);rw[←gQ]
  cases k:aM g.cF (cr x.1)with
  |some _=>rfl
  |none=>rw[((i.abs _ k).1 x.1 rfl).1]at d;cases d)
theorem lx{α:Type}[DecidableEq α]:∀{a b:List α},a.Nodup→(∀k∈a,k∈b)→a.length≤b.length
 |[],b,_,_=>Nat.zero_le _
 |x::a,b,aA,al=>by
  rw[List.nodup_cons]at aA;have h:=lx (b:=b.erase x) aA.2 (fun k d=>(List.mem_erase_of_ne (fun e=>aA.1 (by rw[←e];exact d))).2 (al k (List.mem_cons_of_mem _ d)));have i:=al x List.mem_cons_self;rw[List.length_erase_of_mem i]at h;have:=List.length_pos_of_mem i;simp only[List.length_cons];omega
set_option maxHeartbeats 2000000 in
theorem zC(K:List Nat)(g:cD)(b:Nat)(D:aG)(w0:World)(I:Heap)
 (j:bn K g I b D) (aX:fe D.now) (ck:D.used≤4611686018427387904):
 aC Tryz.prog w0 226 #[ptr b] I (fun r a6=>r= .int .i64 (D.used:Int)∧aj I a6):=by
 refine aC.aK [ptr b] Tryz.func226 ?_;intro bS bP;have L:aj I I:=W.refl _ _;have b4:=j.aB;refine G.L (fun bk=>?_);refine o.ak ?_;refine bk (G.L (fun bm=>?_));refine o.ak ?_;refine bm (G.t1 (fun bo=>G.L (fun bp=>?_)));refine o.ax 2 ?_;refine o.v1 (Y.ai j.aS.N rfl hd rfl q1) ?_;refine o.v1 (ar (j.aS.N.drop 2) pN) ?_;have A:=j.hm;have b1:=A.lt;obtain⟨es,bE,A⟩:=A.raw;refine o.aO (Z.tn A rfl rj rfl) fun b0 V bq=>?_;obtain⟨rfl,it,S,bZ,ap⟩:=bq;have bV:V.size=I.size+1:=by rw[ap];simp
 have aO:ah (I.size+1) K:=ah.ho j.aB;have aQ:af (g.bK+1) (I.size+1):=af.new A.lt;have aR:T 0 I.size (I.size+1):=T.new L.size;replace j:=j.M S;replace A:=A.M S;replace L:=L.L S;have b7:=S.size;have b6:=it.lt;refine o.nil (bp (G.aB (fun _ bs _=>?_)))
 refine G.bg (fun(aN:(List aH)×(Nat))=>match aN with|(x,n)=>[(3,.int .i64 (n:Int)),(12,.pointer (some ⟨I.size,0,none⟩))])
  (fun(x,n) (H:Heap)=>(hS H I.size g.bK aI es bE x)∧(x.Nodup∧∀k∈x,k∈g.cF.map (·.1))∧(n+im (g.cF.map (·.1)) x (kM D)=D.used)∧W (aE [(I.size+1)]) V H)
  (fun(x,n)=>g.cF.length-x.length) ([],0) ⟨rfl,rfl,trivial⟩ ?_ ?_
 ·
  exact⟨it,⟨List.nodup_nil,by simp⟩,by rw[yA,HV j aX];omega,W.refl _ _⟩
 rintro⟨x,n⟩ b8 bt bR bu a0;obtain⟨it,X,cm,B⟩:=bt;replace j:=j.ab B (ez.cons aO ez.nil);replace A:=A.ab B (ah.J aQ);replace L:=L.bo B (ag.J (aq.q aR));have b9:=B.size;have bw:=T.refl (I.size+1) V.size;have aB:=lx X.1 X.2;rw[List.length_map]at aB;refine G.L (fun b2=>?_);refine o.aO (Z.s8 it A gv.inj rfl rfl) fun bT C a2=>?_;obtain⟨cq,d,bf,cg,rfl,it,bK,bI,N⟩:=a2;replace N:=N.bs;replace j:=j.ab N (ez.cons aO ez.nil);replace A:=A.ab N (ah.J aQ);replace L:=L.bo N (ag.J (aq.q aR));replace B:=B.aJ N (ag.J (aq.r bw));have be:=N.size;refine o.v1 (Y.sk rfl rfl) (o.nil (b2 ?_));refine G.t2 (fun a3 a4=>?_);refine cK (fun ak=>?_) (fun ak=>?_)
 ·
  obtain⟨E,R,aK⟩:=bK ak;rw[aK]at it;have bN:=l5 A.fo.nodup E;obtain⟨bM,c8,cn,bl,b3,eH,an⟩:=j.gj _ bf bN;have bQ:=E;have bO:=R;have cl:im (g.cF.map (·.1)) x (kM D)=kM D d+im (g.cF.map (·.1)) (x++[d]) (kM D):=tu (w:=kM D) R A.fo.nodup (List.mem_map.2 ⟨_,E,rfl⟩);refine G.skip (a3 (G.aB (fun a5 _ _=>G.L (fun bx=>?_))));refine o.v1 (Y.sj it A gv.inj E rfl rfl) ?_;refine o.v1 cO ?_;refine o.ak ?_;refine bx (G.L (fun bz=>?_));refine o.ax 2 ?_;refine o.v1 (Y.ai an.cP.N rfl kz rfl m5) ?_;refine o.v1 (Y.ai (an.cP.N.drop 0) rfl nb rfl lB) ?_;refine o.v1 (ar ((an.cP.N.drop 0).drop 0) ou) ?_;have t:=an.aA;have au:=t.lt;obtain⟨bG,bF,t⟩:=t.raw;refine o.aO (Z.tn t rfl ri rfl) fun bY al a7=>?_;obtain⟨rfl,M,Q,bU,bA⟩:=a7;have bX:al.size=C.size+1:=by rw[bA];simp
  have aS:ah (C.size+1) K:=ah.ho j.aB;have aT:af (I.size+1) (C.size+1):=af.new it.lt;have aU:af (bM+1) (C.size+1):=af.new t.lt;have aW:T 0 V.size (C.size+1):=T.new B.size;replace j:=j.M Q;replace it:=it.M Q;replace t:=t.M Q;replace B:=B.bc Q;have b_:=Q.size;have am:=M.lt;refine o.nil (bz (G.aB (fun _ bC _=>?_)))
  refine G.bg (fun(aN:(List aH)×(Nat))=>match aN with|(dn,m)=>[(3,.int .i64 (m:Int)),(12,.pointer (some ⟨I.size,0,none⟩)),(22,.pointer (some ⟨C.size,0,none⟩))])
   (fun(dn,m) (H:Heap)=>(hS H C.size bM aI bG bF dn)∧(dn.Nodup∧∀k∈dn,k∈b3.map (·.1))∧(m+im (b3.map (·.1)) dn (fun q=>(D.dp q).length)+im (g.cF.map (·.1)) (x++[d]) (kM D)=D.used)∧W (aE [(C.size+1)]) al H)
   (fun(dn,m)=>b3.length-dn.length) ([],n) ⟨rfl,rfl,rfl,trivial⟩ ?_ ?_
  ·
   exact⟨M,⟨List.nodup_nil,by simp⟩,by rw[yA,Fg aX t.fo.nodup an.gP];omega,W.refl _ _⟩
  rintro⟨dn,m⟩ ca a8 bi bD a_;obtain⟨M,aa,ae,F⟩:=a8;replace j:=j.ab F (ez.cons aS ez.nil);replace it:=it.ab F (ah.J aT);replace t:=t.ab F (ah.J aU);replace B:=B.aJ F (ag.J (aq.q aW));have cb:=F.size;have ac:=T.refl (C.size+1) al.size;have aB:=lx aa.1 aa.2;rw[List.length_map]at aB;refine G.L (fun ba=>?_);refine o.aO (Z.s8 M t gv.inj rfl rfl) fun cc cd a9=>?_;obtain⟨cr,q,i,cj,rfl,M,bL,bJ,ad⟩:=a9;replace ad:=ad.bs;replace j:=j.ab ad (ez.cons aS ez.nil);replace it:=it.ab ad (ah.J aT);replace t:=t.ab ad (ah.J aU);replace B:=B.aJ ad (ag.J (aq.q aW));replace F:=F.aJ ad (ag.J (aq.r ac));have cf:=ad.size;refine o.v1 (Y.sk rfl rfl) (o.nil (ba ?_));refine G.t2 (fun bc bd=>?_);refine cK (fun ai=>?_) (fun ai=>?_)
  ·
   obtain⟨E,R,aK⟩:=bL ai;rw[aK]at M;have P:=l5 t.fo.nodup E;rw[an.gP]at P
   have P:aM D.now q=some i:=by
    split at P
    ·exact P
    ·cases P
   obtain⟨eO,ct,fr,kw,lw,ab⟩:=j.fu i (j.ids.1 q i P);have aZ:im (b3.map (·.1)) dn (fun q=>(D.dp q).length)=(D.dp q).length+im (b3.map (·.1)) (dn++[q]) (fun q=>(D.dp q).length):=tu (w:=fun q=>(D.dp q).length) R t.fo.nodup (List.mem_map.2 ⟨_,E,rfl⟩);have a1:D.dp q=(b5 D.fs i).now:=by unfold aG.dp;rw[P]
   refine G.skip (bc (G.aB (fun bg _ _=>G.L (fun bh=>?_))));refine o.v1 (Y.sj M t gv.inj E rfl rfl) ?_;refine o.v1 cO ?_;refine o.ak ?_;refine bh (G.region ?_);refine o.ax 3 ?_;refine o.v1 (Y.ai ab.cJ.N rfl jm rfl lC) ?_;refine o.v1 (Y.ai (ab.cJ.N.drop 0) rfl lG rfl db) ?_;refine o.v1 (ar ((ab.cJ.N.drop 0).drop 0) eD) ?_;refine o.v1 (bb ab.aA dc) ?_;refine o.v1 (Y.cast (v2:= .int .i64 ((m+(D.dp q).length:Nat):Int)) (Y.uA rfl rfl rfl (by rw[a1]at aZ;omega)) (fM (by rw[a1];omega))) ?_;refine o.ak ?_;refine bg ?_
   have aJ:(dn++[q]).Nodup∧∀k∈dn++[q],k∈b3.map (·.1):=by
    refine⟨?_,fun k O=>?_⟩
    ·rw[List.nodup_append]
     exact⟨aa.1,by simp,fun a ay b aw e=>by simp only[List.mem_singleton]at aw;subst aw;subst e;exact R ay⟩
    ·rcases List.mem_append.1 O with h|h
     ·exact aa.2 k h
     ·rw[List.mem_singleton.1 h];exact List.mem_map.2 ⟨_,E,rfl⟩
   have aF:=lx aJ.1 aJ.2;rw[List.length_append,List.length_singleton,List.length_map]at aF;refine aP.sub (bD (dn++[q],m+(D.dp q).length) _ ?_ ?_) ⟨(aD (by omega)),rfl,rfl,trivial⟩
   ·exact⟨M,aJ,by rw[aZ,←Nat.add_assoc]at ae;exact ae,F⟩
   ·simp only[List.length_append,List.length_singleton];omega
  ·
   obtain⟨az,_⟩:=bJ ai;have aY:im (b3.map (·.1)) dn (fun q=>(D.dp q).length)=0:=yz (fun k O=>by obtain⟨p,aL,rfl⟩:=List.mem_map.1 O;exact az p aL);refine G.exit (bd (a_ (bC ?_)));refine a5 ?_
   have aA:(x++[d]).Nodup∧∀k∈x++[d],k∈g.cF.map (·.1):=by
    refine⟨?_,fun k O=>?_⟩
    ·rw[List.nodup_append]
     exact⟨X.1,by simp,fun a ay b aw e=>by simp only[List.mem_singleton]at aw;subst aw;subst e;exact bO ay⟩
    ·rcases List.mem_append.1 O with h|h
     ·exact X.2 k h
     ·rw[List.mem_singleton.1 h];exact List.mem_map.2 ⟨_,bQ,rfl⟩
   have aF:=lx aA.1 aA.2;rw[List.length_append,List.length_singleton,List.length_map]at aF;refine aP.sub (bu (x++[d],m) _ ?_ ?_) ⟨(aD (by omega)),rfl,trivial⟩
   ·exact⟨it,aA,by rw[aY,Nat.add_zero]at ae;exact ae,B⟩
   ·simp only[List.length_append,List.length_singleton];omega
 ·
  obtain⟨az,_⟩:=bI ak;have aY:im (g.cF.map (·.1)) x (kM D)=0:=yz (fun k O=>by obtain⟨p,aL,rfl⟩:=List.mem_map.1 O;exact az p aL);refine G.exit (a4 (a0 (bs ?_)));refine bo (G.L (fun bj=>?_));refine o.aQ 2 ?_;refine bj ?_;refine G.ret (bP ?_);exact⟨by rw[show n=D.used by omega],L⟩
end hi

namespace hv
open E Go.RowKit ft gd gr gN gV hi
set_option maxRecDepth 100000 in
theorem wZ:c4 Tryz.prog 171 177 3 40:=⟨Tryz.underlying171,_,_,rfl,rfl,rfl,rfl,rfl⟩
theorem sU(K:List Nat)(g:cD)(b:Nat)(D:aG)(p:aH)(w0:World)(I:Heap)
 (d:bn K g I b D) (aL:g.cF.length+1≤D.ops):
 aC Tryz.prog w0 222 #[ptr b,aI p] I (fun r E=>∃bp:List Nat,∃g2:cD,∃bf:Nat,r=ptr bf∧(bn bp g2 E b D)∧(aZ K I.size bp)∧(aM g2.cF p=some bf)∧(g2.fb=g.fb)∧W (aE K) I E):=by
 refine aC.aK [ptr b,aI p] Tryz.func222 ?_;intro aQ N;have i:W (aE K) I I:=W.refl _ _;have x:=aZ.refl K I.size;have a_:=d.aB;refine G.L (fun O=>?_);refine o.ak ?_;refine O (G.seq (fun bp P _=>G.region ?_));refine o.ax 2 ?_;refine o.v1 (Y.ai d.aS.N rfl hd rfl q1) ?_;refine o.v1 (ar (d.aS.N.drop 2) pN) ?_;refine o.V ?_;refine o.v1 (sK uy d.hm.fo (fun _=>rfl) gv rfl rj Tryz.underlying9 zQ rfl rfl) ?_;refine o.ak ?_;refine P _ _ (G.t1 (fun H=>G.L (fun Q=>?_)));refine o.V ?_;refine o.v1 (Y.peq rfl (by kernel_rfl) (by kernel_rfl) rfl rfl) (o.nil (Q ?_));refine cK (fun t=>?_) (fun t=>?_)
 ·
  have aP:aM g.cF p=none:=by
   cases B:aM g.cF p with
   |none=>rfl
   |some bf=>rw[B]at t;cases t
  refine G.L (fun R=>?_);refine o.aO (Z.nR aI (hZ g.fb) rfl) fun aX j V=>?_;obtain⟨rfl,aA,A,aS,aB⟩:=V;have bb:j.size=I.size+1:=by rw[aB];simp
  have X:ah (I.size+1) K:=ah.ho d.aB;have aa:T 0 I.size (I.size+1):=T.new i.size;replace d:=d.M A;replace i:=i.bc A;have aY:=A.size;have au:=aA.lt;refine o.aO (Z.nR aI (hZ g.fb) rfl) fun a1 n ab=>?_;obtain⟨rfl,al,ac,aT,am⟩:=ab;have bc:n.size=j.size+1:=by rw[am];simp
  have ae:ah (j.size+1) K:=ah.ho d.aB;have af:T 0 I.size (j.size+1):=T.new i.size;replace d:=d.M ac;replace aA:=aA.M ac;replace i:=i.bc ac;have a6:=ac.size;have ba:=al.lt;refine o.v1 (Y.build (v:= .agg #[.map (some I.size),.map (some j.size)]) rfl rfl (by intro w;kernel_rfl)) ?_;refine o.v1 (Y.build (v:= .agg #[.map (some I.size),.map (some j.size),.slice none 0 0]) rfl rfl (by intro w;kernel_rfl)) ?_;refine o.aO cq fun a7 L ai=>?_;obtain⟨rfl,C,q,aU,ap⟩:=ai;have aR:L.size=n.size+1:=by rw[ap];simp
  have ak:ah (n.size+1) K:=ah.ho d.aB;have aq:T 0 I.size (n.size+1):=T.new i.size;replace d:=d.M q;replace aA:=aA.M q;replace al:=al.M q;replace i:=i.bc q;have a8:=q.size;replace C:Var 173 L n.size ([.map (some I.size),.map (some j.size),.slice none 0 0]):=C;refine o.ak ?_;refine R (G.region ?_);refine o.ax 2 ?_;refine o.v1 (Y.ai d.aS.N rfl hd rfl q1) ?_;refine o.v1 (ar (d.aS.N.drop 2) pN) ?_;refine o.ax 2 ?_;refine o.s1 (S.l_ n.size d.hm gv rfl rj Tryz.underlying9 rfl rfl rfl) fun aW aD=>?_;obtain⟨aO,ad⟩:=aD;have F:=d.ms ad (fun c e=>by rw[e,d.hD];simp);replace i:=i.aJ F (ag.cH (x) (by intro k aN;simp[aN]));have a0:=F.size;have aF:=aZ.cons (aa) (x);have aJ:=aZ.cons (af) (aF);have aK:=aZ.cons (aq) (aJ);replace d:=d.Fh aP C aA al (ak) (X) (ae) (by omega) (by omega) (by omega) ad.bs aO aL;refine o.nil (H (G.L (fun ay=>?_)));refine o.aQ 2 ?_;refine ay ?_;refine G.ret (N ?_);exact⟨_,_,_,rfl,d,aK,by show aM (fN g.cF p _) p=_;rw[kV,if_pos rfl],rfl,i⟩
 ·
  obtain⟨bf,M⟩:∃bf,aM g.cF p=some bf:=by
   cases B:aM g.cF p with
   |none=>rw[B]at t;cases t
   |some bf=>exact⟨bf,rfl⟩
  refine G.skip (H (G.L (fun az=>?_)));refine o.aQ 2 ?_;refine az ?_;refine G.ret (N ?_);exact⟨K,g,bf,by rw[M];rfl,d,x,M,rfl,i⟩
set_option maxHeartbeats 2000000 in
theorem vH(K:List Nat)(g:cD)(b:Nat)(D:aG)(p:aH)(c:dN)(w0:World)(I:Heap)
 (d:bn K g I b D) (bq:g.cF.length+1≤D.ops) (bm:c.dir=p) (al:∀i,c.f=some i→cr c.n=p∧i<D.fs.length) (bo:c.g≠[]→cr c.g=p) (bR:D.log.length≤1099511627776):
 aC Tryz.prog w0 221 #[ptr b,aI p,.agg (ib g.fb c).toArray] I (fun r aa=>∃bp:List Nat,∃g2:cD,r= .tuple #[]∧(bn bp g2 aa b (D.change c))∧(aZ K I.size bp)∧(g2.fb=g.fb)∧W (aE K) I aa):=by
 refine aC.enter (args:=[ptr b,aI p,.agg (ib g.fb c).toArray]) Tryz.func221 rfl rfl rfl ?_;intro bD bs;have n:W (aE K) I I:=W.refl _ _;have aF:=aZ.refl K I.size;have aJ:=d.aB;refine G.L (fun a7=>?_);refine o.aO cq ?_;rintro v5 az ⟨rfl,q,ai,b2,a8⟩;have bL:az.size=I.size+1:=by rw[a8];simp
 have aA:ah (I.size+1) K:=ah.ho d.aB;replace d:=d.M ai;replace n:=n.bc ai;have a2:=ai.size;replace q:Var 177 az I.size (ib g.fb c):=q;refine o.nil (a7 (G.seq (fun bp a_ _=>G.region ?_)));refine o.ax 2 ?_;refine aW r4 (sU K g b D p w0 _ d bq) (fun v9 bC bx=>?_);have ba:=q.lt;obtain⟨L,g9,bf,rfl,d,am,X,aB,ak⟩:=bx;have aD:ah (I.size+1) L:=ah.hk (aA) ba am;have V:aZ K I.size L:=aZ.L (aF) am n.size;replace q:=q.ab ak (aA);replace n:=n.aJ ak (ag.cH (aF) (by intro k E;simp[E]));have a3:=ak.size;have aJ:=d.aB;rw[←aB]at q;refine o.ak ?_;refine a_ _ _ (G.t1 (fun bb=>?_));obtain⟨bu,bV,bT,b0,aO,bX,N⟩:=d.gj _ bf X;refine iW 6 (fun bE bl=>?_);refine o.ax 2 ?_;refine o.v1 (Y.ai N.cP.N rfl kz rfl m5) ?_;refine o.v1 (Y.ai (N.cP.N.drop 0) rfl nb rfl lB) ?_;refine o.v1 (ar ((N.cP.N.drop 0).drop 0) ou) ?_;refine o.v1 (aT q.N uq yL (rfl)) ?_;refine o.nil (bl _ ?_);refine aW Cb ((F2 g9.fb bu aO c w0 _ N.aA).mono (fun r aa h=>d.put X N h.2 h.1 (EO c aO) (fun i Z=>⟨(al i Z).1,(al i Z).2⟩) bo)) (fun a4 ad bc=>?_);obtain⟨d,ae⟩:=bc;replace q:=q.ab ae (aD);replace n:=n.aJ ae (ag.cH (V) (by intro k E;simp[E]));have a5:=ae.size;have aJ:=d.aB;refine o.nil (bb ?_);obtain⟨bw,bz,j,bA,bU,bY,C⟩:=d.gj _ bf X;have bS:(D.hL p).length≤D.log.length:=List.length_filter_le _ _;have t:W (aE [(bf+1),j]) ad ad:=W.refl _ _;have bt:gM L (bf+1):=(d.nL C.rd (by simp));have cP:=C.cP;have bP:=cP.lt;have bd:aq K I.size (bf+1):=ag.at (ag.cH (V) (by intro k E;simp[E])) bt;have bj:=T.refl (bf+1) ad.size;have ay:gM L j:=(d.mT C.rc (by simp));have av:=(show aV j 177 _ (ib g9.fb) 3 bA.v (D.hL p)from C.av);have au:=av.le;have bk:af (I.size+1) j:=ah.at (aD) ay;have aP:aq K I.size j:=ag.at (ag.cH (V) (by intro k E;simp[E])) ay;have aK:=T.refl j ad.size;have S:af (bf+1) j:=fun x bQ U=>by have aM:=C.rc x U;rw[show x=bf by omega,C.rd]at aM;cases aM
 refine dx (fun R=>W (aE [j]) ad R) [8,9,10] ?_;have ac:W (aE [j]) ad ad:=W.refl _ _;have aQ:=T.refl j ad.size;refine O.V 0 rfl ac ?_;refine O.V 1 rfl ac ?_;refine O.bH 2 rfl ac ?_;refine O.t1 3 rfl (fun R P=>Y.fieldAddr (cP.ab P (ah.J S)).N rfl kz rfl rfl m6 (by decide) rfl) ac ?_;refine O.t1 4 rfl (fun R P=>ar ((cP.ab P (ah.J S)).N.drop 2) zZ) ac ?_;refine O.t1 5 rfl (fun R P=>Y.nP (q.ab P (ah.J bk)).N rfl uq yL (rfl) rfl) ac ?_;refine O.aX 6 ?_;refine et rfl (cT _ ([c]) wZ (qb _) (qc _) (rfl)) (fun bF B bg=>?_);obtain⟨aR,H,bN,aS⟩:=bg;have bJ:B.size=ad.size+1:=by rw[aS];simp
 have aU:T 0 ad.size (ad.size+1):=T.new ac.size;replace cP:=cP.M H;replace av:=av.M H;replace n:=n.bc H;replace t:=t.bc H;replace ac:=ac.bc H;have bG:=H.size;refine O.b3 ac (ag.cons (aq.r aQ) (ag.J (aq.q aU))) ?_;have ac:W (aE [j,(ad.size+1)]) B B:=W.refl _ _;have ap:=T.refl j B.size;have aX:=T.refl (ad.size+1) B.size;refine O.aX 7 ?_;refine et rfl (dQ av aR.rd wZ (by first|omega|(simp;omega)) (by first|omega|(simp;omega))) (fun ab bO a0=>?_);obtain⟨Q,av,M,A⟩:=a0;replace M:T j B.size Q:=M;replace A:=A.md;have aY:af (bf+1) Q:=af.app (S) cP.lt M;have aL:T j ad.size Q:=T.L (aK) M t.size;have a1:T j B.size Q:=T.L (ap) M ac.size;replace cP:=cP.ab A (ah.J S);replace n:=n.aJ A (ag.cons (aP) ag.nil);replace t:=t.aJ A (ag.J (aq.r aK));replace ac:=ac.aJ A (ag.J (aq.r ap));have bI:=A.size;have au:=av.le;refine O.b3 ac (ag.cons (aq.r a1) (ag.J (aq.r aX))) ?_;refine O.aX 8 ?_;refine hg rfl (Y.nilCheck rfl rfl) (.inl rfl) ?_;refine O.aX 9 ?_;refine hg rfl (Y.ai cP.N rfl kz rfl m6) (.inl rfl) ?_;refine O.aX 10 ?_;refine gL rfl (dj cP 2 ([.map (some bw),.map (some bz),ab]) (av.rd.o9) m6 (by simp) (rfl)) (fun bK bh=>?_);obtain⟨cP,F⟩:=bh;replace F:=F.bs;replace av:=av.ab F (ah.J aY.symm);replace n:=n.aJ F (ag.cons (bd) ag.nil);replace t:=t.aJ F (ag.J (aq.r bj));have a9:=F.size;refine⟨.inl rfl,?_⟩;refine cx ?_;obtain⟨bZ,rfl⟩:∃s:aN,ab=s.v:=⟨cl ab,av.bl.symm⟩;have a6:aZ K I.size (Q::L):=(aZ.app (V) (ay) (aL) (by omega));replace d:=d.note X C t cP av (aL) bm (fun i Z=>(al i Z).2);refine bs .normal (.inl rfl) _ _ _ (iR rfl) ?_;exact⟨_,_,rfl,d,a6,aB,n⟩
end hv

namespace hH
open E Go.RowKit ft gd gr gN gV hi hv
set_option maxRecDepth 100000 in
theorem qt:c4 Tryz.prog 184 275 2 32:=⟨Tryz.underlying184,_,_,rfl,rfl,rfl,rfl,rfl⟩
structure gy (n:Nat) (D:aG):Prop where
 ak:fe D.now
 kj:fe D.stays
 us:D.used≤2305843009213693952
 dK:D.log.length≤n
 op:D.ops≤n
 M:∀i,(b5 D.fs i).now.length≤n
 pq:∀i,(b5 D.fs i).stays.length≤n
 w:∀i,(b5 D.fs i).w.length≤n
 wd:∀i,∀y∈(b5 D.fs i).w,y.d.length≤n
 nl:D.now.length≤n
 ir:D.stays.length≤n
 fF:D.fs.length≤n
 dF:∀i j,(ly ((b5 D.fs i).w.take j) (b5 D.fs i).stays).length≤n
 kS:∀c∈D.log,∀i,c.f=some i→cr c.n=c.dir
theorem uO(D:aG):D.begin.2.cap=D.cap∧D.begin.2.most=D.most∧D.begin.2.fs=D.fs∧D.begin.2.now=D.now∧D.begin.2.stays=D.stays∧D.begin.2.log=D.log∧D.begin.2.ops≤D.ops+1:=by
 unfold aG.begin;split
 ·exact⟨rfl,rfl,rfl,rfl,rfl,rfl,Nat.le_succ _⟩
 ·split
  ·exact⟨rfl,rfl,rfl,rfl,rfl,rfl,Nat.le_succ _⟩
  ·exact⟨rfl,rfl,rfl,rfl,rfl,rfl,Nat.le_refl _⟩
theorem pT{D:aG}(h:D.begin.1=true):D.begin.2.ops=D.ops+1∧D.begin.2.dead=false:=by
 unfold aG.begin at h⊢;split at h
 ·cases h
 ·rename_i d
  split at h
  ·cases h
  ·rename_i U
   rw[if_neg d,if_neg U];exact⟨rfl,by simpa using d⟩
theorem gy.mono{n m:Nat}{D:aG}(h:gy n D)(hm:n≤m):gy m D:=⟨h.ak,h.kj,h.us,Nat.le_trans h.dK hm,Nat.le_trans h.op hm,fun i=>Nat.le_trans (h.M i) hm,fun i=>Nat.le_trans (h.pq i) hm,fun i=>Nat.le_trans (h.w i) hm,fun i y hy=>Nat.le_trans (h.wd i y hy) hm,Nat.le_trans h.nl hm,Nat.le_trans h.ir hm,Nat.le_trans h.fF hm,fun i j=>Nat.le_trans (h.dF i j) hm,h.kS⟩
theorem gy.begin{n:Nat}{D:aG}(h:gy n D):gy (n+1) D.begin.2:=by
 obtain⟨aK,o,d,i,j,k,q⟩:=uO D;have h:=h.mono (Nat.le_succ n);exact⟨by rw[i];exact h.ak,by rw[j];exact h.kj,by unfold aG.used;rw[d,i];exact h.us,by rw[k];exact h.dK,by have:=gy.op ‹gy n D›;omega,by rw[d];exact h.M,by rw[d];exact h.pq,by rw[d];exact h.w,by rw[d];exact h.wd,by rw[i];exact h.nl,by rw[j];exact h.ir,by rw[d];exact h.fF,by rw[d];exact h.dF,by rw[k];exact h.kS⟩
theorem qA{D:aG}{p:aH}(h:D.look p=0):cz p=true∧∃i,aM D.now p=some i:=by
 unfold aG.look at h
 cases aA:cz p with
 |false=>rw[aA]at h;simp at h
 |true=>
  rw[aA]at h
  cases d:aM D.now p with
  |none=>rw[d]at h;simp at h
  |some i=>exact⟨rfl,i,rfl⟩
theorem Ez{D:aG}{p:aH}(h:D.look p=2):cz p=true∧aM D.now p=none:=by
 unfold aG.look at h
 cases aA:cz p with
 |false=>rw[aA]at h;simp at h
 |true=>
  rw[aA]at h
  cases d:aM D.now p with
  |none=>exact⟨rfl,rfl⟩
  |some i=>rw[d]at h;simp at h
theorem EA{D:aG}{p:aH}(h:D.look p=7):cz p=false:=by
 unfold aG.look at h
 cases aA:cz p with
 |false=>rfl
 |true=>
  rw[aA]at h
  cases d:aM D.now p with
  |none=>rw[d]at h;simp at h
  |some i=>rw[d]at h;simp at h
theorem EB(D:aG)(p:aH):D.look p=0∨D.look p=2∨D.look p=7:=by
 unfold aG.look;split
 ·split
  ·exact .inl rfl
  ·exact .inr (.inl rfl)
 ·exact .inr (.inr rfl)
theorem nX(w:dZ)(b:List UInt8):(w.on b w.d.length).length=(if w.b=true then b.length else 0)+w.d.length:=by
 unfold dZ.on;rw[List.length_append,List.length_take,Nat.min_self];split<;>rfl
theorem oM{D:aG}{i:Nat}{x:f_}(h:i<D.fs.length):b5 (D.fy i x).fs i=x:=by simp[b5,aG.fy,List.getD,h]
theorem sq{D:aG}{i:Nat}{x:f_}:(D.fy i x).fs.length=D.fs.length:=by simp[aG.fy]
theorem yi{D:aG}{i:Nat}{x y:f_}:(D.fy i x).fy i y=D.fy i y:=by simp[aG.fy]
theorem D9{D:aG}{p:aH}{w:dZ}(h:D.begin.1=false):D.lay p w=(11,D.begin.2):=by unfold aG.lay;simp[h]
theorem qy{D:aG}{p:aH}{w:dZ}(h:D.begin.1=true):D.lay p w=(D.begin.2.hN p w,if D.begin.2.hN p w=0 then D.begin.2.write p w else D.begin.2):=by unfold aG.lay;simp[h]
theorem D7{D:aG}{p:aH}{w:dZ}(h:cz p=false):D.hN p w=7:=by unfold aG.hN;rw[if_pos h]
theorem sG{D:aG}{p:aH}{w:dZ}(h:cz p=true)(U:D.most<(w.on (D.dp p) w.d.length).length):D.hN p w=5:=by unfold aG.hN;rw[if_neg (by simp[h]),if_pos U]
theorem qx{D:aG}{p:aH}{w:dZ}(h:cz p=true)(U:¬D.most<(w.on (D.dp p) w.d.length).length)(d:D.cap+(D.dp p).length<D.used+(w.on (D.dp p) w.d.length).length):D.hN p w=12:=by unfold aG.hN;rw[if_neg (by simp[h]),if_neg U,if_pos d]
theorem oT{D:aG}{p:aH}{w:dZ}(h:cz p=true)(U:¬D.most<(w.on (D.dp p) w.d.length).length)(d:¬D.cap+(D.dp p).length<D.used+(w.on (D.dp p) w.d.length).length):D.hN p w=0:=by unfold aG.hN;rw[if_neg (by simp[h]),if_neg U,if_neg d]
theorem zD{D:aG}{p:aH}{i:Nat}(h:aM D.now p=some i):D.dp p=(b5 D.fs i).now:=by unfold aG.dp;rw[h]
theorem H2{D:aG}{p:aH}(h:aM D.now p=none):D.dp p=[]:=by unfold aG.dp;rw[h]
theorem zO{D:aG}{p:aH}{i:Nat}{w:dZ}(h:aM D.now p=some i)(d:i<D.fs.length):
 (D.fy i ⟨w.on (D.dp p) w.d.length,(b5 D.fs i).stays,(b5 D.fs i).w⟩).fy i ⟨(b5 (D.fy i ⟨w.on (D.dp p) w.d.length,(b5 D.fs i).stays,(b5 D.fs i).w⟩).fs i).now,(b5 (D.fy i ⟨w.on (D.dp p) w.d.length,(b5 D.fs i).stays,(b5 D.fs i).w⟩).fs i).stays,(b5 (D.fy i ⟨w.on (D.dp p) w.d.length,(b5 D.fs i).stays,(b5 D.fs i).w⟩).fs i).w++[w]⟩=D.write p w:=by
 rw[oM d,yi,zD h];unfold aG.write aG.make;rw[h]
def gG(D:aG)(p:aH):aG:=({D with fs:=D.fs++[⟨[],[],[]⟩]}:aG).change ⟨[],p,some D.fs.length⟩
theorem xw(D:aG)(p:aH):b5 (gG D p).fs D.fs.length=⟨[],[],[]⟩:=by simp[gG,aG.change,b5,List.getD]
theorem xx(D:aG)(p:aH):D.fs.length<(gG D p).fs.length:=by simp[gG,aG.change]
theorem zN{D:aG}{p:aH}{w:dZ}(h:aM D.now p=none):
 ((gG D p).fy D.fs.length ⟨w.on (b5 (gG D p).fs D.fs.length).now w.d.length,(b5 (gG D p).fs D.fs.length).stays,(b5 (gG D p).fs D.fs.length).w⟩).fy D.fs.length ⟨(b5 ((gG D p).fy D.fs.length ⟨w.on (b5 (gG D p).fs D.fs.length).now w.d.length,(b5 (gG D p).fs D.fs.length).stays,(b5 (gG D p).fs D.fs.length).w⟩).fs D.fs.length).now,(b5 ((gG D p).fy D.fs.length ⟨w.on (b5 (gG D p).fs D.fs.length).now w.d.length,(b5 (gG D p).fs D.fs.length).stays,(b5 (gG D p).fs D.fs.length).w⟩).fs D.fs.length).stays,(b5 ((gG D p).fy D.fs.length ⟨w.on (b5 (gG D p).fs D.fs.length).now w.d.length,(b5 (gG D p).fs D.fs.length).stays,(b5 (gG D p).fs D.fs.length).w⟩).fs D.fs.length).w++[w]⟩=D.write p w:=by
 rw[oM (xx D p),yi];unfold aG.write aG.make;rw[h];rfl
set_option maxHeartbeats 1000000 in
theorem xa(bk:Int)(K:List Nat)(g:cD)(b:Nat)(D:aG)(p:aH)(x:lO)(F:Nat→Prop)(w0:World)(I:Heap)
 (d:bn K g I b D) (aL:dY bk I) (c1:bh (fun b=>b=0) I.size) (dk:az (fun b=>b=0) K) (an:Rd F I a1 1 x.2.v x.1.d) (ev:bh F I.size) (dp:az F K) (dv:p.length≤4294967280) (dq:gy 274877906944 D) (gS:x.1.d.length≤274877906944):
 aC Tryz.prog w0 185 #[ptr b,aI p,n8 x] I (fun r cP=>∃bp:List Nat,∃g2:cD,r= .int .i64 ((D.lay p x.1).1:Int)∧(bn bp g2 cP b (D.lay p x.1).2)∧(aZ K I.size bp)∧W (aE K) I cP):=by
 refine aC.aK [ptr b,aI p,n8 x] Tryz.func185 ?_;intro gk bc;have n:W (aE K) I I:=W.refl _ _;have aX:=aZ.refl K I.size;have bu:=d.aB;have gU:=dq.op;have gT:=d.iA;obtain⟨B,bG⟩:∃B,B=D.begin.2:=⟨_,rfl⟩;have ba:=dq.begin;rw[←bG]at ba;refine G.L (fun bf=>?_);refine o.aO cq ?_;rintro v5 cR ⟨rfl,q,bA,gH,dW⟩;have dd:cR.size=I.size+1:=by rw[dW];simp
 have bT:ah (I.size+1) K:=ah.ho d.aB;have dm:T 0 I.size (I.size+1):=T.new n.size;replace d:=d.M bA;replace aL:=aL.M bA;replace an:=an.M bA;replace n:=n.bc bA;have gI:=bA.size;replace q:Var 275 cR I.size (lX x):=q;refine o.ak ?_;refine bf (G.seq (fun bp fF gi=>G.L (fun fG=>?_)));refine o.V ?_;refine aW pX (pS K g b D w0 _ d (by omega)) (fun gJ d0 fI=>?_);obtain⟨g1,rfl,d,fK,bx⟩:=fI;replace aL:=aL.ab bx (dk);replace an:=an.ab bx (dp);replace q:=q.ab bx (bT);replace n:=n.aJ bx (ag.cH (aX) (by intro k ak;simp[ak]));have d1:=bx.size;rw[←bG]at d;refine o.v1 eL (o.nil (fG ?_));refine cK (fun ca=>?_) (fun ca=>?_)
 ·
  refine G.L (fun fL=>?_);refine o.ak ?_;refine fL ?_;refine G.ret (gi .ret nofun _ _ (bc ?_));have dt:=D9 (p:=p) (w:=x.1) (show D.begin.1=false by simpa using ca);exact⟨_,_,by rw[dt];rfl,by rw[dt];rw[bG]at d;exact d,aX,n⟩
 ·
  have du:D.begin.1=true:=by simpa using ca
  have fZ:=(pT du).1;rw[←bG]at fZ;have dw:=EB B p;have al:=qy (p:=p) (w:=x.1) du;rw[←bG]at al;refine G.skip (fF _ _ (G.L (fun fM=>?_)));refine o.ax 2 ?_;refine aW pW (qj bk K g1 b B p w0 _ aL (c1.mono (by omega)) d dv) (fun d2 S dl=>?_);obtain⟨rfl,bq⟩:=dl;replace d:=d.M bq;replace aL:=aL.M bq;replace an:=an.M bq;replace q:=q.M bq;replace n:=n.bc bq;have d3:=bq.size;refine o.V ?_;refine o.v1 cO ?_;refine o.v1 cO ?_;refine o.aQ 2 ?_;refine fM (G.t2 (fun dn fN=>G.L (fun fO=>?_)));refine o.V ?_;refine o.v1 b9 (o.nil (fO ?_));refine aU (fun fJ=>?_) (fun fJ=>?_)
  ·
   refine G.L (fun ds=>?_);refine o.aQ 2 ?_;refine ds ?_;refine G.ret (fN (bc ?_));have aA:B.hN p x.1=7:=D7 (EA (D:=B) (by omega));exact⟨_,_,by rw[al,aA];rw[show B.look p=7 by omega];rfl,by rw[al];simp only[aA];exact d,aX,n⟩
  ·
   refine G.skip (dn (G.L (fun fP=>?_)));refine o.ak ?_;refine fP (G.t1 (fun be=>G.L (fun ek=>?_)));refine o.V ?_;refine o.v1 (Y.peq rfl (by kernel_rfl) (by kernel_rfl) rfl rfl) (o.nil (ek ?_));refine cK (fun bY=>?_) (fun bY=>?_)
   ·
    have bI:B.look p=2:=by
     rcases dw with h|h|h
     ·obtain⟨_,i,cu⟩:=qA h
      rw[if_pos h,cu]at bY;cases bY
     ·exact h
     ·omega
    obtain⟨bo,aY⟩:=Ez bI;have Z:=H2 aY;have gV:(B.dp p).length=0:=by rw[Z];rfl
    refine G.region ?_;refine o.v1 (Y.build (v:= .agg #[.slice none 0 0,.slice none 0 0,.slice none 0 0]) rfl rfl (by intro w;kernel_rfl)) ?_;refine o.aO cq fun d4 bC fQ=>?_;obtain⟨rfl,cJ,bs,gO,en⟩:=fQ;have gN:bC.size=S.size+1:=by rw[en];simp
    have fR:ah (S.size+1) K:=ah.ho d.aB;have fS:=(ay.new (ev.mono n.size):ay _ (S.size+1));have fT:af (I.size+1) (S.size+1):=af.new q.lt;have fU:T 0 I.size (S.size+1):=T.new n.size;replace d:=d.M bs;replace aL:=aL.M bs;replace an:=an.M bs;replace q:=q.M bs;replace n:=n.bc bs;have d5:=bs.size;replace cJ:Var 186 bC S.size ([.slice none 0 0,.slice none 0 0,.slice none 0 0]):=cJ;refine o.ak ?_;refine be (G.L (fun eo=>?_));refine o.v1 (Y.ai q.N rfl ka rfl db) ?_;refine o.v1 (ar (q.N.drop 1) eD) ?_;refine o.v1 (bb an dc) ?_;refine o.ak ?_;refine eo ?_
    refine G.cut (fun(sz:(Nat))=>[(0,ptr b),(1,aI p),(5,.pointer (some ⟨I.size,0,none⟩)),(7,ptr S.size),(8,.int .i64 (B.look p:Int)),(9,.int .i64 (0)),(10,.int .i64 (sz:Int))])
     (fun(sz:(Nat)) (H:Heap)=>(sz=(x.1.on (B.dp p) x.1.d.length).length)∧((B.dp p).length≤274877906945)∧aj bC H) (fun _ c3 _=>?_) ?_
    ·
     have cS:aj bC bC:=W.refl _ _;refine G.L (fun ep=>?_);refine o.v1 (Y.ai q.N rfl ka rfl cX) ?_;refine o.v1 (ar q.N dA) (o.nil (ep ?_));refine cK (fun a4=>?_) (fun a4=>?_)
     ·
      refine G.region ?_;refine o.ax 2 ?_;refine o.v1 bD ?_;refine o.ak ?_;refine aP.sub (c3 ((B.dp p).length+x.1.d.length) _ ?_) ⟨rfl,rfl,rfl,rfl,(aD (by omega)),(aD (by omega)),(aD (by omega)),trivial⟩;exact⟨by rw[nX,if_pos a4],by first|(rw[Z];omega)|(rw[Z];simp),cS⟩
     ·
      refine G.skip ?_;refine aP.sub (c3 x.1.d.length _ ?_) ⟨rfl,rfl,rfl,rfl,(aD (by omega)),(aD (by omega)),(aD (by omega)),trivial⟩;exact⟨by rw[nX,if_neg (by simpa using a4)];omega,by first|(rw[Z];omega)|(rw[Z];simp),cS⟩
    ·
     intro sz bz b6;obtain⟨cw,gd,aB⟩:=b6;replace d:=d.M aB;replace aL:=aL.M aB;replace an:=an.M aB;replace q:=q.M aB;replace cJ:=cJ.M aB;replace n:=n.bc aB;have d6:=aB.size;have gb:=ba.us;have ga:sz≤274877906945+274877906944:=by rw[cw,nX];split<;>omega
     refine G.t2 (fun dF c4=>G.aB (fun dG _ c8=>G.L (fun dH=>?_)));refine o.ax 3 ?_;refine o.v1 (Y.ai d.aS.N rfl hd rfl b0) ?_;refine o.v1 (ar (d.aS.N.drop 1) cj) ?_;refine o.v1 eY ?_;refine o.ak ?_;refine dH ?_;refine aU (fun b7=>?_) (fun b7=>?_)
     ·
      refine G.L (fun dI=>?_);refine o.ak ?_;refine dI ?_;refine G.ret (c8 (c4 (bc ?_)));have aA:B.hN p x.1=5:=sG bo (by omega);exact⟨_,_,by rw[al,aA];rfl,by rw[al];simp only[aA];exact d,aX,n⟩
     ·
      refine G.t1 (fun dJ=>?_);refine dx (fun t=>aj bz t) [] ?_;have X:=aj.refl bz;refine O.V 0 rfl X ?_;refine O.V 2 rfl X ?_;refine O.V 4 rfl X ?_;refine O.V 6 rfl X ?_;refine O.bH 7 rfl X ?_;refine O.t1 8 rfl (fun t j=>Y.ai (d.aS.N.M j) rfl hd rfl b0) X ?_;refine O.t1 9 rfl (fun t j=>ar ((d.aS.N.drop 0).M j) cj) X ?_;refine O.aX 1 ?_;refine cf vp (zC _ _ b B w0 _ d ba.ak (by omega)) (fun fu cb b8=>?_);obtain⟨rfl,am⟩:=b8;replace d:=d.M am;replace aL:=aL.M am;replace an:=an.M am;replace q:=q.M am;replace cJ:=cJ.M am;replace n:=n.bc am;have d7:=am.size;have bZ:=X.L am;refine O.cc bZ ?_;have aS:=aj.refl cb;refine O.t1 3 rfl (fun t j=>fH) aS ?_;refine O.t1 5 rfl (fun t j=>bD) aS ?_;refine O.t1 10 rfl (fun t j=>eY) aS ?_;refine O.t1 11 rfl (fun t j=>ej) aS ?_;refine cx ?_;have f_:=aS;refine dJ ?_;refine aU (fun b_=>?_) (fun b_=>?_)
      ·
       refine G.L (fun dK=>?_);refine o.ak ?_;refine dK ?_;refine G.ret (c8 (c4 (bc ?_)));have aA:B.hN p x.1=12:=qx bo (by omega) (by omega);exact⟨_,_,by rw[al,aA];rfl,by rw[al];simp only[aA];exact d,aX,n⟩
      ·
       refine G.skip (dG (dF (G.t1 (fun dL=>G.L (fun er=>?_)))));refine o.V ?_;refine o.v1 b9 (o.nil (er ?_));refine aU (fun cg=>?_) (fun cg=>?_)
       ·
        have fW:=d.len;refine G.region ?_;refine o.ax 2 ?_;refine aW nw (nz bk p w0 _ aL (c1.mono (by omega)) dv) (fun d8 d9 fw=>?_);obtain⟨rfl,bt⟩:=fw;replace d:=d.M bt;replace an:=an.M bt;replace q:=q.M bt;replace cJ:=cJ.M bt;replace n:=n.bc bt;have gK:=bt.size;refine o.ax 2 ?_;refine o.v1 (Y.cast (v2:= .agg (ib (g1.fb++[S.size]) ⟨[],p,some B.fs.length⟩).toArray) (Y.build (v:= .agg #[aI [],aI p,ptr S.size]) rfl rfl (by intro w;kernel_rfl)) (by simp[ib,lq,List.getD,←d.len])) ?_;have fe:=az.cons (fS) (dp);have c9:ah (I.size+1) ((S.size+1)::K):=ah.cons (fT) (bT);have c_:=aZ.cons (fU) (aX);replace d:=d.Fi cJ (fR);have bu:=d.aB;refine aW vo (vH ((S.size+1)::K) {g1 with ρ:=fA g1.ρ S.size (.fu B.fs.length),fb:=g1.fb++[S.size]} b {B with fs:=B.fs++[⟨[],[],[]⟩]} (cr p) ⟨[],p,some B.fs.length⟩ w0 _ d (by show g1.cF.length+1≤B.ops;rw[fK.2.2.2];omega) (by simp[dN.dir]) (fun i cu=>by cases cu;exact⟨rfl,by simp⟩) (fun h=>absurd rfl h) (by have:=ba.dK;show B.log.length≤_;omega)) (fun gP fx fy=>?_);have ff:=q.lt;obtain⟨aR,ck,rfl,d,cU,ce,bK⟩:=fy;have a5:ah (I.size+1) aR:=ah.hk (c9) ff cU;have da:aZ K I.size aR:=aZ.L (c_) cU n.size;replace an:=an.ab bK (fe);replace q:=q.ab bK (c9);replace n:=n.aJ bK (ag.cH (c_) (by intro k ak;simp[ak]));have gQ:=bK.size;have bu:=d.aB;obtain⟨i,bw⟩:∃i,i=B.fs.length:=⟨_,rfl⟩;have aQ:i<(gG B p).fs.length:=by rw[bw];exact xx B p
        have fV:ck.fb.getD i 0=S.size:=by rw[ce,bw];simp[List.getD,←fW]
        obtain⟨bi,ae,a8⟩:∃bi,ck.fb.getD i 0=bi∧ptr S.size=ptr bi:=⟨_,fV,rfl⟩;have cv:(b5 (gG B p).fs i).now=B.dp p:=by rw[bw,xw,Z]
        have cz:(b5 (gG B p).fs i).w.length≤274877906945:=by rw[bw,xw];simp
        replace d:bn aR ck fx b (gG B p):=d;refine o.nil (dL (G.L (fun fg=>?_)));refine o.v1 (Y.ai q.N rfl ka rfl db) ?_;refine o.v1 (ar (q.N.drop 1) eD) ?_;refine aW nx (mF _ x.1.d w0 _ an.any (by omega)) (fun fB fC cm=>?_);obtain⟨bd,R,rfl,C,bg,a7⟩:=cm;have de:ah R aR:=ah.oy (ah.kb) d.aB bg;have dU:af (I.size+1) R:=af.app (af.z) q.lt bg;have ci:T 0 I.size R:=T.L (T.refl 0 _) bg n.size;replace d:=d.M a7;replace q:=q.M a7;replace n:=n.bc a7;have gR:=a7.size;have dC:=C.le;refine o.v1 (Y.ai q.N rfl ka rfl db) ?_;refine o.s1 (dj q 1 ([.bool x.1.b,bd.v]) (rfl) db (by simp) (rfl)) fun V b1=>?_;obtain⟨q,aF⟩:=b1;replace aF:=aF.bs;replace d:=d.ab aF (ez.cons a5 ez.nil);replace C:=C.ab aF (ah.J dU.symm);replace n:=n.aJ aF (ag.J (aq.q dm));have gl:=aF.size;refine o.nil (fg (G.t1 (fun fh=>?_)));obtain⟨cH,cL,cN,gf,gg,a_⟩:=d.fu i aQ;have M:W (aE [(bi+1)]) V V:=W.refl _ _;have cA:gM aR (bi+1):=(d.oS a_ ae);have A:=a_.oA ae;have bS:=A.lt;have fi:af (I.size+1) (bi+1):=ah.at (a5) cA;have fj:af R (bi+1):=ah.at (de) cA;have fk:aq K I.size (bi+1):=ag.at (ag.cH (da) (by intro k ak;simp[ak])) cA;have fl:=T.refl (bi+1) V.size;refine dx (fun t=>aj V t) [11,12,13,14] ?_;have L:aj V V:=W.refl _ _;refine O.t1 0 rfl (fun t j=>Y.cast (v2:=ptr bi) fc (a8)) L ?_;refine O.t1 1 rfl (fun t j=>aT (q.N.M j) pK qZ (rfl)) L ?_;refine O.t1 2 rfl (fun t j=>Y.cast (v2:=ptr bi) fc (a8)) L ?_;refine O.bH 3 rfl L ?_;refine O.t1 4 rfl (fun t j=>Y.ai (A.N.M j) rfl jm rfl lC) L ?_;refine O.t1 5 rfl (fun t j=>Y.ai (A.N.M j) rfl lG rfl db) L ?_;refine O.t1 6 rfl (fun t j=>ar (A.N.M j) eD) L ?_;refine O.t1 7 rfl (fun t j=>Y.ai (q.N.M j) rfl ka rfl db) L ?_;refine O.t1 8 rfl (fun t j=>ar ((q.N.drop 1).M j) eD) L ?_;refine O.t1 9 rfl (fun t j=>bb (C.rd.M j) dc) L ?_;refine O.aX 10 ?_;refine cf vd (xZ (x.1,bd) cH _ x.1.d.length w0 _ C.rd.any a_.aA.any (Nat.le_refl _) (by rw[cv];omega)) (fun fD co cn=>?_);obtain⟨ct,Q,rfl,a6,aJ,ab⟩:=cn;have fm:af (I.size+1) Q:=af.app (af.z) q.lt aJ;have cs:af R Q:=af.app (af.z) C.le aJ;have fo:af (bi+1) Q:=af.app (af.z) A.lt aJ;have bm:T 0 I.size Q:=T.L (T.refl 0 _) aJ n.size;have dr:T 0 V.size Q:=T.L (T.refl 0 _) aJ M.size;have fp:T 0 V.size Q:=T.L (T.refl 0 _) aJ L.size;replace q:=q.M ab;replace C:=C.M ab;replace A:=A.M ab;replace n:=n.bc ab;replace M:=M.bc ab;replace L:=L.L ab;have gm:=ab.size;have dD:=a6.le;refine⟨.inr L,O.narrow (SH2:=fun t=>W (aE [Q]) co t) (fun t j=>(W.aJ (ks:=[]) (L.kU []) j (ag.J (aq.q fp))).nil) ?_⟩;refine O.aX 11 ?_;refine hg rfl (Y.nilCheck rfl rfl) (.inl rfl) ?_;refine O.aX 12 ?_;refine hg rfl (Y.ai A.N rfl jm rfl lC) (.inl rfl) ?_;refine O.aX 13 ?_;refine hg rfl (Y.ai A.N rfl lG rfl db) (.inl rfl) ?_;refine O.aX 14 ?_;refine gL rfl (dj A 0 ([ct.v,cL.v,cN.v]) (rfl) db (by simp) (rfl)) (fun P bU=>?_);obtain⟨A,ac⟩:=bU;replace ac:=ac.bs;replace q:=q.ab ac (ah.J fi);replace C:=C.ab ac (ah.J fj);replace a6:=a6.ab ac (ah.J fo.symm);replace n:=n.aJ ac (ag.cons (fk) ag.nil);replace M:=M.aJ ac (ag.J (aq.r fl));have gn:=ac.size;refine⟨.inl rfl,?_⟩;refine cx ?_;have fq:ah (I.size+1) (Q::aR):=(ah.cons (fm) (a5));have bQ:ah R (Q::aR):=(ah.cons (cs) (de));have bR:aZ K I.size (Q::aR):=(aZ.cons (bm) (da));replace d:=d.wM aQ a_ ae M A a6 (ah.qO d.aB (dr));have bu:=d.aB;refine fh (G.t1 (fun fr=>?_));have bl:=aQ;rw[←sq]at bl;obtain⟨cI,cM,gj,N,cG,ai⟩:=d.fu i bl;have fX:cG.length≤274877906945:=by have bF:=congrArg List.length ai.lw;rw[List.length_map,oM aQ]at bF;rw[bF];exact cz
        have M:W (aE [(bi+1),N]) P P:=W.refl _ _;have dz:gM (Q::aR) (bi+1):=(d.oS ai ae);have A:=ai.oA ae;have bS:=A.lt;have ft:af R (bi+1):=ah.at (bQ) dz;have eJ:aq K I.size (bi+1):=ag.at (ag.cH (bR) (by intro k ak;simp[ak])) dz;have eK:=T.refl (bi+1) P.size;have bP:gM (Q::aR) N:=(d.mT ai.jl (by simp));have hw:=ai.hw;have bV:=hw.le;have eM:af (I.size+1) N:=ah.at (fq) bP;have br:af R N:=ah.at (bQ) bP;have eN:aq K I.size N:=ag.at (ag.cH (bR) (by intro k ak;simp[ak])) bP;have df:=T.refl N P.size;have bL:af (bi+1) N:=ai.ne ae;refine dx (fun t=>W (aE [N]) P t) [8,9,10] ?_;have E:W (aE [N]) P P:=W.refl _ _;have eO:=T.refl N P.size;refine O.t1 0 rfl (fun t j=>Y.cast (v2:=ptr bi) fc (a8)) E ?_;refine O.t1 1 rfl (fun t j=>Y.cast (v2:=ptr bi) fc (a8)) E ?_;refine O.bH 2 rfl E ?_;refine O.t1 3 rfl (fun t j=>Y.fieldAddr (A.ab j (ah.J bL)).N rfl jm rfl rfl ma (by decide) rfl) E ?_;refine O.t1 4 rfl (fun t j=>ar ((A.ab j (ah.J bL)).N.drop 2) ur) E ?_;refine O.t1 5 rfl (fun t j=>Y.nP (q.ab j (ah.J eM)).N rfl pK qZ (rfl) rfl) E ?_;refine O.aX 6 ?_;refine et rfl (cT _ ([(x.1,bd)]) qt qf qg (rfl)) (fun fE aa cc=>?_);obtain⟨a9,ap,eP,b4⟩:=cc;have ew:aa.size=P.size+1:=by rw[b4];simp
        have eQ:T 0 P.size (P.size+1):=T.new E.size;replace C:=C.M ap;replace A:=A.M ap;replace hw:=hw.M ap;replace n:=n.bc ap;replace M:=M.bc ap;replace E:=E.bc ap;have gp:=ap.size;refine O.b3 E (ag.cons (aq.r eO) (ag.J (aq.q eQ))) ?_;have E:W (aE [N,(P.size+1)]) aa aa:=W.refl _ _;have dg:=T.refl N aa.size;have eR:=T.refl (P.size+1) aa.size;refine O.aX 7 ?_;refine et rfl (dQ hw a9.rd qt (by first|omega|(simp;omega)) (by first|omega|(simp;omega))) (fun bj eS cd=>?_);obtain⟨aO,hw,aK,au⟩:=cd;replace aK:T N aa.size aO:=aK;replace au:=au.md;have eT:af R aO:=af.app (br) C.le aK;have eW:af (bi+1) aO:=af.app (bL) A.lt aK;have bv:T N P.size aO:=T.L (df) aK M.size;have eX:T N aa.size aO:=T.L (dg) aK E.size;replace C:=C.ab au (ah.J br);replace A:=A.ab au (ah.J bL);replace n:=n.aJ au (ag.cons (eN) ag.nil);replace M:=M.aJ au (ag.J (aq.r df));replace E:=E.aJ au (ag.J (aq.r dg));have gq:=au.size;have bV:=hw.le;refine O.b3 E (ag.cons (aq.r eX) (ag.J (aq.r eR))) ?_;refine O.aX 8 ?_;refine hg rfl (Y.nilCheck rfl rfl) (.inl rfl) ?_;refine O.aX 9 ?_;refine hg rfl (Y.ai A.N rfl jm rfl ma) (.inl rfl) ?_;refine O.aX 10 ?_;refine gL rfl (dj A 2 ([cI.v,cM.v,bj]) (hw.rd.o9) ma (by simp) (rfl)) (fun eu bX=>?_);obtain⟨A,ad⟩:=bX;replace ad:=ad.bs;replace C:=C.ab ad (ah.J ft);replace hw:=hw.ab ad (ah.J eW.symm);replace n:=n.aJ ad (ag.cons (eJ) ag.nil);replace M:=M.aJ ad (ag.J (aq.r eK));have gr:=ad.size;refine⟨.inl rfl,?_⟩;refine cx ?_;obtain⟨gh,rfl⟩:∃s:aN,bj=s.v:=⟨cl bj,hw.bl.symm⟩;have eZ:aZ K I.size (R::(aO::(Q::aR))):=(aZ.cons (ci) ((aZ.app (bR) (bP) (bv) (by omega))));replace d:=d.wR bl ai ae M A hw (bv) C (ah.cons (eT) (bQ));have bu:=d.aB;refine fr (G.L (fun e0=>?_));refine o.ak ?_;refine e0 ?_;refine G.ret (bc ?_);have bE:B.hN p x.1=0:=oT bo (by omega) (by omega);exact⟨_,_,by rw[al,bE];rfl,by rw[al];simp only[bE,if_true];first|(rw[←zO aY aQ];rw[←Z]at d;exact d)|(rw[←zN aY];subst bw;exact d),eZ,n⟩
       ·
        exfalso;omega
   ·
    have bI:B.look p=0:=by
     rcases dw with h|h|h
     ·exact h
     ·rw[if_neg (by omega)]at bY;cases bY
     ·omega
    obtain⟨bo,i,aY⟩:=qA bI;have aQ:=d.ids.1 p i aY;have Z:=zD aY;obtain⟨bi,ae,a8⟩:∃bi,g1.fb.getD i 0=bi∧ .pointer (lq g1.fb (if B.look p=0 then aM B.now p else none))=ptr bi:=⟨_,rfl,by rw[if_pos bI,aY];rfl⟩;have cv:=Z.symm;have fY:=ba.M i;have gW:(B.dp p).length≤274877906945:=by rw[Z];exact fY
    have cz:=ba.w i;obtain⟨gZ,g_,ha,gX,gY,bN⟩:=d.fu i aQ;refine G.region ?_;refine o.v1 (Y.cast (v2:=hZ g1.fb i) fc (by rw[if_pos bI,aY];rfl)) ?_;refine o.bH ?_;refine o.v1 (Y.ai bN.cJ.N rfl jm rfl lC) ?_;refine o.v1 (Y.ai (bN.cJ.N.drop 0) rfl lG rfl db) ?_;refine o.v1 (ar ((bN.cJ.N.drop 0).drop 0) eD) ?_;refine o.v1 (Y.cast (v2:= .int .i64 ((B.dp p).length:Int)) (bb bN.aA dc) (by rw[Z])) ?_;refine o.ak ?_;refine be (G.L (fun e1=>?_));refine o.v1 (Y.ai q.N rfl ka rfl db) ?_;refine o.v1 (ar (q.N.drop 1) eD) ?_;refine o.v1 (bb an dc) ?_;refine o.ak ?_;refine e1 ?_
    refine G.cut (fun(sz:(Nat))=>[(0,ptr b),(1,aI p),(5,.pointer (some ⟨I.size,0,none⟩)),(7,.pointer (lq g1.fb (if B.look p=0 then aM B.now p else none))),(8,.int .i64 (B.look p:Int)),(9,.int .i64 ((B.dp p).length:Int)),(10,.int .i64 (sz:Int))])
     (fun(sz:(Nat)) (H:Heap)=>(sz=(x.1.on (B.dp p) x.1.d.length).length)∧((B.dp p).length≤274877906945)∧aj S H) (fun _ dh _=>?_) ?_
    ·
     have cV:aj S S:=W.refl _ _;refine G.L (fun e2=>?_);refine o.v1 (Y.ai q.N rfl ka rfl cX) ?_;refine o.v1 (ar q.N dA) (o.nil (e2 ?_));refine cK (fun a4=>?_) (fun a4=>?_)
     ·
      refine G.region ?_;refine o.ax 2 ?_;refine o.v1 bD ?_;refine o.ak ?_;refine aP.sub (dh ((B.dp p).length+x.1.d.length) _ ?_) ⟨rfl,rfl,rfl,rfl,(aD (by omega)),(aD (by omega)),(aD (by omega)),trivial⟩;exact⟨by rw[nX,if_pos a4],by first|(rw[Z];omega)|(rw[Z];simp),cV⟩
     ·
      refine G.skip ?_;refine aP.sub (dh x.1.d.length _ ?_) ⟨rfl,rfl,rfl,rfl,(aD (by omega)),(aD (by omega)),(aD (by omega)),trivial⟩;exact⟨by rw[nX,if_neg (by simpa using a4)];omega,by first|(rw[Z];omega)|(rw[Z];simp),cV⟩
    ·
     intro sz bz b6;obtain⟨cw,gd,aB⟩:=b6;replace d:=d.M aB;replace an:=an.M aB;replace q:=q.M aB;replace n:=n.bc aB;have gu:=aB.size;have gb:=ba.us;have ga:sz≤274877906945+274877906944:=by rw[cw,nX];split<;>omega
     refine G.t2 (fun e3 di=>G.aB (fun e4 _ cZ=>G.L (fun e5=>?_)));refine o.ax 3 ?_;refine o.v1 (Y.ai d.aS.N rfl hd rfl b0) ?_;refine o.v1 (ar (d.aS.N.drop 1) cj) ?_;refine o.v1 eY ?_;refine o.ak ?_;refine e5 ?_;refine aU (fun b7=>?_) (fun b7=>?_)
     ·
      refine G.L (fun e6=>?_);refine o.ak ?_;refine e6 ?_;refine G.ret (cZ (di (bc ?_)));have aA:B.hN p x.1=5:=sG bo (by omega);exact⟨_,_,by rw[al,aA];rfl,by rw[al];simp only[aA];exact d,aX,n⟩
     ·
      refine G.t1 (fun e7=>?_);refine dx (fun t=>aj bz t) [] ?_;have X:=aj.refl bz;refine O.V 0 rfl X ?_;refine O.V 2 rfl X ?_;refine O.V 4 rfl X ?_;refine O.V 6 rfl X ?_;refine O.bH 7 rfl X ?_;refine O.t1 8 rfl (fun t j=>Y.ai (d.aS.N.M j) rfl hd rfl b0) X ?_;refine O.t1 9 rfl (fun t j=>ar ((d.aS.N.drop 0).M j) cj) X ?_;refine O.aX 1 ?_;refine cf vp (zC _ _ b B w0 _ d ba.ak (by omega)) (fun fu cb b8=>?_);obtain⟨rfl,am⟩:=b8;replace d:=d.M am;replace an:=an.M am;replace q:=q.M am;replace n:=n.bc am;have gv:=am.size;have bZ:=X.L am;refine O.cc bZ ?_;have aS:=aj.refl cb;refine O.t1 3 rfl (fun t j=>fH) aS ?_;refine O.t1 5 rfl (fun t j=>bD) aS ?_;refine O.t1 10 rfl (fun t j=>eY) aS ?_;refine O.t1 11 rfl (fun t j=>ej) aS ?_;refine cx ?_;have f_:=aS;refine e7 ?_;refine aU (fun b_=>?_) (fun b_=>?_)
      ·
       refine G.L (fun e8=>?_);refine o.ak ?_;refine e8 ?_;refine G.ret (cZ (di (bc ?_)));have aA:B.hN p x.1=12:=qx bo (by omega) (by omega);exact⟨_,_,by rw[al,aA];rfl,by rw[al];simp only[aA];exact d,aX,n⟩
      ·
       refine G.skip (e4 (e3 (G.t1 (fun e9=>G.L (fun e_=>?_)))));refine o.V ?_;refine o.v1 b9 (o.nil (e_ ?_));refine aU (fun cg=>?_) (fun cg=>?_)
       ·
        exfalso;omega
       ·
        refine G.skip (e9 (G.L (fun ey=>?_)));refine o.v1 (Y.ai q.N rfl ka rfl db) ?_;refine o.v1 (ar (q.N.drop 1) eD) ?_;refine aW nx (mF _ x.1.d w0 _ an.any (by omega)) (fun fB fC cm=>?_);obtain⟨bd,R,rfl,C,bg,a7⟩:=cm;have c0:ah R K:=ah.oy (ah.kb) d.aB bg;have eA:af (I.size+1) R:=af.app (af.z) q.lt bg;have eB:T 0 I.size R:=T.L (T.refl 0 _) bg n.size;replace d:=d.M a7;replace q:=q.M a7;replace n:=n.bc a7;have gx:=a7.size;have dC:=C.le;refine o.v1 (Y.ai q.N rfl ka rfl db) ?_;refine o.s1 (dj q 1 ([.bool x.1.b,bd.v]) (rfl) db (by simp) (rfl)) fun V b1=>?_;obtain⟨q,aF⟩:=b1;replace aF:=aF.bs;replace d:=d.ab aF (ez.cons bT ez.nil);replace C:=C.ab aF (ah.J eA.symm);replace n:=n.aJ aF (ag.J (aq.q dm));have gz:=aF.size;refine o.nil (ey (G.t1 (fun dE=>?_)));obtain⟨cH,cL,cN,gf,gg,a_⟩:=d.fu i aQ;have M:W (aE [(bi+1)]) V V:=W.refl _ _;have cC:gM K (bi+1):=(d.oS a_ ae);have A:=a_.oA ae;have bS:=A.lt;have eC:af (I.size+1) (bi+1):=ah.at (bT) cC;have eE:af R (bi+1):=ah.at (c0) cC;have eF:aq K I.size (bi+1):=ag.at (ag.cH (aX) (by intro k ak;simp[ak])) cC;have cy:=T.refl (bi+1) V.size;refine dx (fun t=>aj V t) [11,12,13,14] ?_;have L:aj V V:=W.refl _ _;refine O.t1 0 rfl (fun t j=>Y.cast (v2:=ptr bi) fc (a8)) L ?_;refine O.t1 1 rfl (fun t j=>aT (q.N.M j) pK qZ (rfl)) L ?_;refine O.t1 2 rfl (fun t j=>Y.cast (v2:=ptr bi) fc (a8)) L ?_;refine O.bH 3 rfl L ?_;refine O.t1 4 rfl (fun t j=>Y.ai (A.N.M j) rfl jm rfl lC) L ?_;refine O.t1 5 rfl (fun t j=>Y.ai (A.N.M j) rfl lG rfl db) L ?_;refine O.t1 6 rfl (fun t j=>ar (A.N.M j) eD) L ?_;refine O.t1 7 rfl (fun t j=>Y.ai (q.N.M j) rfl ka rfl db) L ?_;refine O.t1 8 rfl (fun t j=>ar ((q.N.drop 1).M j) eD) L ?_;refine O.t1 9 rfl (fun t j=>bb (C.rd.M j) dc) L ?_;refine O.aX 10 ?_;refine cf vd (xZ (x.1,bd) cH _ x.1.d.length w0 _ C.rd.any a_.aA.any (Nat.le_refl _) (by rw[cv];omega)) (fun fD co cn=>?_);obtain⟨ct,Q,rfl,a6,aJ,ab⟩:=cn;have dM:af (I.size+1) Q:=af.app (af.z) q.lt aJ;have dO:af R Q:=af.app (af.z) C.le aJ;have dP:af (bi+1) Q:=af.app (af.z) A.lt aJ;have dR:T 0 I.size Q:=T.L (T.refl 0 _) aJ n.size;have dS:T 0 V.size Q:=T.L (T.refl 0 _) aJ M.size;have dT:T 0 V.size Q:=T.L (T.refl 0 _) aJ L.size;replace q:=q.M ab;replace C:=C.M ab;replace A:=A.M ab;replace n:=n.bc ab;replace M:=M.bc ab;replace L:=L.L ab;have gA:=ab.size;have dD:=a6.le;refine⟨.inr L,O.narrow (SH2:=fun t=>W (aE [Q]) co t) (fun t j=>(W.aJ (ks:=[]) (L.kU []) j (ag.J (aq.q dT))).nil) ?_⟩;refine O.aX 11 ?_;refine hg rfl (Y.nilCheck rfl rfl) (.inl rfl) ?_;refine O.aX 12 ?_;refine hg rfl (Y.ai A.N rfl jm rfl lC) (.inl rfl) ?_;refine O.aX 13 ?_;refine hg rfl (Y.ai A.N rfl lG rfl db) (.inl rfl) ?_;refine O.aX 14 ?_;refine gL rfl (dj A 0 ([ct.v,cL.v,cN.v]) (rfl) db (by simp) (rfl)) (fun P bU=>?_);obtain⟨A,ac⟩:=bU;replace ac:=ac.bs;replace q:=q.ab ac (ah.J eC);replace C:=C.ab ac (ah.J eE);replace a6:=a6.ab ac (ah.J dP.symm);replace n:=n.aJ ac (ag.cons (eF) ag.nil);replace M:=M.aJ ac (ag.J (aq.r cy));have gB:=ac.size;refine⟨.inl rfl,?_⟩;refine cx ?_;have dV:ah (I.size+1) (Q::K):=(ah.cons (dM) (bT));have b2:ah R (Q::K):=(ah.cons (dO) (c0));have b3:aZ K I.size (Q::K):=(aZ.cons (dR) (aX));replace d:=d.wM aQ a_ ae M A a6 (ah.qO d.aB (dS));have bu:=d.aB;refine dE (G.t1 (fun eG=>?_));have bl:=aQ;rw[←sq]at bl;obtain⟨cI,cM,gj,N,cG,ai⟩:=d.fu i bl;have fX:cG.length≤274877906945:=by have bF:=congrArg List.length ai.lw;rw[List.length_map,oM aQ]at bF;rw[bF];exact cz
        have M:W (aE [(bi+1),N]) P P:=W.refl _ _;have dy:gM (Q::K) (bi+1):=(d.oS ai ae);have A:=ai.oA ae;have bS:=A.lt;have dX:af R (bi+1):=ah.at (b2) dy;have dZ:aq K I.size (bi+1):=ag.at (ag.cH (b3) (by intro k ak;simp[ak])) dy;have d_:=T.refl (bi+1) P.size;have bO:gM (Q::K) N:=(d.mT ai.jl (by simp));have hw:=ai.hw;have bV:=hw.le;have ea:af (I.size+1) N:=ah.at (dV) bO;have cW:af R N:=ah.at (b2) bO;have eb:aq K I.size N:=ag.at (ag.cH (b3) (by intro k ak;simp[ak])) bO;have a0:=T.refl N P.size;have bJ:af (bi+1) N:=ai.ne ae;refine dx (fun t=>W (aE [N]) P t) [8,9,10] ?_;have E:W (aE [N]) P P:=W.refl _ _;have ec:=T.refl N P.size;refine O.t1 0 rfl (fun t j=>Y.cast (v2:=ptr bi) fc (a8)) E ?_;refine O.t1 1 rfl (fun t j=>Y.cast (v2:=ptr bi) fc (a8)) E ?_;refine O.bH 2 rfl E ?_;refine O.t1 3 rfl (fun t j=>Y.fieldAddr (A.ab j (ah.J bJ)).N rfl jm rfl rfl ma (by decide) rfl) E ?_;refine O.t1 4 rfl (fun t j=>ar ((A.ab j (ah.J bJ)).N.drop 2) ur) E ?_;refine O.t1 5 rfl (fun t j=>Y.nP (q.ab j (ah.J ea)).N rfl pK qZ (rfl) rfl) E ?_;refine O.aX 6 ?_;refine et rfl (cT _ ([(x.1,bd)]) qt qf qg (rfl)) (fun fE aa cc=>?_);obtain⟨a9,ap,eP,b4⟩:=cc;have ew:aa.size=P.size+1:=by rw[b4];simp
        have ed:T 0 P.size (P.size+1):=T.new E.size;replace C:=C.M ap;replace A:=A.M ap;replace hw:=hw.M ap;replace n:=n.bc ap;replace M:=M.bc ap;replace E:=E.bc ap;have gC:=ap.size;refine O.b3 E (ag.cons (aq.r ec) (ag.J (aq.q ed))) ?_;have E:W (aE [N,(P.size+1)]) aa aa:=W.refl _ _;have a2:=T.refl N aa.size;have ee:=T.refl (P.size+1) aa.size;refine O.aX 7 ?_;refine et rfl (dQ hw a9.rd qt (by first|omega|(simp;omega)) (by first|omega|(simp;omega))) (fun bj eS cd=>?_);obtain⟨aO,hw,aK,au⟩:=cd;replace aK:T N aa.size aO:=aK;replace au:=au.md;have ef:af R aO:=af.app (cW) C.le aK;have eg:af (bi+1) aO:=af.app (bJ) A.lt aK;have a3:T N P.size aO:=T.L (a0) aK M.size;have eh:T N aa.size aO:=T.L (a2) aK E.size;replace C:=C.ab au (ah.J cW);replace A:=A.ab au (ah.J bJ);replace n:=n.aJ au (ag.cons (eb) ag.nil);replace M:=M.aJ au (ag.J (aq.r a0));replace E:=E.aJ au (ag.J (aq.r a2));have gD:=au.size;have bV:=hw.le;refine O.b3 E (ag.cons (aq.r eh) (ag.J (aq.r ee))) ?_;refine O.aX 8 ?_;refine hg rfl (Y.nilCheck rfl rfl) (.inl rfl) ?_;refine O.aX 9 ?_;refine hg rfl (Y.ai A.N rfl jm rfl ma) (.inl rfl) ?_;refine O.aX 10 ?_;refine gL rfl (dj A 2 ([cI.v,cM.v,bj]) (hw.rd.o9) ma (by simp) (rfl)) (fun eu bX=>?_);obtain⟨A,ad⟩:=bX;replace ad:=ad.bs;replace C:=C.ab ad (ah.J dX);replace hw:=hw.ab ad (ah.J eg.symm);replace n:=n.aJ ad (ag.cons (dZ) ag.nil);replace M:=M.aJ ad (ag.J (aq.r d_));have gE:=ad.size;refine⟨.inl rfl,?_⟩;refine cx ?_;obtain⟨gh,rfl⟩:∃s:aN,bj=s.v:=⟨cl bj,hw.bl.symm⟩;have ei:aZ K I.size (R::(aO::(Q::K))):=(aZ.cons (eB) ((aZ.app (b3) (bO) (a3) (by omega))));replace d:=d.wR bl ai ae M A hw (a3) C (ah.cons (ef) (b2));have bu:=d.aB;refine eG (G.L (fun eH=>?_));refine o.ak ?_;refine eH ?_;refine G.ret (bc ?_);have bE:B.hN p x.1=0:=oT bo (by omega) (by omega);exact⟨_,_,by rw[al,bE];rfl,by rw[al];simp only[bE,if_true];first|(rw[←zO aY aQ];rw[←Z]at d;exact d)|(rw[←zN aY];subst bw;exact d),ei,n⟩
end hH

namespace hU
open E Go.RowKit ft gd gr gN gV hi hv hH
theorem Hy{D:aG}{p:aH}(h:D.begin.1=false):D.sync p=(11,D.begin.2):=by unfold aG.sync;simp[h]
theorem tT{D:aG}{p:aH}(h:D.begin.1=true):D.sync p=(D.begin.2.look p,if D.begin.2.look p=0 then D.begin.2.tQ ((aM D.begin.2.now p).getD 0)else D.begin.2):=by unfold aG.sync;simp[h]
theorem Gk{D:aG}{p q:aH}(h:D.begin.1=false):D.rename p q=(11,D.begin.2):=by unfold aG.rename;simp[h]
theorem yq{D:aG}{p q:aH}(h:D.begin.1=true):D.rename p q=(D.begin.2.j5 p q,if D.begin.2.j5 p q=0∧p≠q then D.begin.2.change ⟨p,q,some ((aM D.begin.2.now p).getD 0)⟩else D.begin.2):=by unfold aG.rename;simp[h]
theorem yo{D:aG}{p q:aH}(h:cz p=false∨cz q=false):D.j5 p q=7:=by unfold aG.j5;rw[if_pos h]
theorem Gj{D:aG}{p q:aH}(h:cz p=true)(U:cz q=true)(d:cr p≠cr q):D.j5 p q=13:=by unfold aG.j5;rw[if_neg (by simp[h,U]),if_pos d]
theorem yp{D:aG}{p q:aH}(h:cz p=true)(U:cz q=true)(d:cr p=cr q):D.j5 p q=D.look p:=by unfold aG.j5;rw[if_neg (by simp[h,U]),if_neg (by simpa using d)]
theorem GV{D:aG}{p:aH}(h:D.begin.1=false):D.iv p=(11,D.begin.2):=by unfold aG.iv;simp[h]
theorem yP{D:aG}{p:aH}(h:D.begin.1=true):D.iv p=(ja p,if ja p=0 then D.begin.2.m9 p else D.begin.2):=by unfold aG.iv;simp[h]
theorem xQ{p:aH}(h:cz p=true):p≠[]:=((s4 p).1 h).1
theorem xn{κ β:Type}{a7:κ→Value}{fv:β→Value}(bK:Nat)(m:List (κ×β))(w0:World)(I:Heap)(h:df I a7 fv bK m):aC Tryz.prog w0 79 #[.map (some bK)] I (fun r j=>∃d:Nat,r= .map (some d)∧df j a7 fv d m∧T 0 I.size (d+1)∧aj I j):=by
 intro w i;obtain⟨r,es,clock,q,U,k,n,o⟩:=h.fo.ex;obtain rfl:=U;have aw:w.heap[r]?=some (.map es clock):=by rw[i.heap];exact k
 refine(AnyW.maps_Clone Tryz.mclone79 r es clock w aw).mono ?_;rintro e t ⟨rfl,rfl⟩;refine⟨_,I.push (.map es clock),rfl,i.alloc _,I.size,by rw[i.heap],⟨⟨I.size,es,clock,rfl,rfl,by simp,n,o⟩⟩,.inr (.inr (by omega)),aj.pu _ _⟩
set_option maxHeartbeats 2000000 in
theorem rm(bk:Int)(K:List Nat)(g:cD)(b:Nat)(D:aG)(p:aH)(i:aN)(d:List UInt8)(F:Nat→Prop)(w0:World)(I:Heap)
 (j:bn K g I b D) (aL:dY bk I) (M:bh (fun b=>b=0) I.size) (dk:az (fun b=>b=0) K) (an:Rd F I a1 1 i.v d) (L:bh F I.size) (N:az F K) (R:p.length≤4294967280) (O:gy 274877906944 D) (P:d.length≤274877906944):
 aC Tryz.prog w0 170 #[ptr b,aI p,i.v] I (fun r q=>∃bp:List Nat,∃g2:cD,r= .int .i64 ((D.lay p ⟨false,d⟩).1:Int)∧(bn bp g2 q b (D.lay p ⟨false,d⟩).2)∧(aZ K I.size bp)∧W (aE K) I q):=by
 refine aC.aK [ptr b,aI p,i.v] Tryz.func170 ?_;intro T S;have n:W (aE K) I I:=W.refl _ _;have t:=aZ.refl K I.size;have ac:=j.aB;refine G.L (fun A=>?_);refine o.ak ?_;refine A (G.seq (fun bp B _=>G.region ?_));refine o.ax 3 ?_;refine o.v1 (Y.build (v:=n8 (⟨false,d⟩,i)) rfl rfl (by intro w;kernel_rfl)) ?_;refine aW vi (xa bk K g b D p (⟨false,d⟩,i) F w0 _ j aL (M.mono (by omega)) dk an (L.mono (by omega)) N R O P) (fun V X C=>?_);obtain⟨E,au,rfl,j,x,ad⟩:=C;have H:aZ K I.size E:=aZ.L (t) x n.size;replace n:=n.aJ ad (ag.cH (t) (by intro k Q;simp[Q]));refine o.ak ?_;refine B _ _ ?_;refine G.ret (S ?_);exact⟨_,_,rfl,j,H,n⟩
set_option maxHeartbeats 2000000 in
theorem uD(bk:Int)(K:List Nat)(g:cD)(b:Nat)(D:aG)(p:aH)(i:aN)(d:List UInt8)(F:Nat→Prop)(w0:World)(I:Heap)
 (j:bn K g I b D) (aL:dY bk I) (M:bh (fun b=>b=0) I.size) (dk:az (fun b=>b=0) K) (an:Rd F I a1 1 i.v d) (L:bh F I.size) (N:az F K) (R:p.length≤4294967280) (O:gy 274877906944 D) (P:d.length≤274877906944):
 aC Tryz.prog w0 110 #[ptr b,aI p,i.v] I (fun r q=>∃bp:List Nat,∃g2:cD,r= .int .i64 ((D.lay p ⟨true,d⟩).1:Int)∧(bn bp g2 q b (D.lay p ⟨true,d⟩).2)∧(aZ K I.size bp)∧W (aE K) I q):=by
 refine aC.aK [ptr b,aI p,i.v] Tryz.func110 ?_;intro T S;have n:W (aE K) I I:=W.refl _ _;have t:=aZ.refl K I.size;have ac:=j.aB;refine G.L (fun A=>?_);refine o.ak ?_;refine A (G.seq (fun bp B _=>G.region ?_));refine o.ax 3 ?_;refine o.v1 (Y.build (v:=n8 (⟨true,d⟩,i)) rfl rfl (by intro w;kernel_rfl)) ?_;refine aW vi (xa bk K g b D p (⟨true,d⟩,i) F w0 _ j aL (M.mono (by omega)) dk an (L.mono (by omega)) N R O P) (fun V X C=>?_);obtain⟨E,au,rfl,j,x,ad⟩:=C;have H:aZ K I.size E:=aZ.L (t) x n.size;replace n:=n.aJ ad (ag.cH (t) (by intro k Q;simp[Q]));refine o.ak ?_;refine B _ _ ?_;refine G.ret (S ?_);exact⟨_,_,rfl,j,H,n⟩
set_option maxHeartbeats 2000000 in
theorem za(bk:Int)(K:List Nat)(g:cD)(b:Nat)(D:aG)(p:aH)(w0:World)(I:Heap)
 (d:bn K g I b D) (aL:dY bk I) (aP:bh (fun b=>b=0) I.size) (dk:az (fun b=>b=0) K) (aR:p.length≤4294967280) (aa:gy 274877906944 D):
 aC Tryz.prog w0 107 #[ptr b,aI p] I (fun r V=>∃bp:List Nat,∃g2:cD,r= .int .i64 ((D.sync p).1:Int)∧(bn bp g2 V b (D.sync p).2)∧(aZ K I.size bp)∧W (aE K) I V):=by
 refine aC.aK [ptr b,aI p] Tryz.func107 ?_;intro aY S;have j:W (aE K) I I:=W.refl _ _;have t:=aZ.refl K I.size;have a_:=d.aB;have bd:=aa.op;have bb:=d.iA;obtain⟨q,x⟩:∃q,q=D.begin.2:=⟨_,rfl⟩;have aQ:=aa.begin;rw[←x]at aQ;refine G.L (fun ap=>?_);refine o.ak ?_;refine ap (G.seq (fun bp aA aB=>G.L (fun aD=>?_)));refine o.V ?_;refine aW pX (pS K g b D w0 _ d (by omega)) ?_;rintro bl aX ⟨g1,rfl,d,a1,F⟩;replace aL:=aL.ab F (dk);replace j:=j.aJ F (ag.cH (t) (by intro k P;simp[P]));have a6:=F.size;rw[←x]at d;refine o.v1 eL (o.nil (aD ?_));refine cK (fun L=>?_) (fun L=>?_)
 ·
  refine G.L (fun aF=>?_);refine o.ak ?_;refine aF ?_;refine G.ret (aB .ret nofun _ _ (S ?_));have ab:=Hy (p:=p) (show D.begin.1=false by simpa using L);exact⟨_,_,by rw[ab];rfl,by rw[ab];rw[x]at d;exact d,t,j⟩
 ·
  have ae:D.begin.1=true:=by simpa using L
  have aS:=(pT ae).1;rw[←x]at aS;have A:=tT (p:=p) ae;rw[←x]at A;refine G.skip (aA _ _ (G.L (fun aJ=>?_)));refine o.ax 2 ?_;refine aW pW (qj bk K g1 b q p w0 _ aL (aP.mono (by omega)) d aR) (fun a7 H aK=>?_);obtain⟨rfl,ad⟩:=aK;replace d:=d.M ad;replace j:=j.bc ad;have a8:=ad.size;refine o.V ?_;refine o.v1 cO ?_;refine o.v1 cO ?_;refine o.aQ 2 ?_;refine aJ (G.t1 (fun X=>G.L (fun aN=>?_)));refine o.V ?_;refine o.v1 b9 (o.nil (aN ?_));refine aU (fun aO=>?_) (fun aO=>?_)
  ·
   have Q:q.look p=0:=by omega
   obtain⟨bc,i,R⟩:=qA Q;have af:=d.ids.1 p i R;obtain⟨bi,M,N⟩:∃bi,g1.fb.getD i 0=bi∧ .pointer (lq g1.fb (if q.look p=0 then aM q.now p else none))=ptr bi:=⟨_,rfl,by rw[if_pos Q,R];rfl⟩;obtain⟨E,bj,aT,bf,bg,O⟩:=d.fu i af;have B:W (aE [(bi+1)]) H H:=W.refl _ _;have nL:gM K (bi+1):=(d.oS O M);have n:=O.oA M;have Z:aq K I.size (bi+1):=ag.at (ag.cH (t) (by intro k P;simp[P])) nL;have au:=T.refl (bi+1) H.size;refine G.region ?_;refine o.v1 (Y.cast (v2:=ptr bi) fc (N)) ?_;refine o.v1 (Y.cast (v2:=ptr bi) fc (N)) ?_;refine o.v1 (Y.cast (v2:=ptr bi) fc (N)) ?_;refine o.bH ?_;refine o.v1 (Y.ai n.N rfl jm rfl lC) ?_;refine o.v1 (Y.ai n.N rfl lG rfl db) ?_;refine o.v1 (ar n.N eD) ?_;refine o.bH ?_;refine o.v1 (Y.ai n.N rfl jm rfl lC) ?_;refine o.v1 (Y.ai n.N rfl lG rfl db) ?_;refine o.s1 (dj n 1 ([E.v,E.v,aT.v]) (rfl) db (by simp) (rfl)) fun am al=>?_;obtain⟨n,C⟩:=al;replace C:=C.bs;replace j:=j.aJ C (ag.cons (Z) ag.nil);replace B:=B.aJ C (ag.J (aq.r au));refine o.bH ?_;refine o.v1 (Y.ai n.N rfl jm rfl ma) ?_;refine o.s1 (dj n 2 ([E.v,E.v,.slice none 0 0]) (rfl) ma (by simp) (rfl)) fun ba ay=>?_;obtain⟨n,ac⟩:=ay;replace ac:=ac.bs;replace j:=j.aJ ac (ag.cons (Z) ag.nil);replace B:=B.aJ ac (ag.J (aq.r au));refine o.nil ?_;have ah:aZ K I.size K:=t;replace d:=d.fsync af O M B n;refine X (G.L (fun ai=>?_));refine o.aQ 2 ?_;refine ai ?_;refine G.ret (S ?_);exact⟨_,_,by rw[A];rfl,by rw[A];simp only[Q,if_true,R,Option.getD_some];exact d,ah,j⟩
  ·
   refine G.skip (X (G.L (fun ak=>?_)));refine o.aQ 2 ?_;refine ak ?_;refine G.ret (S ?_);exact⟨_,_,by rw[A];rfl,by rw[A];rw[if_neg (by omega)];exact d,t,j⟩
set_option maxHeartbeats 2000000 in
theorem Gl(bk:Int)(K:List Nat)(g:cD)(b:Nat)(D:aG)(p q:aH)(w0:World)(I:Heap)
 (n:bn K g I b D) (aL:dY bk I) (F:bh (fun b=>b=0) I.size) (dk:az (fun b=>b=0) K) (S:p.length≤4294967280) (aF:q.length≤4294967280) (ar:gy 274877906944 D):
 aC Tryz.prog w0 174 #[ptr b,aI p,aI q] I (fun r al=>∃bp:List Nat,∃g2:cD,r= .int .i64 ((D.rename p q).1:Int)∧(bn bp g2 al b (D.rename p q).2)∧(aZ K I.size bp)∧W (aE K) I al):=by
 refine aC.aK [ptr b,aI p,aI q] Tryz.func174 ?_;intro bC E;have t:W (aE K) I I:=W.refl _ _;have B:=aZ.refl K I.size;have ap:=n.aB;have bX:=ar.op;have bV:=n.iA;obtain⟨A,N⟩:∃A,A=D.begin.2:=⟨_,rfl⟩;have ay:=ar.begin;rw[←N]at ay;refine G.L (fun aP=>?_);refine o.ak ?_;refine aP (G.seq (fun bp aQ aR=>G.L (fun aS=>?_)));refine o.V ?_;refine aW pX (pS K g b D w0 _ n (by omega)) (fun a0 a2 aT=>?_);obtain⟨g1,rfl,n,aX,T⟩:=aT;replace aL:=aL.ab T (dk);replace t:=t.aJ T (ag.cH (B) (by intro k ah;simp[ah]));have a3:=T.size;rw[←N]at n;refine o.v1 eL (o.nil (aS ?_));refine cK (fun Z=>?_) (fun Z=>?_)
 ·
  refine G.L (fun aY=>?_);refine o.ak ?_;refine aY ?_;refine G.ret (aR .ret nofun _ _ (E ?_));have aA:=Gk (p:=p) (q:=q) (show D.begin.1=false by simpa using Z);exact⟨_,_,by rw[aA];rfl,by rw[aA];rw[N]at n;exact n,B,t⟩
 ·
  have aD:D.begin.1=true:=by simpa using Z
  have bA:=(pT aD).1;rw[←N]at bA;have x:=yq (p:=p) (q:=q) aD;rw[←N]at x;refine G.skip (aQ _ _ (G.t2 (fun a1 aa=>G.aB (fun a6 _ ab=>G.L (fun aq=>?_)))));refine o.V ?_;refine aW mI (mX bk p w0 _ aL (F.mono (by omega)) S) (fun a4 a5 a7=>?_);obtain⟨rfl,O⟩:=a7;replace n:=n.M O;replace aL:=aL.M O;replace t:=t.bc O;have bD:=O.size;refine o.v1 eL ?_;refine o.V ?_;refine o.split (d:=16) rfl (fun L=>?_) (fun L=>?_)
  ·
   refine o.aQ 5 ?_;refine aq ?_;refine G.iz rfl ?_;refine G.L (fun a8=>?_);refine o.ak ?_;refine a8 ?_;refine G.ret (ab (aa (E ?_)));have C:=yo (D:=A) (p:=p) (q:=q) (by first|exact .inl (by simpa using L)|exact .inr (by simpa using M));exact⟨_,_,by rw[x,C];rfl,by rw[x,C];exact n,B,t⟩
  ·
   refine o.bU ?_;refine o.call rfl mI rfl bd rfl rfl (mX bk q w0 _ aL (F.mono (by omega)) aF) (fun bE bF a_=>?_);obtain⟨rfl,ac⟩:=a_;replace n:=n.M ac;replace aL:=aL.M ac;replace t:=t.bc ac;have a9:=ac.size;refine o.ao eL ?_;refine o.aQ 2 ?_;refine aq ?_;refine cK (fun M=>?_) (fun M=>?_)
   ·
    refine G.L (fun ba=>?_);refine o.ak ?_;refine ba ?_;refine G.ret (ab (aa (E ?_)));have C:=yo (D:=A) (p:=p) (q:=q) (by first|exact .inl (by simpa using L)|exact .inr (by simpa using M));exact⟨_,_,by rw[x,C];rfl,by rw[x,C];exact n,B,t⟩
   ·
    refine G.L (fun bo=>?_);refine o.V ?_;refine aW nw (nz bk p w0 _ aL (F.mono (by omega)) S) (fun bI bJ bb=>?_);obtain⟨rfl,ad⟩:=bb;replace n:=n.M ad;replace aL:=aL.M ad;replace t:=t.bc ad;have bK:=ad.size;refine o.V ?_;refine aW nw (nz bk q w0 _ aL (F.mono (by omega)) aF) (fun bL bT bc=>?_);obtain⟨rfl,P⟩:=bc;replace n:=n.M P;replace aL:=aL.M P;replace t:=t.bc P;have be:=P.size;refine o.v1 (Y.iT rfl rfl rfl) ?_;refine o.ak ?_;refine bo ?_;refine aU (fun ae=>?_) (fun ae=>?_)
    ·
     refine G.L (fun bq=>?_);refine o.ak ?_;refine bq ?_;refine G.ret (ab (aa (E ?_)));have C:=Gj (D:=A) (p:=p) (q:=q) (by simpa using L) (by simpa using M) (by simpa using ae);exact⟨_,_,by rw[x,C];rfl,by rw[x,C];exact n,B,t⟩
    ·
     have aB:cr p=cr q:=by simpa using ae
     have bw:cz p=true:=by simpa using L
     have bx:cz q=true:=by simpa using M
     have H:=yp (D:=A) bw bx aB;refine G.skip (a6 (a1 (G.L (fun bs=>?_))));refine o.ax 2 ?_;refine aW pW (qj bk K g1 b A p w0 _ aL (F.mono (by omega)) n S) (fun bY bN bf=>?_);obtain⟨rfl,Q⟩:=bf;replace n:=n.M Q;replace aL:=aL.M Q;replace t:=t.bc Q;have bO:=Q.size;refine o.V ?_;refine o.v1 cO ?_;refine o.v1 cO ?_;refine o.aQ 2 ?_;refine bs (G.t1 (fun V=>G.L (fun au=>?_)));refine o.V ?_;refine o.v1 b9 ?_;refine o.V ?_;refine o.bj (d:=35) rfl (fun af=>?_) (fun af=>?_)
     ·
      refine o.ax 2 ?_;refine o.ao (Y.iT rfl rfl rfl) ?_;refine o.N ?_;refine o.nil (au ?_);refine aU (fun R=>?_) (fun R=>?_)
      ·
       have ai:A.look p=0:=by omega
       obtain⟨bz,i,ak⟩:=qA ai;have bt:=n.ids.1 p i ak;refine G.region ?_;refine o.ax 2 ?_;refine aW nw (nz bk p w0 _ aL (F.mono (by omega)) S) (fun bi bP bg=>?_);obtain⟨rfl,X⟩:=bg;replace n:=n.M X;replace t:=t.bc X;have bQ:=X.size;refine o.ax 3 ?_;refine o.v1 (Y.cast (v2:= .agg (ib g1.fb ⟨p,q,some i⟩).toArray) (Y.build (v:= .agg #[aI p,aI q,.pointer (lq g1.fb (if A.look p=0 then aM A.now p else none))]) rfl rfl (by intro w;kernel_rfl)) (by rw[if_pos ai,ak])) ?_;refine aW vo (vH K g1 b A (cr p) ⟨p,q,some i⟩ w0 _ n (by rw[aX.2.2.2];omega) (by simp[dN.dir,xQ bz]) (fun j bu=>by cases bu;exact⟨aB.symm,bt⟩) (fun h=>rfl) (by have:=ay.dK;omega)) (fun bR bS bj=>?_);obtain⟨bl,bU,rfl,n,am,bG,aJ⟩:=bj;have bm:aZ K I.size bl:=aZ.L (B) am t.size;replace t:=t.aJ aJ (ag.cH (B) (by intro k ah;simp[ah]));refine o.nil (V (G.L (fun aK=>?_)));refine o.aQ 2 ?_;refine aK ?_;refine G.ret (E ?_);exact⟨_,_,by rw[x,H];rfl,by rw[x,H];rw[if_pos ⟨ai,by simpa using R⟩,ak];exact n,bm,t⟩
      ·
       refine G.skip (V (G.L (fun aN=>?_)));refine o.aQ 2 ?_;refine aN ?_;refine G.ret (E ?_);exact⟨_,_,by rw[x,H];rfl,by rw[x,H];rw[if_neg (fun h=>by first|exact af (by omega)|exact h.2 (by simpa using R))];exact n,B,t⟩
     ·
      refine o.ax 4 ?_;refine o.nil (au ?_);refine dw ?_;refine G.skip (V (G.L (fun aO=>?_)));refine o.aQ 2 ?_;refine aO ?_;refine G.ret (E ?_);exact⟨_,_,by rw[x,H];rfl,by rw[x,H];rw[if_neg (fun h=>by first|exact af (by omega)|exact h.2 (by simpa using R))];exact n,B,t⟩
set_option maxHeartbeats 2000000 in
theorem Hx(bk:Int)(K:List Nat)(g:cD)(b:Nat)(D:aG)(p:aH)(w0:World)(I:Heap)
 (j:bn K g I b D) (aL:dY bk I) (bz:bh (fun b=>b=0) I.size) (dk:az (fun b=>b=0) K) (bA:p.length≤4294967280) (aT:gy 274877906944 D):
 aC Tryz.prog w0 176 #[ptr b,aI p] I (fun r aB=>∃bp:List Nat,∃g2:cD,r= .int .i64 ((D.iv p).1:Int)∧(bn bp g2 aB b (D.iv p).2)∧(aZ K I.size bp)∧W (aE K) I aB):=by
 refine aC.aK [ptr b,aI p] Tryz.func176 ?_;intro bK S;have i:W (aE K) I I:=W.refl _ _;have F:=aZ.refl K I.size;have bO:=j.aB;have bR:=aT.op;have bQ:=j.iA;obtain⟨Q,O⟩:∃Q,Q=D.begin.2:=⟨_,rfl⟩;have al:=aT.begin;rw[←O]at al;refine G.L (fun bo=>?_);refine o.ak ?_;refine bo (G.seq (fun bp bq bs=>G.L (fun bt=>?_)));refine o.V ?_;refine aW pX (pS K g b D w0 _ j (by omega)) ?_;rintro bS bJ ⟨g1,rfl,j,aD,ai⟩;replace aL:=aL.ab ai (dk);replace i:=i.aJ ai (ag.cH (F) (by intro k C;simp[C]));have bL:=ai.size;rw[←O]at j;refine o.v1 eL (o.nil (bt ?_));refine cK (fun ak=>?_) (fun ak=>?_)
 ·
  refine G.L (fun bu=>?_);refine o.ak ?_;refine bu ?_;refine G.ret (bs .ret nofun _ _ (S ?_));have aU:=GV (p:=p) (show D.begin.1=false by simpa using ak);exact⟨_,_,by rw[aU];rfl,by rw[aU];rw[O]at j;exact j,F,i⟩
 ·
  have aX:D.begin.1=true:=by simpa using ak
  have bC:=(pT aX).1;rw[←O]at bC;have L:=yP (p:=p) aX;rw[←O]at L;refine G.skip (bq _ _ (G.t2 (fun aF bw=>G.L (fun aJ=>?_))));refine o.V ?_;refine o.v1 (Y.iT rfl rfl rfl) ?_;refine o.V ?_;refine o.bj (d:=11) rfl (fun R=>?_) (fun R=>?_)
  ·
   refine o.bU ?_;refine o.call rfl mI rfl bd rfl rfl (mX bk p w0 _ aL (bz.mono (by omega)) bA) (fun a9 bN a0=>?_);obtain⟨rfl,ae⟩:=a0;replace j:=j.M ae;replace i:=i.bc ae;have bP:=ae.size;refine o.ao eL ?_;refine o.N ?_;refine o.nil (aJ ?_);refine cK (fun N=>?_) (fun N=>?_)
   ·
    refine G.L (fun b2=>?_);refine o.ak ?_;refine b2 ?_;refine G.ret (bw (S ?_));have E:ja p=7:=by unfold ja;rw[if_pos ⟨R,by simpa using N⟩]
    exact⟨_,_,by rw[L,E];rfl,by rw[L,E];exact j,F,i⟩
   ·
    refine G.skip (aF (G.L (fun a2=>?_)));refine o.ax 2 ?_;refine aW r4 (sU K g1 b Q p w0 _ j (by rw[aD.2.2.2];omega)) (fun a3 A V=>?_);obtain⟨au,a4,bf,rfl,j,Z,P,a6,am⟩:=V;have aK:aZ K I.size au:=aZ.L (F) Z i.size;replace i:=i.aJ am (ag.cH (F) (by intro k C;simp[C]));refine o.ak ?_;refine a2 (G.t1 (fun a5=>?_));obtain⟨M,bG,bD,aA,ay,bI,B⟩:=j.gj _ bf P;have n:W (aE [(bf+1)]) A A:=W.refl _ _;have bF:gM au (bf+1):=(j.nL B.rd (by simp));have cP:=B.cP;have aM:aq K I.size (bf+1):=ag.at (ag.cH (aK) (by intro k C;simp[C])) bF;have aN:=T.refl (bf+1) A.size;refine G.region ?_;refine o.ax 4 ?_;refine o.v1 (Y.ai cP.N rfl kz rfl m5) ?_;refine o.v1 (Y.ai cP.N rfl nb rfl lB) ?_;refine o.v1 (ar cP.N ou) ?_;refine aW vA (xn M ay w0 _ B.aA) (fun aY a1 X=>?_);obtain⟨q,rfl,x,ad,H⟩:=X;have aO:af (bf+1) (q+1):=af.app (af.z) cP.lt ad;have a7:T 0 I.size (q+1):=T.L (T.refl 0 _) ad i.size;have a8:T 0 A.size (q+1):=T.L (T.refl 0 _) ad n.size;replace cP:=cP.M H;replace i:=i.bc H;replace n:=n.bc H;refine o.bH ?_;refine o.v1 (Y.ai cP.N rfl kz rfl m5) ?_;refine o.v1 (Y.ai cP.N rfl nb rfl lB) ?_;refine o.s1 (dj cP 1 ([.map (some M),.map (some q),aA.v]) (rfl) lB (by simp) (rfl)) fun ap aa=>?_;obtain⟨cP,t⟩:=aa;replace t:=t.bs;replace x:=x.ab t (ah.J aO.symm);replace i:=i.aJ t (ag.cons (aM) ag.nil);replace n:=n.aJ t (ag.J (aq.r aN));refine o.bH ?_;refine o.v1 (Y.ai cP.N rfl kz rfl m6) ?_;refine o.s1 (dj cP 2 ([.map (some M),.map (some q),.slice none 0 0]) (rfl) m6 (by simp) (rfl)) fun bx ab=>?_;obtain⟨cP,ac⟩:=ab;replace ac:=ac.bs;replace x:=x.ab ac (ah.J aO.symm);replace i:=i.aJ ac (ag.cons (aM) ag.nil);replace n:=n.aJ ac (ag.J (aq.r aN));refine o.nil ?_;have a_:aZ K I.size ((q+1)::au):=(aZ.cons (a7) (aK));replace j:=j.vV al.ak P B n cP x (fun _=>rfl) (ah.qO j.aB (a8));refine a5 (G.L (fun ba=>?_));refine o.ak ?_;refine ba ?_;refine G.ret (S ?_);have E:ja p=0:=by unfold ja;rw[if_neg (fun h=>by first|exact absurd h.1 R|(rw[h.2]at N;cases N))]
    exact⟨_,_,by rw[L,E];rfl,by rw[L,E];exact j,a_,i⟩
  ·
   refine o.ax 4 ?_;refine o.nil (aJ ?_);refine dw ?_;refine G.skip (aF (G.L (fun bb=>?_)));refine o.ax 2 ?_;refine aW r4 (sU K g1 b Q p w0 _ j (by rw[aD.2.2.2];omega)) (fun a3 A V=>?_);obtain⟨au,a4,bf,rfl,j,Z,P,a6,am⟩:=V;have aP:aZ K I.size au:=aZ.L (F) Z i.size;replace i:=i.aJ am (ag.cH (F) (by intro k C;simp[C]));refine o.ak ?_;refine bb (G.t1 (fun bc=>?_));obtain⟨M,bG,bD,aA,ay,bI,B⟩:=j.gj _ bf P;have n:W (aE [(bf+1)]) A A:=W.refl _ _;have bE:gM au (bf+1):=(j.nL B.rd (by simp));have cP:=B.cP;have aQ:aq K I.size (bf+1):=ag.at (ag.cH (aP) (by intro k C;simp[C])) bE;have aR:=T.refl (bf+1) A.size;refine G.region ?_;refine o.ax 4 ?_;refine o.v1 (Y.ai cP.N rfl kz rfl m5) ?_;refine o.v1 (Y.ai cP.N rfl nb rfl lB) ?_;refine o.v1 (ar cP.N ou) ?_;refine aW vA (xn M ay w0 _ B.aA) (fun aY a1 X=>?_);obtain⟨q,rfl,x,ad,H⟩:=X;have aS:af (bf+1) (q+1):=af.app (af.z) cP.lt ad;have bg:T 0 I.size (q+1):=T.L (T.refl 0 _) ad i.size;have bj:T 0 A.size (q+1):=T.L (T.refl 0 _) ad n.size;replace cP:=cP.M H;replace i:=i.bc H;replace n:=n.bc H;refine o.bH ?_;refine o.v1 (Y.ai cP.N rfl kz rfl m5) ?_;refine o.v1 (Y.ai cP.N rfl nb rfl lB) ?_;refine o.s1 (dj cP 1 ([.map (some M),.map (some q),aA.v]) (rfl) lB (by simp) (rfl)) fun ap aa=>?_;obtain⟨cP,t⟩:=aa;replace t:=t.bs;replace x:=x.ab t (ah.J aS.symm);replace i:=i.aJ t (ag.cons (aQ) ag.nil);replace n:=n.aJ t (ag.J (aq.r aR));refine o.bH ?_;refine o.v1 (Y.ai cP.N rfl kz rfl m6) ?_;refine o.s1 (dj cP 2 ([.map (some M),.map (some q),.slice none 0 0]) (rfl) m6 (by simp) (rfl)) fun bx ab=>?_;obtain⟨cP,ac⟩:=ab;replace ac:=ac.bs;replace x:=x.ab ac (ah.J aS.symm);replace i:=i.aJ ac (ag.cons (aQ) ag.nil);replace n:=n.aJ ac (ag.J (aq.r aR));refine o.nil ?_;have bl:aZ K I.size ((q+1)::au):=(aZ.cons (bg) (aP));replace j:=j.vV al.ak P B n cP x (fun _=>rfl) (ah.qO j.aB (bj));refine bc (G.L (fun bm=>?_));refine o.ak ?_;refine bm ?_;refine G.ret (S ?_);have E:ja p=0:=by unfold ja;rw[if_neg (fun h=>by first|exact absurd h.1 R|(rw[h.2]at N;cases N))]
   exact⟨_,_,by rw[L,E];rfl,by rw[L,E];exact j,bl,i⟩
end hU

namespace lf
open E Go.RowKit ft gd gr gN gV hi hv hH hU
open Go.Sort Go.Shelf
theorem rV(a b:aH):blt a b↔a<b:=by unfold blt;rw[bytesLess_eq,decide_eq_true_iff]
theorem Fl{a b:aH}(h:a≤b):¬blt b a:=by rw[rV];exact List.not_lt.2 h
theorem G_{l m:List aH}(aA:l.Nodup)(h:m=l.mergeSort (fun x y=>decide (x≤y))):jJ m∧m.Perm l:=by
 subst h;have j:=List.mergeSort_perm l (fun x y=>decide (x≤y))
 have al:(l.mergeSort (fun x y=>decide (x≤y))).Pairwise (fun x y=>decide (x≤y)=true):=List.pairwise_mergeSort (le:=fun x y:List UInt8=>decide (x≤y)) (fun a b c d U=>by
  simp only[decide_eq_true_eq]at*;exact List.le_trans d U) (fun a b=>by
  simp only[Bool.or_eq_true,decide_eq_true_eq];exact List.le_total a b) l
 have i:(l.mergeSort (fun x y=>decide (x≤y))).Nodup:=j.nodup_iff.2 aA;refine⟨?_,j⟩;unfold jJ;rw[List.nodup_iff_pairwise_ne]at i;refine(al.and i).imp (fun{x y} h=>?_);obtain⟨d,U⟩:=h;refine Classical.byContradiction (fun k=>U (lT k ?_));simp only[decide_eq_true_eq]at d;exact Fl d
theorem sr:∀l:List aH,l.flatMap gg=l.map aI
 |[]=>rfl
 |x::l=>by rw[List.flatMap_cons,sr l];rfl
theorem F1(d:Array aH)(cur:Array Value)(h:d.size≤cur.size):(putCells encStr 0 d cur).size=cur.size∧(putCells encStr 0 d cur).toList.take d.size=d.toList.flatMap gg:=by
 refine⟨by simp[putCells],?_⟩;rw[sr];apply List.ext_getElem?;intro i;rw[List.getElem?_take];split
 ·rename_i j
  rw[Array.getElem?_toList,List.getElem?_map,Array.getElem?_toList,Array.getElem?_eq_getElem (by simp[putCells];omega),Array.getElem?_eq_getElem j];simp only[putCells,Array.getElem_mapIdx,Nat.zero_le,Nat.zero_add,true_and,Nat.sub_zero];rw[if_pos j,getElem!_pos d i j];rfl
 ·rw[List.getElem?_map,Array.getElem?_toList,Array.getElem?_eq_none (by omega)];rfl
theorem G8(k:Nat)(v:Value)(l:List aH)(w0:World)(H:Heap)(h:aV k 9 H gg 1 v l)(Y:l.length<4611686018427387904):
 aC Tryz.prog w0 134 #[v] H (fun r C=>∃O:List aH,∃a8:Nat,r= .tuple #[]∧aV a8 9 C gg 1 v O∧T k H.size a8∧(O=l.mergeSort (fun x y=>decide (x≤y)))∧W (aE [k]) H C):=by
 intro w i;rcases h.own.ex with⟨t,aa⟩|⟨d,cap,cur,t,L,M,P,U,E,Q⟩
 ·subst t aa
  exact(Any.slices_Sort_string_none Tryz.lays190 none 0 w).mono (fun e ab ⟨he,hw⟩=>⟨_,H,he,by rw[hw];exact i,[],k,rfl,h,T.refl _ _,by simp,W.refl _ _⟩)
 ·obtain⟨A,bE,N⟩:=id M
  have B:w.heap[d]?=some (.cells cur 9 A):=by rw[i.heap];exact bE
  have hle:l.length≤cur.size:=by rw[E];omega
  have S:Holds encStr w d 0 l.toArray:=by
   intro j K;have X:j<l.length:=by simpa using K
   have av:cur[j]?=some (aI l[j]):=by
    have:(cur.toList.take (l.length*1))[j]?=(l.flatMap gg)[j]?:=by rw[Q]
    rw[List.getElem?_take,if_pos (by omega),Array.getElem?_toList,sr]at this;rw[this,List.getElem?_map,List.getElem?_eq_getElem X];rfl
   refine⟨?_,?_⟩
   ·simp only[World.cell?,B,Nat.zero_add,Option.isSome_none,Bool.false_eq_true,if_false,id_eq]
    rw[av,getElem!_pos l.toArray j K];rfl
   ·have:=N.2 j (by omega)
    simp only[World.frozen?,B,Nat.zero_add]
    simpa using this
  have I:d<w.heap.size:=by rw[i.heap];exact M.lt
  have G:=Any.slices_Sort_string Tryz.lays190 d 0 cap l w S I Y;rw[←t]at G;refine G.mono ?_;rintro gP ab ⟨he,n,os,rfl⟩;have an:(l.mergeSort fun x y=>decide (x≤y)).length=l.length:=List.length_mergeSort l;obtain⟨F,R⟩:=F1 (l.mergeSort fun x y=>decide (x≤y)).toArray cur (by simp;exact hle);have o:(grow (putRow encStr (Sort.ahead w n) d 0 (l.mergeSort fun x y=>decide (x≤y)).toArray) os).heap=w.heap.modify d (onCells (putCells encStr 0 (l.mergeSort fun x y=>decide (x≤y)).toArray))++os:=rfl
  have V:(grow (putRow encStr (Sort.ahead w n) d 0 (l.mergeSort fun x y=>decide (x≤y)).toArray) os).heap[d]?=some (.cells (putCells encStr 0 (l.mergeSort fun x y=>decide (x≤y)).toArray cur) 9 A):=by
   rw[o,Array.getElem?_append_left (by simpa using I),Array.getElem?_modify,if_pos rfl,B];rfl
  refine⟨_,(grow (putRow encStr (Sort.ahead w n) d 0 (l.mergeSort fun x y=>decide (x≤y)).toArray) os).heap,he,⟨rfl,i.os,i.tape,i.output,Nat.le_trans i.fJ (Nat.le_add_right _ _)⟩,_,k,rfl,⟨⟨mM,nD,.inr ⟨d,cap,_,by rw[an];exact t,L,⟨A,V,by rw[F];exact N⟩,by rw[an];exact P,U,by rw[F];exact E,?_⟩⟩,?_⟩,T.refl _ _,rfl,?_,?_⟩
  ·simpa using R
  ·rw[o]
   have:=h.le;simp[i.heap];omega
  ·rw[o];simp[i.heap]
  ·intro b aw aA
   have Z:d≠b:=fun q=>aA (by unfold aE;rw[←q];simp[L]);rw[o,Array.getElem?_append_left (by simp[i.heap,aw]),Array.getElem?_modify,if_neg Z,i.heap]
end lf

namespace lL
open E Go.RowKit ft gd gr gN gV hi hv hH hU lf
set_option maxRecDepth 100000 in
theorem oR:c4 Tryz.prog 69 9 1 16:=⟨Tryz.underlying69,_,_,rfl,rfl,rfl,rfl,rfl⟩
def n2:Code→Code
 | .seq _ (.seq (.seq _ (.block _ c)) _)=>c
 |_=> .skip
def rS:Code→Code
 | .rangeFunc _ _ c _=>c
 |_=> .skip
def rW:Code→Code
 | .rangeFunc _ _ _ c=>c
 |_=> .skip
structure ru (r:Loop) (bQ:Nat):Prop where
 st:r.state= .ready
 yd:r.pending=none
 eW:r.params= #[7]
 A:r.assign=rS (n2 (Tryz.f196.body.getD .skip))
 B:r.body=rW (n2 (Tryz.f196.body.getD .skip))
 ss:Fr Tryz.f196.ntmps [(2,.pointer (some ⟨bQ,0,none⟩))] {tmps:=r.tmps,defers:=[]}
theorem Am(r:Loop)(bQ bg k:Nat)(X:Value)(N:List aH)(x:aH)(w0:World)(H:Heap)(o:ru r bQ)(B:hh H bg r)(i:Var 69 H bQ [X])(n:aV k 9 H gg 1 X N)(d1:af (bg+1) (bQ+1))(d2:af (bg+1) k)(d3:af (bQ+1) k)(hlen:N.length≤1099511627776):
 ot Tryz.prog w0 bg [aI x] H (fun au t=>∃Y:Value,∃V:Nat,au= .bool true∧hh t bg r∧Var 69 t bQ [Y]∧aV V 9 t gg 1 Y (N++[x])∧T k H.size V∧W (aE [bg+1,bQ+1,k]) H t):=by
 have ai:=o.ss.put (d:=7) rfl (aI x);refine ot.of B o.st o.yd o.eW (o.A.trans rfl) (o.B.trans rfl) ai ?_;have Q:bg≠bQ:=d1.ne;have aB:=B.lt;have az:=i.lt;have aC:=n.le;have hm:=W.refl (aE [bg+1,bQ+1,k]) H;refine e0.v ej (by intro c e;cases e) cQ rfl rfl ?_;refine e0.nil (fun a w P G=>⟨rfl,_,H,P,G,B,?_⟩);have L:W (fun c=>c=bg) H (H.setIfInBounds bg (.loop {r with state:= .busy})):=kt _;have j:hh (H.setIfInBounds bg (.loop {r with state:= .busy})) bg {r with state:= .busy}:=⟨by simp[B.lt]⟩;obtain⟨A,ae⟩:∃A,A=H.setIfInBounds bg (.loop {r with state:= .busy}):=⟨_,rfl⟩;rw[←ae]at L j⊢;have M:=L.bs;replace hm:=hm.aJ M (ag.cons (aq.root (by simp)) ag.nil);replace i:=i.ab M (ah.cons (af.of (Ne.symm Q)) ah.nil);replace n:=n.ab M (ah.J d2.symm);have aL:=L.size;refine e0.v (ar i.N uv) (by intro c e;cases e) cQ rfl rfl ?_;refine e0.v fc (by intro c e;cases e) cQ rfl rfl ?_;refine e0.z (cT _ ([x]) oR mM nD rfl) (by intro c e;cases e) cQ rfl rfl ?_;rintro v10 O ⟨al,C,aM,ab⟩;have aF:O.size=A.size+1:=by rw[ab];simp
 replace hm:=hm.bc C;replace j:=j.M C;replace i:=i.M C;replace n:=n.M C;have aA:af k (A.size+1):=af.new (by omega);have aD:=n.le;refine e0.z (dQ n al.rd oR (by simp;omega) (by simp;omega)) (by intro c e;cases e) cQ rfl rfl ?_;rintro v11 ay ⟨E,F,q,R⟩;replace q:T k O.size E:=q;have I:=R.md;replace hm:=hm.aJ I (ag.cons (aq.root (by simp)) ag.nil);replace j:=j.ab I (ah.J d2);replace i:=i.ab I (ah.J d3);have aJ:=R.size;have aa:af (bQ+1) E:=af.app d3 (by omega) q;have dl:af (bg+1) E:=af.app d2 (by omega) q;obtain⟨aO,ak⟩:∃s:aN,v11=s.v:=⟨cl v11,F.bl.symm⟩;refine e0.s (dj i 0 ([v11]) (by rw[ak];rfl) GS (by simp) rfl) (by intro c e;cases e) cQ rfl ?_;rintro Z ⟨i,S⟩;have K:=S.bs;replace hm:=hm.aJ K (ag.cons (aq.root (by simp)) ag.nil);replace j:=j.ab K (ah.J d1);replace F:=F.ab K (ah.J aa.symm);have aK:=S.size;refine e0.nil (fun a w P G=>⟨rfl,Z,G,j,v11,E,rfl,?_,?_,?_,?_,?_⟩)
 ·exact⟨by simp[j.lt]⟩
 ·exact i.ab (W.bs (kt (r:=bg) _)) (ah.cons (af.of (Ne.symm Q)) ah.nil)
 ·exact F.ab (W.bs (kt (r:=bg) _)) (ah.J dl.symm)
 ·unfold T at q⊢;omega
 ·exact hm.aJ (W.bs (kt (r:=bg) _)) (ag.cons (aq.root (by simp)) ag.nil)
theorem Fr.start{n:Nat}{args:List Value}(i:args.length≤n):Fr n (lS args 0) {tmps:=args.toArray++Array.replicate (n-args.toArray.size) undef,defers:=[]}:=by
 refine⟨rfl,?_,?_⟩
 ·simp;omega
 ·intro t v e
  obtain⟨_,U⟩:=rQ args 0 t v e;simp only[Nat.sub_zero]at U;simp only;have d:=(List.getElem?_eq_some_iff.1 U).1;rw[Array.getElem?_append_left (by simpa using d)]
  simpa using U
theorem ug.v{P:Program}{w0:World}{Q:Exit→Act→World→Prop}{n:Nat}{l:bZ}{H:Heap}{ops:Array Oper}{rest:List Oper}{J:Oper}{ds:List Deferred}{v:Value}{d:Nat}(hy:Y P w0 n l H J v)(o:∀c,J.op≠ .defer c)(hw:c5 ops l J)(an:J.dst=some d)(aA:Nat.blt d n=true)
 (h:∀a w,Fr n ((d,v)::l) a→At w0 H w→wpListIn (mn none) 0 P ops Q rest {a with defers:=ds} w):∀a w,Fr n l a→At w0 H w→wpListIn (mn none) 0 P ops Q (J::rest) {a with defers:=ds} w:=by
 intro a w i j;have k:=i.put aA v;rw[←an]at k;unfold wpListIn;rw[if_pos (hw n a i)];refine⟨fun _ _=>trivial,?_⟩;rw[Oper.semAt_eq _ _ _ o];show Oper.uponIn _ _ _ _ _ _ _ ((execOp a.eval J).run P w);rw[hy a w i j,Oper.uponIn_value];have U:=h _ w k j;have e:({a with defers:=ds}:Act).put J.dst v={(a.put J.dst v)with defers:=ds}:=by rw[an];rfl
 rw[e];exact U
end lL

namespace pC
open E Go.RowKit ft gd gr gN gV hi hv hH hU lf lL
theorem D2(P:Loop)(bg bQ F bK D d:Nat)(X:Value)(fv:cY→Value)(L:List (aH×cY))(w0:World)(I:Heap)
 (aF:Var 130 I F [.map (some bK)]) (q:df I aI fv bK L) (bq:iX I D) (n:hh I bg P) (j:Var 69 I bQ [X]) (i:aV d 9 I gg 1 X []) (bD:ru P bQ) (b8:L.length≤1099511627776) (bl:af (bg+1) (bQ+1)) (bm:af (bg+1) (d)) (bk:af (bQ+1) (d)) (b5:af (F+1) (bg+1)) (b4:af (F+1) (bQ+1)) (b6:af (F+1) (d)) (bo:af (bK+1) (bg+1)) (bn:af (bK+1) (bQ+1)) (bp:af (bK+1) (d)) (b1:af (D+1) (bg+1)) (b0:af (D+1) (bQ+1)) (b3:af (D+1) (d)):
 aC Tryz.prog w0 135 #[.func (.yield bg) #[] #[],.pointer (some ⟨F,0,none⟩)] I (fun r Q=>∃aL:Value,∃aK:Nat,∃out:List aH,r= .tuple #[]∧(hh Q bg P)∧(Var 69 Q bQ [aL])∧(aV aK 9 Q gg 1 aL out)∧(T d I.size aK)∧(out.Nodup∧∀k,k∈out↔k∈L.map (·.1))∧W (aE [(bg+1),(bQ+1),d]) I Q):=by
 refine aC.enter (args:=[.func (.yield bg) #[] #[],.pointer (some ⟨F,0,none⟩)]) Tryz.func135 rfl rfl rfl ?_;intro bJ bE;have B:W (aE [(bg+1),(bQ+1),d]) I I:=W.refl _ _;have bX:=aF.lt;have bV:=q.lt;have bY:=bq.lt;have bc:=T.refl (bg+1) I.size;have bP:=n.lt;have bd:=T.refl (bQ+1) I.size;have bR:=j.lt;have ak:=T.refl d I.size;have al:=i.le;refine G.L (fun aW=>?_);refine o.v1 (ar aF.N zY) ?_;obtain⟨es,bj,q⟩:=q.raw;refine o.aO (Z.tn q rfl k7 rfl) ?_;rintro v5 C ⟨rfl,it,E,a4,aX⟩;have bT:C.size=I.size+1:=by rw[aX];simp
 have aa:af (bK+1) (I.size+1):=af.new q.lt;have ab:af (bg+1) (I.size+1):=af.new n.lt;have ae:af (bQ+1) (I.size+1):=af.new j.lt;have aY:af d (I.size+1):=af.new i.le;have ai:T 0 I.size (I.size+1):=T.new B.size;replace q:=q.M E;replace n:=n.M E;replace j:=j.M E;replace i:=i.M E;replace B:=B.bc E;have a5:=E.size;have bS:=it.lt;refine o.nil (aW (G.aB (fun _ aZ _=>?_)))
 refine G.bg (fun(bF:(List aH)×(Value)×(Nat))=>match bF with|(dn,M,t)=>[(0,.func (.yield bg) #[] #[]),(5,.pointer (some ⟨I.size,0,none⟩))])
  (fun(dn,M,t) (H:Heap)=>(hS H I.size bK aI es bj dn)∧(hh H bg P)∧(Var 69 H bQ [M])∧(aV t 9 H gg 1 M dn)∧(dn.Nodup∧∀k∈dn,k∈L.map (·.1))∧(T d C.size t)∧(af (I.size+1) t)∧(af (bg+1) t)∧(af (bQ+1) t)∧W (aE [(I.size+1),(bg+1),(bQ+1),d]) C H)
  (fun(dn,M,t)=>L.length-dn.length) ([],X,d) ⟨rfl,rfl,trivial⟩ ?_ ?_
 ·
  exact⟨it,n,j,i,⟨List.nodup_nil,by simp⟩,T.refl _ _,aY.symm,bm,bk,W.refl _ _⟩
 rintro⟨dn,M,t⟩ bL a1 od a6 a7;obtain⟨it,n,j,i,K,ay,bf,bh,au,A⟩:=a1;have aM:T d I.size t:=T.L (ak) ay B.size;replace q:=q.ab A (ah.cons aa (ah.cons bo (ah.cons bn (ah.J bp))));replace B:=B.aJ A (ag.cons (aq.q ai) (ag.cons (aq.r bc) (ag.cons (aq.r bd) (ag.J (aq.r ak)))));have bN:=A.size;have al:=i.le;have ap:=bf;have az:=bh;have aA:=au;have ac:=T.refl (I.size+1) C.size;have ad:=T.refl (bg+1) C.size;have bb:=T.refl (bQ+1) C.size;have aB:=ay;have bx:=lx K.1 K.2;rw[List.length_map]at bx;refine G.L (fun a8=>?_);refine o.aO (Z.s8 it q gv.inj rfl rfl) ?_;rintro v6 bI ⟨b9,x,y,b7,rfl,it,bt,bs,am⟩;replace am:=am.bs;replace q:=q.ab am (ah.J aa);replace i:=i.ab am (ah.J ap.symm);replace n:=n.ab am (ah.J ab);replace j:=j.ab am (ah.J ae);replace B:=B.aJ am (ag.J (aq.q ai));replace A:=A.aJ am (ag.J (aq.r ac));have bO:=am.size;refine o.v1 (Y.sk rfl rfl) (o.nil (a8 ?_));refine G.t2 (fun a_ ba=>?_);refine cK (fun cy=>?_) (fun cy=>?_)
 ·
  obtain⟨aJ,bA,aD⟩:=bt cy;rw[aD]at it;refine G.skip (a_ (G.aB (fun a0 _ _=>G.L (fun b2=>?_))));refine o.v1 (Y.sj it q gv.inj aJ rfl rfl) ?_;refine o.v1 cO ?_;refine o.ak ?_;refine b2 (G.t1 (fun a2=>?_));refine G.Gf ?_;refine e0.v fc (by intro c e;cases e) cQ rfl rfl ?_;refine e0.v fc (by intro c e;cases e) cQ rfl rfl ?_;refine e0.round rfl rfl rfl cQ rfl rfl (Am P bQ bg _ _ dn x w0 _ bD n j i (bl) (az) (aA) (by omega)) (fun a9 bU a3=>?_);have aN:=it.lt;have aO:=n.lt;have aQ:=j.lt;obtain⟨bG,O,rfl,n,j,i,R,S⟩:=a3;have aR:af (I.size+1) O:=af.app (ap) aN R;have aS:af (bg+1) O:=af.app (az) aO R;have aT:af (bQ+1) O:=af.app (aA) aQ R;have aU:T d C.size O:=T.L (aB) R A.size;replace it:=it.ab S (ah.cons ab.symm (ah.cons ae.symm (ah.J ap)));replace A:=A.aJ S (ag.cons (aq.r ad) (ag.cons (aq.r bb) (ag.J (aq.r aB))));have bZ:=S.size;have al:=i.le;refine e0.v eL (by intro c e;cases e) cQ rfl rfl ?_;refine e0.nil ?_;refine a2 ?_;refine dw ?_;refine G.skip (a0 ?_)
  have V:(dn++[x]).Nodup∧∀k∈dn++[x],k∈L.map (·.1):=by
   refine⟨?_,fun k N=>?_⟩
   ·rw[List.nodup_append]
    exact⟨K.1,by simp,fun a bu b aw e=>by simp only[List.mem_singleton]at aw;subst aw;subst e;exact bA bu⟩
   ·rcases List.mem_append.1 N with N|N
    ·exact K.2 k N
    ·rw[List.mem_singleton.1 N];exact List.mem_map.2 ⟨_,aJ,rfl⟩
  have bz:=lx V.1 V.2;rw[List.length_append,List.length_map,List.length_singleton]at bz;refine aP.sub (a6 (dn++[x],bG,O) _ ?_ ?_) ⟨rfl,rfl,trivial⟩
  ·exact⟨it,n,j,i,V,aU,aR,aS,aT,A⟩
  ·simp only[List.length_append,List.length_singleton];omega
 ·
  obtain⟨bw,aD⟩:=bs cy;refine G.exit (ba (a7 (aZ ?_)));refine bE .normal (.inl rfl) _ _ _ (iR rfl) ?_;exact⟨M,t,dn,rfl,n,j,i,aM,⟨K.1,fun k=>⟨K.2 k,fun h=>by obtain⟨p,bC,rfl⟩:=List.mem_map.1 h;exact bw p bC⟩⟩,B⟩
theorem As(i bK:Nat)(fv:cY→Value)(V:List (aH×cY))(w0:World)(I:Heap)(C:Var 130 I i [.map (some bK)])(B:df I aI fv bK V)(bk:V.length≤1099511627776):
 aC Tryz.prog w0 196 #[.slice none 0 0,.func (.func 135) #[] #[.pointer (some ⟨i,0,none⟩)]] I (fun r aJ=>∃s:aN,∃k:Nat,∃out:List aH,r=s.v∧(aV k 9 aJ gg 1 s.v out)∧(T 0 I.size k)∧(out.Nodup∧∀k,k∈out↔k∈V.map (·.1))∧aj I aJ):=by
 intro w a_;refine callsIn_wide.1 (callsIn_of_wp_marks (n:=0) Tryz.func196 rfl trivial ?_);have bb:=Fr.start (n:=Tryz.f196.ntmps) (args:=[.slice none 0 0,.func (.func 135) #[] #[.pointer (some ⟨i,0,none⟩)]]) (Nat.le_of_ble_eq_true rfl);refine wpIn_seq (wpIn_wide.2 ?_);refine(G.region (w0:=w0) (H:=I) (n:=Tryz.f196.ntmps) (l:=lS [.slice none 0 0,.func (.func 135) #[] #[.pointer (some ⟨i,0,none⟩)]] 0) ?_) _ w bb a_;refine o.aO (Z.ns rfl rfl rfl) ?_;rintro v2 H1 ⟨rfl,ae,aD,bC,a6⟩;have bw:H1.size=I.size+1:=by rw[a6];simp
 have bu:=C.lt;have bt:=B.lt;replace C:=C.M aD;replace B:=B.M aD;refine o.b2 ?_;refine o.nil (fun b2 ao bc ba=>?_);show(Code.seq _ _).wpIn Fence.wide 0 _ _ b2 ao;refine wpIn_seq (wpIn_seq (wpIn_wide.2 ?_));refine(G.region (w0:=w0) (H:=H1) ?_) b2 ao bc ba;refine o.V ?_;refine o.nil (fun a2 d K aO=>?_);show(Code.block _ _).wpIn Fence.wide 0 _ _ a2 d;refine wpIn_block (wpIn_rangeFunc (fun fn _=>?_));obtain⟨rc,aS⟩:∃rc:Loop,rc={state:= .ready,pending:=none,fn,tmps:=a2.tmps,params:= #[7],assign:=rS (n2 (Tryz.f196.body.getD .skip)),body:=rW (n2 (Tryz.f196.body.getD .skip)),defers:=d.heap.size}:=⟨_,rfl⟩
 have aW:(Instr.enterLoop fn a2.tmps #[7] (rS (n2 (Tryz.f196.body.getD .skip))) (rW (n2 (Tryz.f196.body.getD .skip))) none).run Tryz.prog d= .ok (d.heap.size+1,[{target:= .collected d.heap.size,args:= #[]}]) ((d.alloc (.deferred (some []))).alloc (.loop rc)):=by
  rw[aS];exact run_enterLoop_outer fn a2.tmps #[7] _ _
 have au:At w0 ((H1.push (.deferred (some []))).push (.loop rc)) ((d.alloc (.deferred (some []))).alloc (.loop rc)):=(aO.alloc _).alloc _;obtain⟨M,bn⟩:∃M,M=(d.alloc (.deferred (some []))).alloc (.loop rc):=⟨_,rfl⟩;rw[←bn]at aW au;obtain⟨j,F⟩:∃j,j=(H1.push (.deferred (some []))).push (.loop rc):=⟨_,rfl⟩;rw[←F]at au;have bx:j.size=H1.size+2:=by rw[F];simp
 have L:d.heap.size=H1.size:=by rw[aO.heap]
 have O:aj H1 j:=by rw[F];exact(aj.pu _ _).L (aj.pu _ _)
 replace C:=C.M O;replace B:=B.M O;replace ae:=ae.M O;have aM:iX j H1.size:=⟨by rw[F,Array.getElem?_push,if_neg (by simp)];exact Array.getElem?_push_size⟩
 have bf:hh j (H1.size+1) rc:=⟨by
  have aL:=Array.getElem?_push_size (xs:=H1.push (.deferred (some []))) (x:=Obj.loop rc);rw[Array.size_push,←F]at aL;exact aL⟩
 have aA:ru rc I.size:=by
  subst aS;exact⟨rfl,rfl,rfl,rfl,rfl,⟨rfl,K.size,fun t v e=>(K.sub (l':=[(2,.pointer (some ⟨I.size,0,none⟩))]) ⟨rfl,trivial⟩).get t v e⟩⟩
 have bo:∀w,(callFunc 135 #[.func (.yield (H1.size+1)) #[] #[],.pointer (some ⟨i,0,none⟩)]).run Tryz.prog w= .ok (.enter 135 #[.func (.yield (H1.size+1)) #[] #[],.pointer (some ⟨i,0,none⟩)]) w:=fun w=>enters_of Tryz.func135 (by kernel_rfl) rfl _ w;refine⟨d.heap.size+1,[{target:= .collected d.heap.size,args:= #[]}],M,{target:= .fn (.func 135) #[.pointer (some ⟨i,0,none⟩)],args:= #[.func (.yield (H1.size+1)) #[] #[]]},M,135,#[.func (.yield (H1.size+1)) #[] #[],.pointer (some ⟨i,0,none⟩)],M,aW,?_,fun _ _=>trivial,?_,fun h=>(by cases h),?_⟩
 ·have aZ:=K.get 6 (.func (.func 135) #[] #[.pointer (some ⟨i,0,none⟩)]) rfl
  rw[L];simp[resolve,rangeCall,Deferred.ofValue,Act.eval,aZ]
 ·exact bo _
 refine callsIn_wide.2 ((D2 rc (H1.size+1) I.size i bK H1.size 0 (.slice none 0 0) fv V w0 j C B aM bf ae (aV.nil mM nD) aA bk kB af.z af.z kB kB af.z kB kB af.z kB kB af.z _ au).mono ?_);rintro e aF ⟨bD,E,rfl,ay,Y,a8,out,rfl,bg,ai,X,aR,bl,aB⟩;have ak:iX E H1.size:=aM.ab aB (ah.cons kB (ah.cons kB (ah.J af.z)));have bh:aF.heap[d.heap.size+1]?=some (.loop rc):=by rw[ay.heap,L];exact bg.at_
 have aT:rc.pending=none:=aA.yd;have aQ:=run_endLoop (P:=Tryz.prog) bh (by rw[aA.st];simp);rw[aT]at aQ;refine⟨none,_,aQ,?_⟩;have Q:W (fun c=>c=H1.size+1) E (E.setIfInBounds (H1.size+1) (.loop {rc with state:= .exhausted})):=kt _
 have N:At w0 (E.setIfInBounds (H1.size+1) (.loop {rc with state:= .exhausted})) (aF.putObj (d.heap.size+1) (.loop {rc with state:= .exhausted})):=by
  unfold World.putObj;rw[ay.heap,L];exact ay.set
 rw[aT]at Q N;obtain⟨aa,aX⟩:∃aa,aa=aF.putObj (d.heap.size+1) (.loop {rc with state:= .exhausted,pending:=none}):=⟨_,rfl⟩;obtain⟨A,a7⟩:∃A,A=E.setIfInBounds (H1.size+1) (.loop {rc with state:= .exhausted,pending:=none}):=⟨_,rfl⟩;rw[←aX]at N;rw[←a7]at Q N;rw[←aX];have bz:=aB.size;have bA:=Q.size;have R:=Q.bs;have aK:∀c,c+1≤j.size→af a8 (c+1):=fun c av q bs U=>by unfold T at aR;omega
 replace ai:=ai.ab R (ah.cons kB ah.nil);replace X:=X.ab R (ah.cons (aK _ (by omega)) ah.nil);replace ak:=ak.ab R (ah.cons kB ah.nil)
 have bj:W (aE []) I A:=by
  have bp:=((W.refl (S:=aE []) I).bc aD).bc O;have bq:=bp.aJ aB (ag.cons (aq.new (by omega)) (ag.cons (aq.new (Nat.le_refl _)) (ag.cons aq.z ag.nil)));exact bq.aJ R (ag.cons (aq.new (by omega)) ag.nil)
 show(Code.seq _ _).wpIn Fence.wide 0 _ _ _ aa;refine wpIn_seq (wpIn_region_lit ?_);refine ug.v (w0:=w0) (H:=A) (ar ai.N uv) (by intro c e;cases e) cQ rfl rfl ?_ a2 aa K N;refine ug.v (w0:=w0) (H:=A) ej (by intro c e;cases e) cQ rfl rfl ?_;intro aY ab bd az;show Code.ret.wpIn Fence.wide 0 _ _ _ ab;refine wpIn_ret ?_;show LeavesInM Fence.wide 0 _ _ aY.tmps _ ([{target:= .collected d.heap.size,args:= #[]}]++a2.defers) .returning ab;rw[K.defers,List.append_nil];have a1:ab.heap[d.heap.size]?=some (.deferred (some [])):=by rw[az.heap,L];exact ak.at_
 refine⟨by simp,.inl ⟨_,_,rfl,run_takeDeferred (P:=Tryz.prog) a1,?_⟩⟩;have bm:W (fun c=>c=H1.size) A (A.setIfInBounds H1.size (.deferred none)):=kt _
 have aP:At w0 (A.setIfInBounds H1.size (.deferred none)) (ab.putObj d.heap.size (.deferred none)):=by
  unfold World.putObj;rw[az.heap,L];exact az.set
 have aU:=bm.bs;obtain⟨s,al⟩:∃s:aN,Y=s.v:=⟨cl Y,X.bl.symm⟩;refine⟨Y,yr rfl rfl _ _ bd aP,Y,_,rfl,aP,s,a8,out,al,?_,?_,bl,?_⟩
 ·rw[←al];exact X.ab aU (ah.cons (aK _ (by omega)) ah.nil)
 ·unfold T at aR⊢;omega
 ·exact(bj.aJ aU (ag.cons (aq.new (by omega)) ag.nil)).nil
theorem vL(d bK:Nat)(fv:cY→Value)(j:List (aH×cY))(w0:World)(I:Heap)
 (K:Var 130 I d [.map (some bK)]) (H:df I aI fv bK j) (C:j.length≤1099511627776):
 aC Tryz.prog w0 133 #[.func (.func 135) #[] #[.pointer (some ⟨d,0,none⟩)]] I (fun r n=>∃s:aN,∃k:Nat,∃out:List aH,r=s.v∧(aV k 9 n gg 1 s.v out)∧(T 0 I.size k)∧(out.Nodup∧∀k,k∈out↔k∈j.map (·.1))∧aj I n):=by
 refine aC.aK [.func (.func 135) #[] #[.pointer (some ⟨d,0,none⟩)]] Tryz.func133 ?_;intro O F;have i:aj I I:=W.refl _ _;refine G.L (fun t=>?_);refine o.ak ?_;refine t (G.L (fun x=>?_));refine o.V ?_;refine aW BB (As d bK fv j w0 _ K H C) ?_;rintro v4 N ⟨M,q,L,rfl,ac,ad,E,A⟩;have B:T 0 I.size q:=T.L (T.refl 0 _) ad i.size;replace i:=i.L A;refine o.ak ?_;refine x ?_;refine G.ret (F ?_);exact⟨M,q,L,rfl,ac,B,E,i⟩
theorem w6(bK:Nat)(w0:World)(I:Heap)
 :
 aC Tryz.prog w0 58 #[.map (some bK)] I (fun r k=>∃d:Nat,r= .func (.func 135) #[] #[.pointer (some ⟨d,0,none⟩)]∧(Var 130 k d [.map (some bK)])∧(T 0 I.size (d+1))∧aj I k):=by
 refine aC.aK [.map (some bK)] Tryz.func58 ?_;intro x t;have i:aj I I:=W.refl _ _;refine G.L (fun n=>?_);refine o.aO (Z.ns rfl rfl (rfl)) ?_;rintro v1 H1 ⟨rfl,j,q,ad,A⟩;replace i:=i.L q;replace j:Var 130 H1 I.size ([.map (some bK)]):=j;refine o.ak ?_;refine n (G.L (fun ac=>?_));refine o.v1 (Y.makeFunc rfl rfl) ?_;refine o.ak ?_;refine ac ?_;refine G.ret (t ?_);exact⟨_,rfl,j,T.new (Nat.le_refl _),i⟩
theorem G9(i bK:Nat)(fv:cY→Value)(n:List (aH×cY))(w0:World)(I:Heap)
 (B:Var 130 I i [.map (some bK)]) (A:df I aI fv bK n) (O:n.length≤1099511627776):
 aC Tryz.prog w0 57 #[.func (.func 135) #[] #[.pointer (some ⟨i,0,none⟩)]] I (fun r t=>∃s:aN,∃k:Nat,∃out:List aH,r=s.v∧(aV k 9 t gg 1 s.v out)∧(T 0 I.size k)∧(jJ out∧∀k,k∈out↔k∈n.map (·.1))∧aj I t):=by
 refine aC.aK [.func (.func 135) #[] #[.pointer (some ⟨i,0,none⟩)]] Tryz.func57 ?_;intro ae V;have d:aj I I:=W.refl _ _;have ah:=B.lt;have af:=A.lt;refine G.L (fun E=>?_);refine o.ak ?_;refine E (G.L (fun F=>?_));refine o.V ?_;refine aW u9 (vL i bK fv n w0 _ B A O) ?_;rintro v5 aa ⟨Z,C,Y,rfl,q,H,j,ad⟩;have x:T 0 I.size C:=T.L (T.refl 0 _) H d.size;replace d:=d.L ad;have ai:=ad.size;have ac:=q.le;have P:=lx j.1 (fun k N=>(j.2 k).1 N);rw[List.length_map]at P;refine o.ak ?_;refine F (G.L (fun K=>?_));refine o.V ?_;refine aW Bg (G8 C _ Y w0 _ q (by omega)) ?_;rintro ak ab ⟨X,a8,rfl,q,L,S,M⟩;have au:T 0 I.size a8:=T.L (x) L d.size;replace d:=d.bo M (ag.J (aq.q x));refine o.nil (K (G.L (fun am=>?_)));refine o.aQ 2 ?_;refine am ?_;refine G.ret (V ?_);obtain⟨Q,R⟩:=G_ j.1 S;exact⟨Z,a8,X,rfl,q,au,⟨Q,fun k=>by rw[R.mem_iff,j.2]⟩,d⟩
end pC

namespace fI
open E Go.RowKit eM eP e1 e7 ev eQ eR fC fD pC
set_option maxRecDepth 100000 in
theorem jW:c4 Tryz.prog 244 35 1 8:=⟨Tryz.underlying244,_,_,rfl,rfl,rfl,rfl,rfl⟩
theorem xM:∀{ml:List bF} {l:dR} {q:aH},de l→(∀x∈ml,x.n≠q)→aM (ml.foldl dL l) q=aM l q
 |[],_,_,_,_=>rfl
 |x::ml,l,q,h,aA=>by
  rw[List.foldl_cons,xM (qp h x) (fun y hy=>aA y (List.mem_cons_of_mem _ hy)),o3 h,if_neg (fun e=>aA x List.mem_cons_self e.symm)]
theorem xL:∀{ml:List bF} {l:dR} {m:bF},de l→(ml.map (·.n)).Nodup→m∈ml→aM (ml.foldl dL l) m.n=if m.w=bz then none else some m.w
 |x::ml,l,m,h,aA,hm=>by
  rw[List.map_cons,List.nodup_cons]at aA;rw[List.foldl_cons];rcases List.mem_cons.1 hm with rfl|hm
  ·rw[xM (qp h m) (fun y hy e=>aA.1 (by rw[←e];exact List.mem_map_of_mem hy)),o3 h,if_pos rfl]
  ·exact xL (qp h x) aA.2 hm
theorem E7{l:dR}{pre r:List bF}{m:bF}(h:h3 l pre (m::r)=0):gR l pre m=0∧h3 l (pre++[m]) r=0:=by
 rw[h3]at h;by_cases d:gR l pre m≠0
 ·rw[if_pos d]at h;exact absurd h d
 ·rw[if_neg d]at h;exact⟨by simpa using d,h⟩
theorem EZ{l:dR}{pre:List bF}{m:bF}(h:gR l pre m=0):m.n∉pre.map (·.n):=by
 intro U;unfold gR at h;by_cases d:c6 m.n≠0
 ·rw[if_pos d]at h;cases h
 ·rw[if_neg d,if_pos U]at h;cases h
theorem xN:∀{ml:List bF} {l:dR} {pre:List bF},h3 l pre ml=0→(ml.map (·.n)).Nodup∧∀m∈ml,m.n∉pre.map (·.n)
 |[],_,_,_=>⟨List.nodup_nil,fun m h=>by cases h⟩
 |x::ml,l,pre,h=>by
  obtain⟨i,U⟩:=E7 h;obtain⟨j,d⟩:=xN U;refine⟨?_,fun m hm=>?_⟩
  ·rw[List.map_cons,List.nodup_cons]
   refine⟨fun n=>?_,j⟩;obtain⟨y,hy,e⟩:=List.mem_map.1 n;exact d y hy (by rw[e];simp)
  ·rcases List.mem_cons.1 hm with rfl|hm
   ·exact EZ i
   ·intro k;exact d m hm (by rw[List.map_append];exact List.mem_append_left _ k)
theorem Dp{u m:dR}{n:aH}{out:List aH}(hm:∀q,aM m q=aM u q)(o:∀k,k∈out↔k∈(ea m n).map (·.1)):out.any (i_ n)=(u.map (·.1)).any (fun x=>decide (x≠n)&&i_ n x)∧n∉out:=by
 have e:∀k,k∈out↔k∈u.map (·.1)∧k≠n:=by
  intro k;rw[o,←gQ,jg,←gQ];by_cases d:k=n
  ·simp[d]
  ·rw[if_neg d,hm];simp[d]
 refine⟨?_,fun h=>((e n).1 h).2 rfl⟩;rw[Bool.eq_iff_iff,List.any_eq_true,List.any_eq_true];constructor
 ·rintro⟨x,i,h⟩
  obtain⟨j,U⟩:=(e x).1 i;exact⟨x,j,by simp[U,h]⟩
 ·rintro⟨x,i,h⟩
  rw[Bool.and_eq_true,decide_eq_true_eq]at h;exact⟨x,(e x).2 ⟨i,h.1⟩,h.2⟩
theorem zz{l:dR}{ml:List bF}(i:∀x∈l,x.1.length≤60)(h:h3 l [] ml=0):∀x∈ml.foldl dL l,x.1.length≤60:=by
 intro x d;rcases qK d with d|⟨m,hm,e,_⟩
 ·exact i x d
 ·rw[e];exact((mK m.n).1 (nU h m hm)).1
theorem wI{u:dR}{ml:List bF}(h:∀m∈ml,hM u m=false):nF u ml=0:=by
 unfold nF;rw[if_neg];rw[List.any_eq_true];rintro⟨m,hm,e⟩;rw[h m hm]at e;cases e
theorem wH{u:dR}{ml:List bF}{m:bF}(hm:m∈ml)(h:hM u m=true):nF u ml=13:=by
 unfold nF;rw[if_pos (List.any_eq_true.2 ⟨m,hm,h⟩)]
theorem mD{α:Type}{l:List α}{p:α→Prop}{i:Nat}(h:∀x∈l.take i,p x)(j:i<l.length)(U:p l[i]):∀x∈l.take (i+1),p x:=by
 intro x d;rw[List.take_succ_eq_append_getElem j]at d;rcases List.mem_append.1 d with d|d
 ·exact h x d
 ·rw[List.mem_singleton.1 d];exact U
theorem EX(x:bF)(k:Nat)(m:bF)(w0:World)(I:Heap)
 (d:Var 52 I k (du m)):
 aC Tryz.prog w0 131 #[j1 x,.pointer (some ⟨k,0,none⟩)] I (fun r j=>r= .bool (decide (x.n=m.n))∧aj I j):=by
 refine aC.aK [j1 x,.pointer (some ⟨k,0,none⟩)] Tryz.func131 ?_;intro B A;have n:aj I I:=W.refl _ _;refine G.L (fun t=>?_);refine o.aO cq ?_;rintro v2 j ⟨rfl,i,q,ad,C⟩;replace d:=d.M q;replace n:=n.L q;replace i:Var 52 j I.size (du x):=i;refine o.ak ?_;refine t (G.L (fun ac=>?_));refine o.v1 (Y.ai i.N rfl cC rfl bP) ?_;refine o.v1 (ar i.N bN) ?_;refine o.v1 (Y.ai d.N rfl cC rfl bP) ?_;refine o.v1 (ar d.N bN) ?_;refine o.v1 (Y.jz rfl rfl rfl) ?_;refine o.ak ?_;refine ac ?_;refine G.ret (A ?_);exact⟨rfl,n⟩
theorem DN(v cJ:Value)(l:List bF)(p:bF→Bool)(w0:World)(I:Heap)
 (d:bx I du 66 v l) (ah:∀(x:bF) (aa:Heap),aj I aa→x∈l→ff Tryz.prog w0 cJ [j1 x] aa (fun r q=>r= .bool (p x)∧aj aa q)):
 aC Tryz.prog w0 193 #[v,cJ] I (fun r q=>∃n:Int,r= .int .i64 n∧((0≤n↔l.any p=true)∧ -1≤n∧n≤9223372036854775807)∧aj I q):=by
 refine aC.aK [v,cJ] Tryz.func193 ?_;intro ak E;have i:aj I I:=W.refl _ _;replace d:=d.bw;have aE:=d.len;refine G.L (fun Q=>?_);refine o.ak ?_;refine Q (G.t2 (fun au am=>G.L (fun R=>?_)));refine o.V ?_;refine o.v1 (bb d dI) ?_;refine o.V (o.nil (R ?_));refine G.aB (fun _ ap S=>?_)
 refine G.bg (fun(j:(Nat))=>[(0,v),(1,cJ),(7,.int .i64 l.length),(8,.int .i64 j)])
  (fun(j:(Nat)) (H:Heap)=>(j≤l.length)∧((l.take j).any p=false)∧aj I H)
  (fun(j:(Nat))=>l.length-j) 0 ⟨rfl,rfl,rfl,rfl,trivial⟩ ?_ ?_
 ·
  exact⟨(by omega),rfl,W.refl _ _⟩
 intro j aq T ai V C;obtain⟨aB,B,k⟩:=T;replace d:=d.M k;replace i:=i.L k;have ar:=k.size;refine G.L (fun X=>?_);refine o.v1 bJ (o.nil (X ?_));refine G.t2 (fun Z ab=>?_);refine aU (fun ag=>?_) (fun ag=>?_)
 ·
  refine G.skip (Z (G.t2 (fun ae af=>G.aB (fun F _ K=>G.L (fun ac=>?_)))));refine o.aQ 2 ?_;refine ac (G.L (fun M=>?_));refine o.ax 3 ?_;refine o.bR (Y.bL d (j) rfl dI dO rfl rfl) fun al N=>?_;refine o.v1 (aT N.N iF dO (e4 _)) ?_;refine o.kk rfl rfl rfl cQ rfl rfl (ah l[j] _ i (List.getElem_mem (by omega))) (fun ay az L=>?_);obtain⟨rfl,t⟩:=L;replace i:=i.L t;replace k:=k.L t;have aA:=t.size;refine o.nil (M ?_);refine cK (fun A=>?_) (fun A=>?_)
  ·
   refine G.L (fun O=>?_);refine o.aQ 2 ?_;refine O ?_;refine G.ret (K (af (C (S (am (E ?_))))));exact⟨j,rfl,⟨⟨fun _=>mE (j:=j) (by omega) (by simpa using A),fun _=>by omega⟩,by omega,by omega⟩,i⟩
  ·
   refine G.skip (F (ae (G.region ?_)));refine o.v1 bD ?_;refine o.V (o.nil ?_);refine aP.sub (V (j+1) _ ?_ ?_) ⟨rfl,rfl,(aD (by omega)),(aD (by omega)),trivial⟩
   ·exact⟨(by omega),ow B (by omega) (by simpa using A),k⟩
   ·first|omega|(simp only;omega)|(simp;omega)
 ·
  refine G.exit (ab (C (ap ?_)));refine au (G.L (fun P=>?_));refine o.ak ?_;refine P ?_;refine G.ret (E ?_);exact⟨-1,rfl,⟨⟨fun h=>by omega,fun h=>by rw[List.take_of_length_le (by omega),h]at B;cases B⟩,by omega,by omega⟩,i⟩
theorem CF(v cJ:Value)(l:List bF)(p:bF→Bool)(w0:World)(I:Heap)
 (d:bx I du 66 v l) (A:∀(x:bF) (aa:Heap),aj I aa→x∈l→ff Tryz.prog w0 cJ [j1 x] aa (fun r i=>r= .bool (p x)∧aj aa i)):
 aC Tryz.prog w0 130 #[v,cJ] I (fun r i=>r= .bool (l.any p)∧aj I i):=by
 refine aC.aK [v,cJ] Tryz.func130 ?_;intro E B;have j:aj I I:=W.refl _ _;replace d:=d.bw;have F:=d.len;refine G.L (fun q=>?_);refine o.ak ?_;refine q (G.L (fun t=>?_));refine o.ax 2 ?_;refine aW Bz (DN _ cJ l p w0 _ d.any A) ?_;rintro H C ⟨n7,rfl,n,ac⟩;replace j:=j.L ac;refine o.v1 dJ ?_;refine o.ak ?_;refine t ?_;refine G.ret (B ?_);exact⟨by cases k:l.any p with|true=>(rw[decide_eq_true (n.1.2 k)])|false=>(rw[decide_eq_false (fun h=>by rw[n.1.1 h]at k;cases k)]),j⟩
theorem EU(s:cW)(v:Value)(ml:List bF)(F:Nat→Prop)(bk:Int)(w0:World)(I:Heap)
 (aL:dY bk I) (a7:bh (fun b=>b=0) I.size) (al:eS F I s) (dR:bh F I.size) (hm:bx I du 66 v ml) (c7:de (bG s.ba)) (fB:∀x∈(bG s.ba),x.1.length≤60) (ct:∀m∈ml,m.n.length≤140737488355328):
 aC Tryz.prog w0 49 #[eg s,v] I (fun r bc=>r= .int .i64 (fx (bG s.ba) ml)∧aj I bc):=by
 refine aC.aK [eg s,v] Tryz.func49 ?_;intro fH bA;have k:aj I I:=W.refl _ _;replace hm:=hm.bw;have b3:=hm.bY;have ha:=hm.len;refine G.L (fun ey=>?_);refine o.aO cq ?_;rintro v2 bc ⟨rfl,bZ,aY,gj,ez⟩;have fT:bc.size=I.size+1:=by rw[ez];simp
 replace aL:=aL.M aY;replace al:=al.M aY;replace hm:=hm.M aY;replace k:=k.L aY;have gk:=aY.size;replace bZ:Var 47 bc I.size (bS s):=bZ;refine o.ak ?_;refine ey (G.L (fun eA=>?_));refine o.v1 (aT bZ.N eC di (b4 _)) ?_;refine aW vw (zd s F w0 _ al (dR.mono (by omega))) (fun gl cm eB=>?_);obtain⟨bK,rfl,n,bE,bn⟩:=eB;have bQ:=ay.app (ay.z) (a7.mono k.size) bE;have cs:=ay.app (ay.z) (b3.mono k.size) bE;have bt:T 0 I.size (bK+1):=T.L (T.refl 0 _) bE k.size;replace aL:=aL.M bn;replace hm:=hm.M bn;replace k:=k.L bn;have gm:=bn.size;have fK:=n.le;have cv:=xv s.ba c7.nodup;refine o.ak ?_;refine eA (G.t2 (fun eD eE=>G.L (fun eF=>?_)));refine o.V ?_;refine o.v1 (bb hm dI) ?_;refine o.V (o.nil (eF ?_));refine G.aB (fun _ eG eH=>?_)
 refine G.bg (fun(j:(Nat))=>[(1,v),(5,.map (some bK)),(16,v),(17,.int .i64 (ml.length:Int)),(18,.int .i64 (j:Int))])
  (fun(j:(Nat)) (H:Heap)=>(j≤ml.length)∧(∀i (h:i<j),∀U:i<ml.length,gR (bG s.ba) (ml.take i) ml[i]=0)∧aj cm H)
  (fun(j:(Nat))=>ml.length-j) 0 ⟨rfl,rfl,rfl,rfl,rfl,trivial⟩ ?_ ?_
 ·
  exact⟨(by omega),(fun i h=>by omega),W.refl _ _⟩
 intro j P eJ fG eK cn;obtain⟨gX,bR,C⟩:=eJ;replace aL:=aL.M C;replace hm:=hm.M C;replace n:=n.M C;replace k:=k.L C;have gn:=C.size;refine G.L (fun eM=>?_);refine o.v1 bJ (o.nil (eM ?_));refine G.t2 (fun eN eO=>?_);refine aU (fun ef=>?_) (fun ef=>?_)
 ·
  refine G.skip (eN (G.t2 (fun eh ei=>G.aB (fun dX _ br=>G.L (fun dZ=>?_)))));refine o.V ?_;have Q:j<ml.length:=by omega
  obtain⟨y,L⟩:∃q,q=ml[j]:=⟨_,rfl⟩;have ak:y∈ml:=by rw[L];exact List.getElem_mem Q
  have hc:=ct y ak;refine o.bR (Y.bL hm (j) rfl dI dO rfl rfl) fun dE d_=>?_;refine o.v1 (Y.cast (v2:= .agg (du y).toArray) (aT d_.N iF dO (e4 _)) (by rw[L])) ?_;refine o.aO (cV mm) ?_;rintro hd cw ⟨rfl,M,aF,gp,ek⟩;have fL:cw.size=P.size+1:=by rw[ek];simp
  have eb:=(ay.new (a7.mono k.size):ay _ (P.size+1));have bv:=(ay.new (b3.mono k.size):ay _ (P.size+1));have ec:af (bK+1) (P.size+1):=af.new n.le;have ee:T 0 I.size (P.size+1):=T.new k.size;have c8:T 0 cm.size (P.size+1):=T.new C.size;replace aL:=aL.M aF;replace hm:=hm.M aF;replace n:=n.M aF;replace k:=k.L aF;replace C:=C.L aF;have gq:=aF.size;refine o.b2 ?_;refine o.s1 (dM M (_) (du y) (kO y) dO (e4 _) ((c9 (e4 _).symm))) fun ca c_=>?_;obtain⟨M,V⟩:=c_;replace V:=V.bs;replace aL:=aL.ab V (az.J eb);replace hm:=hm.ab V (az.J bv);replace n:=n.ab V (ah.J ec);replace k:=k.bo V (ag.J (aq.q ee));replace C:=C.bo V (ag.J (aq.q c8));have gr:=V.size;refine o.nil (dZ (G.t1 (fun da=>?_)));refine dx (fun K=>aj ca K) [] ?_;have E:=aj.refl ca;refine O.t1 0 rfl (fun K t=>Y.ai (M.N.M t) rfl cC rfl bP) E ?_;refine O.t1 1 rfl (fun K t=>ar (M.N.M t) bN) E ?_;refine O.V 3 rfl E ?_;refine O.V 4 rfl E ?_;refine O.e (g:=fun v=>v) 5 (by kernel_rfl) rfl (by kernel_rfl) (by kernel_rfl) (by kernel_rfl) (Y.slice hm (0) (j) rfl dI dO rfl (.inl ⟨rfl,rfl⟩) (.inr ⟨_,_,_,rfl,rfl,by first|rfl|omega⟩) (by omega) (by omega)) cQ rfl rfl E (fun gu bC=>?_);rw[List.drop_zero]at bC;refine O.t1 6 rfl (fun K t=>Y.makeFunc rfl rfl) E ?_;refine O.V 10 rfl E ?_;refine O.t1 11 rfl (fun K t=>Y.ai (M.N.M t) rfl cC rfl bP) E ?_;refine O.t1 12 rfl (fun K t=>ar (M.N.M t) bN) E ?_;refine O.t1 13 rfl (fun K t=>Y.cast (v2:=bq (hK (bG s.ba) y.n)) (Y.lookup (z0:=bz) (n.M t).fo gv rfl k7 Tryz.underlying9 nc rfl rfl) (by rw[hK,←cv])) E ?_;refine O.t1 14 rfl (fun K t=>Y.ai (M.N.M t) rfl cC rfl a_) E ?_;refine O.t1 15 rfl (fun K t=>Y.cast (v2:=bq y.J) (aT (((M.N.drop 1).M t).take 32) b_ a_ (by rw[gY];exact bB _)) (b6 (gY _))) E ?_;refine O.t1 16 rfl (fun K t=>Y.ia rfl Tryz.eqGuardType26 (fun w=>fV 9998 Tryz.underlying26 Tryz.underlying5 cN dS ((hK (bG s.ba) y.n).2) (y.J.2) w) rfl rfl) E ?_;refine O.t1 18 rfl (fun K t=>Y.ai (M.N.M t) rfl cC rfl a_) E ?_;refine O.t1 19 rfl (fun K t=>Y.cast (v2:=bq y.w) (aT (((M.N.drop 33).M t).take 32) b_ a_ (by rw[e5];exact bB _)) (b6 (e5 _))) E ?_;refine O.t1 20 rfl (fun K t=>Y.ai (M.N.M t) rfl cC rfl a_) E ?_;refine O.t1 21 rfl (fun K t=>Y.cast (v2:=bq y.J) (aT (((M.N.drop 1).M t).take 32) b_ a_ (by rw[gY];exact bB _)) (b6 (gY _))) E ?_;refine O.t1 22 rfl (fun K t=>Y.jM rfl Tryz.eqGuardType26 (fun w=>fV 9998 Tryz.underlying26 Tryz.underlying5 cN dS (y.w.2) (y.J.2) w) rfl rfl) E ?_;refine O.aX 2 ?_;refine cf p0 (p4 y.n bk w0 _ aL (a7.mono (by omega)) (by omega)) (fun gx bm en=>?_);obtain⟨rfl,aK⟩:=en;replace M:=M.M aK;replace bC:=bC.M aK;replace k:=k.L aK;replace C:=C.L aK;have d0:=aK.size;have cz:=E.L aK;refine O.cc cz ?_;have cA:=aj.refl bm;refine O.aX 7 ?_;refine cf Bd (CF _ _ (ml.take j) (fun x=>decide (x.n=y.n)) w0 _ bC.any (fun x aa aA _=>ff.of (caps:=[.pointer (some ⟨P.size,0,none⟩)]) Be (EX x _ y w0 aa (M.M aA)))) (fun d1 dr cy=>?_);obtain⟨rfl,bo⟩:=cy;replace k:=k.L bo;replace C:=C.L bo;have d2:=bo.size;have cD:=cA.L bo;refine O.cc cD ?_;have b5:=aj.refl dr;refine O.t1 8 rfl (fun K t=>eL) b5 ?_;refine O.aX 9 ?_;refine cf hz (ts (!((ml.take j).any (fun x=>decide (x.n=y.n)))) 18 w0 _) (fun d3 e8 eo=>?_);obtain⟨rfl,bp⟩:=eo;replace k:=k.L bp;replace C:=C.L bp;have d4:=bp.size;have cG:=b5.L bp;refine O.cc cG ?_;have cH:=aj.refl e8;refine O.aX 17 ?_;refine dq.call rfl rfl hz rfl cQ rfl rfl (h5 (decide (hK (bG s.ba) y.n=y.J)) 21 (decide_eq_decide.2 ⟨fun h=>Subtype.ext h,fun h=>by rw[h]⟩) w0 _) (fun d5 e9 ep=>?_);obtain⟨rfl,bs⟩:=ep;replace k:=k.L bs;replace C:=C.L bs;have cr:=bs.size;have cI:=cH.L bs;refine O.cc cI ?_;have cJ:=aj.refl e9;refine O.aX 23 ?_;refine dq.call rfl rfl hz rfl cQ rfl rfl (h5 (decide (¬y.w=y.J)) 26 (decide_eq_decide.2 ⟨fun h e=>h (by rw[e]),fun h e=>h (Subtype.ext e)⟩) w0 _) (fun d6 cc eP=>?_);obtain⟨rfl,bg⟩:=eP;replace k:=k.L bg;replace C:=C.L bg;have gz:=bg.size;have cK:=cJ.L bg;refine O.cc cK ?_;have cL:=aj.refl cc;refine O.aX 24 ?_;refine et rfl (cT _ ([c6 y.n,dm (!((ml.take j).any (fun x=>decide (x.n=y.n)))) 18,dm (decide (hK (bG s.ba) y.n=y.J)) 21,dm (decide (¬y.w=y.J)) 26]) jW km kn (rfl)) (fun d7 cd bf=>?_);obtain⟨db,bj,dW,dc⟩:=bf;have fW:cd.size=cc.size+1:=by rw[dc];simp
  replace k:=k.L bj;replace C:=C.L bj;have dd:=bj.size;have a0:=cL.L bj;refine O.cc a0 ?_;have a2:=aj.refl cd;refine O.aX 25 ?_;refine cf kJ (kY _ [c6 y.n,dm (!((ml.take j).any (fun x=>decide (x.n=y.n)))) 18,dm (decide (hK (bG s.ba) y.n=y.J)) 21,dm (decide (¬y.w=y.J)) 26] w0 _ db.rd.any) (fun d8 er fj=>?_);obtain⟨rfl,bl⟩:=fj;replace k:=k.L bl;replace C:=C.L bl;have gi:=bl.size;rw[EY];have a3:=a2.L bl;refine O.cc a3 ?_;have b7:=aj.refl er;refine O.t1 26 rfl (fun K t=>ej) b7 ?_;refine cx ?_;have fD:=b7;refine da (G.L (fun dg=>?_));refine o.V ?_;refine o.v1 cU (o.nil (dg ?_));refine aU (fun bu=>?_) (fun bu=>?_)
  ·
   refine G.L (fun dh=>?_);refine o.aQ 2 ?_;refine dh ?_;refine G.ret (br (ei (cn (eH (eE (bA ?_))))));exact⟨by have t:=sY (ml:=ml) (l:=(bG s.ba)) (pre:=[]) (j:=j) Q (fun i h=>by rw[List.nil_append];exact bR i h (by omega)) (by rw[List.nil_append,←L];exact bu);rw[List.nil_append,←L]at t;rw[fx,if_pos (by rw[t];exact bu),t],k⟩
  ·
   refine G.skip (dX (eh (G.region ?_)));refine o.v1 bD ?_;refine o.V (o.nil ?_);refine aP.sub (eK (j+1) _ ?_ ?_) ⟨rfl,rfl,rfl,(aD (by omega)),(aD (by omega)),trivial⟩
   ·exact⟨(by omega),(fun i h U=>by rcases Nat.lt_or_ge i j with ab|ab;exact bR i ab U;obtain rfl:i=j:=(by omega);rw[←L];simpa using bu),C⟩
   ·first|omega|(simp only;omega)|(simp;omega)
 ·
  obtain rfl:j=ml.length:=by omega
  have aS:h3 (bG s.ba) [] ml=0:=sZ (fun i bV=>by rw[List.nil_append];exact bR i bV bV);have fE:=zz fB aS;have fy:=(xN aS).1;refine G.exit (eO (cn (eG ?_)));refine eD (G.t1 (fun dj=>G.L (fun dk=>?_)));refine o.V ?_;refine o.v1 (bb hm dI) ?_;refine o.V (o.nil (dk ?_));refine G.aB (fun _ dp _=>?_)
  refine G.bg (fun(bY:(Nat)×(List (List UInt8×cY)))=>match bY with|(i,ae)=>[(1,v),(5,.map (some bK)),(53,v),(54,.int .i64 (ml.length:Int)),(55,.int .i64 (i:Int))])
   (fun(i,ae) (H:Heap)=>(i≤ml.length)∧(df H aI bq bK ae)∧(∀q,aM ae q=aM ((ml.take i).foldl dL (bG s.ba)) q)∧W (aE [(bK+1)]) P H)
   (fun(i,ae)=>ml.length-i) (0,lF s.ba) ⟨rfl,rfl,rfl,rfl,rfl,trivial⟩ ?_ ?_
  ·
   exact⟨(by omega),n,cv,W.refl _ _⟩
  rintro⟨i,ae⟩ aH fk d9 dt dv;obtain⟨bV,n,t,N⟩:=fk;replace aL:=aL.ab N (az.J bQ);replace hm:=hm.ab N (az.J cs);replace k:=k.bo N (ag.J (aq.q bt));have gA:=N.size;have au:=T.refl (bK+1) P.size;refine G.L (fun dw=>?_);refine o.v1 bJ (o.nil (dw ?_));refine G.t2 (fun dy dz=>?_);refine aU (fun fl=>?_) (fun fl=>?_)
  ·
   refine G.skip (dy (G.t1 (fun dA=>G.aB (fun dC _ _=>G.L (fun dD=>?_)))));have Q:i<ml.length:=by omega
   obtain⟨y,L⟩:∃q,q=ml[i]:=⟨_,rfl⟩;have ak:y∈ml:=by rw[L];exact List.getElem_mem Q
   refine o.bR (Y.bL hm (i) rfl dI dO rfl rfl) fun gB dF=>?_;refine o.v1 (Y.cast (v2:= .agg (du y).toArray) (aT dF.N iF dO (e4 _)) (by rw[L])) ?_;refine o.aO (cV mm) fun gy fm dl=>?_;obtain⟨rfl,b0,bI,cF,dG⟩:=dl;have fM:fm.size=aH.size+1:=by rw[dG];simp
   have dH:af (bK+1) (aH.size+1):=af.new n.le;have dJ:T 0 P.size (aH.size+1):=T.new N.size;replace n:=n.M bI;replace N:=N.bc bI;have dn:=bI.size;refine o.s1 (dM b0 (_) (du y) (kO y) dO (e4 _) ((c9 (e4 _).symm))) fun fO a4=>?_;obtain⟨b0,aZ⟩:=a4;replace aZ:=aZ.bs;replace n:=n.ab aZ (ah.J dH);replace N:=N.aJ aZ (ag.J (aq.q dJ));have gC:=aZ.size;refine o.nil (dD (G.region ?_));refine o.V ?_;refine o.v1 (aT b0.N iF dO (e4 _)) ?_;refine aW vx (xF bK ae y w0 _ n) (fun gH gI fo=>?_);obtain⟨rfl,n,a5⟩:=fo;replace N:=N.aJ a5 (ag.J (aq.r au));have fJ:=a5.size;refine o.nil (dC (dA (G.region ?_)));refine o.v1 bD ?_;refine o.V (o.nil ?_);refine aP.sub (dt (i+1,j0 ae y) _ ?_ ?_) ⟨rfl,rfl,rfl,(aD (by omega)),(aD (by omega)),trivial⟩
   ·exact⟨(by omega),n,(fun q=>by rw[kp Q,←L,sS,o3 (kq c7),t]),N⟩
   ·first|omega|(simp only;omega)|(simp;omega)
  ·
   obtain rfl:i=ml.length:=by omega
   rw[List.take_length]at t;have hb:=sQ n.fo.nodup (kq c7).nodup t;refine G.exit (dz (dv (dp ?_)));refine dj (G.t2 (fun dK dN=>G.L (fun cO=>?_)));refine o.V ?_;refine o.v1 (Y.xy n.fo rfl k7 rfl) ?_;refine o.v1 eY (o.nil (cO ?_));refine aU (fun ds=>?_) (fun ds=>?_)
   ·
    refine G.L (fun cP=>?_);refine o.ak ?_;refine cP ?_;refine G.ret (dN (bA ?_));exact⟨by rw[fx,if_neg (by rw[aS];decide),if_pos (by omega)],k⟩
   ·
    have gU:(ml.foldl dL (bG s.ba)).length≤200:=by omega
    refine G.skip (dK (G.t2 (fun cR cS=>G.L (fun cX=>?_))));refine o.V ?_;refine o.v1 (bb hm dI) ?_;refine o.V (o.nil (cX ?_));refine G.aB (fun _ cZ c0=>?_)
    refine G.bg (fun(bY:(Nat)×(List (List UInt8×cY)))=>match bY with|(i3,R)=>[(5,.map (some bK)),(66,v),(67,.int .i64 (ml.length:Int)),(68,.int .i64 (i3:Int))])
     (fun(i3,R) (H:Heap)=>(i3≤ml.length)∧(df H aI bq bK R)∧(∀q,aM R q=aM (ml.foldl dL (bG s.ba)) q)∧(∀m∈ml.take i3,hM (ml.foldl dL (bG s.ba)) m=false)∧W (aE [(bK+1)]) aH H)
     (fun(i3,R)=>ml.length-i3) (0,ae) ⟨rfl,rfl,rfl,rfl,trivial⟩ ?_ ?_
    ·
     exact⟨(by omega),n,t,(fun m h=>by simp at h),W.refl _ _⟩
    rintro⟨i3,R⟩ aX fp gJ bL b1;obtain⟨gW,n,aJ,ab,A⟩:=fp;replace aL:=aL.ab A (az.J bQ);replace hm:=hm.ab A (az.J cs);replace k:=k.bo A (ag.J (aq.q bt));have gD:=A.size;have cb:=T.refl (bK+1) aH.size;refine G.L (fun c1=>?_);refine o.v1 bJ (o.nil (c1 ?_));refine G.t2 (fun c3 c4=>?_);refine aU (fun fq=>?_) (fun fq=>?_)
    ·
     refine G.skip (c3 (G.t2 (fun bO dP=>G.aB (fun eQ b2 eR=>G.L (fun eT=>?_)))));have Q:i3<ml.length:=by omega
     obtain⟨y,L⟩:∃q,q=ml[i3]:=⟨_,rfl⟩;have ak:y∈ml:=by rw[L];exact List.getElem_mem Q
     refine o.bR (Y.bL hm (i3) rfl dI dO rfl rfl) fun gE eW=>?_;refine o.v1 (Y.cast (v2:= .agg (du y).toArray) (aT eW.N iF dO (e4 _)) (by rw[L])) ?_;refine o.aO (cV mm) fun gK fr ft=>?_;obtain⟨rfl,B,a6,gG,ce⟩:=ft;have fP:fr.size=aX.size+1:=by rw[ce];simp
     have eX:=(ay.new (a7.mono k.size):ay _ (aX.size+1));have a9:af (bK+1) (aX.size+1):=af.new n.le;have eZ:T 0 I.size (aX.size+1):=T.new k.size;have dU:T 0 aH.size (aX.size+1):=T.new A.size;replace aL:=aL.M a6;replace n:=n.M a6;replace k:=k.L a6;replace A:=A.bc a6;have fX:=a6.size;refine o.s1 (dM B (_) (du y) (kO y) dO (e4 _) ((c9 (e4 _).symm))) fun fQ cM=>?_;obtain⟨B,ac⟩:=cM;replace ac:=ac.bs;replace aL:=aL.ab ac (az.J eX);replace n:=n.ab ac (ah.J a9);replace k:=k.bo ac (ag.J (aq.q eZ));replace A:=A.aJ ac (ag.J (aq.q dU));have fY:=ac.size;refine o.nil (eT (G.t2 (fun ci cg=>G.L (fun cj=>?_))));refine o.v1 (Y.ai B.N rfl cC rfl a_) ?_;refine o.v1 (Y.cast (v2:=bq y.J) (aT ((B.N.drop 1).take 32) b_ a_ (by rw[gY];exact bB _)) (b6 (gY _))) ?_;refine aW kK (k0 y.J w0 _) (fun gL gM e_=>?_);obtain⟨rfl,ap⟩:=e_;replace aL:=aL.M ap;replace n:=n.M ap;replace B:=B.M ap;replace k:=k.L ap;replace A:=A.bc ap;have fZ:=ap.size;refine o.v1 (Y.hp rfl rfl) ?_;refine o.V ?_;refine o.bj (d:=76) rfl (fun cl=>?_) (fun cl=>?_)
     ·
      refine o.ax 4 ?_;refine o.nil (cj ?_);refine G.iz rfl ?_;refine G.exit (cg (b2 ?_));refine bO (G.region ?_);refine o.v1 bD ?_;refine o.V (o.nil ?_);refine aP.sub (bL (i3+1,R) _ ?_ ?_) ⟨rfl,rfl,(aD (by omega)),(aD (by omega)),trivial⟩
      ·exact⟨(by omega),n,aJ,mD ab Q (by rw[←L];unfold hM;rw[decide_eq_false (by first|exact ba|(intro h;simp_all))];rfl),A⟩
      ·first|omega|(simp only;omega)|(simp;omega)
     ·
      refine o.ao (Y.ai B.N rfl cC rfl a_) ?_;refine o.ao (Y.cast (v2:=bq y.w) (aT ((B.N.drop 33).take 32) b_ a_ (by rw[e5];exact bB _)) (b6 (e5 _))) ?_;refine o.call rfl kK rfl bd rfl rfl (k0 y.w w0 _) (fun gN gO fc=>?_);obtain⟨rfl,aN⟩:=fc;replace aL:=aL.M aN;replace n:=n.M aN;replace B:=B.M aN;replace k:=k.L aN;replace A:=A.bc aN;have f_:=aN.size;refine o.dF ?_;refine o.nil (cj ?_);refine aU (fun fe=>?_) (fun fe=>?_)
      ·
       have ba:¬(y.J=bz∧y.w≠bz):=by first|(intro h;simp_all)
       refine G.exit (cg (b2 ?_));refine bO (G.region ?_);refine o.v1 bD ?_;refine o.V (o.nil ?_);refine aP.sub (bL (i3+1,R) _ ?_ ?_) ⟨rfl,rfl,(aD (by omega)),(aD (by omega)),trivial⟩
       ·exact⟨(by omega),n,aJ,mD ab Q (by rw[←L];unfold hM;rw[decide_eq_false (by first|exact ba|(intro h;simp_all))];rfl),A⟩
       ·first|omega|(simp only;omega)|(simp;omega)
      ·
       have ba:y.J=bz∧y.w≠bz:=by first|exact⟨by simpa using cl,by assumption⟩|(constructor<;>simp_all)
       refine G.skip (ci (G.L (fun e0=>?_)));refine o.V ?_;refine o.v1 (Y.ai B.N rfl cC rfl bP) ?_;refine o.v1 (ar B.N bN) ?_;refine o.rr (Z.p9 n gv rfl k7 Tryz.underlying9 rfl rfl) cQ rfl (fun fR b8 dQ=>?_);obtain⟨rfl,n,ai⟩:=dQ;replace ai:=ai.bs;replace aL:=aL.ab ai (az.J bQ);replace B:=B.ab ai (ah.J a9.symm);replace k:=k.bo ai (ag.J (aq.q bt));replace A:=A.aJ ai (ag.J (aq.r cb));have ga:=ai.size;refine o.nil (e0 (G.t1 (fun e1=>?_)));refine dx (fun K=>aj b8 K) [] ?_;have E:=aj.refl b8;refine O.t1 0 rfl (fun K t=>Y.ai (B.N.M t) rfl cC rfl bP) E ?_;refine O.t1 1 rfl (fun K t=>ar (B.N.M t) bN) E ?_;refine O.V 2 rfl E ?_;refine O.aX 3 ?_;refine cf vy (w6 bK w0 _) (fun gP eu fg=>?_);obtain⟨ed,rfl,aR,gZ,am⟩:=fg;replace aL:=aL.M am;replace n:=n.M am;replace B:=B.M am;replace k:=k.L am;replace A:=A.bc am;have gb:=am.size;have fU:=aR.le;have bT:=E.L am;refine O.cc bT ?_;have be:=aj.refl eu;refine O.aX 4 ?_;have g_:=sQ n.fo.nodup (show((ea (ml.foldl dL (bG s.ba)) y.n).map (·.1)).Nodup from(sv (kq c7) _).nodup) (fun q=>by rw[jg,jg,aJ]);have gV:(ea (ml.foldl dL (bG s.ba)) y.n).length≤(ml.foldl dL (bG s.ba)).length:=List.length_filter_le _ _;refine cf u9 (vL ed bK bq (ea R y.n) w0 _ aR n (by omega)) (fun gS ev fh=>?_);obtain⟨gT,el,bX,rfl,ck,gd,cu,X⟩:=fh;replace aL:=aL.M X;replace n:=n.M X;replace B:=B.M X;replace aR:=aR.M X;replace k:=k.L X;replace A:=A.bc X;have gf:=X.size;have fI:=ck.le;obtain⟨fu,fw⟩:=Dp aJ cu.2;have fF:=nU aS y ak;have bU:iH y.n bX=if hM (ml.foldl dL (bG s.ba)) y=true then 13 else 0:=by rw[wJ fF fw,fu];unfold hM;rw[decide_eq_true ba,Bool.true_and]
       have fC:∀x∈bX,x.length≤140737488355328:=fun x aR=>by
        have a8:=(cu.2 x).1 aR;rw[←gQ,jg]at a8;split at a8
        ·cases a8
        ·rw[aJ,gQ]at a8
         obtain⟨z,cr,rfl⟩:=List.mem_map.1 a8;have:=fE z cr;omega
       have bi:=be.L X;refine O.cc bi ?_;have dT:=aj.refl ev;refine O.aX 5 ?_;refine cf Bf (Dq y.n _ bX bk w0 _ aL (a7.mono (by omega)) ck.rd.any (ct y ak) fC) (fun em ew fi=>?_);obtain⟨rfl,aO⟩:=fi;replace n:=n.M aO;replace B:=B.M aO;replace k:=k.L aO;replace A:=A.bc aO;have gg:=aO.size;have aB:=dT.L aO;refine O.cc aB ?_;have b9:=aj.refl ew;refine O.t1 6 rfl (fun K t=>ej) b9 ?_;refine cx ?_;have fD:=b9;refine e1 (G.L (fun e2=>?_));refine o.V ?_;refine o.v1 (Y.ai B.N rfl cC rfl bP) ?_;refine o.v1 (ar B.N bN) ?_;refine o.v1 (Y.ai B.N rfl cC rfl a_) ?_;refine o.v1 (Y.cast (v2:=bq y.w) (aT ((B.N.drop 33).take 32) b_ a_ (by rw[e5];exact bB _)) (b6 (e5 _))) ?_;refine o.s1 (S.l_ (y.w) n gv rfl k7 Tryz.underlying9 rfl rfl rfl) fun fS dV=>?_;obtain⟨n,a1⟩:=dV;replace a1:=a1.bs;replace k:=k.bo a1 (ag.J (aq.q bt));replace A:=A.aJ a1 (ag.J (aq.r cb));have gh:=a1.size;refine o.nil (e2 (G.L (fun e3=>?_)));refine o.V ?_;refine o.v1 cU (o.nil (e3 ?_));refine aU (fun co=>?_) (fun co=>?_)
       ·
        refine G.L (fun e6=>?_);refine o.aQ 2 ?_;refine e6 ?_;refine G.ret (eR (dP (b1 (c0 (cS (bA ?_))))));exact⟨by have aQ:hM (ml.foldl dL (bG s.ba)) y=true:=(by cases aQ:hM (ml.foldl dL (bG s.ba)) y with|true=>rfl|false=>exact absurd (by rw[bU,aQ];rfl) co);rw[fx,if_neg (by rw[aS];decide),if_neg (by omega),wH ak aQ,bU,if_pos aQ],k⟩
       ·
        refine G.skip (eQ (bO (G.region ?_)));refine o.v1 bD ?_;refine o.V (o.nil ?_);refine aP.sub (bL (i3+1,fN (ea R y.n) y.n y.w) _ ?_ ?_) ⟨rfl,rfl,(aD (by omega)),(aD (by omega)),trivial⟩
        ·exact⟨(by omega),n,(fun q=>by
          rw[kV,jg];by_cases bw:q=y.n
          ·rw[if_pos bw,bw,xL c7 fy ak,if_neg ba.2]
          ·rw[if_neg bw,if_neg bw,aJ]),mD ab Q (by rw[←L];cases aQ:hM (ml.foldl dL (bG s.ba)) y with|false=>rfl|true=>exact absurd (by rw[bU,aQ];decide) co),A⟩
        ·first|omega|(simp only;omega)|(simp;omega)
    ·
     refine G.exit (c4 (b1 (cZ ?_)));refine cR (G.L (fun e7=>?_));refine o.ak ?_;refine e7 ?_;refine G.ret (bA ?_);exact⟨by obtain rfl:i3=ml.length:=(by omega);rw[List.take_length]at ab;rw[fx,if_neg (by rw[aS];decide),if_neg (by omega),wI ab],k⟩
end fI

namespace fS
open E Go.RowKit eM eP e1 e7 ev eQ eR fC fD pC fI
set_option maxRecDepth 100000 in
theorem jW:c4 Tryz.prog 244 35 1 8:=⟨Tryz.underlying244,_,_,rfl,rfl,rfl,rfl,rfl⟩
theorem w5{l:List bA}{m:List (cY×Int)}{P:cY→Prop}{j:Nat}{n:Int}(h:∀k,(aM m k).isSome=true↔P k∨∃x∈l.take j,x.k=k)(q:j<l.length):∀k,(aM (fN m l[j].k n) k).isSome=true↔P k∨∃x∈l.take (j+1),x.k=k:=by
 intro k;rw[kV,List.take_succ_eq_append_getElem q];by_cases i:k=l[j].k
 ·rw[if_pos i]
  exact⟨fun _=> .inr ⟨l[j],List.mem_append_right _ (List.mem_singleton.2 rfl),i.symm⟩,fun _=>rfl⟩
 ·rw[if_neg i,h]
  constructor
  ·rintro(o|⟨x,d,e⟩)
   ·exact .inl o
   ·exact .inr ⟨x,List.mem_append_left _ d,e⟩
  ·rintro(o|⟨x,d,e⟩)
   ·exact .inl o
   ·rcases List.mem_append.1 d with d|d
    ·exact .inr ⟨x,d,e⟩
    ·rw[List.mem_singleton.1 d]at e;exact absurd e.symm i
def eT(a b:Int):Int:=if a≠0 then a else b
theorem ql(a b:Int):hY [a,b]=eT a b:=by
 unfold eT;by_cases h:a≠0
 ·simp[hY,h]
 ·have h:a=0:=by simpa using h
  subst h;by_cases U:b=0<;>simp[hY,U]
theorem su(a b c:Int):eT (eT a b) c=eT a (eT b c):=by
 unfold eT;by_cases h:a≠0
 ·rw[if_pos h,if_pos h,if_pos h]
 ·rw[if_neg h,if_neg h]
theorem vI(s:eA)(t:b1):eI s t=eT (eT (eT (eT (eF t) (fw t)) (fx s.b8 t.ml)) (gl t)) (ig s.gD t.el):=by
 rw[su,su,su];rfl
theorem sB{t:b1}{a:Int}(d:t.bE=true)(U:t.an≠[]):some (Value.int .i64 (eT a (c6 t.an)))=some (Value.int .i64 (eT a (fw t))):=by unfold fw;rw[if_pos ⟨d,U⟩]
theorem wQ(a:Int):eT a 0=a:=by unfold eT;by_cases h:a≠0<;>simp_all
theorem nK{t:b1}{a:Int}(h:t.bE=false∨t.an=[]):some (Value.int .i64 a)=some (Value.int .i64 (eT a (fw t))):=by
 unfold fw;rw[if_neg,wQ];rintro⟨d,U⟩;rcases h with h|h
 ·rw[h]at d;cases d
 ·exact U h
theorem y3{t:b1}{a:Int}(d:t.al=true):some (Value.int .i64 (eT a (if t.q.k≠0 then gJ t.q else 0)))=some (Value.int .i64 (eT a (gl t))):=by unfold gl;simp[d]
theorem y2{t:b1}{a:Int}(d:t.al=false):some (Value.int .i64 a)=some (Value.int .i64 (eT a (gl t))):=by unfold gl;simp[d,wQ]
theorem qN(t:b1):dm (decide (eF t=0)) 1=eF t:=by
 unfold dm eF;split<;>simp_all
theorem j2{t:b1}(h:t.bE=true∨t.al=true∨0<t.ml.length∨0<t.el.length):true=decide (eF t=0):=by
 refine(decide_eq_true ?_).symm;unfold eF;rw[if_neg];rintro⟨d,U,i,j⟩;rw[d,U,i,j]at h;simp at h
theorem qM{t:b1}(i:t.bE=false)(U:t.al=false)(d:¬0<t.ml.length):decide ((t.el.length:Int)>0)=decide (eF t=0):=by
 unfold eF;have d:t.ml=[]:=List.length_eq_zero_iff.1 (by omega)
 cases j:t.el with
 |nil=>simp[i,U,d]
 |cons a l=>simp[i,U,d]
theorem zl:∀{l:List fE},gT l=0→∀t∈l,1≤t.d∧t.d≤3
 |[],_,t,h=>by cases h
 |a::l,h,t,d=>by
  rw[gT]at h;by_cases e:hq a≠0
  ·rw[if_pos e]at h;exact absurd h e
  ·rw[if_neg e]at h
   rcases List.mem_cons.1 d with rfl|d
   ·apply Decidable.byContradiction
    intro i;unfold hq at e;rw[if_pos i]at e;exact e (by decide)
   ·exact zl h t d
theorem we{x:cZ}(h:gJ x=0):ob x∧(x.k=1∨x.k=2):=by
 unfold gJ at h;split at h
 ·cases h
 rename_i d;split at h
 ·cases h
 rename_i U;split at h
 ·cases h
 rename_i i;split at h
 ·cases h
 rename_i q;have j:hV x=true:=by cases e:hV x with|true=>rfl|false=>exact absurd e i
 obtain⟨_,_,a3,a4,a5,o,_⟩:=of_decide_eq_true j;have aw:=((mK x.br).1 (by simpa using U)).1;have k:x.k=1∨x.k=2:=Decidable.not_not.1 d;exact⟨⟨by omega,by omega,by omega,by omega,by omega,fun t n=>by have:=zl h t n;omega⟩,k⟩
structure lh (t:b1):Prop where
 ml:t.ml.length≤65535
 el:t.el.length≤65535
 E9:∀m∈t.ml,m.y.length≤65535
 iN:∀m∈t.ml,m.n.length≤140737488355328
 an:t.an.length≤140737488355328
 br:t.q.br.length≤140737488355328
 a6:t.q.a6.length≤1048576
 l3:(fl t).length≤1048576
theorem si{s:eA}{t:b1}(h:lh t)(c:eI s t=0):lb t:=by
 have c:=p2 c;refine⟨h.ml,h.el,fun bE=>?_,fun m hm=>⟨?_,h.E9 m hm⟩,fun m hm=>?_,fun al=>?_,fun al i=>?_⟩
 ·have d:=c.an
  unfold fw at d;by_cases U:t.an=[]
  ·rw[U];simp
  ·rw[if_pos ⟨bE,U⟩]at d
   have:=((mK t.an).1 d).1;omega
 ·have:=((mK m.n).1 (nU c.ei m hm)).1;omega
 ·have d:=o0 c.gD m hm
  unfold gE at d;split at d
  ·cases d
  ·split at d
   ·cases d
   ·omega
 ·have d:=c.h6
  unfold gl at d;by_cases U:t.q.k=0
  ·omega
  ·rw[if_pos ⟨al,U⟩]at d
   have:=(we d).2;omega
 ·have d:=c.h6
  unfold gl at d;rw[if_pos ⟨al,i⟩]at d;exact(we d).1
theorem EJ(s:cW)(v:Value)(el:List bA)(F:Nat→Prop)(w0:World)(I:Heap)
 (al:eS F I s) (cL:bh F I.size) (he:bx I bO 33 v el) (an:∀y∈el,bx I a1 1 y.v.v y.d) (c7:de (cn s.el)):
 aC Tryz.prog w0 51 #[eg s,v] I (fun r t=>r= .int .i64 (ig (cn s.el) el)∧aj I t):=by
 refine aC.aK [eg s,v] Tryz.func51 ?_;intro dg bf;have d:aj I I:=W.refl _ _;replace he:=he.bw;have b0:=he.bY;replace an:=fun y E=>(an y E).bw;have aW:bh (fun b=>True∧b<I.size) I.size:=fun b h=>h.2;have ed:=he.len;have ei:=al.e.len;refine G.L (fun cb=>?_);refine o.aO cq ?_;rintro v2 t ⟨rfl,ab,ak,dP,cc⟩;have dy:t.size=I.size+1:=by rw[cc];simp
 replace al:=al.M ak;replace he:=he.M ak;replace an:=fun y E=>(an y E).M ak;replace d:=d.L ak;have dQ:=ak.size;replace ab:Var 47 t I.size (bS s):=ab;refine o.ak ?_;refine cb (G.L (fun cd=>?_));refine o.aO (Z.nR bq (Value.int .i64) rfl) fun dR aF cg=>?_;obtain⟨rfl,ax,Q,dz,bG⟩:=cg;have dE:aF.size=t.size+1:=by rw[bG];simp
 have cj:=(ay.new (cL.mono d.size):ay _ (t.size+1));have bv:=(ay.new (b0.mono d.size):ay _ (t.size+1));have a8:=(ay.new (aW.mono d.size):ay _ (t.size+1));have ba:T 0 I.size (t.size+1):=T.new d.size;replace al:=al.M Q;replace he:=he.M Q;replace an:=fun y E=>(an y E).M Q;replace ab:=ab.M Q;replace d:=d.L Q;have dS:=Q.size;have dh:=ax.lt;refine o.ak ?_;refine cd (G.t1 (fun cl=>G.L (fun cm=>?_)));refine o.v1 (Y.ai ab.N rfl ca rfl dv) ?_;refine o.v1 (ar ab.N.hQ dV) ?_;refine o.v1 (bb al.e cu) ?_;refine o.V (o.nil (cm ?_));refine G.aB (fun _ cr _=>?_)
 refine G.bg (fun(aQ:(Nat)×(List (cY×Int)))=>match aQ with|(j,V)=>[(1,v),(5,.map (some t.size)),(13,s.ct.v),(14,.int .i64 (s.el.length:Int)),(15,.int .i64 (j:Int))])
  (fun(j,V) (H:Heap)=>(j≤s.el.length)∧(df H bq (Value.int .i64) t.size V)∧(∀k,(aM V k).isSome=true↔False∨∃x∈s.el.take j,x.k=k)∧W (aE [(t.size+1)]) aF H)
  (fun(j,V)=>s.el.length-j) (0,[]) ⟨rfl,rfl,rfl,rfl,rfl,trivial⟩ ?_ ?_
 ·
  exact⟨(by omega),ax,(fun k=>by simp[aM]),W.refl _ _⟩
 rintro⟨j,V⟩ aa ct da cv cw;obtain⟨ef,ax,aO,C⟩:=ct;replace al:=al.ab C (az.J cj);replace he:=he.ab C (az.J bv);replace an:=fun y E=>(an y E).ab C (az.J a8);replace d:=d.bo C (ag.J (aq.q ba));have dT:=C.size;have bY:=T.refl (t.size+1) aF.size;refine G.L (fun cy=>?_);refine o.v1 bJ (o.nil (cy ?_));refine G.t2 (fun cz cA=>?_);refine aU (fun cC=>?_) (fun cC=>?_)
 ·
  refine G.skip (cz (G.t1 (fun cD=>G.aB (fun bI _ _=>G.L (fun bK=>?_)))));refine o.V ?_;have M:j<s.el.length:=by omega
  obtain⟨y,K⟩:∃q,q=s.el[j]:=⟨_,rfl⟩;have bd:y∈s.el:=by rw[K];exact List.getElem_mem M
  refine o.bR (Y.bL al.e (j) rfl cu ck rfl rfl) fun dA bL=>?_;refine o.v1 (Y.cast (v2:= .agg (bO y).toArray) (aT bL.N hJ ck (c0 _)) (by rw[K])) ?_;refine o.aO (cV kD) ?_;rintro ek bg ⟨rfl,aL,aN,co,cG⟩;have dC:bg.size=aa.size+1:=by rw[cG];simp
  have bN:af (t.size+1) (aa.size+1):=af.new ax.lt;have bP:T 0 aF.size (aa.size+1):=T.new C.size;replace ax:=ax.M aN;replace C:=C.bc aN;have dW:=aN.size;refine o.b2 ?_;refine o.s1 (dM aL (_) (bO y) (gX y) ck (c0 _) ((c9 (c0 _).symm))) fun dD bQ=>?_;obtain⟨aL,ai⟩:=bQ;replace ai:=ai.bs;replace ax:=ax.ab ai (ah.J bN);replace C:=C.aJ ai (ag.J (aq.q bP));have dX:=ai.size;refine o.nil (bK (G.region ?_));refine o.V ?_;refine o.v1 (Y.ai aL.N rfl eX rfl a_) ?_;refine o.v1 (Y.cast (v2:=bq y.k) (aT (aL.N.take 32) b_ a_ (by rw[show(bO y).take 32=b7 y.k from eN y];exact bB _)) (b6 (show(bO y).take 32=b7 y.k from eN y))) ?_;refine o.V ?_;refine o.s1 (S.yh ((j:Int)) ax w4 rfl t_ rfl rfl rfl) fun di bR=>?_;obtain⟨ax,aJ⟩:=bR;replace aJ:=aJ.bs;replace C:=C.aJ aJ (ag.J (aq.r bY));have dY:=aJ.size;refine o.nil (bI (cD (G.region ?_)));refine o.v1 bD ?_;refine o.V (o.nil ?_);refine aP.sub (cv (j+1,fN V y.k (j:Int)) _ ?_ ?_) ⟨rfl,rfl,rfl,(aD (by omega)),(aD (by omega)),trivial⟩
  ·exact⟨(by omega),ax,(by rw[K];exact w5 aO M),C⟩
  ·first|omega|(simp only;omega)|(simp;omega)
 ·
  obtain rfl:j=s.el.length:=by omega
  rw[List.take_length]at aO;refine G.exit (cA (cw (cr ?_)));refine cl (G.t2 (fun bU bV=>G.L (fun a0=>?_)));refine o.V ?_;refine o.v1 (bb he cu) ?_;refine o.V (o.nil (a0 ?_));refine G.aB (fun _ a2 a3=>?_)
  refine G.bg (fun(aQ:(Nat)×(List (cY×Int)))=>match aQ with|(i,P)=>[(5,.map (some t.size)),(25,v),(26,.int .i64 (el.length:Int)),(27,.int .i64 (i:Int))])
   (fun(i,P) (H:Heap)=>(i≤el.length)∧(df H bq (Value.int .i64) t.size P)∧(∀k,(aM P k).isSome=true↔(∃x∈s.el,x.k=k)∨∃x∈el.take i,x.k=k)∧(∀x∈el.take i,gE x=0)∧W (aE [(t.size+1)]) aa H)
   (fun(i,P)=>el.length-i) (0,V) ⟨rfl,rfl,rfl,rfl,trivial⟩ ?_ ?_
  ·
   exact⟨(by omega),ax,(fun k=>by rw[aO];simp),(fun x h=>by simp at h),W.refl _ _⟩
  rintro⟨i,P⟩ aA b1 cs a4 aZ;obtain⟨ee,ax,a5,aK,n⟩:=b1;replace he:=he.ab n (az.J bv);replace an:=fun y E=>(an y E).ab n (az.J a8);replace d:=d.bo n (ag.J (aq.q ba));have dZ:=n.size;have bZ:=T.refl (t.size+1) aa.size;refine G.L (fun bk=>?_);refine o.v1 bJ (o.nil (bk ?_));refine G.t2 (fun bl bn=>?_);refine aU (fun b2=>?_) (fun b2=>?_)
  ·
   refine G.skip (bl (G.t2 (fun a9 bX=>G.aB (fun cI _ cJ=>G.L (fun cK=>?_)))));refine o.V ?_;have M:i<el.length:=by omega
   obtain⟨y,K⟩:∃q,q=el[i]:=⟨_,rfl⟩;have bd:y∈el:=by rw[K];exact List.getElem_mem M
   refine o.bR (Y.bL he (i) rfl cu ck rfl rfl) fun dj bT=>?_;refine o.v1 (Y.cast (v2:= .agg (bO y).toArray) (aT bT.N hJ ck (c0 _)) (by rw[K])) ?_;refine o.aO (cV kD) ?_;rintro v9 bj ⟨rfl,A,ae,bm,b3⟩;have dk:bj.size=aA.size+1:=by rw[b3];simp
   have be:=(ay.new (aW.mono d.size):ay _ (aA.size+1));have cM:af (t.size+1) (aA.size+1):=af.new ax.lt;have cN:T 0 I.size (aA.size+1):=T.new d.size;have bi:T 0 aa.size (aA.size+1):=T.new n.size;replace an:=fun y E=>(an y E).M ae;replace ax:=ax.M ae;replace d:=d.L ae;replace n:=n.bc ae;have dr:=ae.size;refine o.b2 ?_;refine o.s1 (dM A (_) (bO y) (gX y) ck (c0 _) ((c9 (c0 _).symm))) fun aR cO=>?_;obtain⟨A,ac⟩:=cO;replace ac:=ac.bs;replace an:=fun y E=>(an y E).ab ac (az.J be);replace ax:=ax.ab ac (ah.J cM);replace d:=d.bo ac (ag.J (aq.q cN));replace n:=n.aJ ac (ag.J (aq.q bi));have d_:=ac.size;refine o.nil (cK (G.t2 (fun aB cP=>G.t1 (fun cR=>?_))));refine dx (fun L=>aj aR L) [] ?_;have N:=aj.refl aR;refine O.t1 0 rfl (fun L B=>Y.ai (A.N.M B) rfl eX rfl a_) N ?_;refine O.t1 1 rfl (fun L B=>Y.cast (v2:=bq y.k) (aT ((A.N.M B).take 32) b_ a_ (by rw[show(bO y).take 32=b7 y.k from eN y];exact bB _)) (b6 (show(bO y).take 32=b7 y.k from eN y))) N ?_;refine O.t1 5 rfl (fun L B=>Y.ai (A.N.M B) rfl eX rfl db) N ?_;refine O.t1 6 rfl (fun L B=>ar (A.N.ji.M B) eD) N ?_;refine O.t1 7 rfl (fun L B=>bb ((an y bd).M B) dc) N ?_;refine O.t1 8 rfl (fun L B=>eK) N ?_;refine O.aX 2 ?_;refine cf kK (k0 y.k w0 _) (fun ea c3 b4=>?_);obtain⟨rfl,R⟩:=b4;replace ax:=ax.M R;replace A:=A.M R;replace d:=d.L R;replace n:=n.bc R;have dp:=R.size;have bo:=N.L R;refine O.cc bo ?_;have aX:=aj.refl c3;refine O.t1 3 rfl (fun L B=>Y.hp rfl rfl) aX ?_;refine O.aX 4 ?_;refine cf hz (h5 (decide (¬y.k=bz)) 1 rfl w0 _) (fun eb b8 b5=>?_);obtain⟨rfl,au⟩:=b5;replace ax:=ax.M au;replace A:=A.M au;replace d:=d.L au;replace n:=n.bc au;have dt:=au.size;have bp:=aX.L au;refine O.cc bp ?_;have bs:=aj.refl b8;refine O.aX 9 ?_;refine dq.call rfl rfl hz rfl cQ rfl rfl (h5 (decide (y.d.length≤65536)) 5 (by first|(exact(decide_eq_true (by omega)).symm)|(exact(decide_eq_false (by omega)).symm)|(exact decide_eq_decide.2 (by omega))) w0 _) (fun ec a6 cH=>?_);obtain⟨rfl,am⟩:=cH;replace ax:=ax.M am;replace A:=A.M am;replace d:=d.L am;replace n:=n.bc am;have dJ:=am.size;have bt:=bs.L am;refine O.cc bt ?_;have bu:=aj.refl a6;refine O.aX 10 ?_;refine et rfl (cT _ ([dm (decide (¬y.k=bz)) 1,dm (decide (y.d.length≤65536)) 5]) jW km kn (rfl)) (fun dF a7 c4=>?_);obtain⟨cS,X,dK,cX⟩:=c4;have du:a7.size=a6.size+1:=by rw[cX];simp
   replace ax:=ax.M X;replace A:=A.M X;replace d:=d.L X;replace n:=n.bc X;have dL:=X.size;have bw:=bu.L X;refine O.cc bw ?_;have bC:=aj.refl a7;refine O.aX 11 ?_;refine cf kJ (kY _ [dm (decide (¬y.k=bz)) 1,dm (decide (y.d.length≤65536)) 5] w0 _ cS.rd.any) (fun dG b9 ce=>?_);obtain⟨rfl,ap⟩:=ce;replace ax:=ax.M ap;replace A:=A.M ap;replace d:=d.L ap;replace n:=n.bc ap;have dN:=ap.size;rw[EH];have bE:=bC.L ap;refine O.cc bE ?_;have aY:=aj.refl b9;refine O.t1 12 rfl (fun L B=>ej) aY ?_;refine cx ?_;have eh:=aY;refine cR (G.L (fun br=>?_));refine o.V ?_;refine o.v1 cU (o.nil (br ?_));refine aU (fun aH=>?_) (fun aH=>?_)
   ·
    refine G.L (fun cZ=>?_);refine o.aQ 2 ?_;refine cZ ?_;refine G.ret (cP (cJ (bX (aZ (a3 (bV (bf ?_)))))));exact⟨by have B:=sN (l:=el) (j:=i) M aK (by rw[←K];exact aH);rw[←K]at B;rw[ig,if_pos (by rw[B];exact aH),B],d⟩
   ·
    refine G.skip (aB (G.region ?_));refine o.V ?_;refine o.v1 (Y.ai A.N rfl eX rfl a_) ?_;refine o.v1 (Y.cast (v2:=bq y.k) (aT (A.N.take 32) b_ a_ (by rw[show(bO y).take 32=b7 y.k from eN y];exact bB _)) (b6 (show(bO y).take 32=b7 y.k from eN y))) ?_;refine o.V ?_;refine o.s1 (S.yh ((i:Int)) ax w4 rfl t_ rfl rfl rfl) fun dw bF=>?_;obtain⟨ax,aI⟩:=bF;replace aI:=aI.bs;replace n:=n.aJ aI (ag.J (aq.r bZ));have dO:=aI.size;refine o.nil (cI (a9 (G.region ?_)));refine o.v1 bD ?_;refine o.V (o.nil ?_);refine aP.sub (a4 (i+1,fN P y.k (i:Int)) _ ?_ ?_) ⟨rfl,rfl,(aD (by omega)),(aD (by omega)),trivial⟩
    ·exact⟨(by omega),ax,(by rw[K];exact w5 a5 M),mD aK M (by rw[←K];simpa using aH),n⟩
    ·first|omega|(simp only;omega)|(simp;omega)
  ·
   obtain rfl:i=el.length:=by omega
   rw[List.take_length]at a5 aK;have c_:=sO aK;have c8:=D1 (s:=s.el) (el:=el) c7 ax.fo.nodup (fun k=>by rw[←gQ,a5]);refine G.exit (bn (aZ (a2 ?_)));refine bU (G.L (fun c1=>?_));refine o.V ?_;refine o.v1 (Y.xy ax.fo rfl t_ rfl) ?_;refine o.v1 eK ?_;refine o.call rfl hz rfl cQ rfl rfl (h5 (decide (P.length≤500)) 4 (decide_eq_decide.2 (by omega)) w0 _) (fun dH dI dU=>?_);obtain⟨rfl,aS⟩:=dU;replace d:=d.L aS;have ci:=aS.size;refine o.ak ?_;refine c1 ?_;refine G.ret (bf ?_);exact⟨by rw[ig,if_neg (by rw[c_];decide),c8];unfold dm;by_cases bc:(gB (cn s.el) el).length≤500;rw[if_pos (decide_eq_true bc),if_neg (by omega)];rw[if_neg (by simpa using bc),if_pos (by omega)],d⟩
theorem ny(s:cW)(t:b1)(F aR:Nat→Prop)(bk:Int)(w0:World)(I:Heap)
 (aL:dY bk I) (aq:bh (fun b=>b=0) I.size) (al:eS F I s) (aI:bh F I.size) (k:e2 aR I t) (bJ:bh aR I.size) (ok:s.m.Ok) (T:lh t):
 aC Tryz.prog w0 23 #[eg s,dG t] I (fun r A=>r= .int .i64 (eI s.m t)∧aj I A):=by
 refine aC.aK [eg s,dG t] Tryz.func23 ?_;intro b3 aJ;have j:aj I I:=W.refl _ _;have dk:=k.m.len;have dh:=k.e.len;have aO:=T.an;have z2:=T.br;refine G.L (fun a9=>?_);refine o.aO cq ?_;rintro v2 A ⟨rfl,q,S,ca,bf⟩;have cD:A.size=I.size+1:=by rw[bf];simp
 replace aL:=aL.M S;replace al:=al.M S;replace k:=k.M S;replace j:=j.L S;have cb:=S.size;replace q:Var 47 A I.size (bS s):=q;refine o.aO cq ?_;rintro v3 R ⟨rfl,i,Q,cc,bI⟩;have cG:R.size=A.size+1:=by rw[bI];simp
 replace aL:=aL.M Q;replace al:=al.M Q;replace k:=k.M Q;replace q:=q.M Q;replace j:=j.L Q;have cd:=Q.size;replace i:Var 32 R A.size (c_ t):=i;refine o.ak ?_;refine a9 ?_
 refine G.cut (fun(_:Unit)=>[(2,.pointer (some ⟨I.size,0,none⟩)),(3,.pointer (some ⟨A.size,0,none⟩)),(5,.int .i64 (eF t))])
  (fun(_:Unit) (H:Heap)=>(True)∧aj R H) (fun _ V _=>?_) ?_
 ·
  have ad:aj R R:=W.refl _ _;refine G.region ?_;refine o.v1 (Y.ai i.N rfl bu rfl cX) ?_;refine o.v1 (ar i.N dA) ?_;refine o.V ?_;refine o.split (d:=9) rfl (fun g9=>?_) (fun g9=>?_)
  ·
   refine o.ax 15 ?_;refine o.call rfl hz rfl cQ rfl rfl (h5 (decide (eF t=0)) 1 (by first|exact j2 (.inl (by assumption))|exact j2 (.inr (.inl (by assumption)))|exact j2 (.inr (.inr (.inl (by omega))))|exact qM (by simp_all) (by simp_all) (by omega)) w0 _) (fun aa ab N=>?_);obtain⟨rfl,x⟩:=N;replace ad:=ad.L x;have cf:=x.size;rw[qN];refine o.ak ?_;refine aP.sub (V () _ ?_) ⟨rfl,rfl,(aD (by omega)),trivial⟩;exact⟨trivial,ad⟩
  ·
   refine o.ao (Y.ai i.N rfl bu rfl cX) ?_;refine o.ao (ar (i.N.drop 3) dA) ?_;refine o.ax 2 ?_;refine o.split (d:=13) rfl (fun bT=>?_) (fun bT=>?_)
   ·
    refine o.ax 11 ?_;refine o.call rfl hz rfl cQ rfl rfl (h5 (decide (eF t=0)) 1 (by first|exact j2 (.inl (by assumption))|exact j2 (.inr (.inl (by assumption)))|exact j2 (.inr (.inr (.inl (by omega))))|exact qM (by simp_all) (by simp_all) (by omega)) w0 _) (fun aa ab N=>?_);obtain⟨rfl,x⟩:=N;replace ad:=ad.L x;have cg:=x.size;rw[qN];refine o.ak ?_;refine aP.sub (V () _ ?_) ⟨rfl,rfl,(aD (by omega)),trivial⟩;exact⟨trivial,ad⟩
   ·
    refine o.ao (Y.ai i.N rfl bu rfl eo) ?_;refine o.ao (ar (i.N.drop 2) eB) ?_;refine o.ao (bb k.m dI) ?_;refine o.ao eY ?_;refine o.ax 2 ?_;refine o.bj (d:=19) rfl (fun be=>?_) (fun be=>?_)
    ·
     refine o.ax 5 ?_;refine o.call rfl hz rfl cQ rfl rfl (h5 (decide (eF t=0)) 1 (by first|exact j2 (.inl (by assumption))|exact j2 (.inr (.inl (by assumption)))|exact j2 (.inr (.inr (.inl (by omega))))|exact qM (by simp_all) (by simp_all) (by omega)) w0 _) (fun aa ab N=>?_);obtain⟨rfl,x⟩:=N;replace ad:=ad.L x;have cj:=x.size;rw[qN];refine o.ak ?_;refine aP.sub (V () _ ?_) ⟨rfl,rfl,(aD (by omega)),trivial⟩;exact⟨trivial,ad⟩
    ·
     refine o.ao (Y.ai i.N rfl bu rfl dv) ?_;refine o.ao (ar i.N.fX dV) ?_;refine o.ao (bb k.e cu) ?_;refine o.ao eY ?_;refine o.dF ?_;refine o.call rfl hz rfl cQ rfl rfl (h5 (decide (eF t=0)) 1 (by first|exact j2 (.inl (by assumption))|exact j2 (.inr (.inl (by assumption)))|exact j2 (.inr (.inr (.inl (by omega))))|exact qM (by simp_all) (by simp_all) (by omega)) w0 _) (fun aa ab N=>?_);obtain⟨rfl,x⟩:=N;replace ad:=ad.L x;have ck:=x.size;rw[qN];refine o.ak ?_;refine aP.sub (V () _ ?_) ⟨rfl,rfl,(aD (by omega)),trivial⟩;exact⟨trivial,ad⟩
 ·
  intro _ ag bg;obtain⟨aK,ac⟩:=bg;replace aL:=aL.M ac;replace al:=al.M ac;replace k:=k.M ac;replace q:=q.M ac;replace i:=i.M ac;replace j:=j.L ac;have cl:=ac.size
  refine G.cut (fun(_:Unit)=>[(2,.pointer (some ⟨I.size,0,none⟩)),(3,.pointer (some ⟨A.size,0,none⟩)),(5,.int .i64 (eT (eF t) (fw t)))])
   (fun(_:Unit) (H:Heap)=>(True)∧aj ag H) (fun _ ae _=>?_) ?_
  ·
   have B:aj ag ag:=W.refl _ _;refine G.L (fun a0=>?_);refine o.v1 (Y.ai i.N rfl bu rfl cX) ?_;refine o.v1 (ar i.N dA) ?_;refine o.V ?_;refine o.split (d:=28) rfl (fun bY=>?_) (fun bY=>?_)
   ·
    refine o.ao (Y.ai i.N rfl bu rfl bP) ?_;refine o.ao (ar (i.N.drop 1) bN) ?_;refine o.ao (Y.iT rfl rfl rfl) ?_;refine o.N ?_;refine o.nil (a0 ?_);refine aU (fun O=>?_) (fun O=>?_)
    ·
     refine G.region ?_;refine o.V ?_;refine o.v1 (Y.ai i.N rfl bu rfl bP) ?_;refine o.v1 (ar (i.N.drop 1) bN) ?_;refine aW p0 (p4 t.an bk w0 _ aL (aq.mono j.size) (by omega)) (fun cC bK bL=>?_);obtain⟨rfl,aA⟩:=bL;replace B:=B.L aA;have cN:=aA.size;refine o.aO (cT _ ([(eF t),(c6 t.an)]) jW km kn (rfl)) fun cP bi bO=>?_;obtain⟨aN,aE,aB,aQ⟩:=bO;have a2:bi.size=bK.size+1:=by rw[aQ];simp
     replace B:=B.L aE;have cR:=aE.size;refine aW kJ (kY _ [(eF t),(c6 t.an)] w0 _ aN.rd.any) (fun cV ce bQ=>?_);obtain⟨rfl,aF⟩:=bQ;replace B:=B.L aF;have cH:=aF.size;rw[ql];refine o.ak ?_;refine aP.sub (ae () _ ?_) ⟨rfl,rfl,(by first|(have n:t.an≠[]:=(by simpa using O);exact sB (by assumption) n)|(have n:t.an=[]:=(by simpa using O);exact nK (.inr n))|(have n:t.bE=false:=(by simp_all);exact nK (.inl n))),trivial⟩;exact⟨trivial,B⟩
    ·
     refine G.skip ?_;refine aP.sub (ae () _ ?_) ⟨rfl,rfl,(by first|(have n:t.an≠[]:=(by simpa using O);exact sB (by assumption) n)|(have n:t.an=[]:=(by simpa using O);exact nK (.inr n))|(have n:t.bE=false:=(by simp_all);exact nK (.inl n))),trivial⟩;exact⟨trivial,B⟩
   ·
    refine o.ax 4 ?_;refine o.nil (a0 ?_);refine dw ?_;refine G.skip ?_;refine aP.sub (ae () _ ?_) ⟨rfl,rfl,(by first|(have n:t.an≠[]:=(by simpa using O);exact sB (by assumption) n)|(have n:t.an=[]:=(by simpa using O);exact nK (.inr n))|(have n:t.bE=false:=(by simp_all);exact nK (.inl n))),trivial⟩;exact⟨trivial,B⟩
  ·
   intro _ b7 au;obtain⟨aK,E⟩:=au;replace aL:=aL.M E;replace al:=al.M E;replace k:=k.M E;replace q:=q.M E;replace i:=i.M E;replace j:=j.L E;have cI:=E.size;refine G.L (fun bR=>?_);refine o.V ?_;refine o.v1 (aT q.N eC di (b4 _)) ?_;refine o.v1 (Y.ai i.N rfl bu rfl eo) ?_;refine o.v1 (ar (i.N.drop 2) eB) ?_;refine aW BU (EU s t.ei.v t.ml F bk w0 _ aL (aq.mono j.size) al (aI.mono j.size) k.m.any ok.fa ok.ba T.iN) (fun cZ bU bV=>?_);obtain⟨rfl,K⟩:=bV;replace aL:=aL.M K;replace al:=al.M K;replace k:=k.M K;replace q:=q.M K;replace i:=i.M K;replace j:=j.L K;have cJ:=K.size;refine o.aO (cT _ ([(eT (eF t) (fw t)),(fx s.m.b8 t.ml)]) jW km kn (rfl)) fun c0 bX bZ=>?_;obtain⟨aS,L,bv,aX⟩:=bZ;have a3:bX.size=bU.size+1:=by rw[aX];simp
   replace aL:=aL.M L;replace al:=al.M L;replace k:=k.M L;replace q:=q.M L;replace i:=i.M L;replace j:=j.L L;have cL:=L.size;refine aW kJ (kY _ [(eT (eF t) (fw t)),(fx s.m.b8 t.ml)] w0 _ aS.rd.any) (fun dU af b0=>?_);obtain⟨rfl,M⟩:=b0;replace aL:=aL.M M;replace al:=al.M M;replace k:=k.M M;replace q:=q.M M;replace i:=i.M M;replace j:=j.L M;have cM:=M.size;rw[ql];refine o.ak ?_;refine bR ?_
   refine G.cut (fun(_:Unit)=>[(2,.pointer (some ⟨I.size,0,none⟩)),(3,.pointer (some ⟨A.size,0,none⟩)),(5,.int .i64 (eT (eT (eT (eF t) (fw t)) (fx s.m.b8 t.ml)) (gl t)))])
    (fun(_:Unit) (H:Heap)=>(True)∧aj af H) (fun _ a4 _=>?_) ?_
   ·
    have C:aj af af:=W.refl _ _;refine G.L (fun bl=>?_);refine o.v1 (Y.ai i.N rfl bu rfl cX) ?_;refine o.v1 (ar (i.N.drop 3) dA) (o.nil (bl ?_));refine cK (fun bn=>?_) (fun bn=>?_)
    ·
     refine G.region ?_;refine o.V ?_;refine o.v1 (Y.ai i.N rfl bu rfl cS) ?_;refine o.v1 (Y.cast (v2:=er t.q) (aT ((i.N.drop 4).take 70) h9 cS (by rw[jc];exact ee _)) (b6 (jc t))) ?_;refine aW BV (GZ t.q bk w0 _ aL (aq.mono j.size) k.q.any (by omega)) (fun ci bo bp=>?_);obtain⟨rfl,ah⟩:=bp;replace al:=al.M ah;replace C:=C.L ah;have cm:=ah.size;refine o.aO (cT _ ([(eT (eT (eF t) (fw t)) (fx s.m.b8 t.ml)),(if t.q.k≠0 then gJ t.q else 0)]) jW km kn (rfl)) fun c1 bq bs=>?_;obtain⟨aY,ai,cn,aZ⟩:=bs;have a5:bq.size=bo.size+1:=by rw[aZ];simp
     replace al:=al.M ai;replace C:=C.L ai;have cr:=ai.size;refine aW kJ (kY _ [(eT (eT (eF t) (fw t)) (fx s.m.b8 t.ml)),(if t.q.k≠0 then gJ t.q else 0)] w0 _ aY.rd.any) (fun c3 c4 bt=>?_);obtain⟨rfl,ak⟩:=bt;replace al:=al.M ak;replace C:=C.L ak;have ct:=ak.size;rw[ql];refine o.ak ?_;refine aP.sub (a4 () _ ?_) ⟨rfl,rfl,(by first|(have n:t.al=true:=(by assumption);exact y3 n)|(have n:t.al=false:=(by simp_all);exact y2 n)),trivial⟩;exact⟨trivial,C⟩
    ·
     refine G.skip ?_;refine aP.sub (a4 () _ ?_) ⟨rfl,rfl,(by first|(have n:t.al=true:=(by assumption);exact y3 n)|(have n:t.al=false:=(by simp_all);exact y2 n)),trivial⟩;exact⟨trivial,C⟩
   ·
    intro _ b8 am;obtain⟨aK,P⟩:=am;replace al:=al.M P;replace k:=k.M P;replace q:=q.M P;replace i:=i.M P;replace j:=j.L P;have cv:=P.size;refine G.t2 (fun bw bx=>G.L (fun bz=>?_));refine o.V ?_;refine o.v1 (aT q.N eC di (b4 _)) ?_;refine o.v1 (Y.ai i.N rfl bu rfl dv) ?_;refine o.v1 (ar i.N.fX dV) ?_;refine aW BW (EJ s t.ct.v t.el F w0 _ al (aI.mono j.size) k.e.any (fun y hy=>(k.d y hy).any) ok.sL) (fun c8 bA bC=>?_);obtain⟨rfl,ap⟩:=bC;replace k:=k.M ap;replace i:=i.M ap;replace j:=j.L ap;have cw:=ap.size;refine o.aO (cT _ ([(eT (eT (eT (eF t) (fw t)) (fx s.m.b8 t.ml)) (gl t)),(ig s.m.gD t.el)]) jW km kn (rfl)) fun c9 bD bE=>?_;obtain⟨a1,X,cx,a6⟩:=bE;have b5:bD.size=bA.size+1:=by rw[a6];simp
    replace k:=k.M X;replace i:=i.M X;replace j:=j.L X;have cy:=X.size;refine aW kJ (kY _ [(eT (eT (eT (eF t) (fw t)) (fx s.m.b8 t.ml)) (gl t)),(ig s.m.gD t.el)] w0 _ a1.rd.any) (fun co da bF=>?_);obtain⟨rfl,Z⟩:=bF;replace k:=k.M Z;replace i:=i.M Z;replace j:=j.L Z;have cz:=Z.size;rw[ql];refine o.ak ?_;refine bz (G.L (fun a7=>?_));refine o.V ?_;refine o.v1 cU (o.nil (a7 ?_));refine aU (fun ay=>?_) (fun ay=>?_)
    ·
     refine G.L (fun a_=>?_);refine o.aQ 2 ?_;refine a_ ?_;refine G.ret (bx (aJ ?_));exact⟨by rw[vI],j⟩
    ·
     have az:eI s.m t=0:=by rw[vI];simpa using ay
     have b2:=si T az;have dj:=T.l3;refine G.skip (bw (G.L (fun ba=>?_)));refine o.v1 (aT i.N fj ef (dg _)) ?_;refine aW vs (wb t aR w0 _ k (bJ.mono j.size) b2) (fun db de bG=>?_);obtain⟨s2,a8,rfl,aM,cs,aH⟩:=bG;replace j:=j.L aH;have cA:=aH.size;have b_:=aM.le;refine o.V ?_;refine o.v1 cO ?_;refine o.v1 cO ?_;refine o.aQ 2 ?_;refine ba (G.L (fun bc=>?_));refine o.V ?_;refine o.v1 ((b9).gC (rfl)) ?_;refine o.ax 2 ?_;refine o.ao (bb aM.rd dc) ?_;refine o.ao ((eK).gC (by omega)) ?_;refine o.N ?_;refine aW hz (ts true 5 w0 _) (fun df bm bj=>?_);obtain⟨rfl,bd⟩:=bj;replace j:=j.L bd;refine o.ak ?_;refine bc ?_;refine G.ret (aJ ?_);exact⟨by rw[az];rfl,j⟩
end fS

namespace ga
open E Go.RowKit eM eP e1 e7 ev eQ eR fC fD fI fS
set_option maxRecDepth 100000 in
theorem l0:c4 Tryz.prog 27 129 33 40:=⟨Tryz.underlying27,_,_,rfl,rfl,rfl,rfl,rfl⟩
set_option maxRecDepth 100000 in
theorem jX:c4 Tryz.prog 44 71 33 48:=⟨Tryz.underlying44,_,_,rfl,rfl,rfl,rfl,rfl⟩
set_option maxRecDepth 100000 in
theorem dC:c4 Tryz.prog 57 5 1 1:=⟨Tryz.underlying57,_,_,rfl,rfl,rfl,rfl,rfl⟩
set_option maxRecDepth 100000 in
theorem kQ:c4 Tryz.prog 60 64 65 80:=⟨Tryz.underlying60,_,_,rfl,rfl,rfl,rfl,rfl⟩
theorem oC{k:cY}(s:aN)(d:List UInt8)(w:World):(Instr.build 68 #[(0,bq k),(1,s.v)]).run Tryz.prog w= .ok (gZ ⟨k,s,d⟩) w:=by
 obtain⟨k,i⟩:=k;simp only[gZ,bO,b7,bq];obtain⟨j,n,G,S,W,X,Y,Z,aa,ab,o,q,r,t,x,A,B,C,E,F,H,I,K,L,M,N,O,P,Q,R,T,V,rfl⟩:=l1 i
 kernel_rfl
theorem rY{i:cY}(n:List UInt8)(w:World):(Instr.build 71 #[(0,aI n),(1,bq i)]).run Tryz.prog w= .ok (.agg (dB ⟨n,i⟩).toArray) w:=by
 obtain⟨k,d⟩:=i;simp only[dB,b7,bq];obtain⟨j,o,H,T,X,Y,Z,aa,ab,ae,q,r,t,x,A,B,C,E,F,G,I,K,L,M,N,O,P,Q,R,S,V,W,rfl⟩:=l1 d
 kernel_rfl
theorem uY{J i:cY}(n:List UInt8)(w:World):(Instr.build 64 #[(0,bq J),(1,bq i),(2,aI n)]).run Tryz.prog w= .ok (.agg (dt ⟨J,i,n⟩).toArray) w:=by
 obtain⟨k,d⟩:=J;obtain⟨l,j⟩:=i;simp only[dt,b7,bq];obtain⟨o,q,I,V,Y,Z,aa,ab,ae,af,r,t,x,A,B,C,E,F,G,H,K,L,M,N,O,P,Q,R,S,T,W,X,rfl⟩:=l1 d;obtain⟨ag,ah,aC,dE,aR,aS,aT,cy,aU,aW,ai,ak,al,aq,ar,au,ay,az,aA,aB,aD,aE,aF,aH,aJ,aK,aL,aM,aN,aO,aP,aQ,rfl⟩:=l1 j
 kernel_rfl
theorem uZ{h:List UInt8}{r:aN}{l:List cA}{q:cZ}(w:World):(Instr.build 47 #[(0,aI h),(1,r.v),(3,er q)]).run Tryz.prog w= .ok (eg ⟨h,r,l,cM,[],q,cM,[]⟩) w:=by
 obtain⟨k,br,⟨bX,i⟩,⟨bm,d⟩,cd,a6,dn,md,st⟩:=q;simp only[er,bS,dX,b7];obtain⟨j,n,I,V,Y,Z,aa,ab,ae,af,o,t,x,A,B,C,E,F,G,H,K,L,M,N,O,P,Q,R,S,T,W,X,rfl⟩:=l1 i;obtain⟨ag,ah,aC,dE,aS,aT,aU,cy,aW,aX,ai,ak,al,aq,ar,au,ay,az,aA,aB,aD,aE,aF,aH,aJ,aK,aL,aM,aO,aP,aQ,aR,rfl⟩:=l1 d
 kernel_rfl
section
variable {x : cW}
theorem y5(h:List UInt8):(bS x).set 0 (aI h)=bS {x with an:=h}:=rfl
theorem tN(s:aN)(l:List cA):(bS x).set 1 s.v=bS {x with en:=s,ba:=l}:=rfl
theorem q8(s:aN)(l:List e8):(bS x).set 2 s.v=bS {x with cw:=s,bW:=l}:=rfl
theorem oK:bS x=(aI x.an::x.en.v::x.cw.v::(.int .i64 x.q.k::aI x.q.br::(b7 x.q.bX++b7 x.q.bm)))++(jb x.q++[x.ct.v]):=by
 simp[bS,dX,jb]
theorem oL:(aI x.an::x.en.v::x.cw.v::(.int .i64 x.q.k::aI x.q.br::(b7 x.q.bX++b7 x.q.bm)):List Value).length=69:=by simp[bB]
theorem y6(j:Nat)(v:Value):(bS x).set (69+j) v=(bS x).take 69++(jb x.q++[x.ct.v]).set j v:=by
 rw[oK,List.set_append,if_neg (by rw[oL];omega),oL,List.take_left' oL];congr 2;omega
theorem y7:(bS x).take 69=aI x.an::x.en.v::x.cw.v::(.int .i64 x.q.k::aI x.q.br::(b7 x.q.bX++b7 x.q.bm)):=by rw[oK];exact List.take_left' oL
theorem tO(s:aN)(l:List fE):(bS x).set 69 s.v=bS {x with q:={x.q with cd:=s,a6:=l}}:=by
 rw[y6 0,y7]
 conv=>rhs;rw[oK]
 rfl
theorem tM(s:aN)(l:List bA):(bS x).set 73 s.v=bS {x with ct:=s,el:=l}:=by
 rw[y6 4,y7]
 conv=>rhs;rw[oK]
 rfl
theorem q9(q:cZ):ed (bS x) 3 (dX q)=bS {x with q:=q}:=by
 unfold ed;rw[ee];show[aI x.an,x.en.v,x.cw.v]++dX q++(bS x).drop 73=_;rw[wB];simp[bS]
end
section
variable {H : Heap} {ad : Addr} {x : cW}
theorem _root_.Go.Proofs.YtfjmpninmdjcaaaGreatDoor.E.cg.Hl(h:cg H ad (bS x)):cg H ((ad.add 3).add 66) (jb x.q++[x.ct.v]):=by
 have d:=h.drop 69;have e:(bS x).drop 69=jb x.q++[x.ct.v]:=by rw[oK];exact List.drop_left' oL
 rw[e]at d;rwa[show ad.add 69=(ad.add 3).add 66 from by cases ad;rfl]at d
theorem _root_.Go.Proofs.YtfjmpninmdjcaaaGreatDoor.E.cg.HL{x:b1}(h:cg H ad (c_ x)):cg H ((ad.add 4).add 66) (jb x.q++[x.ct.v]):=by
 have d:=h.drop 70
 have e:(c_ x).drop 70=jb x.q++[x.ct.v]:=by
  have i:c_ x=(.bool x.bE::aI x.an::x.ei.v:: .bool x.al::(.int .i64 x.q.k::aI x.q.br::(b7 x.q.bX++b7 x.q.bm)))++(jb x.q++[x.ct.v]):=by simp[c_,dX,jb]
  rw[i];exact List.drop_left' (by simp[bB])
 rw[e]at d;rwa[show ad.add 70=(ad.add 4).add 66 from by cases ad;rfl]at d
end
structure js (F:Nat→Prop) (H:Heap) (s:cW):Prop where
 r:Rd F H dB 33 s.en.v s.ba
 g:Rd F H ek 2 s.cw.v s.bW
 n:∀y∈s.bW,Rd F H dt 65 y.v.v y.l
 q:Rd F H c2 33 s.q.cd.v s.q.a6
 d:∀y∈s.el,Rd F H a1 1 y.v.v y.d
section
variable {F aR : Nat → Prop} {H aa : Heap} {s : cW} {ks : List Nat} {h : Nat}
theorem js.M(x:js F H s)(w:aj H aa):js F aa s:=⟨x.r.M w,x.g.M w,fun y hy=>(x.n y hy).M w,x.q.M w,fun y hy=>(x.d y hy).M w⟩
theorem js.ab(x:js F H s)(w:W (aE ks) H aa)(d:az F ks):js F aa s:=⟨x.r.ab w d,x.g.ab w d,fun y hy=>(x.n y hy).ab w d,x.q.ab w d,fun y hy=>(x.d y hy).ab w d⟩
theorem js.imp(x:js F H s)(d:∀b,b<H.size→F b→aR b):js aR H s:=⟨x.r.imp d,x.g.imp d,fun y hy=>(x.n y hy).imp d,x.q.imp d,fun y hy=>(x.d y hy).imp d⟩
theorem js.st(x:js F H s)(h:Rd F H bO 33 s.ct.v s.el):eS F H s:=⟨x.r,x.g,x.n,x.q,h,x.d⟩
end
theorem ay.eG{aR:Nat→Prop}{d k:Nat}(h:ay aR k)(i:af k d):ay (fun b=>aR b∨b+1=d) k:=by
 rintro b (e|e) U
 ·exact h b e U
 ·exact i b U e
theorem bh.eG{aR:Nat→Prop}{n d:Nat}(h:bh aR n)(i:d≤n):bh (fun b=>aR b∨b+1=d) n:=by
 rintro b (e|e)
 ·exact h b e
 ·omega
theorem mC{aR:Nat→Prop}{h d:Nat}(a:∀c,aR c→h≤c)(n:T 0 h d):∀c,aR c∨c+1=d→h≤c:=by
 rintro c (e|e)
 ·exact a c e
 ·unfold T at n;omega
theorem tF{α β:Type}{f:β→List Value}{sz:Nat}{v:α→Value}{r:α→List β}{aR d:Nat→Prop}{H:Heap}{l:List α}{x:α}(h:∀y∈l,Rd aR H f sz (v y) (r y))(i:∀b,aR b→d b)(j:Rd d H f sz (v x) (r x)):∀y∈l++[x],Rd d H f sz (v y) (r y):=by
 intro y hy;rcases List.mem_append.1 hy with hy|hy
 ·exact(h y hy).imp (fun b _ e=>i b e)
 ·rw[List.mem_singleton]at hy;rw[hy];exact j
theorem sF{l:List cE}{q:Nat}(h:q=l.length-100):l.drop q=h0 l:=by subst h;rfl
theorem Gv{s:cW}(h:s.m.Ok):s.ba.length≤200:=by have:=h.g_;simpa[cW.m,bG]using this
theorem Ek{s:cW}(h:s.m.Ok):s.bW.length≤200:=by
 have d:=h.g_;have U:=congrArg List.length h.cL;rw[List.length_map,List.length_map]at U;rw[←U]at d
 simpa[cW.m,cp]using d
theorem CZ{s:cW}(h:s.m.Ok):s.el.length≤500:=by have:=h.iN;simpa[cW.m,cn]using this
theorem Er{s:cW}(h:s.m.Ok):∀y∈s.bW,y.l.length≤100:=fun y hy=>h.bW (y.n,y.l) (List.mem_map.2 ⟨y,hy,rfl⟩)
theorem EG{s:cW}(h:s.m.Ok):∀y∈s.el,y.d.length≤65536:=fun y hy=>h.md (y.k.1,y.d) (List.mem_map.2 ⟨y,hy,rfl⟩)
theorem HC{s:cW}(h:s.m.Ok):s.q.a6.length≤100:=h.iU
theorem ym(v1:Value)(a:List cA)(w0:World)(I:Heap)
 (i:bx I dB 33 v1 a) (ae:a.length≤1073741824):
 aC Tryz.prog w0 113 #[v1] I (fun r x=>∃s:aN,∃k:Nat,r=s.v∧(aV k 71 x dB 33 s.v a)∧(T 0 I.size k)∧aj I x):=by
 refine aC.aK [v1] Tryz.func113 ?_;intro X E;have d:aj I I:=W.refl _ _;replace i:=i.bw;obtain⟨p,ab,rfl,_,_,R⟩:=id i.ex;refine G.L (fun H=>?_);refine o.ak ?_;refine H (G.t2 (fun K L=>G.L (fun M=>?_)));refine o.V ?_;refine o.v1 (Y.pk rfl Tryz.underlying44 rfl rfl) (o.nil (M ?_));refine cK (fun q=>?_) (fun q=>?_)
 ·
  obtain rfl:a=[]:=by
   apply Decidable.byContradiction;intro h;obtain⟨ad,Q,_⟩:=R h;rw[Q]at q;cases q
  refine G.L (fun N=>?_);refine o.ak ?_;refine N ?_;refine G.ret (L (E ?_));exact⟨⟨none,0,0⟩,0,rfl,aV.nil hW lo,T.refl _ _,d⟩
 ·
  refine G.skip (K (G.L (fun au=>?_)));refine o.aO (cT _ (([]:List cA)) jX hW lo (rfl)) ?_;rintro v5 A ⟨am,j,Z,O⟩;have ap:A.size=I.size+1:=by rw[O];simp
  have B:T 0 I.size (I.size+1):=T.new d.size;replace i:=i.M j;replace d:=d.L j;have aa:=j.size;refine o.V ?_;refine o.aO (dQ am i jX (by first|omega|(simp;omega)) (by first|omega|(simp;omega))) ?_;rintro F V ⟨t,C,n,ac⟩;replace n:T (I.size+1) A.size t:=n;replace ac:=ac.md;have P:T 0 I.size t:=T.L (B) n d.size;replace d:=d.bo ac (ag.J (aq.q B));refine o.ak ?_;refine au ?_;refine G.ret (E ?_);obtain⟨S,rfl⟩:∃s:aN,F=s.v:=⟨cl F,C.bl.symm⟩;exact⟨S,t,rfl,by simpa using C,P,d⟩
theorem oV(v1:Value)(a:List cE)(w0:World)(I:Heap)
 (i:bx I dt 65 v1 a) (ae:a.length≤1073741824):
 aC Tryz.prog w0 114 #[v1] I (fun r x=>∃s:aN,∃k:Nat,r=s.v∧(aV k 64 x dt 65 s.v a)∧(T 0 I.size k)∧aj I x):=by
 refine aC.aK [v1] Tryz.func114 ?_;intro X E;have d:aj I I:=W.refl _ _;replace i:=i.bw;obtain⟨p,ab,rfl,_,_,R⟩:=id i.ex;refine G.L (fun H=>?_);refine o.ak ?_;refine H (G.t2 (fun K L=>G.L (fun M=>?_)));refine o.V ?_;refine o.v1 (Y.pk rfl Tryz.underlying60 rfl rfl) (o.nil (M ?_));refine cK (fun q=>?_) (fun q=>?_)
 ·
  obtain rfl:a=[]:=by
   apply Decidable.byContradiction;intro h;obtain⟨ad,Q,_⟩:=R h;rw[Q]at q;cases q
  refine G.L (fun N=>?_);refine o.ak ?_;refine N ?_;refine G.ret (L (E ?_));exact⟨⟨none,0,0⟩,0,rfl,aV.nil kN nA,T.refl _ _,d⟩
 ·
  refine G.skip (K (G.L (fun au=>?_)));refine o.aO (cT _ (([]:List cE)) kQ kN nA (rfl)) ?_;rintro v5 A ⟨am,j,Z,O⟩;have ap:A.size=I.size+1:=by rw[O];simp
  have B:T 0 I.size (I.size+1):=T.new d.size;replace i:=i.M j;replace d:=d.L j;have aa:=j.size;refine o.V ?_;refine o.aO (dQ am i kQ (by first|omega|(simp;omega)) (by first|omega|(simp;omega))) ?_;rintro F V ⟨t,C,n,ac⟩;replace n:T (I.size+1) A.size t:=n;replace ac:=ac.md;have P:T 0 I.size t:=T.L (B) n d.size;replace d:=d.bo ac (ag.J (aq.q B));refine o.ak ?_;refine au ?_;refine G.ret (E ?_);obtain⟨S,rfl⟩:∃s:aN,F=s.v:=⟨cl F,C.bl.symm⟩;exact⟨S,t,rfl,by simpa using C,P,d⟩
theorem zf(v1:Value)(a:List fE)(w0:World)(I:Heap)
 (i:bx I c2 33 v1 a) (ae:a.length≤1073741824):
 aC Tryz.prog w0 52 #[v1] I (fun r x=>∃s:aN,∃k:Nat,r=s.v∧(aV k 129 x c2 33 s.v a)∧(T 0 I.size k)∧aj I x):=by
 refine aC.aK [v1] Tryz.func52 ?_;intro X E;have d:aj I I:=W.refl _ _;replace i:=i.bw;obtain⟨p,ab,rfl,_,_,R⟩:=id i.ex;refine G.L (fun H=>?_);refine o.ak ?_;refine H (G.t2 (fun K L=>G.L (fun M=>?_)));refine o.V ?_;refine o.v1 (Y.pk rfl Tryz.underlying27 rfl rfl) (o.nil (M ?_));refine cK (fun q=>?_) (fun q=>?_)
 ·
  obtain rfl:a=[]:=by
   apply Decidable.byContradiction;intro h;obtain⟨ad,Q,_⟩:=R h;rw[Q]at q;cases q
  refine G.L (fun N=>?_);refine o.ak ?_;refine N ?_;refine G.ret (L (E ?_));exact⟨⟨none,0,0⟩,0,rfl,aV.nil hX mN,T.refl _ _,d⟩
 ·
  refine G.skip (K (G.L (fun au=>?_)));refine o.aO (cT _ (([]:List fE)) l0 hX mN (rfl)) ?_;rintro v5 A ⟨am,j,Z,O⟩;have ap:A.size=I.size+1:=by rw[O];simp
  have B:T 0 I.size (I.size+1):=T.new d.size;replace i:=i.M j;replace d:=d.L j;have aa:=j.size;refine o.V ?_;refine o.aO (dQ am i l0 (by first|omega|(simp;omega)) (by first|omega|(simp;omega))) ?_;rintro F V ⟨t,C,n,ac⟩;replace n:T (I.size+1) A.size t:=n;replace ac:=ac.md;have P:T 0 I.size t:=T.L (B) n d.size;replace d:=d.bo ac (ag.J (aq.q B));refine o.ak ?_;refine au ?_;refine G.ret (E ?_);obtain⟨S,rfl⟩:∃s:aN,F=s.v:=⟨cl F,C.bl.symm⟩;exact⟨S,t,rfl,by simpa using C,P,d⟩
theorem mF(v1:Value)(a:List UInt8)(w0:World)(I:Heap)
 (i:bx I a1 1 v1 a) (ae:a.length≤140737488355328):
 aC Tryz.prog w0 59 #[v1] I (fun r x=>∃s:aN,∃k:Nat,r=s.v∧(aV k 5 x a1 1 s.v a)∧(T 0 I.size k)∧aj I x):=by
 refine aC.aK [v1] Tryz.func59 ?_;intro X E;have d:aj I I:=W.refl _ _;replace i:=i.bw;obtain⟨p,ab,rfl,_,_,R⟩:=id i.ex;refine G.L (fun H=>?_);refine o.ak ?_;refine H (G.t2 (fun K L=>G.L (fun M=>?_)));refine o.V ?_;refine o.v1 (Y.pk rfl Tryz.underlying57 rfl rfl) (o.nil (M ?_));refine cK (fun q=>?_) (fun q=>?_)
 ·
  obtain rfl:a=[]:=by
   apply Decidable.byContradiction;intro h;obtain⟨ad,Q,_⟩:=R h;rw[Q]at q;cases q
  refine G.L (fun N=>?_);refine o.ak ?_;refine N ?_;refine G.ret (L (E ?_));exact⟨⟨none,0,0⟩,0,rfl,aV.nil eE fK,T.refl _ _,d⟩
 ·
  refine G.skip (K (G.L (fun au=>?_)));refine o.aO (cT _ (([]:List UInt8)) dC eE fK (rfl)) ?_;rintro v5 A ⟨am,j,Z,O⟩;have ap:A.size=I.size+1:=by rw[O];simp
  have B:T 0 I.size (I.size+1):=T.new d.size;replace i:=i.M j;replace d:=d.L j;have aa:=j.size;refine o.V ?_;refine o.aO (dQ am i dC (by first|omega|(simp;omega)) (by first|omega|(simp;omega))) ?_;rintro F V ⟨t,C,n,ac⟩;replace n:T (I.size+1) A.size t:=n;replace ac:=ac.md;have P:T 0 I.size t:=T.L (B) n d.size;replace d:=d.bo ac (ag.J (aq.q B));refine o.ak ?_;refine au ?_;refine G.ret (E ?_);obtain⟨S,rfl⟩:∃s:aN,F=s.v:=⟨cl F,C.bl.symm⟩;exact⟨S,t,rfl,by simpa using C,P,d⟩
theorem Ev(v:Value)(l:List cE)(m:bF)(w0:World)(I:Heap)
 (L:bx I dt 65 v l) (bp:l.length≤1000):
 aC Tryz.prog w0 56 #[v,j1 m] I (fun r aB=>∃s:aN,∃k:Nat,r=s.v∧(aV k 64 aB dt 65 s.v (h0 (l++[⟨m.J,m.w,m.y⟩])))∧(T 0 I.size k)∧aj I aB):=by
 refine aC.aK [v,j1 m] Tryz.func56 ?_;intro bl aH;have n:aj I I:=W.refl _ _;replace L:=L.bw;refine G.L (fun aS=>?_);refine o.aO cq ?_;rintro v3 C ⟨rfl,M,af,bo,aU⟩;have bn:C.size=I.size+1:=by rw[aU];simp
 replace L:=L.M af;replace n:=n.L af;have a0:=af.size;replace M:Var 52 C I.size (du m):=M;refine o.ak ?_;refine aS (G.t1 (fun aD=>?_));refine dx (fun A=>aj C A) [] ?_;have d:aj C C:=W.refl _ _;refine O.V 0 rfl d ?_;refine O.t1 2 rfl (fun A t=>Y.ai (M.N.M t) rfl cC rfl a_) d ?_;refine O.t1 3 rfl (fun A t=>Y.cast (v2:=bq m.J) (aT (((M.N.drop 1).M t).take 32) b_ a_ (by rw[gY];exact bB _)) (b6 (gY _))) d ?_;refine O.t1 4 rfl (fun A t=>Y.ai (M.N.M t) rfl cC rfl a_) d ?_;refine O.t1 5 rfl (fun A t=>Y.cast (v2:=bq m.w) (aT (((M.N.drop 33).M t).take 32) b_ a_ (by rw[e5];exact bB _)) (b6 (e5 _))) d ?_;refine O.t1 6 rfl (fun A t=>Y.ai (M.N.M t) rfl cC rfl bP) d ?_;refine O.t1 7 rfl (fun A t=>ar (M.N.mV.M t) bN) d ?_;refine O.t1 8 rfl (fun A t=>Y.build (v:= .agg (dt ⟨m.J,m.w,m.y⟩).toArray) rfl rfl (by intro w;exact uY _ _)) d ?_;refine O.two (i:=1) (j:=9) (by kernel_rfl) ?_ ?_
 ·
  refine cf oE (oV v l w0 _ L.any (by omega)) ?_;rintro v6 x ⟨bk,B,rfl,E,am,K⟩;have aX:T 0 I.size B:=T.L (T.refl 0 _) am n.size;have aY:T 0 C.size B:=T.L (T.refl 0 _) am d.size;replace n:=n.L K;replace d:=d.L K;have b2:=K.size;have ad:=E.le;refine⟨.inr d,O.narrow (SH2:=fun A=>W (aE [B]) x A) (fun A t=>(W.aJ (ks:=[]) (d.kU []) t (ag.J (aq.q aY))).nil) ?_⟩;have d:W (aE [B]) x x:=W.refl _ _;have aZ:=T.refl B x.size;refine O.aX 9 ?_;refine et rfl (cT _ ([(⟨m.J,m.w,m.y⟩:cE)]) kQ kN nA (rfl)) (fun a1 F ah=>?_);obtain⟨S,ac,bf,ab⟩:=ah;have bd:F.size=x.size+1:=by rw[ab];simp
  have bg:T 0 x.size (x.size+1):=T.new d.size;replace E:=E.M ac;replace n:=n.L ac;replace d:=d.bc ac;have a2:=ac.size;refine O.b3 d (ag.cons (aq.r aZ) (ag.J (aq.q bg))) ?_;have d:W (aE [B,(x.size+1)]) F F:=W.refl _ _;have ap:=T.refl B F.size;have bh:=T.refl (x.size+1) F.size;refine O.aX 10 ?_;refine et rfl (dQ E S.rd kQ (by simp;omega) (by simp;omega)) (fun a6 Q ai=>?_);obtain⟨P,E,N,H⟩:=ai;replace N:T B F.size P:=N;replace H:=H.md;have aI:T B F.size P:=T.L (ap) N d.size;replace n:=n.bo H (ag.J (aq.q aX));replace d:=d.aJ H (ag.J (aq.r ap));have a3:=H.size;have ad:=E.le;refine O.b3 d (ag.cons (aq.r aI) (ag.J (aq.r bh))) ?_;have d:W (aE [P,(x.size+1)]) Q Q:=W.refl _ _;refine O.t1 11 rfl (fun A t=>ej) d ?_;refine cx ?_;refine aD (G.L (fun a7=>?_));refine o.ax 2 ?_;refine o.v1 (bb E.rd hR) ?_;have bj:(l++[(⟨m.J,m.w,m.y⟩:cE)]).length=l.length+1:=by simp
  obtain⟨q,t⟩:∃q,q=(l++[(⟨m.J,m.w,m.y⟩:cE)]).length-100:=⟨_,rfl⟩;have az:=sF t;refine o.v1 fH ?_;refine o.v1 (Y.cast (v2:= .int .i64 (q:Int)) (Y.sM rfl rfl rfl) (fM (by omega))) ?_;refine o.aK (g:=fun v=>v) (Y.slice E.rd (q) ((l++[(⟨m.J,m.w,m.y⟩:cE)]).length) rfl hR j7 rfl (.inr ⟨_,_,_,rfl,rfl,by first|rfl|omega⟩) (.inl ⟨rfl,rfl⟩) (by omega) (by omega)) fun X V=>?_;rw[List.take_length,az]at V;have ak:(h0 (l++[(⟨m.J,m.w,m.y⟩:cE)])).length≤1073741824:=by have:=qw (l++[(⟨m.J,m.w,m.y⟩:cE)]);omega
  have al:=V.any;have ay:=oV X _ w0 _ al ak;refine aW oE (ay) (fun a8 ba Z=>?_);obtain⟨aa,R,rfl,aA,ae,au⟩:=Z;have aJ:T 0 I.size R:=T.L (T.refl 0 _) ae n.size;replace n:=n.L au;refine o.ak ?_;refine a7 ?_;refine G.ret (aH ?_);exact⟨aa,R,rfl,aA,aJ,n⟩
 ·
  refine et rfl (cT _ ([(⟨m.J,m.w,m.y⟩:cE)]) kQ kN nA (rfl)) (fun a1 F ah=>?_);obtain⟨S,ac,bf,ab⟩:=ah;have bd:F.size=C.size+1:=by rw[ab];simp
  have aK:T 0 C.size (C.size+1):=T.new d.size;replace L:=L.M ac;replace n:=n.L ac;replace d:=d.L ac;have a4:=ac.size;refine⟨.inr d,O.narrow (SH2:=fun A=>W (aE [(C.size+1)]) F A) (fun A t=>(W.aJ (ks:=[]) (d.kU []) t (ag.J (aq.q aK))).nil) ?_⟩;have d:W (aE [(C.size+1)]) F F:=W.refl _ _;have aL:=T.refl (C.size+1) F.size;refine O.aX 1 ?_;refine cf oE (oV v l w0 _ L.any (by omega)) ?_;rintro v6 x ⟨bk,B,rfl,E,am,K⟩;have aM:T 0 I.size B:=T.L (T.refl 0 _) am n.size;have aO:T 0 F.size B:=T.L (T.refl 0 _) am d.size;replace S:=S.M K;replace n:=n.L K;replace d:=d.bc K;have a5:=K.size;have ad:=E.le;refine O.b3 d (ag.cons (aq.r aL) (ag.J (aq.q aO))) ?_;have d:W (aE [(C.size+1),B]) x x:=W.refl _ _;have aP:=T.refl (C.size+1) x.size;have aF:=T.refl B x.size;refine O.aX 10 ?_;refine et rfl (dQ E S.rd kQ (by simp;omega) (by simp;omega)) (fun a6 Q ai=>?_);obtain⟨P,E,N,H⟩:=ai;replace N:T B x.size P:=N;replace H:=H.md;have aQ:T B x.size P:=T.L (aF) N d.size;replace n:=n.bo H (ag.J (aq.q aM));replace d:=d.aJ H (ag.J (aq.r aF));have bm:=H.size;have ad:=E.le;refine O.b3 d (ag.cons (aq.r aP) (ag.J (aq.r aQ))) ?_;have d:W (aE [(C.size+1),P]) Q Q:=W.refl _ _;refine O.t1 11 rfl (fun A t=>ej) d ?_;refine cx ?_;refine aD (G.L (fun bc=>?_));refine o.ax 2 ?_;refine o.v1 (bb E.rd hR) ?_;have bj:(l++[(⟨m.J,m.w,m.y⟩:cE)]).length=l.length+1:=by simp
  obtain⟨q,t⟩:∃q,q=(l++[(⟨m.J,m.w,m.y⟩:cE)]).length-100:=⟨_,rfl⟩;have az:=sF t;refine o.v1 fH ?_;refine o.v1 (Y.cast (v2:= .int .i64 (q:Int)) (Y.sM rfl rfl rfl) (fM (by omega))) ?_;refine o.aK (g:=fun v=>v) (Y.slice E.rd (q) ((l++[(⟨m.J,m.w,m.y⟩:cE)]).length) rfl hR j7 rfl (.inr ⟨_,_,_,rfl,rfl,by first|rfl|omega⟩) (.inl ⟨rfl,rfl⟩) (by omega) (by omega)) fun X V=>?_;rw[List.take_length,az]at V;have ak:(h0 (l++[(⟨m.J,m.w,m.y⟩:cE)])).length≤1073741824:=by have:=qw (l++[(⟨m.J,m.w,m.y⟩:cE)]);omega
  have al:=V.any;have ay:=oV X _ w0 _ al ak;refine aW oE (ay) (fun a8 ba Z=>?_);obtain⟨aa,R,rfl,aA,ae,au⟩:=Z;have aR:T 0 I.size R:=T.L (T.refl 0 _) ae n.size;replace n:=n.L au;refine o.ak ?_;refine bc ?_;refine G.ret (aH ?_);exact⟨aa,R,rfl,aA,aR,n⟩
end ga

namespace gz
open E Go.RowKit eM eP e1 e7 ev eQ eR fC fD fI fS ga
set_option maxRecDepth 100000 in
theorem iJ:c4 Tryz.prog 30 68 33 56:=⟨Tryz.underlying30,_,_,rfl,rfl,rfl,rfl,rfl⟩
set_option maxRecDepth 100000 in
theorem jY:c4 Tryz.prog 45 62 2 40:=⟨Tryz.underlying45,_,_,rfl,rfl,rfl,rfl,rfl⟩
section
variable {P : Program} {w0 : World} {n : Nat} {l : bZ} {H H1 : Heap} {J : Oper}
end
section
variable {P : Program} {w0 : World} {n : Nat} {l : bZ} {H : Heap} {J : Oper}
theorem Z.vO{d x:Operand}{t t2 e A:TypeId}{b off o F k3 q sz k:Nat}{cs ys:List Value}{ad:Addr}(E:Var e H b cs)(S:∀w,At w0 H w→∀j v,ys[j]?=some v→w.cell? (ad.add j)=some v)(hy:ys.length=k*sz)(R:∀u∈ys,u.oneCell'=true)(Q:J.op= .call {callee:= .builtin .copy,args:= #[d,x],argTypes:= #[t,t2]})
 (T:P.underlying t=some (.slice A)) (al:∀w,(sizeOf A).run P w= .ok sz w) (an:aF l d=some (.slice (some ⟨b,off,none⟩) o F)) (V:aF l x=some (.slice (some ad) k3 q)) (N:k=min k3 o) (X:off+k*sz≤cs.length):
 Z P w0 n l H J (fun r aa=>r= .int .i64 k∧Var e aa b (ed cs off ys)∧W (fun g=>g=b) H aa):=by
 intro a w B i;obtain⟨G,I,K⟩:=id E.row;have O:Nat.min k3 o=k:=N.symm
 have L:(Builtin.firstCells sz k (.slice (some ad) k3 q)).run P w= .ok ys.toArray w:=
  run_firstCells_some (P:=P) w sz k ad k3 q _ hy (fun j v M=>S w i j v M)
 have C:=m4 P b off e G ys 0 cs.toArray w (by rw[i.heap];exact I) K (by simp;omega) R;simp only[Nat.add_zero]at C;refine⟨_,_,w.setRow b (ed cs off ys).toArray,?_,i.row _ _,rfl,⟨q4 i E.row (by simp[ed];omega)⟩,ph i _ _⟩;simp[execOp,Q,B.eval an,B.eval V,resolve,invoke,builtin,Builtin.copy_,run_underlying T,Builtin.lenOf,al,O,L,C,ed,goInt]
theorem Iq{z:Value}{α:Type}{f:α→List Value}{z0:α}(h:z.cells.toList=f z0):∀m,(Builtin.zeroCells z.cells m).toList=(List.replicate m z0).flatMap f:=by
 have o:(f z0).length=z.cells.size:=by rw[←h,Array.length_toList]
 have k:∀m,(Builtin.zeroCells z.cells m).toList=(List.range (m*z.cells.size)).map (fun i=>z.cells[i%z.cells.size]!):=fun m=>by
  unfold Builtin.zeroCells;rw[Array.toList_map,Array.toList_range]
 have aK:(List.range z.cells.size).map (fun i=>z.cells[i%z.cells.size]!)=f z0:=by
  rw[←h];apply List.ext_getElem
  ·simp
  ·intro j n U
   have d:j<z.cells.size:=by simpa using n
   simp[Nat.mod_eq_of_lt d,getElem!_pos z.cells j d]
 intro m;rw[k]
 induction m with
 |zero=>simp
 |succ m ih=>
  rw[Nat.succ_mul,Nat.add_comm,List.range_add,List.map_append,List.map_map,aK,List.replicate_succ,List.flatMap_cons,←ih];congr 1;apply List.map_congr_left;intro j _;simp
theorem Z.Ap{α:Type}{F:Nat→Prop}{f:α→List Value}{s x:Operand}{t iU e:TypeId}{C E:IntKind}{ad:Addr}{c m sz bytes:Nat}{i:TypeInfo}{z:Value}{xs:List α}(z0:α)(av:∀x,(f x).length=sz)(G:∀x,∀u∈f x,u.oneCell'=true)(T:Rd F H f sz (.slice (some ad) xs.length c) xs)
 (S:J.op= .call {callee:= .builtin .append,args:= #[s,x],argTypes:= #[t,iU]}) (ab:P.underlying t=some (.slice e)) (ae:P.underlying iU=some (.int C)) (N:P.info? e=some i) (ag:i.zero=some z) (Y:i.size=sz) (I:i.bytes=bytes) (B:z.cells.toList=f z0) (X:0<sz) (Q:0<m)
 (al:aF l s=some (.slice (some ad) xs.length c)) (af:aF l x=some (.int E m)) (q:c<xs.length+m) (aw:(xs.length+m)*bytes≤140737488355328) (hm:xs.length+m≤9223372036854775807):
 Z P w0 n l H J (fun r aa=>aV (H.size+1) e aa f sz r (xs++List.replicate m z0)∧aj H aa∧∃ai,aa=H.push ai):=by
 subst Y;subst I;intro a w o d;have holds:=T.lA av rfl d
 have hold:(Builtin.firstCells i.size xs.length (.slice (some ad) xs.length c)).run P w.drew= .ok (xs.flatMap f).toArray w.drew:=
  run_firstCells_some (P:=P) w.drew i.size xs.length ad xs.length c _ (length_flatMap av xs) (fun j v O=>by simpa using holds j v O)
 have V:=Lib.run_append_grow_zeros (P:=P) w t iU J.type e i z E C ab ae N ag (some ad) xs.length c (xs.flatMap f) hold m Q X q (by omega) (by
  have:m*i.bytes≤(xs.length+m)*i.bytes:=Nat.mul_le_mul_right _ (by omega);omega) (growslice_fits q aw)
 have k:At w0 H w.drew:=d.drew;have M:=grownCap_ge w (xs.length+m) c e;have L:grownCap w (xs.length+m) c e≤maxLen:=grownCap_le_maxLen w (xs.length+m) c e (by unfold maxLen;omega);have ah:z.cells.size=i.size:=by rw[←Array.length_toList,B,av]
 have R:=Own.new (e:=e) (G':=fun b=>b+1=H.size+1) (w:=w.drew) (z:=z) (cap:=grownCap w (xs.length+m) c e) (zs:=xs++List.replicate m z0) av G ah (by rw[k.heap]) (by simpa using M) L
 have K:(xs.flatMap f).toArray++Builtin.zeroCells z.cells m=((xs++List.replicate m z0).flatMap f).toArray:=by
  apply Array.ext';rw[Array.toList_append,Iq B,List.flatMap_append]
 have A:w.heap.size=H.size:=by rw[d.heap]
 refine⟨.slice (some ⟨w.heap.size,0,none⟩) (xs.length+m) (grownCap w (xs.length+m) c e),_,w.drew.alloc (.cells ((xs.flatMap f).toArray++Builtin.zeroCells z.cells m++Builtin.zeroCells z.cells (grownCap w (xs.length+m) c e-(xs.length+m))) e),?_,⟨rfl,d.os,d.tape,d.output,k.fJ⟩,⟨?_,?_⟩,?_,?_⟩
 ·simp[execOp,S,resolve,invoke,builtin,o.eval al,o.eval af,V,A]
 ·rw[K]
  simpa[A]using R
 ·rw[(k.alloc _).heap];simp
 ·rw[(k.alloc _).heap];exact W.push _ _ _
 ·exact⟨_,(k.alloc _).heap⟩
theorem Y.yV{x:Operand}{o d:Option Operand}{t e:TypeId}{a:Option Addr}{len cap sz:Nat}(i j:Nat)(B:J.op= .slice t x o d none)(C:∀w,(underlying t).run P w= .ok (.slice e) w)(al:∀w,(sizeOf e).run P w= .ok sz w)(E:aF l x=some (.slice a len cap))
 (A:o=none∧i=0∨∃p k aD,o=some p∧aF l p=some (.int k aD)∧aD=(i:Int)) (r:d=none∧j=len∨∃p k aD,d=some p∧aF l p=some (.int k aD)∧aD=(j:Int)) (K:i≤j) (L:j≤cap):
 Y P w0 n l H J (.slice (if cap=i then a else a.map (·.add (i*sz))) (j-i) (cap-i)):=by
 intro ac w q I
 have aK:∀w,(Instr.sliceBounds true len cap (o.map ac.eval) (d.map ac.eval) none).run P w= .ok (i,j,cap) w:=by
  intro w
  rcases A with⟨rfl,rfl⟩|⟨p,k,aD,rfl,F,rfl⟩<;>rcases r with⟨rfl,rfl⟩|⟨N,a8,M,rfl,G,rfl⟩<;>
   simp[Instr.sliceBounds,Instr.sliceBound,asIntOf,q.eval, *]
 have hu:∀w,(underlying t).run P w= .ok (.slice e) w:=C;simp[execOp,B,q.eval E,Instr.sliceAt,Instr.slice,hu,al,aK]
theorem Y.Ck{x:Operand}{t e:TypeId}{a:Option Addr}{len cap:Nat}(i:J.op= .call {callee:= .builtin .cap,args:= #[x],argTypes:= #[t]})(j:∀w,(underlying t).run P w= .ok (.slice e) w)(k:aF l x=some (.slice a len cap)):Y P w0 n l H J (.int .i64 cap):=by
 intro ac w d o;simp[execOp,i,d.eval k,resolve,invoke,builtin,Builtin.cap_,j,goInt]
theorem aV.view{α:Type}{k:Nat}{e:TypeId}{f:α→List Value}{sz:Nat}{v:Value}{xs:List α}(h:aV k e H f sz v xs)(o:xs≠[]):∃g cap cs,v= .slice (some ⟨g,0,none⟩) xs.length cap∧k=g+1∧Var e H g cs∧xs.length≤cap∧cap≤maxLen∧cs.length=cap*sz∧cs.take (xs.length*sz)=xs.flatMap f:=by
 rcases h.own.ex with⟨_,t⟩|⟨g,cap,cur,r,n,q,d,U,i,j⟩
 ·exact absurd t o
 ·exact⟨g,cap,cur.toList,r,n.symm,⟨q⟩,d,U,by rw[Array.length_toList];exact i,j⟩
theorem aV.back{α:Type}{g:Nat}{e:TypeId}{f:α→List Value}{sz cap:Nat}{cs:List Value}{xs:List α}(av:∀x,(f x).length=sz)(i:∀x,∀u∈f x,u.oneCell'=true)(d:Var e H g cs)(j:xs.length≤cap)(hm:cap≤maxLen)(al:cs.length=cap*sz)(k:cs.take (xs.length*sz)=xs.flatMap f):aV (g+1) e H f sz (.slice (some ⟨g,0,none⟩) xs.length cap) xs:=
 ⟨⟨av,i,.inr ⟨g,cap,cs.toArray,rfl,rfl,d.row,j,hm,by simpa using al,by simpa using k⟩⟩,d.lt⟩
end
theorem Hb{α:Type}{f:α→List Value}{sz:Nat}(av:∀x,(f x).length=sz){cs:List Value}{xs ys:List α}{i:Nat}(h:cs.take (xs.length*sz)=xs.flatMap f)(q:cs.length≥xs.length*sz)(n:i+ys.length≤xs.length):(ed cs (i*sz) (ys.flatMap f)).take (xs.length*sz)=(xs.take i++ys++xs.drop (i+ys.length)).flatMap f:=by
 have hy:=length_flatMap av ys;have hm:(i+ys.length)*sz≤xs.length*sz:=Nat.mul_le_mul_right _ n;have o:(i+ys.length)*sz=i*sz+ys.length*sz:=Nat.add_mul _ _ _
 have j:cs.take (i*sz)=(xs.take i).flatMap f:=by
  have:=congrArg (List.take (i*sz)) h;rw[List.take_take,Nat.min_eq_left (by omega)]at this;rw[this]
  conv=>lhs;rw[←List.take_append_drop i xs,List.flatMap_append]
  rw[List.take_left' (by rw[length_flatMap av,List.length_take,Nat.min_eq_left (by omega)])]
 have k:(cs.take (xs.length*sz)).drop ((i+ys.length)*sz)=(xs.drop (i+ys.length)).flatMap f:=by
  rw[h]
  conv=>lhs;rw[←List.take_append_drop (i+ys.length) xs,List.flatMap_append]
  rw[List.drop_left' (by rw[length_flatMap av,List.length_take,Nat.min_eq_left (by omega)])]
 have d:((xs.take i++ys).flatMap f).length=(i+ys.length)*sz:=by
  rw[length_flatMap av,List.length_append,List.length_take,Nat.min_eq_left (by omega)]
 rw[ed,j,←List.flatMap_append,hy,←o,List.flatMap_append (xs:=xs.take i++ys),←k,List.take_append,d,List.take_of_length_le (by rw[d];exact hm),List.drop_take]
section
variable {P : Program} {w0 : World} {n : Nat} {l : bZ} {H : Heap} {J : Oper}
theorem Z.sb{α:Type}{F:Nat→Prop}{f:α→List Value}{d x:Operand}{t t2 e q:TypeId}{g i o I cap sz k:Nat}{ad:Addr}{G:Nat}{v:Value}{xs ys:List α}(h:aV k e H f sz v xs)(E:v= .slice (some ⟨g,0,none⟩) xs.length cap)(S:Rd F H f sz (.slice (some ad) ys.length G) ys)(Q:xs≠[])
 (R:J.op= .call {callee:= .builtin .copy,args:= #[d,x],argTypes:= #[t,t2]})
 (X:P.underlying t=some (.slice q)) (al:∀w,(sizeOf q).run P w= .ok sz w) (an:aF l d=some (.slice (some ⟨g,i*sz,none⟩) o I)) (ab:aF l x=some (.slice (some ad) ys.length G)) (af:ys.length≤o) (A:i+ys.length≤xs.length) (ah:ys≠[]):
 Z P w0 n l H J (fun r aa=>r= .int .i64 ys.length∧aV k e aa f sz v (xs.take i++ys++xs.drop (i+ys.length))∧W (fun b=>b+1=k) H aa):=by
 obtain⟨g2,ae,cs,j,B,O,K,U,L,M⟩:=aV.view h Q;rw[E]at j;simp only[Value.slice.injEq,Option.some.injEq,Addr.mk.injEq,true_and,and_true]at j;obtain⟨rfl,rfl⟩:=j;have av:=h.own.cells;have hlen:=length_flatMap av ys;have V:(i+ys.length)*sz≤xs.length*sz:=Nat.mul_le_mul_right _ A;have ag:xs.length*sz≤cap*sz:=Nat.mul_le_mul_right _ K;rw[Nat.add_mul]at V;refine(Z.vO O (fun w N=>S.lA av rfl N) hlen (fun u hu=>by obtain⟨y,_,hu⟩:=List.mem_flatMap.1 hu;exact h.own.one y u hu) R X al an ab (by omega) (by omega)).mono ?_;rintro r aa ⟨T,Y,hm⟩;have C:(xs.take i++ys++xs.drop (i+ys.length)).length=xs.length:=by simp;omega
 refine⟨T,?_,?_⟩
 ·rw[B,E,←C]
  refine aV.back av h.own.one Y (by omega) U ?_ ?_
  ·rw[tJ (by omega),L]
  ·rw[C];exact Hb av M (by omega) A
 ·exact hm.weaken (fun b _ e=>by rw[B,e])
theorem Z.CI{k:Nat}{α:Type}{f:α→List Value}{d x:Operand}{t t2 e E:TypeId}{g i C L k3 ah cap sz:Nat}{v:Value}{xs:List α}(h:aV k e H f sz v xs)(af:v= .slice (some ⟨g,0,none⟩) xs.length cap)(q:i<xs.length)(O:xs.length<cap)
 (T:J.op= .call {callee:= .builtin .copy,args:= #[d,x],argTypes:= #[t,t2]})
 (ab:P.underlying t=some (.slice E)) (al:∀w,(sizeOf E).run P w= .ok sz w) (an:aF l d=some (.slice (some ⟨g,(i+1)*sz,none⟩) C L)) (ag:aF l x=some (.slice (some ⟨g,i*sz,none⟩) k3 ah)) (Q:xs.length-i=min k3 C):
 Z P w0 n l H J (fun r aa=>r= .int .i64 (xs.length-i:Nat)∧aV k e aa f sz (.slice (some ⟨g,0,none⟩) (xs.length+1) cap) (xs.take (i+1)++xs.drop i)∧W (fun b=>b+1=k) H aa):=by
 have S:xs≠[]:=by intro e;rw[e]at q;simp at q
 obtain⟨g2,ai,cs,B,I,G,ak,U,M,F⟩:=aV.view h S;rw[af]at B;simp only[Value.slice.injEq,Option.some.injEq,Addr.mk.injEq,true_and,and_true]at B;obtain⟨rfl,rfl⟩:=B;have av:=h.own.cells;have R:(xs.drop i).length=xs.length-i:=List.length_drop;have hlen:((xs.drop i).flatMap f).length=(xs.length-i)*sz:=by rw[length_flatMap av,R]
 have V:i*sz+(xs.length-i)*sz=xs.length*sz:=by rw[←Nat.add_mul];congr 1;omega
 have aq:(i+1)*sz+(xs.length-i)*sz=(xs.length+1)*sz:=by rw[←Nat.add_mul];congr 1;omega
 have ar:(xs.length+1)*sz≤cap*sz:=Nat.mul_le_mul_right _ O;have au:(i+1)*sz≤xs.length*sz:=Nat.mul_le_mul_right _ q
 have ax:∀j,j≤xs.length→cs.take (j*sz)=(xs.take j).flatMap f:=fun j o=>by
  have hm:j*sz≤xs.length*sz:=Nat.mul_le_mul_right _ o;have:=congrArg (List.take (j*sz)) F;rw[List.take_take,Nat.min_eq_left hm]at this;rw[this]
  conv=>lhs;rw[←List.take_append_drop j xs,List.flatMap_append]
  rw[List.take_left' (by rw[length_flatMap av,List.length_take,Nat.min_eq_left o])]
 have Y:(cs.take (xs.length*sz)).drop (i*sz)=(xs.drop i).flatMap f:=by
  rw[F]
  conv=>lhs;rw[←List.take_append_drop i xs,List.flatMap_append]
  rw[List.drop_left' (by rw[length_flatMap av,List.length_take,Nat.min_eq_left (by omega)])]
 have K:cg H ⟨g,i*sz,none⟩ ((xs.drop i).flatMap f):=by
  have:=(G.N.take (xs.length*sz)).drop (i*sz);rw[Y,add_eq rfl]at this
  simpa using this
 refine(Z.vO (k:=xs.length-i) (sz:=sz) G (fun w N j v o=>by rw[N.cell,add_eq K.spot];exact K.cells j v o) hlen (fun u hu=>by obtain⟨y,_,hu⟩:=List.mem_flatMap.1 hu;exact h.own.one y u hu) T ab al an ag Q (by omega)).mono ?_;rintro r aa ⟨X,ae,hm⟩;have A:(xs.take (i+1)++xs.drop i).length=xs.length+1:=by simp;omega
 refine⟨X,?_,hm.weaken (fun b _ e=>by rw[I,e])⟩;rw[I,←A];refine aV.back av h.own.one ae (by omega) U ?_ ?_
 ·rw[tJ (by omega),M]
 ·rw[A,ed,ax (i+1) (by omega),←List.flatMap_append,List.take_left' (by rw[length_flatMap av,A])]
theorem Y.yT{x:Operand}{d:Option Operand}{t e:TypeId}{g len cap sz:Nat}(j:Nat)(q:J.op= .slice t x none d none)(r:∀w,(underlying t).run P w= .ok (.slice e) w)(al:∀w,(sizeOf e).run P w= .ok sz w)(A:aF l x=some (.slice (some ⟨g,0,none⟩) len cap))
 (i:d=none∧j=len∨∃p k aD,d=some p∧aF l p=some (.int k aD)∧aD=(j:Int)) (o:j≤cap):Y P w0 n l H J (.slice (some ⟨g,0,none⟩) j cap):=by
 have:=Y.yV (P:=P) (w0:=w0) (n:=n) (H:=H) 0 j q r al A (.inl ⟨rfl,rfl⟩) i (Nat.zero_le _) o
 simpa[add_eq]using this
theorem Y.m8{x p:Operand}{t e:TypeId}{g len cap sz:Nat}{k:IntKind}{aD:Int}(i:Nat)(r:J.op= .slice t x (some p) none none)(A:∀w,(underlying t).run P w= .ok (.slice e) w)(al:∀w,(sizeOf e).run P w= .ok sz w)(B:aF l x=some (.slice (some ⟨g,0,none⟩) len cap))
 (q:aF l p=some (.int k aD)) (j:aD=(i:Int)) (d:i≤len) (av:i<cap) (o:len≤cap):Y P w0 n l H J (.slice (some ⟨g,i*sz,none⟩) (len-i) (cap-i)):=by
 have:=Y.yV (P:=P) (w0:=w0) (n:=n) (H:=H) i len r A al B (.inr ⟨_,_,_,rfl,q,j⟩) (.inl ⟨rfl,rfl⟩) d o;rw[if_neg (by omega)]at this
 simpa[add_eq]using this
end
abbrev jI:bA:=Im
theorem DV{l:List bA}{x:bA}{i:Nat}(h:i=l.length):l++[x]=l.take i++x::l.drop i:=by subst h;simp
theorem DW{l:List bA}{x:bA}{i n:Nat}(k:i<l.length)(aA:n=l.length+1-i):
 ((l.take i++List.replicate n jI).take i++[x]++(l.take i++List.replicate n jI).drop (i+1)).take (i+1)++l.drop i++((l.take i++List.replicate n jI).take i++[x]++(l.take i++List.replicate n jI).drop (i+1)).drop (i+1+(l.drop i).length)=l.take i++x::l.drop i:=by
 have d:(l.take i).length=i:=by rw[List.length_take];omega
 have U:(l.take i++[x]).length=i+1:=by simp[d]
 have aK:(l.take i++List.replicate n jI).take i=l.take i:=List.take_left' d;rw[aK,List.take_left' U];have j:(l.take i++[x]++(l.take i++List.replicate n jI).drop (i+1)).drop (i+1+(l.drop i).length)=[]:=List.drop_eq_nil_of_le (by simp[d];omega);rw[j];simp
theorem DX{l:List bA}{x:bA}{i:Nat}(j:i<l.length):(l.take (i+1)++l.drop i).take i++[x]++(l.take (i+1)++l.drop i).drop (i+1)=l.take i++x::l.drop i:=by
 have d:(l.take (i+1)).length=i+1:=by rw[List.length_take];omega
 rw[List.drop_left' d,List.take_append_of_le_length (by omega),List.take_take,Nat.min_eq_left (by omega)];simp
theorem F5{F:Nat→Prop}{H:Heap}{l:List bA}{g cap i:Nat}(h:Rd F H bO 33 (.slice (some ⟨g,0,none⟩) l.length cap) l):Rd F H bO 33 (.slice (some ⟨g,0,none⟩) (l.take i).length cap) (l.take i):=by
 obtain⟨a,c,e,A,U,r⟩:=h.ex;cases e;refine⟨_,_,rfl,by rw[List.length_take];omega,U,fun t=>?_⟩;obtain⟨ad,aK,k,n,o,q⟩:=r (by intro e;subst e;simp at t);exact⟨ad,aK,k,n,o,fun j x d=>q j x (by rw[List.getElem?_take]at d;split at d;exact d;cases d)⟩
theorem F4{F:Nat→Prop}{H:Heap}{l:List bA}{g cap i:Nat}(h:Rd F H bO 33 (.slice (some ⟨g,0,none⟩) l.length cap) l):Rd F H bO 33 (.slice (some ⟨g,i*33,none⟩) (l.drop i).length (cap-i)) (l.drop i):=by
 obtain⟨a,c,e,A,U,q⟩:=h.ex;cases e;refine⟨_,_,rfl,by rw[List.length_drop];omega,by omega,fun r=>?_⟩;obtain⟨ad,aK,t,k,n,o⟩:=q (by intro e;subst e;simp at r);cases aK;refine⟨_,rfl,rfl,k,n,fun j x d=>?_⟩;rw[List.getElem?_drop]at d;have:=o (i+j) x d
 simpa[Nat.add_mul]using this
section
variable {P : Program} {w0 : World} {n : Nat} {l : bZ} {H : Heap} {J : Oper}
theorem Y.overlaps{f:FuncId}{fn:Func}{args:List Operand}{r:Array TypeId}{tS tR e:TypeId}{g d q o off aY j sz:Nat}{cs:List Value}{k:Array Value}(i:H[d]?=some (.cells k e (0,0)))(I:Var e H g cs)(E:d≠g)(A:cs.length≠0)
 (F:J.op= .call {callee:= .value (.func f),args:=args.toArray,argTypes:=r}) (B:P.funcs[f]?=some fn) (C:(fn.name== "runtime.NumGoroutine")=false) (aw:fn.body.isNone=true) (aA:Extern.findNext fn=none) (he:Extern.find fn=some (Extern.SlicesOverlaps.overlaps #[tS,tS] #[tR]))
 (G:P.underlying tS=some (.slice e)) (al:∀w,(sizeOf e).run P w= .ok sz w) (x:gI l args=some [.slice (some ⟨d,0,none⟩) q o,.slice (some ⟨g,off,none⟩) aY j]):Y P w0 n l H J (.bool false):=by
 refine Y.ext F B C aw aA he x (fun w hw=>?_);obtain⟨K,t,_⟩:=I.row;refine Lib.run_overlaps_apart w tS tR e G sz al ⟨d,0,none⟩ ⟨g,off,none⟩ q o aY j E e e k.size cs.toArray.size ?_ ?_ (by simpa using A) ?_ ?_
 ·simp[World.shape?,hw.heap,i]
 ·simp[World.shape?,hw.heap,t]
 ·simp[World.frozen?,hw.heap,i]
 ·simp[World.frozen?,hw.heap,i]
end
section
variable {α : Type} {P : Program} {w0 : World} {n : Nat} {l : bZ} {H : Heap} {J : Oper} {e : TypeId} {f : α → List Value} {sz : Nat}
theorem Z.Eg{t:TypeId}{k bytes:Nat}{parts:List (Nat×Operand)}(d:List Value)(zs:List α)(O:J.op= .buildSlice t k parts.toArray)(Y:c4 P t e sz bytes)(Q:gI l (parts.map (·.2))=some d)(N:parts.map (·.1)=List.range k)(j:d.length=k)(aq:k*sz≤16777216)(al:k≤16777216)
 (av:∀x,(f x).length=sz) (V:∀x,∀u∈f x,u.oneCell'=true) (G:d.map (fun v=>v.cells.toList)=zs.map f):
 Z P w0 n l H J (fun r aa=>Own (fun b=>b=H.size) e aa f sz r zs∧aj H aa∧∃c:Array Value,aa=H.push (.cells c e (0,0))):=by
 obtain⟨S,i,z,B,ah,ae,ak,ar⟩:=Y;subst ae;intro a w X I;have L:=X.jR Q;have T:zs.length=k:=by have:=congrArg List.length G;simpa[j]using this.symm
 have R:(parts.toArray.map (fun(x:Nat×Operand)=>(x.1,a.eval x.2))).toList=(d.zipIdx 0).map (fun p=>(p.2,p.1)):=by
  have aK:parts.map (fun(x:Nat×Operand)=>(x.1,a.eval x.2))=(List.range k).zip d:=by
   rw[←N,←L,List.map_map];clear N L Q O
   induction parts with
   |nil=>rfl
   |cons p eW ih=>simp[ih]
  rw[List.map_toArray];simp only;rw[aK,List.zipIdx_eq_zip_range',xm j]
 have K:∀v∈d,v.cells.size=i.size:=by
  intro v af;have:v.cells.toList∈zs.map f:=by rw[←G];exact List.mem_map.2 ⟨v,af,rfl⟩
  obtain⟨x,_,ag⟩:=List.mem_map.1 this;have:=av x;rw[ag]at this
  simpa using this
 have M:d.flatMap (fun v=>v.cells.toList)=zs.flatMap f:=by rw[List.flatMap_def,List.flatMap_def,G]
 have W:∀(o:Array Value),((Array.range (k*i.size)).map (o[·%o.size]!)).toList=[]++((Array.range (k*i.size)).map (o[·%o.size]!)).toList:=fun _=>rfl
 have F:∃cs:Array Value,cs.toList=zs.flatMap f∧(Instr.buildSlice t k (parts.toArray.map (fun(x:Nat×Operand)=>(x.1,a.eval x.2)))).run P w= .ok (.slice (some ⟨w.heap.size,0,none⟩) k k) (w.alloc (.cells cs e)):=by
  by_cases q:k*i.size=0
  ·obtain⟨r,C,E⟩:=oN i.size d 0 #[] [] [] rfl (by simp) (by simp[j,q]) K
   refine⟨r,by rw[E,M];rfl,?_⟩;simp only[Instr.buildSlice,Sem.run_bind,run_underlying S,Result.andThen_ok,sizeOf,typeInfo,run_program,B,Sem.run_pure,R];have ai:∀g:Nat→Value,(Array.range 0).map g= #[]:=fun g=>by simp
   simp[q,ai,C,newRow]
  ·obtain⟨r,C,E⟩:=oN i.size d 0 ((Array.range (k*i.size)).map (z.cells[·%z.cells.size]!)) [] _ (W _) (by simp) (by simp[j]) K
   refine⟨r,by rw[E,M];rfl,?_⟩;simp only[Instr.buildSlice,Sem.run_bind,run_underlying S,Result.andThen_ok,sizeOf,typeInfo,run_program,B,Sem.run_pure,R];have ab:¬(k*i.size>2^24):=by simp only[Nat.reducePow];omega
   simp[q,ab,zeroValue,typeInfo,B,ah,C,newRow]
 obtain⟨cs,A,F⟩:=F;refine⟨.slice (some ⟨w.heap.size,0,none⟩) k k,H.push (.cells cs e),w.alloc (.cells cs e),?_,I.alloc (.cells cs e),⟨av,V,.inr ⟨H.size,k,cs,?_,rfl,.of (by simp),?_,?_,?_,?_⟩⟩,aj.pu _ _,_,rfl⟩
 ·simp only[execOp,O,Sem.run_bind,F,Result.andThen_ok,Sem.run_pure]
 ·rw[T,I.heap]
 ·omega
 ·unfold maxLen;omega
 ·rw[←Array.length_toList,A,length_flatMap av,T]
 ·rw[←length_flatMap av,List.take_of_length_le (by rw[←A];exact Nat.le_refl _),A]
theorem Z.Eh{t:TypeId}{k bytes:Nat}{parts:List (Nat×Operand)}(d:List Value)(zs:List α)(E:J.op= .buildSlice t k parts.toArray)(q:c4 P t e sz bytes)(F:gI l (parts.map (·.2))=some d)(o:parts.map (·.1)=List.range k)(A:d.length=k)(C:k*sz≤16777216)(B:k≤16777216)
 (av:∀x,(f x).length=sz) (i:∀x,∀u∈f x,u.oneCell'=true) (G:d.map (fun v=>v.cells.toList)=zs.map f):
 Z P w0 n l H J (fun r aa=>aV (H.size+1) e aa f sz r zs∧aj H aa∧∃c:Array Value,aa=H.push (.cells c e (0,0))):=
 (Z.Eg d zs E q F o A C B av i G).mono fun r aa ⟨i,U,c,j⟩=>⟨aV.new (fun _ e=>e) i j,U,c,j⟩
end
theorem DY(k B:Nat)(v ab:Value)(l:List bA)(x:bA)(i:Nat)(w0:World)(I:Heap)
 (j:aV k 68 I bO 33 v l) (q:aV B 68 I bO 33 ab [x]) (ar:af k B) (b6:i≤l.length) (bz:∃c,I[B-1]?=some (.cells c 68 (0,0))) (b8:l.length≤1048576):
 aC Tryz.prog w0 63 #[v,.int .i64 i,ab] I (fun r ae=>∃aB:Value,∃aA:Nat,r=aB∧(aV aA 68 ae bO 33 aB (l.take i++x::l.drop i))∧(T k I.size aA)∧W (aE [k]) I ae):=by
 refine aC.aK [v,.int .i64 i,ab] Tryz.func63 ?_;intro bC aa;have n:W (aE [k]) I I:=W.refl _ _;have C:=T.refl k I.size;have a_:=j.le;have bN:=q.le;have b_:=j.len;refine G.L (fun aI=>?_);refine o.ak ?_;refine aI (G.L (fun aJ=>?_));refine o.ax 2 ?_;refine o.aK (g:=fun v=>v) (Y.slice j.rd (i) (l.length) rfl cu ck rfl (.inr ⟨_,_,_,rfl,rfl,by first|rfl|omega⟩) (.inl ⟨rfl,rfl⟩) (by omega) (by omega)) fun bG ca=>?_;refine o.nil (aJ (G.L (fun aK=>?_)));refine o.V ?_;refine o.v1 (Y.cast (v2:= .int .i64 1) (bb q.rd cu) (rfl)) ?_;refine o.ak ?_;refine aK (G.t1 (fun aL=>G.L (fun aM=>?_)));refine o.V ?_;refine o.v1 ((b9).fm (fun h=>by simp at h)) (o.nil (aM ?_));refine dw ?_;refine G.skip (aL (G.L (fun aN=>?_)));refine o.V ?_;refine o.v1 (bb j.rd cu) ?_;refine o.ak ?_;refine aN (G.t2 (fun aO aP=>G.L (fun aQ=>?_)));refine o.ax 2 ?_;refine o.v1 b9 (o.nil (aQ ?_));refine aU (fun aR=>?_) (fun aR=>?_)
 ·
  refine G.L (fun aS=>?_);refine o.ax 2 ?_;refine o.aO (dQ j q.rd iJ (by simp only[List.length_cons,List.length_nil];omega) (by simp only[List.length_cons,List.length_nil];omega)) fun aT bI aW=>?_;obtain⟨au,j,V,N⟩:=aW;replace V:T k I.size au:=V;replace N:=N.md;have aX:T k I.size au:=T.L (C) V n.size;replace n:=n.aJ N (ag.J (aq.r C));have bJ:=N.size;have a_:=j.le;refine o.ak ?_;refine aS ?_;refine G.ret (aP (aa ?_));exact⟨aT,au,rfl,by rw[←DV (by omega)];exact j,aX,n⟩
 ·
  have H:i<l.length:=by omega
  have bu:l≠[]:=by intro e;rw[e]at H;simp at H
  obtain⟨g,cap,cs,A,bt,bx,b1,bq,b4,_⟩:=aV.view j bu;unfold maxLen at bq;obtain⟨Q,al,bZ,M,b7,_,b3,b5,_,_⟩:=aV.view q (by simp);obtain⟨b0,az⟩:=bz;rw[show B-1=Q by omega]at az;have bs:Q≠g:=fun e=>ar g bt.symm (by omega);refine G.skip (aO (G.t2 (fun am ba=>G.L (fun ap=>?_))));refine o.ax 2 ?_;refine o.v1 bD ?_;refine o.V ?_;refine o.v1 (Y.Ck rfl cu (congrArg some A)) ?_;refine o.v1 eY (o.nil (ap ?_));refine aU (fun aY=>?_) (fun aY=>?_)
  ·
   obtain⟨bw,i0,z0,ay,ai,aZ,bo,_⟩:=iJ
   have a1:z0.cells.toList=bO jI:=by
    have d:(zeroValue 68).run Tryz.prog w0= .ok (.agg (bO jI).toArray) w0:=by kernel_rfl
    simp[zeroValue,typeInfo,ay,ai]at d;rw[d];rfl
   have K:(l.take i).length=i:=by rw[List.length_take];omega
   refine G.L (fun bc=>?_);refine o.ax 2 ?_;refine o.v1 (Y.yT i rfl cu ck (congrArg some A) (.inr ⟨_,_,_,rfl,rfl,rfl⟩) (by omega)) ?_;refine o.ax 2 ?_;refine o.v1 bD ?_;refine o.V ?_;refine o.v1 (Y.cast (v2:= .int .i64 ((l.length+1-i:Nat):Int)) fH (by congr 1;omega)) ?_;refine o.aO (Z.Ap (F:=fun b=>b+1=k) (ad:=⟨g,0,none⟩) (c:=cap) (xs:=l.take i) (m:=l.length+1-i) jI c0 gX (by have d:=j.rd;rw[A]at d;exact F5 d) rfl bw Tryz.underlying3 ay ai aZ bo a1 (by decide) (by omega) (by rw[K];rfl) rfl (by rw[K];omega) (by rw[K];omega) (by rw[K];omega)) fun a6 a7 a8=>?_;obtain⟨on,O,a0,bd⟩:=a8;have bK:a7.size=I.size+1:=by rw[bd];simp
   have b2:af k (I.size+1):=af.new j.le;have ak:T 0 I.size (I.size+1):=T.new n.size;replace j:=j.M O;replace q:=q.M O;replace n:=n.bc O;have a9:=O.size;have t:(l.take i++List.replicate (l.length+1-i) jI).length=l.length+1:=by rw[List.length_append,K,List.length_replicate];omega
   obtain⟨g2,bX,_,L,_,_,bp,_,_,_⟩:=aV.view on (by intro e;rw[e]at t;simp at t);rw[t]at L bp;refine o.ak ?_;refine bc (G.L (fun bf=>?_));refine o.ax 2 ?_;refine o.v1 (Y.m8 i rfl cu ck (congrArg some L) rfl rfl (by omega) (by omega) (by omega)) ?_;refine o.V ?_;refine o.aO (Z.sb (i:=i) on (by rw[t];exact L) (show Rd (fun b=>b+1=B) _ bO 33 (.slice (some ⟨Q,0,none⟩) [x].length al) [x]from by have d:=q.rd;rw[M]at d;exact d) (by intro e;rw[e]at t;simp at t) rfl Tryz.underlying30 ck rfl (congrArg some M) (by simp;omega) (by rw[t];simp;omega) (by simp)) fun bL bP a2=>?_;obtain⟨rfl,on,E⟩:=a2;replace E:=E.md;replace j:=j.ab E (ah.J b2);replace n:=n.aJ E (ag.J (aq.q ak));have bQ:=E.size;have R:((l.take i++List.replicate (l.length+1-i) jI).take i++[x]++(l.take i++List.replicate (l.length+1-i) jI).drop (i+[x].length)).length=l.length+1:=by simp;omega
   refine o.nil (bf (G.t1 (fun bg=>?_)));refine iW 8 (fun bE bm=>?_);refine o.ax 3 ?_;refine o.v1 bD ?_;refine o.v1 (Y.m8 (i+1) rfl cu ck (congrArg some L) rfl (by simp) (by omega) (by omega) (by omega)) ?_;refine o.ax 2 ?_;refine o.v1 (Y.m8 i rfl cu ck (congrArg some A) rfl rfl (by omega) (by omega) (by omega)) ?_;refine o.nil (bm _ ?_);refine o.aO (Z.sb (i:=i+1) (ys:=l.drop i) on (by rw[R];exact L) (show Rd (fun b=>b+1=k) _ bO 33 (.slice (some ⟨g,i*33,none⟩) (l.drop i).length (cap-i)) (l.drop i)from by have d:=j.rd;rw[A]at d;exact F4 d) (by intro e;rw[e]at R;simp at R) rfl Tryz.underlying30 ck rfl (by rw[List.length_drop];rfl) (by rw[List.length_drop];omega) (by rw[R,List.length_drop];omega) (by intro e;have d:=congrArg List.length e;rw[List.length_drop]at d;simp at d;omega)) fun bR bT a3=>?_;obtain⟨rfl,on,P⟩:=a3;replace P:=P.md;replace n:=n.aJ P (ag.J (aq.q ak));have be:=P.size;refine o.nil (bg (G.L (fun bh=>?_)));refine o.aQ 2 ?_;refine bh ?_;refine G.ret (ba (aa ?_));exact⟨a6,(I.size+1),rfl,by have d:=on;rw[show i+[x].length=i+1 from rfl,DW H rfl]at d;exact d,(by unfold T;omega),n⟩
  ·
   refine G.skip (am (G.L (fun bj=>?_)));refine o.ax 3 ?_;refine o.v1 bD ?_;refine o.v1 (Y.yT (l.length+1) rfl cu ck (congrArg some A) (.inr ⟨_,_,_,rfl,rfl,by simp⟩) (by omega)) ?_;refine o.ak ?_;refine bj (G.t2 (fun _ bk=>G.L (fun bl=>?_)));refine o.ax 4 ?_;refine o.v1 bD ?_;refine o.v1 (Y.m8 (i+1) rfl cu ck rfl rfl (by simp) (by omega) (by omega) (by omega)) ?_;refine o.v1 (Y.overlaps (tS:=30) (tR:=4) az bx bs (by omega) rfl rfl (by kernel_rfl) (by kernel_rfl) (by kernel_rfl) (by kernel_rfl) Tryz.underlying30 ck (congrArg (fun z=>some [z,_]) M)) ?_;refine o.v1 eL (o.nil (bl ?_));refine G.iz rfl ?_;refine G.t1 (fun aD=>?_);refine iW 8 (fun bF bn=>?_);refine o.ax 3 ?_;refine o.v1 bD ?_;refine o.v1 (Y.m8 (i+1) rfl cu ck rfl rfl (by simp) (by omega) (by omega) (by omega)) ?_;refine o.ax 2 ?_;refine o.v1 (Y.m8 i rfl cu ck rfl rfl rfl (by omega) (by omega) (by omega)) ?_;refine o.nil (bn _ ?_);refine o.aO (Z.CI (i:=i) j A H (by omega) rfl Tryz.underlying30 ck rfl rfl (by omega)) fun bY bS a4=>?_;obtain⟨rfl,j,ac⟩:=a4;replace ac:=ac.md;replace q:=q.ab ac (ah.J ar.symm);replace n:=n.aJ ac (ag.J (aq.r C));have bU:=ac.size;have S:(l.take (i+1)++l.drop i).length=l.length+1:=by simp;omega
   refine o.nil (aD (G.L (fun aF=>?_)));refine o.ax 2 ?_;refine o.v1 (Y.m8 i rfl cu ck rfl rfl rfl (by omega) (by omega) (by omega)) ?_;refine o.V ?_;refine o.aO (Z.sb (i:=i) j (by rw[S]) (show Rd (fun b=>b+1=B) _ bO 33 (.slice (some ⟨Q,0,none⟩) [x].length al) [x]from by have d:=q.rd;rw[M]at d;exact d) (by intro e;rw[e]at S;simp at S) rfl Tryz.underlying30 ck rfl (congrArg some M) (by simp;omega) (by rw[S];simp;omega) (by simp)) fun bi bV a5=>?_;obtain⟨rfl,j,X⟩:=a5;replace X:=X.md;replace n:=n.aJ X (ag.J (aq.r C));refine o.nil (aF (G.L (fun aH=>?_)));refine o.aQ 2 ?_;refine aH ?_;refine G.ret (bk (aa ?_));exact⟨.slice (some ⟨g,0,none⟩) (l.length+1) cap,k,rfl,by have d:=j;rw[show i+[x].length=i+1 from rfl,DX H]at d;exact d,C,n⟩
theorem oG:∀{a b:List UInt8},Lib.compareBytes a b<0↔Op.bytesLess a b=true
 |[],[]=>by simp[Lib.compareBytes,Op.bytesLess]
 |[],_::_=>by simp[Lib.compareBytes,Op.bytesLess]
 |_::_,[]=>by simp[Lib.compareBytes,Op.bytesLess]
 |x::a,y::b=>by
  simp only[Lib.compareBytes,Op.bytesLess];by_cases d:x<y
  ·simp[d]
  ·by_cases U:y<x
   ·have:¬x=y:=fun e=>by subst e;exact d U
    simp[d,U,this]
   ·have e:x=y:=by apply UInt8.toNat.inj;rw[UInt8.lt_iff_toNat_lt]at d U;omega
    subst e;simp[d,oG (a:=a) (b:=b)]
theorem r9:∀{a b:List UInt8},Lib.compareBytes a b=0↔a=b
 |[],[]=>by simp[Lib.compareBytes]
 |[],_::_=>by simp[Lib.compareBytes]
 |_::_,[]=>by simp[Lib.compareBytes]
 |x::a,y::b=>by
  simp only[Lib.compareBytes];by_cases d:x<y
  ·have:¬x=y:=fun e=>by subst e;simp[UInt8.lt_iff_toNat_lt]at d
   simp[d,this]
  ·by_cases U:y<x
   ·have:¬x=y:=fun e=>by subst e;exact d U
    simp[d,U,this]
   ·have e:x=y:=by apply UInt8.toNat.inj;rw[UInt8.lt_iff_toNat_lt]at d U;omega
    subst e;simp[d,r9 (a:=a) (b:=b)]
theorem Cz(u v:Value)(a b:List UInt8)(w0:World)(I:Heap)
 (d:bx I a1 1 u a) (aw:bx I a1 1 v b):
 aC Tryz.prog w0 62 #[u,v] I (fun r i=>r= .int .i64 (Lib.compareBytes a b)∧aj I i):=by
 refine aC.aK [u,v] Tryz.func62 ?_;intro t q;have n:aj I I:=W.refl _ _;replace d:=d.bw;replace aw:=aw.bw;refine G.L (fun j=>?_);refine o.ak ?_;refine j (G.L (fun k=>?_));refine o.ax 2 ?_;refine o.v1 (Y.compare d aw rfl Tryz.func136 (by kernel_rfl) (by kernel_rfl) (by kernel_rfl) (by kernel_rfl) rfl) ?_;refine o.ak ?_;refine k ?_;refine G.ret (q ?_);exact⟨rfl,n⟩
theorem zq(s:cW)(F:Nat→Prop)(w0:World)(I:Heap)
 (al:eS F I s) (cG:bh F I.size) (ok:s.m.Ok):
 aC Tryz.prog w0 39 #[eg s] I (fun r C=>∃s2:cW,∃cP:Nat,∃aR:Nat→Prop,r=eg s2∧(js aR C s2)∧(aV cP 68 C bO 33 s2.ct.v s2.el)∧(T 0 I.size cP)∧(bh aR C.size)∧(∀c,aR c→I.size≤c)∧(ay aR cP)∧(s2.m=s.m)∧aj I C):=by
 refine aC.enter (args:=[eg s]) Tryz.func39 rfl rfl rfl ?_;intro gk gd;have n:aj I I:=W.refl _ _;have aO:=Gv ok;have z2:=Ek ok;have z3:=CZ ok;have z4:=Er ok;have z5:=EG ok;have hv:=HC ok;refine G.L (fun fV=>?_);refine o.aO cq ?_;rintro v1 H1 ⟨rfl,K,cN,em,fX⟩;have gH:H1.size=I.size+1:=by rw[fX];simp
 replace al:=al.M cN;replace n:=n.L cN;have gP:=cN.size;replace K:Var 47 H1 I.size (bS s):=K;refine o.aO (cV kC) ?_;rintro v2 C ⟨rfl,B,ct,hf,fY⟩;have gI:C.size=H1.size+1:=by rw[fY];simp
 have ft:T 0 I.size (H1.size+1):=T.new n.size;replace al:=al.M ct;replace K:=K.M ct;replace n:=n.L ct;have bR:=ct.size;refine o.nil (fV ?_)
 refine G.cut (fun(cg:(aN)×(Nat)×(Nat))=>match cg with|(R,P,A)=>[(1,.pointer (some ⟨I.size,0,none⟩)),(2,.pointer (some ⟨H1.size,0,none⟩)),(3,.pointer (some ⟨A,0,none⟩))])
  (fun(R,P,A) (H:Heap)=>(aV P 71 H dB 33 R.v s.ba)∧(Var 47 H A (bS ⟨s.an,R,s.ba,cM,[],s.q,cM,[]⟩))∧(T 0 C.size P)∧(T 0 C.size ((A+1)))∧(af P ((A+1)))∧aj C H) (fun _ dl _=>?_) ?_
 ·
  have V:aj C C:=W.refl _ _;refine dx (fun t=>aj C t) [9] ?_;have am:aj C C:=W.refl _ _;refine O.t1 0 rfl (fun t k=>Y.ai (K.N.M k) rfl ca rfl bP) am ?_;refine O.t1 1 rfl (fun t k=>ar (K.N.M k) bN) am ?_;refine O.t1 2 rfl (fun t k=>Y.ai (K.N.M k) rfl ca rfl hb) am ?_;refine O.t1 3 rfl (fun t k=>ar ((K.N.drop 1).M k) ix) am ?_;refine O.t1 5 rfl (fun t k=>Y.ai (K.N.M k) rfl ca rfl cS) am ?_;refine O.t1 6 rfl (fun t k=>Y.cast (v2:=er s.q) (aT (((K.N.drop 3).M k).take 70) h9 cS (by rw[jU];exact ee _)) (b6 (jU s))) am ?_;refine O.two (i:=4) (j:=8) (by kernel_rfl) ?_ ?_
  ·
   refine cf u6 (ym s.en.v s.ba w0 _ al.r.any (by omega)) (fun fu ab co=>?_);obtain⟨R,P,rfl,or,bG,bd⟩:=co;have fh:T 0 C.size P:=T.L (T.refl 0 _) bG V.size;have fj:T 0 C.size P:=T.L (T.refl 0 _) bG am.size;replace V:=V.L bd;replace am:=am.L bd;have hg:=bd.size;have cR:=or.le;refine⟨.inr am,O.narrow (SH2:=fun t=>W (aE [P]) ab t) (fun t k=>(W.aJ (ks:=[]) (am.kU []) k (ag.J (aq.q fj))).nil) ?_⟩;have am:W (aE [P]) ab ab:=W.refl _ _;have fk:=T.refl P ab.size;refine O.t1 (v:=eg ⟨s.an,R,s.ba,cM,[],s.q,cM,[]⟩) 7 rfl (fun t k=>?_) am ?_
   ·exact Y.build (v:=eg ⟨s.an,R,s.ba,cM,[],s.q,cM,[]⟩) rfl rfl (by intro w;exact uZ _)
   refine O.aX 8 ?_;refine et rfl (cV kC) ?_;rintro v3 a7 ⟨rfl,d,a6,fw,cs⟩;have fl:a7.size=ab.size+1:=by rw[cs];simp
   have cX:af P (ab.size+1):=af.new or.le;have cZ:T 0 C.size (ab.size+1):=T.new V.size;have bm:T 0 ab.size (ab.size+1):=T.new am.size;replace or:=or.M a6;replace V:=V.L a6;replace am:=am.bc a6;have es:=a6.size;refine O.b3 am (ag.cons (aq.r fk) (ag.J (aq.q bm))) ?_;refine O.aX 9 ?_;refine gL rfl (dM d (_) (bS ⟨s.an,R,s.ba,cM,[],s.q,cM,[]⟩) (jT _) di (b4 _) ((c9 (b4 _).symm))) (fun dr br=>?_);obtain⟨d,aM⟩:=br;replace aM:=aM.bs;replace or:=or.ab aM (ah.J cX);replace V:=V.bo aM (ag.J (aq.q cZ));have hh:=aM.size;refine⟨.inl rfl,?_⟩;refine cx ?_;refine aP.sub (dl (R,P,ab.size) _ ?_) ⟨rfl,rfl,rfl,trivial⟩;exact⟨or,d,fh,cZ,cX,V⟩
  ·
   refine et rfl (cV kC) ?_;rintro v3 a7 ⟨rfl,d,a6,fw,cs⟩;have fl:a7.size=C.size+1:=by rw[cs];simp
   have c1:T 0 C.size (C.size+1):=T.new V.size;have fm:T 0 C.size (C.size+1):=T.new am.size;replace al:=al.M a6;replace V:=V.L a6;replace am:=am.L a6;have hi:=a6.size;refine⟨.inr am,O.narrow (SH2:=fun t=>W (aE [(C.size+1)]) a7 t) (fun t k=>(W.aJ (ks:=[]) (am.kU []) k (ag.J (aq.q fm))).nil) ?_⟩;have am:W (aE [(C.size+1)]) a7 a7:=W.refl _ _;have fo:=T.refl (C.size+1) a7.size;refine O.aX 4 ?_;refine cf u6 (ym s.en.v s.ba w0 _ al.r.any (by omega)) (fun fu ab co=>?_);obtain⟨R,P,rfl,or,bG,bd⟩:=co;have c3:af (C.size+1) P:=af.app (af.z) d.lt bG;have fq:T 0 C.size P:=T.L (T.refl 0 _) bG V.size;have fr:T 0 a7.size P:=T.L (T.refl 0 _) bG am.size;replace d:=d.M bd;replace V:=V.L bd;replace am:=am.bc bd;have hj:=bd.size;have cR:=or.le;refine O.b3 am (ag.cons (aq.r fo) (ag.J (aq.q fr))) ?_;have am:W (aE [(C.size+1),P]) ab ab:=W.refl _ _;refine O.t1 (v:=eg ⟨s.an,R,s.ba,cM,[],s.q,cM,[]⟩) 7 rfl (fun t k=>?_) am ?_
   ·exact Y.build (v:=eg ⟨s.an,R,s.ba,cM,[],s.q,cM,[]⟩) rfl rfl (by intro w;exact uZ _)
   refine O.aX 9 ?_;refine gL rfl (dM d (_) (bS ⟨s.an,R,s.ba,cM,[],s.q,cM,[]⟩) (jT _) di (b4 _) ((c9 (b4 _).symm))) (fun dr br=>?_);obtain⟨d,aM⟩:=br;replace aM:=aM.bs;replace or:=or.ab aM (ah.J c3.symm);replace V:=V.bo aM (ag.J (aq.q c1));have ex:=aM.size;refine⟨.inl rfl,?_⟩;refine cx ?_;refine aP.sub (dl (R,P,C.size) _ ?_) ⟨rfl,rfl,rfl,trivial⟩;exact⟨or,d,fq,c1,c3.symm,V⟩
 ·
  rintro⟨R,P,A⟩ gl en;obtain⟨or,d,cU,cm,a0,b0⟩:=en;have eB:af (H1.size+1) P:=af.app (af.z) B.lt cU;have eE:T 0 I.size P:=T.L (T.refl 0 _) cU n.size;have cH:=ay.app (ay.z) (cG.mono n.size) cm;have c4:af (I.size+1) ((A+1)):=af.app (af.z) K.lt cm;have cI:af (H1.size+1) ((A+1)):=af.app (af.z) B.lt cm;have cJ:T 0 I.size ((A+1)):=T.L (T.refl 0 _) cm n.size;replace al:=al.M b0;replace K:=K.M b0;replace B:=B.M b0;replace n:=n.L b0;have hk:=b0.size;have cR:=or.le;have gm:=d.le;have bv:=a0;refine G.L (fun fx=>?_);refine o.v1 (Y.ai K.N rfl ca rfl cS) ?_;refine o.v1 (Y.ai (K.N.drop 3) rfl bt rfl ep) ?_;refine o.v1 (ar K.N.Hl fi) ?_;refine aW vv (zf s.q.cd.v s.q.a6 w0 _ al.q.any (by omega)) (fun hl gJ fy=>?_);obtain⟨bE,b5,rfl,aH,cK,bl⟩:=fy;have eF:af (H1.size+1) b5:=af.app (af.z) B.lt cK;have cL:af ((A+1)) b5:=af.app (af.z) d.lt cK;have eG:T 0 I.size b5:=T.L (T.refl 0 _) cK n.size;replace al:=al.M bl;replace K:=K.M bl;replace B:=B.M bl;replace or:=or.M bl;replace d:=d.M bl;replace n:=n.L bl;have gq:=bl.size;have gn:=aH.le;refine o.v1 (Y.ai d.N rfl ca rfl cS) ?_;refine o.v1 (Y.ai (d.N.drop 3) rfl bt rfl ep) ?_;refine o.s1 (dj d 69 (bS ⟨s.an,R,s.ba,cM,[],{s.q with cd:=bE},cM,[]⟩) (rfl) ep (by rw[b4];omega) ((tO _ _))) fun a3 eH=>?_;obtain⟨d,aZ⟩:=eH;replace aZ:=aZ.bs;replace al:=al.ab aZ (az.J cH);replace K:=K.ab aZ (ah.J c4);replace B:=B.ab aZ (ah.J cI);replace or:=or.ab aZ (ah.J bv);replace aH:=aH.ab aZ (ah.J cL.symm);replace n:=n.bo aZ (ag.J (aq.q cJ));have gr:=aZ.size;refine o.nil (fx (G.t1 (fun fB=>G.L (fun fC=>?_))));refine o.v1 (Y.ai K.N rfl ca rfl fW) ?_;refine o.v1 (ar (K.N.drop 2) hx) ?_;refine o.v1 (bb al.g fG) ?_;refine o.V (o.nil (fC ?_));refine G.aB (fun _ fD _=>?_)
  refine G.bg (fun(cg:(Nat)×(aN)×(Nat)×(List e8)×(Nat→Prop))=>match cg with|(j,s1,Q,aa,aI)=>[(1,.pointer (some ⟨I.size,0,none⟩)),(2,.pointer (some ⟨H1.size,0,none⟩)),(3,.pointer (some ⟨A,0,none⟩)),(23,s.cw.v),(24,.int .i64 (s.bW.length:Int)),(25,.int .i64 (j:Int))])
   (fun(j,s1,Q,aa,aI) (H:Heap)=>(j≤s.bW.length)∧(Var 47 H A (bS ⟨s.an,R,s.ba,s1,aa,{s.q with cd:=bE},cM,[]⟩))∧(aV Q 62 H ek 2 s1.v aa)∧(∀x∈aa,Rd aI H dt 65 x.v.v x.l)∧(bh aI H.size)∧(ay aI (A+1))∧(ay aI Q)∧(ay aI (H1.size+1))∧(∀c,aI c→I.size≤c)∧(cp aa=cp (s.bW.take j))∧(T 0 a3.size Q)∧(af (A+1) Q)∧W (aE [(A+1)]) a3 H)
   (fun(j,s1,Q,aa,aI)=>s.bW.length-j) (0,cM,0,[],fun _=>False) ⟨rfl,rfl,rfl,rfl,rfl,rfl,trivial⟩ ?_ ?_
  ·
   exact⟨(by omega),d,aV.nil fL ju,(fun x h=>by cases h),(fun b e=>e.elim),(fun b e=>e.elim),(fun b e=>e.elim),(fun b e=>e.elim),(fun c e=>e.elim),rfl,T.refl _ _,af.z,W.refl _ _⟩
  rintro⟨j,s1,Q,aa,aI⟩ ae fE gj fF fH;obtain⟨ho,d,L,X,b1,f1,f2,f5,b2,b9,cA,dA,ac⟩:=fE;have eJ:af (H1.size+1) Q:=af.app (af.z) B.lt cA;have eK:T 0 I.size Q:=T.L (T.refl 0 _) cA n.size;replace al:=al.ab ac (az.J cH);replace K:=K.ab ac (ah.J c4);replace B:=B.ab ac (ah.J cI);replace or:=or.ab ac (ah.J bv);replace aH:=aH.ab ac (ah.J cL.symm);replace n:=n.bo ac (ag.J (aq.q cJ));have gu:=ac.size;have bT:=L.le;have a4:=dA;have dy:=T.refl (A+1) a3.size;have c8:=cA;refine G.L (fun fI=>?_);refine o.v1 bJ (o.nil (fI ?_));refine G.t2 (fun fK fM=>?_);refine aU (fun fN=>?_) (fun fN=>?_)
  ·
   refine G.skip (fK (G.t1 (fun eL=>G.aB (fun eM _ _=>G.L (fun eO=>?_)))));have b8:j<s.bW.length:=by omega
   obtain⟨y,bF⟩:∃q,q=s.bW[j]:=⟨_,rfl⟩;have cc:y∈s.bW:=by rw[bF];exact List.getElem_mem b8
   have gf:=z4 y cc;have hp:aa.length=j:=by have cO:=congrArg List.length b9;simp only[cp,List.length_map,List.length_take]at cO;omega
   refine o.bR (Y.bL al.g (j) rfl fG fp rfl rfl) fun gv eP=>?_;refine o.v1 (Y.cast (v2:= .agg (ek y).toArray) (aT eP.N lQ fp (fL _)) (by rw[bF])) ?_;refine o.aO (cV pA) ?_;rintro v5 du ⟨rfl,bL,bj,gK,fO⟩;have gx:du.size=ae.size+1:=by rw[fO];simp
   have eQ:=(ay.new (cG.mono n.size):ay _ (ae.size+1));have eR:af (H1.size+1) (ae.size+1):=af.new B.lt;have eT:af ((A+1)) (ae.size+1):=af.new d.lt;have a5:af Q (ae.size+1):=af.new L.le;have eW:=(ay.new (b1.mono (by omega)):ay _ (ae.size+1));have eY:T 0 I.size (ae.size+1):=T.new n.size;have eZ:T 0 a3.size (ae.size+1):=T.new ac.size;replace al:=al.M bj;replace B:=B.M bj;replace d:=d.M bj;replace L:=L.M bj;replace X:=fun x E=>(X x E).M bj;replace n:=n.L bj;replace ac:=ac.bc bj;have gy:=bj.size;refine o.s1 (dM bL (_) (ek y) (ju y) fp (fL _) ((c9 (fL _).symm))) fun bU e0=>?_;obtain⟨bL,au⟩:=e0;replace au:=au.bs;replace al:=al.ab au (az.J eQ);replace B:=B.ab au (ah.J eR);replace d:=d.ab au (ah.J eT);replace L:=L.ab au (ah.J a5);replace X:=fun x E=>(X x E).ab au (az.J eW);replace n:=n.bo au (ag.J (aq.q eY));replace ac:=ac.aJ au (ag.J (aq.q eZ));have gz:=au.size;refine o.nil (eO ?_);refine dx (fun t=>W (aE [Q]) bU t) [11] ?_;have ap:W (aE [Q]) bU bU:=W.refl _ _;have e1:=T.refl Q bU.size;refine O.t1 0 rfl (fun t k=>Y.fieldAddr (d.ab k (ah.J a4)).N rfl ca rfl rfl fW (by decide) rfl) ap ?_;refine O.t1 1 rfl (fun t k=>ar ((d.ab k (ah.J a4)).N.drop 2) hx) ap ?_;refine O.t1 2 rfl (fun t k=>Y.fieldAddr (bL.ab k (ah.J a5.symm)).N rfl fZ rfl rfl bP (by decide) rfl) ap ?_;refine O.t1 3 rfl (fun t k=>Y.fU (bL.ab k (ah.J a5.symm)).N rfl bN rfl) ap ?_;refine O.t1 4 rfl (fun t k=>Y.fieldAddr (bL.ab k (ah.J a5.symm)).N rfl fZ rfl rfl gS (by decide) rfl) ap ?_;refine O.t1 5 rfl (fun t k=>ar ((bL.ab k (ah.J a5.symm)).N.drop 1) h_) ap ?_;refine O.aX 6 ?_;refine cf oE (oV y.v.v y.l w0 _ (al.n y cc).any (by omega)) (fun gM aK fP=>?_);obtain⟨cv,ai,rfl,aY,bV,bI⟩:=fP;have e2:af (H1.size+1) ai:=af.app (af.z) B.lt bV;have cC:af ((A+1)) ai:=af.app (af.z) d.lt bV;have c_:af Q ai:=af.app (af.z) L.le bV;have e3:T 0 I.size ai:=T.L (T.refl 0 _) bV n.size;have e4:T 0 bU.size ai:=T.L (T.refl 0 _) bV ap.size;replace d:=d.M bI;replace L:=L.M bI;replace X:=fun x E=>(X x E).M bI;replace ac:=ac.bc bI;replace ap:=ap.bc bI;have gA:=bI.size;have gp:=aY.le;refine O.b3 ap (ag.cons (aq.r e1) (ag.J (aq.q e4))) ?_;have ap:W (aE [Q,ai]) aK aK:=W.refl _ _;have eo:=T.refl Q aK.size;have eu:=T.refl ai aK.size;refine O.t1 7 rfl (fun t k=>Y.build (v:= .agg (ek ⟨y.n,cv,y.l⟩).toArray) rfl rfl (by intro w;kernel_rfl)) ap ?_;refine O.aX 8 ?_;refine et rfl (cT _ ([(⟨y.n,cv,y.l⟩:e8)]) jY fL ju (rfl)) (fun gN be fQ=>?_);obtain⟨gg,bn,d0,ev⟩:=fQ;have cF:be.size=aK.size+1:=by rw[ev];simp
   have dE:af ((A+1)) (aK.size+1):=af.new d.lt;have dP:T 0 aK.size (aK.size+1):=T.new ap.size;replace d:=d.M bn;replace L:=L.M bn;replace X:=fun x E=>(X x E).M bn;replace aY:=aY.M bn;replace ac:=ac.bc bn;replace ap:=ap.bc bn;have d1:=bn.size;refine O.b3 ap (ag.cons (aq.r eo) (ag.cons (aq.r eu) (ag.J (aq.q dP)))) ?_;have ap:W (aE [Q,ai,(aK.size+1)]) be be:=W.refl _ _;have bi:=T.refl Q be.size;have dR:=T.refl ai be.size;have dS:=T.refl (aK.size+1) be.size;refine O.aX 9 ?_;refine et rfl (dQ L gg.rd jY (by simp;omega) (by simp;omega)) (fun dn df d2=>?_);obtain⟨bz,L,bo,ba⟩:=d2;replace bo:T Q be.size bz:=bo;replace ba:=ba.md;have cw:af ((A+1)) bz:=af.app (a4) d.lt bo;have dT:=ay.app (f2) (b1.mono (by omega)) bo;have dX:af ai bz:=af.app (c_.symm) aY.le bo;have dY:T 0 a3.size bz:=T.L (c8) bo ac.size;have dZ:T Q be.size bz:=T.L (bi) bo ap.size;replace d:=d.ab ba (ah.J a4);replace X:=fun x E=>(X x E).ab ba (az.J f2);replace aY:=aY.ab ba (ah.J c_.symm);replace ac:=ac.aJ ba (ag.J (aq.q c8));replace ap:=ap.aJ ba (ag.J (aq.r bi));have d3:=ba.size;have bT:=L.le;obtain⟨dh,rfl⟩:∃s:aN,dn=s.v:=⟨cl dn,L.bl.symm⟩;refine O.b3 ap (ag.cons (aq.r dZ) (ag.cons (aq.r dR) (ag.J (aq.r dS)))) ?_;have ap:W (aE [bz,ai,(aK.size+1)]) df df:=W.refl _ _;refine O.t1 10 rfl (fun t k=>Y.fieldAddr (d.ab k (ah.cons cw (ah.cons cC (ah.J dE)))).N rfl ca rfl rfl fW (by decide) rfl) ap ?_;refine O.aX 11 ?_;refine gL rfl (dj d 2 (bS ⟨s.an,R,s.ba,dh,aa++[⟨y.n,cv,y.l⟩],{s.q with cd:=bE},cM,[]⟩) (rfl) fW (by rw[b4];omega) ((q8 _ _))) (fun gE d_=>?_);obtain⟨d,ak⟩:=d_;replace ak:=ak.bs;replace L:=L.ab ak (ah.J cw.symm);replace X:=fun x E=>(X x E).ab ak (az.J f1);replace aY:=aY.ab ak (ah.J cC.symm);replace ac:=ac.aJ ak (ag.J (aq.r dy));have d4:=ak.size;refine⟨.inl rfl,?_⟩;refine cx ?_;refine eM (eL (G.region ?_));refine o.v1 bD ?_;refine o.V (o.nil ?_);refine aP.sub (fF (j+1,dh,bz,aa++[⟨y.n,cv,y.l⟩],fun b=>aI b∨b+1=ai) _ ?_ ?_) ⟨rfl,rfl,rfl,rfl,(aD (by omega)),(aD (by omega)),trivial⟩
   ·exact⟨(by omega),d,L,tF X (fun b e=> .inl e) (aY.rd.imp (fun b _ e=> .inr e)),bh.eG (b1.mono (by omega)) aY.le,ay.eG (f1) (cC),ay.eG (dT) (dX.symm),ay.eG (f5) (e2),mC b2 (e3),by unfold cp at b9⊢;rw[List.map_append,b9,List.take_succ_eq_append_getElem b8,List.map_append,←bF];rfl,dY,cw,ac⟩
   ·first|omega|(simp only;omega)|(simp;omega)
  ·
   obtain rfl:j=s.bW.length:=by omega
   rw[List.take_length]at b9;refine G.exit (fM (fH (fD ?_)));refine fB (G.t1 (fun ew=>G.L (fun ey=>?_)));refine o.v1 (Y.ai K.N rfl ca rfl dv) ?_;refine o.v1 (ar K.N.hQ dV) ?_;refine o.v1 (bb al.e cu) ?_;refine o.V (o.nil (ey ?_));refine G.aB (fun _ cy _=>?_)
   refine G.bg (fun(cg:(Nat)×(aN)×(Nat)×(List bA)×(Nat→Prop))=>match cg with|(i,bx,a8,aF,aJ)=>[(2,.pointer (some ⟨H1.size,0,none⟩)),(3,.pointer (some ⟨A,0,none⟩)),(42,s.ct.v),(43,.int .i64 (s.el.length:Int)),(44,.int .i64 (i:Int))])
    (fun(i,bx,a8,aF,aJ) (H:Heap)=>(i≤s.el.length)∧(Var 47 H A (bS ⟨s.an,R,s.ba,s1,aa,{s.q with cd:=bE},bx,aF⟩))∧(aV a8 68 H bO 33 bx.v aF)∧(∀x∈aF,Rd aJ H a1 1 x.v.v x.d)∧(bh aJ H.size)∧(ay aJ (A+1))∧(ay aJ a8)∧(ay aJ (H1.size+1))∧(∀c,aJ c→I.size≤c)∧(cn aF=cn (s.el.take i))∧(T 0 ae.size a8)∧(af (A+1) a8)∧W (aE [(A+1)]) ae H)
    (fun(i,bx,a8,aF,aJ)=>s.el.length-i) (0,cM,0,[],fun _=>False) ⟨rfl,rfl,rfl,rfl,rfl,trivial⟩ ?_ ?_
   ·
    exact⟨(by omega),d,aV.nil c0 gX,(fun x h=>by cases h),(fun b e=>e.elim),(fun b e=>e.elim),(fun b e=>e.elim),(fun b e=>e.elim),(fun c e=>e.elim),rfl,T.refl _ _,af.z,W.refl _ _⟩
   rintro⟨i,bx,a8,aF,aJ⟩ aB d5 gO ez eA;obtain⟨hn,d,S,Z,cr,f3,f4,f6,a2,cb,bu,dC,N⟩:=d5;have ea:af (H1.size+1) a8:=af.app (af.z) B.lt bu;have eb:af P a8:=af.app (af.z) or.le bu;have ec:af b5 a8:=af.app (af.z) aH.le bu;have ed:af Q a8:=af.app (af.z) L.le bu;have ef:=ay.app (ay.z) (b1.mono (by omega)) bu;have eh:T 0 I.size a8:=T.L (T.refl 0 _) bu n.size;replace al:=al.ab N (az.J cH);replace B:=B.ab N (ah.J cI);replace or:=or.ab N (ah.J bv);replace aH:=aH.ab N (ah.J cL.symm);replace L:=L.ab N (ah.J a4.symm);replace X:=fun x E=>(X x E).ab N (az.J f1);replace n:=n.bo N (ag.J (aq.q cJ));have d6:=N.size;have bY:=S.le;have cj:=dC;have dz:=T.refl (A+1) ae.size;have da:=bu;refine G.L (fun e5=>?_);refine o.v1 bJ (o.nil (e5 ?_));refine G.t2 (fun fR bf=>?_);refine aU (fun d7=>?_) (fun d7=>?_)
   ·
    refine G.skip (fR (G.t1 (fun dW=>G.aB (fun dd _ _=>G.L (fun fS=>?_)))));have b8:i<s.el.length:=by omega
    obtain⟨y,bF⟩:∃q,q=s.el[i]:=⟨_,rfl⟩;have cc:y∈s.el:=by rw[bF];exact List.getElem_mem b8
    have gf:=z5 y cc;have hs:aF.length=i:=by have cO:=congrArg List.length cb;simp only[cn,List.length_map,List.length_take]at cO;omega
    refine o.bR (Y.bL al.e (i) rfl cu ck rfl rfl) fun d8 gi=>?_;refine o.v1 (Y.cast (v2:= .agg (bO y).toArray) (aT gi.N hJ ck (c0 _)) (by rw[bF])) ?_;refine o.aO (cV kD) ?_;rintro ht dw ⟨rfl,bQ,bk,gQ,d9⟩;have gB:dw.size=aB.size+1:=by rw[d9];simp
    have ei:=(ay.new (cG.mono n.size):ay _ (aB.size+1));have dD:af (H1.size+1) (aB.size+1):=af.new B.lt;have dF:af ((A+1)) (aB.size+1):=af.new d.lt;have bX:af a8 (aB.size+1):=af.new S.le;have dG:=(ay.new (cr.mono (by omega)):ay _ (aB.size+1));have dH:T 0 I.size (aB.size+1):=T.new n.size;have dI:T 0 ae.size (aB.size+1):=T.new N.size;replace al:=al.M bk;replace B:=B.M bk;replace d:=d.M bk;replace S:=S.M bk;replace Z:=fun x E=>(Z x E).M bk;replace n:=n.L bk;replace N:=N.bc bk;have gU:=bk.size;refine o.s1 (dM bQ (_) (bO y) (gX y) ck (c0 _) ((c9 (c0 _).symm))) fun bZ dJ=>?_;obtain⟨bQ,aQ⟩:=dJ;replace aQ:=aQ.bs;replace al:=al.ab aQ (az.J ei);replace B:=B.ab aQ (ah.J dD);replace d:=d.ab aQ (ah.J dF);replace S:=S.ab aQ (ah.J bX);replace Z:=fun x E=>(Z x E).ab aQ (az.J dG);replace n:=n.bo aQ (ag.J (aq.q dH));replace N:=N.aJ aQ (ag.J (aq.q dI));have gV:=aQ.size;refine o.nil (fS ?_);refine dx (fun t=>W (aE [a8]) bZ t) [11] ?_;have M:W (aE [a8]) bZ bZ:=W.refl _ _;have dK:=T.refl a8 bZ.size;refine O.t1 0 rfl (fun t k=>Y.fieldAddr (d.ab k (ah.J cj)).N rfl ca rfl rfl dv (by decide) rfl) M ?_;refine O.t1 1 rfl (fun t k=>Y.fU (d.ab k (ah.J cj)).N.hQ rfl dV rfl) M ?_;refine O.t1 2 rfl (fun t k=>Y.fieldAddr (bQ.ab k (ah.J bX.symm)).N rfl eX rfl rfl a_ (by decide) rfl) M ?_;refine O.t1 3 rfl (fun t k=>Y.cast (v2:=bq y.k) (aT ((bQ.ab k (ah.J bX.symm)).N.take 32) b_ a_ (by rw[show(bO y).take 32=b7 y.k from eN y];exact bB _)) (b6 (show(bO y).take 32=b7 y.k from eN y))) M ?_;refine O.t1 4 rfl (fun t k=>Y.fieldAddr (bQ.ab k (ah.J bX.symm)).N rfl eX rfl rfl db (by decide) rfl) M ?_;refine O.t1 5 rfl (fun t k=>Y.fU (bQ.ab k (ah.J bX.symm)).N.ji rfl eD rfl) M ?_;refine O.aX 6 ?_;refine cf nx (mF y.v.v y.d w0 _ (al.d y cc).any (by omega)) (fun gR aL f_=>?_);obtain⟨b3,aA,rfl,aX,a9,bK⟩:=f_;have dL:af (H1.size+1) aA:=af.app (af.z) B.lt a9;have cz:af ((A+1)) aA:=af.app (af.z) d.lt a9;have dc:af a8 aA:=af.app (af.z) S.le a9;have dN:T 0 I.size aA:=T.L (T.refl 0 _) a9 n.size;have ej:T 0 bZ.size aA:=T.L (T.refl 0 _) a9 M.size;replace d:=d.M bK;replace S:=S.M bK;replace Z:=fun x E=>(Z x E).M bK;replace N:=N.bc bK;replace M:=M.bc bK;have gW:=bK.size;have gC:=aX.le;refine O.b3 M (ag.cons (aq.r dK) (ag.J (aq.q ej))) ?_;have M:W (aE [a8,aA]) aL aL:=W.refl _ _;have e6:=T.refl a8 aL.size;have e7:=T.refl aA aL.size;refine O.t1 (v:=gZ ⟨y.k,b3,y.d⟩) 7 rfl (fun t k=>?_) M ?_
    ·exact Y.build (v:=gZ ⟨y.k,b3,y.d⟩) rfl rfl (by intro w;exact oC _ _ _)
    refine O.aX 8 ?_;refine et rfl (cT _ ([(⟨y.k,b3,y.d⟩:bA)]) iJ c0 gX (rfl)) (fun gT bg ga=>?_);obtain⟨gh,bp,gY,fT⟩:=ga;have fJ:bg.size=aL.size+1:=by rw[fT];simp
    have e9:af ((A+1)) (aL.size+1):=af.new d.lt;have e_:T 0 aL.size (aL.size+1):=T.new M.size;replace d:=d.M bp;replace S:=S.M bp;replace Z:=fun x E=>(Z x E).M bp;replace aX:=aX.M bp;replace N:=N.bc bp;replace M:=M.bc bp;have g_:=bp.size;refine O.b3 M (ag.cons (aq.r e6) (ag.cons (aq.r e7) (ag.J (aq.q e_)))) ?_;have M:W (aE [a8,aA,(aL.size+1)]) bg bg:=W.refl _ _;have de:=T.refl a8 bg.size;have ce:=T.refl aA bg.size;have fc:=T.refl (aL.size+1) bg.size;refine O.aX 9 ?_;refine et rfl (dQ S gh.rd iJ (by simp;omega) (by simp;omega)) (fun ds dg gb=>?_);obtain⟨bC,S,bs,bc⟩:=gb;replace bs:T a8 bg.size bC:=bs;replace bc:=bc.md;have cD:af ((A+1)) bC:=af.app (cj) d.lt bs;have fe:=ay.app (f4) (cr.mono (by omega)) bs;have dU:af aA bC:=af.app (dc.symm) aX.le bs;have ci:T 0 ae.size bC:=T.L (da) bs N.size;have ff:T a8 bg.size bC:=T.L (de) bs M.size;replace d:=d.ab bc (ah.J cj);replace Z:=fun x E=>(Z x E).ab bc (az.J f4);replace aX:=aX.ab bc (ah.J dc.symm);replace N:=N.aJ bc (ag.J (aq.q da));replace M:=M.aJ bc (ag.J (aq.r de));have ha:=bc.size;have bY:=S.le;obtain⟨dk,rfl⟩:∃s:aN,ds=s.v:=⟨cl ds,S.bl.symm⟩;refine O.b3 M (ag.cons (aq.r ff) (ag.cons (aq.r ce) (ag.J (aq.r fc)))) ?_;have M:W (aE [bC,aA,(aL.size+1)]) dg dg:=W.refl _ _;refine O.t1 10 rfl (fun t k=>Y.fieldAddr (d.ab k (ah.cons cD (ah.cons cz (ah.J e9)))).N rfl ca rfl rfl dv (by decide) rfl) M ?_;refine O.aX 11 ?_;refine gL rfl (dj d 73 (bS ⟨s.an,R,s.ba,s1,aa,{s.q with cd:=bE},dk,aF++[⟨y.k,b3,y.d⟩]⟩) (rfl) dv (by rw[b4];omega) ((tM _ _))) (fun gD dO=>?_);obtain⟨d,bw⟩:=dO;replace bw:=bw.bs;replace S:=S.ab bw (ah.J cD.symm);replace Z:=fun x E=>(Z x E).ab bw (az.J f3);replace aX:=aX.ab bw (ah.J cz.symm);replace N:=N.aJ bw (ag.J (aq.r dz));have hc:=bw.size;refine⟨.inl rfl,?_⟩;refine cx ?_;refine dd (dW (G.region ?_));refine o.v1 bD ?_;refine o.V (o.nil ?_);refine aP.sub (ez (i+1,dk,bC,aF++[⟨y.k,b3,y.d⟩],fun b=>aJ b∨b+1=aA) _ ?_ ?_) ⟨rfl,rfl,rfl,(aD (by omega)),(aD (by omega)),trivial⟩
    ·exact⟨(by omega),d,S,tF Z (fun b e=> .inl e) (aX.rd.imp (fun b _ e=> .inr e)),bh.eG (cr.mono (by omega)) aX.le,ay.eG (f3) (cz),ay.eG (fe) (dU.symm),ay.eG (f6) (dL),mC a2 (dN),by unfold cn at cb⊢;rw[List.map_append,cb,List.take_succ_eq_append_getElem b8,List.map_append,←bF];rfl,ci,cD,N⟩
    ·first|omega|(simp only;omega)|(simp;omega)
   ·
    obtain rfl:i=s.el.length:=by omega
    rw[List.take_length]at cb;refine G.exit (bf (eA (cy ?_)));refine ew (G.L (fun fU=>?_));refine o.v1 (aT d.N eC di (b4 _)) ?_;refine o.s1 (dM B (_) (bS ⟨s.an,R,s.ba,s1,aa,{s.q with cd:=bE},bx,aF⟩) (jT _) di (b4 _) ((c9 (b4 _).symm))) fun gG fg=>?_;obtain⟨B,aS⟩:=fg;replace aS:=aS.bs;replace or:=or.ab aS (ah.J eB.symm);replace aH:=aH.ab aS (ah.J eF.symm);replace L:=L.ab aS (ah.J eJ.symm);replace X:=fun x E=>(X x E).ab aS (az.J f5);replace S:=S.ab aS (ah.J ea.symm);replace Z:=fun x E=>(Z x E).ab aS (az.J f6);replace n:=n.bo aS (ag.J (aq.q ft));have hd:=aS.size;refine o.nil (fU ?_);refine G.ret (gd .ret (.inr rfl) _ _ _ (j6 rfl rfl B.N eC di (b4 _)) ?_);exact⟨⟨s.an,R,s.ba,s1,aa,{s.q with cd:=bE},bx,aF⟩,a8,(fun b=>b+1=P∨b+1=b5∨b+1=Q∨aI b∨aJ b),rfl,⟨or.rd.imp (fun b _ e=> .inl e),L.rd.imp (fun b _ e=> .inr (.inr (.inl e))),(fun y hy=>(X y hy).imp (fun b _ e=> .inr (.inr (.inr (.inl e))))),aH.rd.imp (fun b _ e=> .inr (.inl e)),(fun y hy=>(Z y hy).imp (fun b _ e=> .inr (.inr (.inr (.inr e)))))⟩,S,(eh),(fun b e=>by have dm:=or.le;have dp:=aH.le;have dq:=L.le;rcases e with e|e|e|e|e;omega;omega;omega;exact(b1.mono (by omega)) b e;exact(cr.mono (by omega)) b e),(fun c e=>by have dm:=(eE);have dp:=(eG);have dq:=(eK);unfold T at dm dp dq;rcases e with e|e|e|e|e;omega;omega;omega;exact b2 c e;exact a2 c e),(fun b e U=>by rcases e with e|e|e|e|e;exact(eb) b e U;exact(ec) b e U;exact(ed) b e U;exact(ef) b e U;exact(f4) b e U),by unfold cW.m;simp only[b9,cb];rfl,n⟩
end gz
end Go.Proofs.YtfjmpninmdjcaaaGreatDoor
