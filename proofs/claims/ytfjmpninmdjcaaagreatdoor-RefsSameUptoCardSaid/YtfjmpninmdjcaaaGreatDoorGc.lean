/-
  Contracts of functions of the program, and plain laws: put together of several texts.
-/
import Derived.Test.YtfjmpninmdjcaaaGreatDoorGb
import Derived.Test.YtfjmpninmdjcaaaGreatDoorGa
import Derived.Sort.Walk0
import Derived.RangeFuncLeaves
import Derived.RangeFuncRecord
import Derived.RangeFuncSeq
import Derived.Lib.AppendZerosOnto
import Derived.Lib.Overlaps
set_option linter.unusedVariables false
set_option linter.unusedSimpArgs false
set_option linter.unusedSectionVars false
set_option linter.defProp false
set_option maxHeartbeats 8000000
set_option maxRecDepth 20000
namespace Go.Proofs.YtfjmpninmdjcaaaGreatDoor

namespace gn
open E Go.RowKit fz f_
inductive fP|out|fs|gh|dir (p:aH)|now (p:aH)|m_ (p:aH)|mI (p:aH)|fq (i:Nat)|mg (i:Nat)|je
abbrev ptr(b:Nat):Value:= .pointer (some ⟨b,0,none⟩)
abbrev hW(fb:List Nat)(i:Nat):Value:=ptr (fb.getD i 0)
abbrev ln(fb:List Nat)(J:Option Nat):Option Addr:=J.map (fun i=>⟨fb.getD i 0,0,none⟩)
abbrev ia(fb:List Nat)(c:dL):List Value:=[aI c.g,aI c.n,.pointer (ln fb c.f)]
theorem p_(fb:List Nat)(c:dL):(ia fb c).length=3:=rfl
theorem qa(fb:List Nat)(c:dL):∀u∈ia fb c,u.oneCell'=true:=by
 intro u hu;simp only[List.mem_cons,List.not_mem_nil,or_false]at hu;rcases hu with rfl|rfl|rfl<;>rfl
theorem FQ{α:Type}{aS:Nat→Prop}{e:TypeId}{H:Heap}{f g:α→List Value}{sz:Nat}{v:Value}{l:List α}(h:Own aS e H f sz v l)(av:∀x,(g x).length=sz)(q:∀x,∀u∈g x,u.oneCell'=true)(r:∀x∈l,f x=g x):Own aS e H g sz v l:=by
 refine⟨av,q,?_⟩;rcases h.ex with h|⟨b,cap,cur,aK,d,i,j,k,n,o⟩
 ·exact .inl h
 ·refine .inr ⟨b,cap,cur,aK,d,i,j,k,n,?_⟩
  rw[o,List.flatMap_def,List.flatMap_def,List.map_congr_left r]
theorem FN{α:Type}{k:Nat}{e:TypeId}{H:Heap}{f g:α→List Value}{sz:Nat}{v:Value}{l:List α}(h:aU k e H f sz v l)(av:∀x,(g x).length=sz)(d:∀x,∀u∈g x,u.oneCell'=true)(i:∀x∈l,f x=g x):aU k e H g sz v l:=⟨FQ h.own av d i,h.le⟩
theorem xx{κ β:Type}{H:Heap}{a7:κ→Value}{f g:β→Value}{b:Nat}{m:List (κ×β)}(h:de H a7 f b m)(n:∀x∈m,f x.2=g x.2):de H a7 g b m:=by
 obtain⟨r,es,clock,d,U,i,j,k⟩:=h.fj.ex;exact⟨⟨r,es,clock,d,U,i,j,by rw[k];exact List.map_congr_left (fun x o=>by rw[n x o])⟩⟩
section
variable {ρ ρ' : Nat → fP} {fb : List Nat} {H aa : Heap} {D D' : aG} {p : aH} {bf bK cV k i b : Nat} {bm eM fo : aM} {b3 eD : dq} {x : fX} {l : List lN} {S : Nat → Prop}
structure lG (ρ:Nat→fP) (fb:List Nat) (H:Heap) (D:aG) (p:aH) (bf bK cV k:Nat) (bm:aM) (b3 eD:dq):Prop where
 rd:ρ bf= .dir p
 cP:Var 173 H bf [.map (some bK),.map (some cV),bm.v]
 g_:ρ bK= .now p
 aA:de H aI (hW fb) bK b3
 rs:ρ cV= .m_ p
 ao:de H aI (hW fb) cV eD
 gW:∀q,aL b3 q=if cp q=p then aL D.now q else none
 es:∀q,aL eD q=if cp q=p then aL D.stays q else none
 av:aU k 177 H (ia fb) 3 bm.v (D.hH p)
 rc:∀c,c+1=k→ρ c= .mI p
structure iD (ρ:Nat→fP) (H:Heap) (i b:Nat) (x:fX) (eM bm fo:aM) (k:Nat) (l:List lN):Prop where
 b5:ρ b= .fq i
 cH:Var 186 H b [eM.v,bm.v,fo.v]
 aA:Rd (fun c=>ρ c= .je) H a1 1 eM.v x.now
 ao:Rd (fun c=>ρ c= .je) H a1 1 bm.v x.stays
 hw:aU k 275 H lV 2 fo.v l
 lw:l.map (·.1)=x.w
 al:∀y∈l,Rd (fun c=>ρ c= .je) H a1 1 y.2.v y.1.d
 jl:∀c,c+1=k→ρ c= .mg i
def Ext(ρ ρ':Nat→fP):Prop:=∀c,ρ c≠ .out→ρ' c=ρ c
theorem Ext.refl(ρ:Nat→fP):Ext ρ ρ:=fun _ _=>rfl
theorem Ext.of(h:Ext ρ ρ'){c:Nat}{r:fP}(e:ρ c=r)(d:r≠ .out):ρ' c=r:=by rw[h c (by rw[e];exact d)];exact e
theorem kW{α:Type}{f:α→List Value}{sz:Nat}{v:Value}{l:List α}(h:Rd (fun c=>ρ c= .je) H f sz v l)(i:Ext ρ ρ')(s:V S H aa)(d:∀c,S c→ρ c≠ .je):Rd (fun c=>ρ' c= .je) aa f sz v l:=
 (h.up s (fun b _ e ao=>d b ao e)).imp (fun b _ e=>i.of e (by simp))
theorem lG.L(h:lG ρ fb H D p bf bK cV k bm b3 eD)(i:Ext ρ ρ')(s:V S H aa)(d:∀c,S c→ρ c≠ .dir p∧ρ c≠ .now p∧ρ c≠ .m_ p∧ρ c≠ .mI p)
 (aA:∀q,cp q=p→aL D'.now q=aL D.now q) (ao:∀q,cp q=p→aL D'.stays q=aL D.stays q) (av:D'.hH p=D.hH p):lG ρ' fb aa D' p bf bK cV k bm b3 eD where
 rd:=i.of h.rd (by simp)
 cP:=h.cP.up s (fun e=>(d _ e).1 h.rd)
 g_:=i.of h.g_ (by simp)
 aA:=h.aA.up s (fun e=>(d _ e).2.1 h.g_)
 rs:=i.of h.rs (by simp)
 ao:=h.ao.up s (fun e=>(d _ e).2.2.1 h.rs)
 gW:=fun q=>by rw[h.gW];split
               ·rename_i e;rw[aA q e]
               ·rfl
 es:=fun q=>by rw[h.es];split
               ·rename_i e;rw[ao q e]
               ·rfl
 av:=by rw[av];exact h.av.up s (fun b _ e aw=>(d b aw).2.2.2 (h.rc b e))
 rc:=fun c e=>i.of (h.rc c e) (by simp)
theorem iD.L(h:iD ρ H i b x eM bm fo k l)(j:Ext ρ ρ')(s:V S H aa)(d:∀c,S c→ρ c≠ .fq i∧ρ c≠ .mg i∧ρ c≠ .je):iD ρ' aa i b x eM bm fo k l where
 b5:=j.of h.b5 (by simp)
 cH:=h.cH.up s (fun e=>(d _ e).1 h.b5)
 aA:=kW h.aA j s (fun c e=>(d c e).2.2)
 ao:=kW h.ao j s (fun c e=>(d c e).2.2)
 hw:=h.hw.up s (fun b _ e aw=>(d b aw).2.1 (h.jl b e))
 lw:=h.lw
 al:=fun y hy=>kW (h.al y hy) j s (fun c e=>(d c e).2.2)
 jl:=fun c e=>j.of (h.jl c e) (by simp)
structure cz where
 ρ:Nat→fP
 fb:List Nat
 bH:Nat
 cJ:List (aH×Nat)
 cu:Nat
structure bn (K:List Nat) (g:cz) (H:Heap) (b:Nat) (D:aG):Prop where
 c_:∀c,c+1∈K↔g.ρ c≠ .out
 lt:∀c,g.ρ c≠ .out→c<H.size
 eb:g.ρ b= .fs
 aQ:Var 102 H b [.int .i64 D.cap,.int .i64 D.most,.map (some g.bH),.int .i64 D.ops,.int .i64 g.cu,.bool D.dead]
 iA:D.dead=false→g.cu=D.left
 iK:g.cu≤9223372036854775807
 jv:D.cap≤9223372036854775807
 jy:D.most≤9223372036854775807
 hB:g.ρ g.bH= .gh
 hm:de H aI ptr g.bH g.cJ
 gh:∀p bf,aL g.cJ p=some bf→∃bK cV k bm b3 eD,lG g.ρ g.fb H D p bf bK cV k bm b3 eD
 abs:∀p,aL g.cJ p=none→(∀q,cp q=p→aL D.now q=none∧aL D.stays q=none)∧D.hH p=[]
 len:g.fb.length=D.fs.length
 fq:∀i,i<D.fs.length→∃eM bm fo k l,iD g.ρ H i (g.fb.getD i 0) (b4 D.fs i) eM bm fo k l
 ids:(∀p i,aL D.now p=some i→i<D.fs.length)∧(∀p i,aL D.stays p=some i→i<D.fs.length)∧(∀c∈D.log,∀i,c.f=some i→i<D.fs.length)
 iy:g.cJ.length≤D.ops
variable {K gf : List Nat} {g : cz} {ks : List Nat}
theorem bn.aB(h:bn K g H b D):n_ K H.size:=fun k d=>by
 rcases Nat.eq_zero_or_pos k with e|this
 ·omega
 ·have U:=h.lt (k-1) ((h.c_ (k-1)).1 (by rw[Nat.sub_add_cancel this];exact d))
  omega
theorem bn.up(h:bn K g H b D)(s:V S H aa)(d:∀c,S c→g.ρ c= .out):bn K g aa b D where
 c_:=h.c_
 lt:=fun c e=>Nat.lt_of_lt_of_le (h.lt c e) s.size
 eb:=h.eb
 aQ:=h.aQ.up s (fun e=>by have:=d _ e;rw[h.eb]at this;cases this)
 iA:=h.iA
 iK:=h.iK
 jv:=h.jv
 jy:=h.jy
 hB:=h.hB
 hm:=h.hm.up s (fun e=>by have:=d _ e;rw[h.hB]at this;cases this)
 gh:=fun p bf e=>by
  obtain⟨bK,cV,k,bm,b3,eD,al⟩:=h.gh p bf e;exact⟨bK,cV,k,bm,b3,eD,al.L (Ext.refl _) s (fun c av=>by rw[d c av];simp) (fun _ _=>rfl) (fun _ _=>rfl) rfl⟩
 abs:=h.abs
 len:=h.len
 fq:=fun i n=>by
  obtain⟨eM,bm,fo,k,l,j⟩:=h.fq i n;exact⟨eM,bm,fo,k,l,j.L (Ext.refl _) s (fun c av=>by rw[d c av];simp)⟩
 ids:=h.ids
 iy:=h.iy
theorem bn.M(h:bn K g H b D)(s:ak H aa):bn K g aa b D:=h.up s (fun c e=>e.elim)
theorem bn.role(h:bn K g H b D){c:Nat}(av:c+1∉K):g.ρ c= .out:=Classical.byContradiction (fun e=>av ((h.c_ c).2 e))
theorem bn.ab(h:bn K g H b D)(s:V (aE ks) H aa)(d:ew K ks):bn K g aa b D:=h.up s (fun c e=>h.role (fun i=>d (c+1) i (c+1) e c rfl rfl))
theorem bn.mem(h:bn K g H b D){c:Nat}{r:fP}(e:g.ρ c=r)(d:r≠ .out):c+1∈K:=(h.c_ c).2 (by rw[e];exact d)
theorem bn.mT{r:fP}(h:bn K g H b D)(d:∀c,c+1=k→g.ρ c=r)(i:r≠ .out):gK K k:=fun c e=>h.mem (d c e) i
theorem bn.nI{c:Nat}{r:fP}(h:bn K g H b D)(e:g.ρ c=r)(d:r≠ .out):gK K (c+1):=gK.of (h.mem e d)
theorem bn.ms(h:bn K g H b D)(s:V S H aa)(d:∀c,S c→g.ρ c≠ .out):V (aE K) H aa:=s.weaken (fun c _ e=>(h.c_ c).2 (d c e))
theorem bn.tq{d:cz}(h:bn K g H b D)(s:V (aE [b+1]) H aa)(q:d.ρ=g.ρ∧d.fb=g.fb∧d.bH=g.bH∧d.cJ=g.cJ)
 (C:Var 102 aa b [.int .i64 D.cap,.int .i64 D.most,.map (some g.bH),.int .i64 D'.ops,.int .i64 d.cu,.bool D'.dead]) (x:D'.dead=false→d.cu=D'.left) (A:d.cu≤9223372036854775807)
 (n:D'.cap=D.cap∧D'.most=D.most∧D'.fs=D.fs∧D'.now=D.now∧D'.stays=D.stays∧D'.log=D.log) (B:D.ops≤D'.ops):bn K d aa b D':=by
 obtain⟨r,fb,bH,cJ,cu⟩:=d;obtain⟨rfl,rfl,rfl,rfl⟩:=q;obtain⟨cap,most,fs,now,stays,log,ops,left,dead⟩:=D';obtain⟨rfl,rfl,rfl,rfl,rfl,rfl⟩:=n
 have j:∀c,aE [b+1] c→g.ρ c= .fs:=fun c e=>by
  have:c=b:=by simpa[aE]using e
  rw[this];exact h.eb
 exact{
  c_:=h.c_,lt:=fun c e=>Nat.lt_of_lt_of_le (h.lt c e) s.size,eb:=h.eb,aQ:=C,iA:=x,iK:=A,jv:=h.jv,jy:=h.jy,hB:=h.hB
  hm:=h.hm.up s (fun e=>by have:=j _ e;rw[h.hB]at this;cases this)
  gh:=fun p bf e=>by
   obtain⟨bK,cV,k,bm,b3,eD,al⟩:=h.gh p bf e;exact⟨bK,cV,k,bm,b3,eD,al.L (Ext.refl _) s (fun c av=>by rw[j c av];simp) (fun _ _=>rfl) (fun _ _=>rfl) rfl⟩
  abs:=h.abs,len:=h.len
  fq:=fun i t=>by
   obtain⟨eM,bm,fo,k,l,o⟩:=h.fq i t;exact⟨eM,bm,fo,k,l,o.L (Ext.refl _) s (fun c av=>by rw[j c av];simp)⟩
  ids:=h.ids,iy:=Nat.le_trans h.iy B}
theorem bn.tn(h:bn K g H b D)(s:V S H aa)(o:∀c,S c→g.ρ c= .dir p∨g.ρ c= .now p∨g.ρ c= .m_ p∨g.ρ c= .mI p∨g.ρ c= .out)(t:Ext g.ρ ρ')(c_:∀c,c+1∈gf↔ρ' c≠ .out)(lt:∀c,ρ' c≠ .out→c<aa.size)
 (A:aL g.cJ p=some bf) (al:∃bK cV k bm b3 eD,lG ρ' g.fb aa D' p bf bK cV k bm b3 eD)
 (E:D'.cap=D.cap∧D'.most=D.most∧D'.fs=D.fs∧D'.ops=D.ops∧D'.left=D.left∧D'.dead=D.dead)
 (aA:∀q,cp q≠p→aL D'.now q=aL D.now q) (ao:∀q,cp q≠p→aL D'.stays q=aL D.stays q) (av:∀n,n≠p→D'.hH n=D.hH n)
 (ids:(∀p i,aL D'.now p=some i→i<D'.fs.length)∧(∀p i,aL D'.stays p=some i→i<D'.fs.length)∧(∀c∈D'.log,∀i,c.f=some i→i<D'.fs.length)):bn gf {g with ρ:=ρ'} aa b D':=by
 obtain⟨cap,most,fs,now,stays,log,ops,left,dead⟩:=D';obtain⟨rfl,rfl,rfl,rfl,rfl,rfl⟩:=E
 exact{
  c_:=c_,lt:=lt,eb:=t.of h.eb (by simp)
  aQ:=h.aQ.up s (fun e=>by have:=o _ e;rw[h.eb]at this;simp at this)
  iA:=h.iA,iK:=h.iK,jv:=h.jv,jy:=h.jy,hB:=t.of h.hB (by simp)
  hm:=h.hm.up s (fun e=>by have:=o _ e;rw[h.hB]at this;simp at this)
  gh:=fun q x e=>by
   by_cases d:q=p
   ·subst d
    have:x=bf:=Option.some.inj (e.symm.trans A);subst this;exact al
   ·obtain⟨bK,cV,k,bm,b3,eD,al⟩:=h.gh q x e
    refine⟨bK,cV,k,bm,b3,eD,al.L t s (fun c av=>?_) (fun r j=>aA r (by rw[j];exact d)) (fun r j=>ao r (by rw[j];exact d)) (av q d)⟩;rcases o c av with e|e|e|e|e<;>(rw[e];simp[Ne.symm d])
  abs:=fun q e=>by
   have d:q≠p:=fun B=>by subst B;rw[A]at e;cases e
   obtain⟨C,U⟩:=h.abs q e;exact⟨fun r j=>by rw[aA r (by rw[j];exact d),ao r (by rw[j];exact d)];exact C r j,by rw[av q d];exact U⟩
  len:=h.len
  fq:=fun i G=>by
   obtain⟨eM,bm,fo,k,l,F⟩:=h.fq i G;refine⟨eM,bm,fo,k,l,F.L t s (fun c av=>?_)⟩;rcases o c av with e|e|e|e|e<;>(rw[e];simp)
  ids:=ids,iy:=h.iy}
theorem bn.tp{y:fX}(h:bn K g H b D)(B:i<D.fs.length)(s:V S H aa)(d:∀c,S c→g.ρ c= .fq i∨g.ρ c= .mg i∨g.ρ c= .out)(n:Ext g.ρ ρ')(c_:∀c,c+1∈gf↔ρ' c≠ .out)(lt:∀c,ρ' c≠ .out→c<aa.size)
 (o:∃eM bm fo k l,iD ρ' aa i (g.fb.getD i 0) y eM bm fo k l):bn gf {g with ρ:=ρ'} aa b (D.fu i y):=by
 have r:(D.fu i y).fs.length=D.fs.length:=by simp[aG.fu]
 exact{
  c_:=c_,lt:=lt,eb:=n.of h.eb (by simp)
  aQ:=h.aQ.up s (fun e=>by have:=d _ e;rw[h.eb]at this;simp at this)
  iA:=h.iA,iK:=h.iK,jv:=h.jv,jy:=h.jy,hB:=n.of h.hB (by simp)
  hm:=h.hm.up s (fun e=>by have:=d _ e;rw[h.hB]at this;simp at this)
  gh:=fun q A e=>by
   obtain⟨bK,cV,k,bm,b3,eD,al⟩:=h.gh q A e;refine⟨bK,cV,k,bm,b3,eD,al.L n s (fun c av=>?_) (fun _ _=>rfl) (fun _ _=>rfl) rfl⟩;rcases d c av with e|e|e<;>(rw[e];simp)
  abs:=h.abs,len:=by rw[r];exact h.len
  fq:=fun j x=>by
   rw[r]at x;by_cases t:j=i
   ·subst t
    have e:b4 (D.fu j y).fs j=y:=by simp[b4,aG.fu,List.getD,B]
    rw[e];exact o
   ·have e:b4 (D.fu i y).fs j=b4 D.fs j:=by simp[b4,aG.fu,List.getD,List.getElem?_set,Ne.symm t]
    rw[e];obtain⟨eM,bm,fo,k,l,o⟩:=h.fq j x;refine⟨eM,bm,fo,k,l,o.L n s (fun c av=>?_)⟩;rcases d c av with e|e|e<;>(rw[e];simp[Ne.symm t])
  ids:=by rw[r];exact h.ids
  iy:=h.iy}
def fx(ρ:Nat→fP)(x:Nat)(r:fP):Nat→fP:=fun c=>if c=x then r else ρ c
theorem n3{x:Nat}{r:fP}:fx ρ x r x=r:=if_pos rfl
theorem mf{x c:Nat}{r:fP}(h:c≠x):fx ρ x r c=ρ c:=if_neg h
theorem Ext.fx{x:Nat}{r:fP}(h:ρ x= .out):Ext ρ (fx ρ x r):=fun c av=>by
 by_cases e:c=x
 ·subst e;exact absurd h av
 ·exact mf e
theorem Ext.trans{ρ2:Nat→fP}(h:Ext ρ ρ')(U:Ext ρ' ρ2):Ext ρ ρ2:=fun c av=>by
 have e:=h c av;rw[U c (by rw[e];exact av),e]
theorem nG{x:Nat}{r:fP}(c_:∀c,c+1∈K↔ρ c≠ .out)(d:r≠ .out):∀c,c+1∈(x+1)::K↔fx ρ x r c≠ .out:=fun c=>by
 unfold fx;rw[List.mem_cons];by_cases e:c=x
 ·rw[if_pos e];simp[e,d]
 ·rw[if_neg e,←c_]
  constructor
  ·rintro(h|h)
   ·omega
   ·exact h
  ·exact .inr
theorem nN{x:Nat}{r:fP}(lt:∀c,ρ c≠ .out→c<H.size)(ao:H.size≤aa.size)(d:x<aa.size):∀c,fx ρ x r c≠ .out→c<aa.size:=fun c av=>by
 unfold fx at av;split at av
 ·rename_i e;rw[e];exact d
 ·exact Nat.lt_of_lt_of_le (lt c av) ao
def gm(ρ:Nat→fP)(k:Nat)(r:fP):Nat→fP:=fun c=>if c+1=k then r else ρ c
theorem pv{c:Nat}{r:fP}(h:c+1=k):gm ρ k r c=r:=if_pos h
theorem zo{c:Nat}{r:fP}(h:c+1≠k):gm ρ k r c=ρ c:=if_neg h
theorem Ext.gm{r:fP}(h:∀c,c+1=k→ρ c= .out∨ρ c=r):Ext ρ (gm ρ k r):=fun c av=>by
 unfold gn.gm;split
 ·rename_i e;rcases h c e with d|d
  ·exact absurd d av
  ·exact d.symm
 ·rfl
theorem oP{r:fP}(c_:∀c,c+1∈K↔ρ c≠ .out)(d:r≠ .out):∀c,c+1∈k::K↔gm ρ k r c≠ .out:=fun c=>by
 unfold gm;rw[List.mem_cons];by_cases e:c+1=k
 ·rw[if_pos e];simp[e,d]
 ·rw[if_neg e,←c_];simp[e]
theorem oY{r:fP}(lt:∀c,ρ c≠ .out→c<H.size)(ao:H.size≤aa.size)(d:k≤aa.size):∀c,gm ρ k r c≠ .out→c<aa.size:=fun c av=>by
 unfold gm at av;split at av
 ·omega
 ·exact Nat.lt_of_lt_of_le (lt c av) ao
theorem bn.sV(h:bn K g H b D)(d:ah k K):∀c,c+1=k→g.ρ c= .out:=fun c e=>h.role (fun hm=>d (c+1) hm c e rfl)
theorem bn.xM{a8:Nat}(h:bn K g H b D)(i:T k H.size a8){r:fP}(n:∀c,c+1=k→g.ρ c=r):∀c,c+1=a8→g.ρ c= .out∨g.ρ c=r:=fun c e=>by
 rcases i with d|d|d
 ·omega
 ·exact .inr (n c (by omega))
 ·exact .inl (Classical.byContradiction (fun j=>by have:=h.lt c j;omega))
theorem bn.Fl{x:Nat}(h:bn K g H b D)(t:Var 186 H x [.slice none 0 0,.slice none 0 0,.slice none 0 0])(N:ah (x+1) K):
 bn ((x+1)::K) {g with ρ:=fx g.ρ x (.fq D.fs.length),fb:=g.fb++[x]} H b {D with fs:=D.fs++[⟨[],[],[]⟩]}:=by
 have M:g.ρ x= .out:=h.role (fun I=>N (x+1) I x rfl rfl);have he:Ext g.ρ (fx g.ρ x (.fq D.fs.length)):=Ext.fx M;have o:∀i,i<D.fs.length→(g.fb++[x]).getD i 0=g.fb.getD i 0:=fun i E=>by simp[List.getD,List.getElem?_append_left (show i<g.fb.length by rw[h.len];exact E)]
 have O:∀c,(fun _=>False) c→g.ρ c= .out:=fun _ e=>e.elim
 exact{
  c_:=nG h.c_ (by simp),lt:=nN h.lt (Nat.le_refl _) t.lt,eb:=he.of h.eb (by simp),aQ:=h.aQ
  iA:=h.iA,iK:=h.iK,jv:=h.jv,jy:=h.jy,hB:=he.of h.hB (by simp),hm:=h.hm
  gh:=fun q A e=>by
   obtain⟨bK,cV,k,bm,b3,eD,al⟩:=h.gh q A e;have n:=al.L (D':=D) he (V.refl (fun _=>False) H) (fun c av=>av.elim) (fun _ _=>rfl) (fun _ _=>rfl) rfl;refine⟨bK,cV,k,bm,b3,eD,{n with aA:=xx n.aA (fun y hy=>?_),ao:=xx n.ao (fun y hy=>?_),av:=FN n.av (p_ _) (qa _) (fun c av=>?_)}⟩
   ·have:=h.ids.1 y.1 y.2 (by
     have d:=l3 al.aA.fj.nodup (show(y.1,y.2)∈b3 from hy);rw[al.gW]at d;split at d
     ·exact d
     ·cases d)
    rw[hW,hW,o _ this]
   ·have:=h.ids.2.1 y.1 y.2 (by
     have d:=l3 al.ao.fj.nodup (show(y.1,y.2)∈eD from hy);rw[al.es]at d;split at d
     ·exact d
     ·cases d)
    rw[hW,hW,o _ this]
   ·have:=h.ids.2.2 c (List.mem_filter.1 av).1
    unfold ia ln
    cases B:c.f with
    |none=>rfl
    |some i=>simp only[Option.map_some];rw[o i (this i B)]
  abs:=h.abs
  len:=by simp[h.len]
  fq:=fun j F=>by
   by_cases r:j<D.fs.length
   ·obtain⟨eM,bm,fo,k,l,C⟩:=h.fq j r
    have e:b4 (D.fs++[⟨[],[],[]⟩]) j=b4 D.fs j:=by simp[b4,List.getD,List.getElem?_append_left r]
    rw[o j r];refine⟨eM,bm,fo,k,l,?_⟩;show iD _ H j _ (b4 (D.fs++[⟨[],[],[]⟩]) j) _ _ _ _ _;rw[e];exact C.L he (V.refl (fun _=>False) H) (fun c av=>av.elim)
   ·have G:j=D.fs.length:=by simp at F;omega
    subst G;have e:b4 (D.fs++[⟨[],[],[]⟩]) D.fs.length=⟨[],[],[]⟩:=by simp[b4,List.getD]
    have d:(g.fb++[x]).getD D.fs.length 0=x:=by rw[←h.len];simp[List.getD]
    refine⟨⟨none,0,0⟩,⟨none,0,0⟩,⟨none,0,0⟩,0,[],?_⟩;show iD _ H _ ((g.fb++[x]).getD D.fs.length 0) (b4 (D.fs++[⟨[],[],[]⟩]) D.fs.length) _ _ _ _ _;rw[e,d];exact{b5:=n3,cH:=t,aA:=Rd.nil _ _ _ _,ao:=Rd.nil _ _ _ _,hw:=aU.nil qd qe,lw:=rfl,al:=fun y hy=>(by cases hy),jl:=fun c e=>(by omega)}
  ids:=by
   have L:({D with fs:=D.fs++[⟨[],[],[]⟩]}:aG).fs.length=D.fs.length+1:=by simp
   rw[L];exact⟨fun p i e=>Nat.lt_succ_of_lt (h.ids.1 p i e),fun p i e=>Nat.lt_succ_of_lt (h.ids.2.1 p i e),fun c av i e=>Nat.lt_succ_of_lt (h.ids.2.2 c av i e)⟩
  iy:=h.iy}
theorem bn.Fk{bf bK cV:Nat}(h:bn K g H b D)(F:aL g.cJ p=none)(G:Var 173 H bf [.map (some bK),.map (some cV),.slice none 0 0])(aA:de H aI (hW g.fb) bK ([]:dq))(ao:de H aI (hW g.fb) cV ([]:dq))
 (P:ah (bf+1) K) (Q:ah (bK+1) K) (R:ah (cV+1) K) (B:bf≠bK) (C:bf≠cV) (E:bK≠cV) (s:V (aE [g.bH+1]) H aa) (hm:de aa aI ptr g.bH (fK g.cJ p bf)) (S:g.cJ.length+1≤D.ops):
 bn ((bf+1)::(cV+1)::(bK+1)::K) {g with ρ:=fx (fx (fx g.ρ bK (.now p)) cV (.m_ p)) bf (.dir p),cJ:=fK g.cJ p bf} aa b D:=by
 have on:g.ρ bK= .out:=h.role (fun j=>Q (bK+1) j bK rfl rfl);have os:g.ρ cV= .out:=h.role (fun j=>R (cV+1) j cV rfl rfl);have I:g.ρ bf= .out:=h.role (fun j=>P (bf+1) j bf rfl rfl)
 have he:Ext g.ρ (fx (fx (fx g.ρ bK (.now p)) cV (.m_ p)) bf (.dir p)):=by
  refine(Ext.fx on).trans ((Ext.fx ?_).trans (Ext.fx ?_))
  ·rw[mf (Ne.symm E)];exact os
  ·rw[mf C,mf B];exact I
 have n:∀c,aE [g.bH+1] c→g.ρ c= .gh:=fun c e=>by
  have:c=g.bH:=by simpa[aE]using e
  rw[this];exact h.hB
 have T:∀c,g.ρ c= .out→c≠g.bH:=fun c e o=>by rw[o,h.hB]at e;cases e
 obtain⟨A,L⟩:=h.abs p F
 exact{
  c_:=nG (nG (nG h.c_ (by simp)) (by simp)) (by simp)
  lt:=nN (nN (nN h.lt (Nat.le_refl _) aA.lt) (Nat.le_refl _) ao.lt) s.size (Nat.lt_of_lt_of_le G.lt s.size),eb:=he.of h.eb (by simp)
  aQ:=h.aQ.up s (fun e=>by have:=n _ e;rw[h.eb]at this;simp at this)
  iA:=h.iA,iK:=h.iK,jv:=h.jv,jy:=h.jy,hB:=he.of h.hB (by simp),hm:=hm
  gh:=fun q M e=>by
   rw[kU]at e;by_cases d:q=p
   ·rw[if_pos d]at e
    have e:=Option.some.inj e;subst e;subst d;refine⟨bK,cV,0,⟨none,0,0⟩,[],[],?_⟩;have x:∀c,g.ρ c= .out→¬aE [g.bH+1] c:=fun c e o=>by have:=n c o;rw[e]at this;cases this
    exact{rd:=n3,cP:=G.up s (x _ I),g_:=by show fx (fx (fx g.ρ bK _) cV _) bf _ bK=_;rw[mf (Ne.symm B),mf E,n3],aA:=aA.up s (x _ on),rs:=by show fx (fx (fx g.ρ bK _) cV _) bf _ cV=_;rw[mf (Ne.symm C),n3],ao:=ao.up s (x _ os)
          gW:=fun r=>by
           rw[aL];split
           ·rename_i t;rw[(A r t).1]
           ·rfl
          es:=fun r=>by
           rw[aL];split
           ·rename_i t;rw[(A r t).2]
           ·rfl
          av:=by rw[L];exact aU.nil (p_ _) (qa _),rc:=fun c e=>(by omega)}
   ·rw[if_neg d]at e
    obtain⟨bK,cV,k,bm,b3,eD,al⟩:=h.gh q M e;exact⟨bK,cV,k,bm,b3,eD,al.L he s (fun c av=>by rw[n c av];simp) (fun _ _=>rfl) (fun _ _=>rfl) rfl⟩
  abs:=fun q e=>by
   rw[kU]at e;by_cases d:q=p
   ·rw[if_pos d]at e;cases e
   ·rw[if_neg d]at e;exact h.abs q e
  len:=h.len
  fq:=fun i O=>by
   obtain⟨eM,bm,fo,k,l,N⟩:=h.fq i O;exact⟨eM,bm,fo,k,l,N.L he s (fun c av=>by rw[n c av];simp)⟩
  ids:=h.ids
  iy:=by
   have:(fK g.cJ p bf).length=g.cJ.length+1:=by simp[fK,F]
   show(fK g.cJ p bf).length≤_;omega}
theorem bn.put{c:dL}{A:dq}(h:bn K g H b D)(G:aL g.cJ p=some bf)(al:lG g.ρ g.fb H D p bf bK cV k bm b3 eD)(s:V (aE [bK+1]) H aa)(hm:de aa aI (hW g.fb) bK A)(F:∀q,aL A q=c.at q (aL b3 q))
 (E:∀i,c.f=some i→cp c.n=p∧i<D.fs.length) (C:c.g≠[]→cp c.g=p):bn K g aa b {D with now:=c.ap D.now}∧V (aE K) H aa:=by
 have r:∀x,aE [bK+1] x→g.ρ x= .now p:=fun x e=>by
  have:x=bK:=by simpa[aE]using e
  rw[this];exact al.g_
 have B:∀q J,cp q≠p→c.at q J=J:=fun q J d=>by
  unfold dL.at
  cases o:c.f with
  |none=>
   simp only
   rw[if_neg (fun e=>d (by rw[e.2];exact C e.1))]
  |some i=>
   simp only;rw[if_neg (fun e=>d (by rw[e];exact(E i o).1)),if_neg (fun e=>d (by rw[e.2];exact C e.1))]
 refine⟨?_,h.ms s (fun x e=>by rw[r x e];simp)⟩;have t:∀x,g.ρ x≠ .now p→¬aE [bK+1] x:=fun x I e=>I (r x e);refine h.tn (ρ':=g.ρ) s (fun x e=> .inr (.inl (r x e))) (Ext.refl _) h.c_ (fun x e=>Nat.lt_of_lt_of_le (h.lt x e) s.size) G ⟨bK,cV,k,bm,A,eD,?_⟩ ⟨rfl,rfl,rfl,rfl,rfl,rfl⟩ (fun q d=>?_) (fun q d=>rfl) (fun n aA=>rfl) ⟨fun q i e=>?_,h.ids.2.1,h.ids.2.2⟩
 ·exact{rd:=al.rd,cP:=al.cP.up s (t _ (by rw[al.rd];simp)),g_:=al.g_,aA:=hm,rs:=al.rs,ao:=al.ao.up s (t _ (by rw[al.rs];simp))
        gW:=fun q=>by
         show _=if cp q=p then aL (c.ap D.now) q else none;rw[F,al.gW,qC];split
         ·rfl
         ·rename_i d;exact B q none d
        es:=al.es,av:=al.av.up s (fun x _ e=>t x (by rw[al.rc x e];simp)),rc:=al.rc}
 ·show aL (c.ap D.now) q=aL D.now q
  rw[qC];exact B q _ d
 ·have e:aL (c.ap D.now) q=some i:=e
  rw[qC]at e;unfold dL.at at e
  cases o:c.f with
  |none=>
   rw[o]at e;simp only at e;split at e
   ·cases e
   ·exact h.ids.1 q i e
  |some j=>
   rw[o]at e;simp only at e;split at e
   ·cases e;exact(E _ o).2
   ·split at e
    ·cases e
    ·exact h.ids.1 q i e
theorem bn.note{c:dL}{a8:Nat}{j:aM}(h:bn K g H b D)(F:aL g.cJ p=some bf)(al:lG g.ρ g.fb H D p bf bK cV k bm b3 eD)(s:V (aE [bf+1,k]) H aa)(I:Var 173 aa bf [.map (some bK),.map (some cV),j.v])(av:aU a8 177 aa (ia g.fb) 3 j.v (D.hH p++[c]))(E:T k H.size a8)
 (r:c.dir=p) (B:∀i,c.f=some i→i<D.fs.length):bn (a8::K) {g with ρ:=gm g.ρ a8 (.mI p)} aa b {D with log:=D.log++[c]}:=by
 have o:∀x,aE [bf+1,k] x→g.ρ x= .dir p∨g.ρ x= .mI p:=fun x e=>by
  have:x+1=bf+1∨x+1=k:=by simpa[aE]using e
  rcases this with e|e
  ·exact .inl (by rw[show x=bf by omega];exact al.rd)
  ·exact .inr (al.rc x e)
 have d:Ext g.ρ (gm g.ρ a8 (.mI p)):=Ext.gm (h.xM E al.rc);have t:∀x,g.ρ x≠ .dir p→g.ρ x≠ .mI p→¬aE [bf+1,k] x:=fun x A U e=>(o x e).elim A U;have C:({D with log:=D.log++[c]}:aG).hH p=D.hH p++[c]:=by simp[aG.hH,r]
 refine h.tn s (fun x e=>(o x e).elim .inl (fun e=> .inr (.inr (.inr (.inl e))))) d (oP h.c_ (by simp)) (oY h.lt s.size av.le) F ⟨bK,cV,a8,j,b3,eD,?_⟩ ⟨rfl,rfl,rfl,rfl,rfl,rfl⟩ (fun q G=>rfl) (fun q G=>rfl) (fun n aA=>?_) ⟨h.ids.1,h.ids.2.1,fun x L i e=>?_⟩
 ·exact{rd:=d.of al.rd (by simp),cP:=I,g_:=d.of al.g_ (by simp),aA:=al.aA.up s (t _ (by rw[al.g_];simp) (by rw[al.g_];simp)),rs:=d.of al.rs (by simp),ao:=al.ao.up s (t _ (by rw[al.rs];simp) (by rw[al.rs];simp))
        gW:=al.gW,es:=al.es,av:=by rw[C];exact av,rc:=fun x e=>pv e}
 ·simp[aG.hH,r,Ne.symm aA]
 ·rcases List.mem_append.1 L with hm|hm
  ·exact h.ids.2.2 x hm i e
  ·rw[List.mem_singleton.1 hm]at e;exact B i e
theorem bn.wC{M:List UInt8}{n:Nat}{q:aM}{bi:Nat}(h:bn K g H b D)(t:i<D.fs.length)(d:iD g.ρ H i (g.fb.getD i 0) (b4 D.fs i) eM bm fo k l)(e:g.fb.getD i 0=bi)(s:V (aE [bi+1]) H aa)(B:Var 186 aa bi [q.v,bm.v,fo.v])(aA:aU n 5 aa a1 1 q.v M)(A:ah n K):
 bn (n::K) {g with ρ:=gm g.ρ n .je} aa b (D.fu i ⟨M,(b4 D.fs i).stays,(b4 D.fs i).w⟩):=by
 subst e
 have o:∀x,aE [g.fb.getD i 0+1] x→g.ρ x= .fq i:=fun x e=>by
  have:x=g.fb.getD i 0:=by simpa[aE]using e
  rw[this];exact d.b5
 have j:Ext g.ρ (gm g.ρ n .je):=Ext.gm (fun c e=> .inl (h.sV A c e));have r:∀c,aE [g.fb.getD i 0+1] c→g.ρ c≠ .je:=fun c e=>by rw[o c e];simp
 refine h.tp t s (fun x e=> .inl (o x e)) j (oP h.c_ (by simp)) (oY h.lt s.size aA.le) ⟨q,bm,fo,k,l,?_⟩
 exact{b5:=j.of d.b5 (by simp),cH:=B,aA:=aA.rd.imp (fun c _ e=>pv e),ao:=kW d.ao j s r
       hw:=d.hw.up s (fun c _ e av=>by have:=o c av;rw[d.jl c e]at this;cases this),lw:=d.lw,al:=fun y hy=>kW (d.al y hy) j s r,jl:=fun c e=>j.of (d.jl c e) (by simp)}
theorem bn.wH{w:dW}{A B:aM}{j a8 bi:Nat}(h:bn K g H b D)(G:i<D.fs.length)(d:iD g.ρ H i (g.fb.getD i 0) (b4 D.fs i) eM bm fo k l)(e:g.fb.getD i 0=bi)(s:V (aE [bi+1,k]) H aa)(I:Var 186 aa bi [eM.v,bm.v,B.v])(hw:aU a8 275 aa lV 2 B.v (l++[(w,A)]))(r:T k H.size a8)
 (al:aU j 5 aa a1 1 A.v w.d) (E:ah j (a8::K)):
 bn (j::a8::K) {g with ρ:=gm (gm g.ρ a8 (.mg i)) j .je} aa b (D.fu i ⟨(b4 D.fs i).now,(b4 D.fs i).stays,(b4 D.fs i).w++[w]⟩):=by
 subst e
 have C:∀x,aE [g.fb.getD i 0+1,k] x→g.ρ x= .fq i∨g.ρ x= .mg i:=fun x e=>by
  have:x+1=g.fb.getD i 0+1∨x+1=k:=by simpa[aE]using e
  rcases this with e|e
  ·exact .inl (by rw[show x=g.fb.getD i 0 by omega];exact d.b5)
  ·exact .inr (d.jl x e)
 have L:Ext g.ρ (gm g.ρ a8 (.mg i)):=Ext.gm (h.xM r d.jl)
 have t:∀c,c+1=j→c+1≠a8∧g.ρ c= .out:=fun c e=>by
  have F:c+1≠a8:=fun o=>E a8 List.mem_cons_self c e o;exact⟨F,h.sV (fun k r=>E k (List.mem_cons_of_mem _ r)) c e⟩
 have M:Ext (gm g.ρ a8 (.mg i)) (gm (gm g.ρ a8 (.mg i)) j .je):=Ext.gm (fun c e=> .inl (by rw[zo (t c e).1];exact(t c e).2));have n:=L.trans M;have q:∀c,aE [g.fb.getD i 0+1,k] c→g.ρ c≠ .je:=fun c e=>by rcases C c e with e|e<;>(rw[e];simp)
 refine h.tp G s (fun x e=>(C x e).elim .inl (fun e=> .inr (.inl e))) n (oP (oP h.c_ (by simp)) (by simp)) (oY (oY h.lt s.size hw.le) (Nat.le_refl _) al.le) ⟨eM,bm,B,a8,l++[(w,A)],?_⟩
 exact{b5:=n.of d.b5 (by simp),cH:=I,aA:=kW d.aA n s q,ao:=kW d.ao n s q,hw:=hw,lw:=by rw[List.map_append,d.lw];rfl
       al:=fun y hy=>by
        rcases List.mem_append.1 hy with hy|hy
        ·exact kW (d.al y hy) n s q
        ·rw[List.mem_singleton.1 hy];exact al.rd.imp (fun c _ e=>pv e)
       jl:=fun c e=>by rw[zo (fun o=>(t c o).1 e)];exact pv e}
theorem bn.fsync{bi:Nat}(h:bn K g H b D)(o:i<D.fs.length)(d:iD g.ρ H i (g.fb.getD i 0) (b4 D.fs i) eM bm fo k l)(e:g.fb.getD i 0=bi)(s:V (aE [bi+1]) H aa)(q:Var 186 aa bi [eM.v,eM.v,.slice none 0 0]):bn K g aa b (D.tG i):=by
 subst e
 have j:∀x,aE [g.fb.getD i 0+1] x→g.ρ x= .fq i:=fun x e=>by
  have:x=g.fb.getD i 0:=by simpa[aE]using e
  rw[this];exact d.b5
 have n:∀c,aE [g.fb.getD i 0+1] c→g.ρ c≠ .je:=fun c e=>by rw[j c e];simp
 refine h.tp (ρ':=g.ρ) o s (fun x e=> .inl (j x e)) (Ext.refl _) h.c_ (fun c e=>Nat.lt_of_lt_of_le (h.lt c e) s.size) ⟨eM,eM,⟨none,0,0⟩,0,[],?_⟩;exact{b5:=d.b5,cH:=q,aA:=kW d.aA (Ext.refl _) s n,ao:=kW d.aA (Ext.refl _) s n,hw:=aU.nil qd qe,lw:=rfl,al:=fun y hy=>(by cases hy),jl:=fun c e=>(by omega)}
theorem iD.oy{d bi:Nat}(h:iD ρ H i d x eM bm fo k l)(e:d=bi):Var 186 H bi [eM.v,bm.v,fo.v]:=e▸h.cH
theorem bn.oR{d bi:Nat}(h:bn K g H b D)(j:iD g.ρ H i d x eM bm fo k l)(e:d=bi):gK K (bi+1):=e▸h.nI j.b5 (by simp)
theorem iD.ne{d bi:Nat}(h:iD ρ H i d x eM bm fo k l)(e:d=bi):af (bi+1) k:=fun c n U=>by
 have j:=h.jl c U;rw[show c=d by omega,h.b5]at j;cases j
theorem bn.vM{s2:Nat}{o:dq}(h:bn K g H b D)(A:e_ D.now)(E:aL g.cJ p=some bf)(al:lG g.ρ g.fb H D p bf bK cV k bm b3 eD)(s:V (aE [bf+1]) H aa)(G:Var 173 aa bf [.map (some bK),.map (some s2),.slice none 0 0])(hm:de aa aI (hW g.fb) s2 o)(C:∀q,aL o q=aL b3 q)(B:ah (s2+1) K):
 bn ((s2+1)::K) {g with ρ:=gm g.ρ (s2+1) (.m_ p)} aa b (D.m8 p):=by
 have r:∀x,aE [bf+1] x→g.ρ x= .dir p:=fun x e=>by
  have:x=bf:=by simpa[aE]using e
  rw[this];exact al.rd
 have d:Ext g.ρ (gm g.ρ (s2+1) (.m_ p)):=Ext.gm (fun c e=> .inl (h.sV B c e));have F:∀x,g.ρ x≠ .dir p→¬aE [bf+1] x:=fun x d e=>d (r x e);have j:∀q,aL (D.m8 p).stays q=if cp q=p then aL D.now q else aL D.stays q:=fun q=>xi A p q;refine h.tn s (fun x e=> .inl (r x e)) d (oP h.c_ (by simp)) (oY h.lt s.size hm.lt) E ⟨bK,s2,0,⟨none,0,0⟩,b3,o,?_⟩ ⟨rfl,rfl,rfl,rfl,rfl,rfl⟩ (fun q t=>rfl) (fun q t=>by rw[j,if_neg t]) (fun n aA=>?_) ⟨h.ids.1,fun q i e=>?_,fun c av i e=>h.ids.2.2 c (List.mem_filter.1 av).1 i e⟩
 ·exact{rd:=d.of al.rd (by simp),cP:=G,g_:=d.of al.g_ (by simp),aA:=al.aA.up s (F _ (by rw[al.g_];simp)),rs:=pv rfl,ao:=hm,gW:=al.gW
        es:=fun q=>by
         rw[C,al.gW,j];split<;>rfl
        av:=by
         have:(D.m8 p).hH p=[]:=by unfold aG.m8 aG.hH;rw[List.filter_filter,List.filter_eq_nil_iff];intro c _;simp
         rw[this];exact aU.nil (p_ _) (qa _)
        rc:=fun c e=>(by omega)}
 ·unfold aG.m8 aG.hH
  rw[List.filter_filter];refine List.filter_congr (fun c _=>?_);by_cases e:c.dir=n
  ·simp[e,aA]
  ·simp[e]
 ·rw[j]at e
  split at e
  ·exact h.ids.1 q i e
  ·exact h.ids.2.1 q i e
end
end gn

namespace gL
open E Go.RowKit fz f_ gn
def dL.ov(c:dL)(m:dq):dq:=
 let W:=if c.g=[]then m else d_ m c.g
 match c.f with
 |none=>W
 |some i=>fK W c.n i
theorem ES(c:dL)(l:dq)(q:aH):aL (dL.ov c l) q=c.at q (aL l q):=by
 unfold dL.ov dL.at
 cases c.f with
 |none=>
  simp only;by_cases d:c.g=[]
  ·simp[d]
  ·rw[if_neg d,jg];simp[d]
 |some i=>
  simp only;rw[kU];by_cases d:c.g=[]
  ·simp[d]
  ·rw[if_neg d,jg];simp[d]
theorem F4(fb:List Nat)(bK:Nat)(m:dq)(c:dL)(w0:World)(I:Heap)
 (hm:de I aI (hW fb) bK m):
 aC Tryz.prog w0 78 #[.map (some bK),.agg (ia fb c).toArray] I (fun r C=>(de C aI (hW fb) bK (dL.ov c m))∧V (aE [(bK+1)]) I C):=by
 refine aC.enter (args:=[.map (some bK),.agg (ia fb c).toArray]) Tryz.func78 rfl rfl rfl ?_;intro ab M;have j:V (aE [(bK+1)]) I I:=V.refl _ _;have E:=T.refl (bK+1) I.size;have an:=hm.lt;refine G.L (fun P=>?_);refine o.aO cr ?_;rintro v3 k ⟨rfl,d,x,aD,ap⟩;have ay:k.size=I.size+1:=by rw[ap];simp
 have Q:af (bK+1) (I.size+1):=af.new hm.lt;replace hm:=hm.M x;replace j:=j.bc x;have ae:=x.size;replace d:Var 177 k I.size (ia fb c):=d;refine o.nil (P ?_)
 refine G.cut (fun(W:(dq))=>[(0,.map (some bK)),(3,.pointer (some ⟨I.size,0,none⟩))])
  (fun(W:(dq)) (H:Heap)=>(de H aI (hW fb) bK W)∧(W=if c.g=[]then m else d_ m c.g)∧V (aE [(bK+1)]) k H) (fun _ aj _=>?_) ?_
 ·
  have q:V (aE [(bK+1)]) k k:=V.refl _ _;have ac:=T.refl (bK+1) k.size;refine G.L (fun R=>?_);refine o.v1 (Y.ai d.N rfl ps rfl bO) ?_;refine o.v1 (ar d.N bL) ?_;refine o.v1 (Y.iS rfl rfl rfl) (o.nil (R ?_));refine aT (fun A=>?_) (fun A=>?_)
  ·
   refine G.region ?_;refine o.W ?_;refine o.v1 (Y.ai d.N rfl ps rfl bO) ?_;refine o.v1 (ar d.N bL) ?_;refine o.rm (Z.p7 hm gr rfl re Tryz.underlying9 rfl rfl) cR rfl (fun az aA O=>?_);obtain⟨rfl,hm,ad⟩:=O;replace ad:=ad.bp;replace q:=q.aJ ad (ag.J (aq.r ac));have ai:=ad.size;refine o.nil ?_;refine aP.sub (aj (d_ m c.g) _ ?_) ⟨rfl,rfl,trivial⟩;exact⟨hm,by rw[if_neg (by simpa using A)],q⟩
  ·
   refine G.skip ?_;refine aP.sub (aj m _ ?_) ⟨rfl,rfl,trivial⟩;exact⟨hm,by rw[if_pos (by simpa using A)],q⟩
 ·
  intro W au N;obtain⟨hm,L,F⟩:=N;replace d:=d.ab F (ah.J Q.symm);replace j:=j.aJ F (ag.J (aq.r E));refine G.L (fun X=>?_);refine o.v1 (Y.ai d.N rfl ps rfl yA) ?_;refine o.v1 (ar (d.N.drop 2) ue) ?_;refine o.v1 (Y.tc rfl (by kernel_rfl) (by kernel_rfl) rfl rfl) (o.nil (X ?_));refine cI (fun n=>?_) (fun n=>?_)
  ·
   obtain⟨i,K⟩:∃i,c.f=some i:=by
    cases B:c.f with
    |none=>rw[B]at n;cases n
    |some i=>exact⟨i,rfl⟩
   refine G.region ?_;refine o.W ?_;refine o.v1 (Y.ai d.N rfl ps rfl bO) ?_;refine o.v1 (ar (d.N.drop 1) bL) ?_;refine o.v1 (Y.ai d.N rfl ps rfl yA) ?_;refine o.v1 (Y.cast (v2:=hW fb i) (ar (d.N.drop 2) ue) (by rw[K];rfl)) ?_;refine o.s1 (S.l8 (i) hm gr rfl re Tryz.underlying9 rfl rfl rfl) fun aB am=>?_;obtain⟨hm,t⟩:=am;replace t:=t.bp;replace j:=j.aJ t (ag.J (aq.r E));refine o.nil ?_;refine M .normal (.inl rfl) _ _ _ (iQ rfl) ?_;exact⟨by rw[dL.ov,←L,K];exact hm,j⟩
  ·
   refine G.skip ?_;refine M .normal (.inl rfl) _ _ _ (iQ rfl) ?_
   exact⟨by
    have aa:c.f=none:=by
     cases B:c.f with
     |none=>rfl
     |some i=>rw[B]at n;cases n
    rw[dL.ov,←L,aa];exact hm,j⟩
theorem zY(e:TypeId)(b:Nat)(cs:List Value)(x y:Int)(w0:World)(I:Heap)
 (d:Var e I b cs) (av:cs[3]?=some (.int .i64 x)) (t: -9223372036854775808≤x+y∧x+y≤9223372036854775807):
 aC Tryz.prog w0 225 #[.pointer (some ⟨b,3,none⟩),.int .i64 y] I (fun r k=>r= .int .i64 (x+y)∧(Var e k b (cs.set 3 (.int .i64 (x+y))))∧V (aE [(b+1)]) I k):=by
 refine aC.aK [.pointer (some ⟨b,3,none⟩),.int .i64 y] Tryz.func225 ?_;intro B q;have j:V (aE [(b+1)]) I I:=V.refl _ _;have n:=T.refl (b+1) I.size;refine G.L (fun ac=>?_);refine o.aj ?_;refine ac (G.L (fun ad=>?_));refine o.ax 2 ?_;refine o.v1 (Y.ai (d.N.drop 3) rfl HS rfl GS) ?_;refine o.W ?_;refine o.aO (Z.zU d av rfl Tryz.func259 (by kernel_rfl) (by kernel_rfl) (by kernel_rfl) (by kernel_rfl) rfl t) ?_;rintro v9 A ⟨rfl,d,i⟩;replace i:=i.bp;replace j:=j.aJ i (ag.J (aq.r n));refine o.aj ?_;refine ad ?_;refine G.ret (q ?_);exact⟨rfl,d,j⟩
section
variable {w0 : World} {n : Nat} {l : bZ} {H : Heap} {J : Oper} {K : List Nat} {g : cz} {b cu : Nat} {D : aG} {x y : Operand} {t : TypeId}
theorem FX(h:bn K g H b D)(cu:Nat)(j:J.op= .store t x y)(k:aF l x=some (.pointer (some ⟨b,4,none⟩)))(hy:aF l y=some (.int .i64 (cu:Int)))(ao:∀w,(sizeOf t).run Tryz.prog w= .ok 1 w)(i:cu≤9223372036854775807):
 S Tryz.prog w0 n l H J (fun aa=>bn K {g with cu:=cu} aa b {D with left:=cu}∧V (aE K) H aa):=
 (S.tQ h.aQ 4 _ j k hy rfl ao (by simp) rfl).mono fun aa ⟨d,U⟩=>⟨h.tq U.bp ⟨rfl,rfl,rfl,rfl⟩ d (fun _=>rfl) i ⟨rfl,rfl,rfl,rfl,rfl,rfl⟩ (Nat.le_refl _),h.ms U (fun c e=>by rw[e,h.eb];simp)⟩
theorem x3(h:bn K g H b D)(dd:Bool)(i:dd=false→D.dead=false)(j:J.op= .store t x y)(k:aF l x=some (.pointer (some ⟨b,5,none⟩)))(hy:aF l y=some (.bool dd))(ao:∀w,(sizeOf t).run Tryz.prog w= .ok 1 w):
 S Tryz.prog w0 n l H J (fun aa=>bn K g aa b {D with dead:=dd}∧V (aE K) H aa):=
 (S.tQ h.aQ 5 _ j k hy rfl ao (by simp) rfl).mono fun aa ⟨d,U⟩=>⟨h.tq U.bp ⟨rfl,rfl,rfl,rfl⟩ d (fun e=>h.iA (i e)) h.iK ⟨rfl,rfl,rfl,rfl,rfl,rfl⟩ (Nat.le_refl _),h.ms U (fun c e=>by rw[e,h.eb];simp)⟩
theorem FY(h:bn K g H b D)(al:D.dead=true)(x:Nat):bn K g H b {D with left:=x}:=
 {h with
  iA:=fun e=>(by rw[show({D with left:=x}:aG).dead=D.dead from rfl,al]at e;cases e)
  gh:=fun p bf e=>(by
   obtain⟨bK,cV,k,bm,b3,eD,q⟩:=h.gh p bf e;exact⟨bK,cV,k,bm,b3,eD,{q with gW:=q.gW,es:=q.es,av:=q.av}⟩)}
theorem rO{dd:Bool}{x:Nat}(j:D.dead=false→cu=D.left)(h:bn K g H b {D with left:=x,dead:=dd})(i:dd=true)(d:D.dead=true∨(D.dead=false∧cu=1∧x=0)):bn K g H b D.begin.2∧ .bool false=Value.bool D.begin.1:=by
 subst i;rcases d with al|⟨al,k,U⟩
 ·have e:D.begin=(false,D):=by unfold aG.begin;rw[if_pos al]
  rw[e];refine⟨?_,rfl⟩;have:=FY h rfl D.left;obtain⟨cap,most,fs,now,stays,log,ops,left,dead⟩:=D;simp only at al;subst al;exact this
 ·have:=j al
  have e:D.begin=(false,{D with left:=0,dead:=true}):=by unfold aG.begin;rw[if_neg (by simp[al]),if_pos (by omega)]
  rw[e];subst U;exact⟨h,rfl⟩
theorem nn{dd:Bool}{x:Nat}(h:bn K g H b {D with left:=x,dead:=dd,ops:=D.ops+1})(i:dd=false)(al:D.dead=false)(d:D.left≠1)(j:x=D.left-1):bn K g H b D.begin.2∧ .bool true=Value.bool D.begin.1:=by
 subst i;subst j;have e:D.begin=(true,{D with left:=D.left-1,ops:=D.ops+1}):=by unfold aG.begin;rw[if_neg (by simp[al]),if_neg d]
 rw[e];obtain⟨cap,most,fs,now,stays,log,ops,left,dead⟩:=D;simp only at al;subst al;exact⟨h,rfl⟩
end
theorem rH{K:List Nat}{g:cz}{b:Nat}{D:aG}(w0:World)(I:Heap)(h:bn K g I b D)(k:D.ops≤1099511627776):aC Tryz.prog w0 225 #[.pointer (some ⟨b,3,none⟩),.int .i64 1] I (fun r d=>r= .int .i64 ((D.ops:Int)+1)∧bn K g d b {D with ops:=D.ops+1}∧V (aE K) I d):=
 (zY _ b _ (D.ops:Int) 1 w0 I h.aQ rfl (by omega)).mono fun r d ⟨j,U,i⟩=>⟨j,h.tq i ⟨rfl,rfl,rfl,rfl⟩ U h.iA h.iK ⟨rfl,rfl,rfl,rfl,rfl,rfl⟩ (Nat.le_succ _),h.ms i (fun c e=>by
  have:c=b:=by simpa[aE]using e
  rw[this,h.eb];simp)⟩
theorem pP(K:List Nat)(g:cz)(b:Nat)(D:aG)(w0:World)(I:Heap)
 (i:bn K g I b D) (N:D.ops≤1099511627776):
 aC Tryz.prog w0 184 #[ptr b] I (fun r O=>∃g2:cz,r= .bool D.begin.1∧(bn K g2 O b D.begin.2)∧(g2.ρ=g.ρ∧g2.fb=g.fb∧g2.bH=g.bH∧g2.cJ=g.cJ)∧V (aE K) I O):=by
 refine aC.aK [ptr b] Tryz.func184 ?_;intro aH E;have q:V (aE K) I I:=V.refl _ _;have C:=aZ.refl K I.size;have L:=i.aB;have aP:=i.iK;have A:=i.iA;refine G.L (fun T=>?_);refine o.aj ?_;refine T (G.t1 (fun au=>G.L (fun W=>?_)));refine o.ax 2 ?_;refine o.v1 (Y.ai i.aQ.N rfl hd rfl b1) ?_;refine o.v1 (ar (i.aQ.N.drop 4) cd) ?_;refine o.v1 eT (o.nil (W ?_));refine aT (fun cE=>?_) (fun cE=>?_)
 ·
  refine G.L (fun X=>?_);refine o.ax 2 ?_;refine o.v1 (Y.ai i.aQ.N rfl hd rfl b1) ?_;refine o.v1 (ar (i.aQ.N.drop 4) cd) ?_;refine o.v1 (Y.cast (v2:= .int .i64 ((g.cu-1:Nat):Int)) fE (fJ (by omega))) ?_;refine o.bI ?_;refine o.v1 (Y.ai i.aQ.N rfl hd rfl b1) ?_;refine o.s1 (FX i (g.cu-1) rfl rfl rfl b1 (by omega)) fun aI am=>?_;obtain⟨i,Q⟩:=am;replace q:=q.aJ Q (ag.cF (C) (by intro k B;simp[B]));have aJ:=Q.size;have L:=i.aB;refine o.nil (X (G.region ?_));refine o.ax 3 ?_;refine o.v1 (Y.ai i.aQ.N rfl hd rfl cW) ?_;refine o.v1 (ar (i.aQ.N.drop 5) dr) ?_;refine o.W ?_;refine o.split (d:=20) rfl (fun t=>?_) (fun t=>?_)
  ·
   refine o.ax 7 ?_;refine o.v1 (Y.ai i.aQ.N rfl hd rfl cW) ?_;refine o.s1 (x3 i _ (by intro h;first|exact t|cases h) rfl rfl rfl cW) fun ai M=>?_;obtain⟨i,ac⟩:=M;replace q:=q.aJ ac (ag.cF (C) (by intro k B;simp[B]));have aK:=ac.size;have L:=i.aB;refine o.nil (au (G.t2 (fun Z aa=>G.L (fun ab=>?_))));refine o.ax 2 ?_;refine o.v1 (Y.ai i.aQ.N rfl hd rfl cW) ?_;refine o.v1 (ar (i.aQ.N.drop 5) dr) (o.nil (ab ?_));refine cI (fun j=>?_) (fun j=>?_)
   ·
    first
    |(simp at j;done)
    |skip
     refine G.L (fun ae=>?_);refine o.aj ?_;refine ae ?_;refine G.ret (aa (E ?_));have n:=rO A i (by first|rfl|exact j) (by first|exact .inl t|exact .inr ⟨t,by simp at j;omega,by simp at j;omega⟩);exact⟨_,n.2,n.1,⟨rfl,rfl,rfl,rfl⟩,q⟩
   ·
    first
    |(simp at j;done)
    |skip
     refine G.skip (Z (G.L (fun af=>?_)));refine o.ax 2 ?_;refine o.v1 (Y.ai i.aQ.N rfl hd rfl tl) ?_;refine aV rX (rH w0 _ i N) (fun P F H=>?_);obtain⟨rfl,i,ad⟩:=H;replace q:=q.aJ ad (ag.cF (C) (by intro k B;simp[B]));have aL:=ad.size;refine o.nil (af (G.L (fun ah=>?_)));refine o.aj ?_;refine ah ?_;refine G.ret (E ?_)
     obtain⟨g2,n⟩:∃g2:cz,(bn K g2 F b D.begin.2∧ .bool true=Value.bool D.begin.1)∧(g2.ρ=g.ρ∧g2.fb=g.fb∧g2.bH=g.bH∧g2.cJ=g.cJ):=by
      first
      |exact⟨_,nn (x:=g.cu-1) i (by simpa using j) t (by have:=A t;simp at j;omega) (by have:=A t;omega),rfl,rfl,rfl,rfl⟩
      |exact⟨_,nn (x:=D.left) (dd:=D.dead) i (by simpa using j) (by simpa using j) (by have:=A (by simpa using j);omega) (by have:=A (by simpa using j);omega),rfl,rfl,rfl,rfl⟩
     exact⟨g2,n.1.2,n.1.1,n.2,q⟩
  ·
   refine o.bU ?_;refine o.an (Y.nilCheck rfl rfl) ?_;refine o.an (Y.ai i.aQ.N rfl hd rfl b1) ?_;refine o.an (ar (i.aQ.N.drop 4) cd) ?_;refine o.an b9 ?_;refine o.ax 2 ?_;refine o.v1 (Y.ai i.aQ.N rfl hd rfl cW) ?_;refine o.s1 (x3 i _ (by intro h;first|exact t|cases h) rfl rfl rfl cW) fun ai M=>?_;obtain⟨i,ac⟩:=M;replace q:=q.aJ ac (ag.cF (C) (by intro k B;simp[B]));have aM:=ac.size;have L:=i.aB;refine o.nil (au (G.t2 (fun aj ap=>G.L (fun an=>?_))));refine o.ax 2 ?_;refine o.v1 (Y.ai i.aQ.N rfl hd rfl cW) ?_;refine o.v1 (ar (i.aQ.N.drop 5) dr) (o.nil (an ?_));refine cI (fun j=>?_) (fun j=>?_)
   ·
    first
    |(simp at j;done)
    |skip
     refine G.L (fun aq=>?_);refine o.aj ?_;refine aq ?_;refine G.ret (ap (E ?_));have n:=rO A i (by first|rfl|exact j) (by first|exact .inl t|exact .inr ⟨t,by simp at j;omega,by simp at j;omega⟩);exact⟨_,n.2,n.1,⟨rfl,rfl,rfl,rfl⟩,q⟩
   ·
    first
    |(simp at j;done)
    |skip
     refine G.skip (aj (G.L (fun ay=>?_)));refine o.ax 2 ?_;refine o.v1 (Y.ai i.aQ.N rfl hd rfl tl) ?_;refine aV rX (rH w0 _ i N) (fun P F H=>?_);obtain⟨rfl,i,ad⟩:=H;replace q:=q.aJ ad (ag.cF (C) (by intro k B;simp[B]));have aN:=ad.size;refine o.nil (ay (G.L (fun az=>?_)));refine o.aj ?_;refine az ?_;refine G.ret (E ?_)
     obtain⟨g2,n⟩:∃g2:cz,(bn K g2 F b D.begin.2∧ .bool true=Value.bool D.begin.1)∧(g2.ρ=g.ρ∧g2.fb=g.fb∧g2.bH=g.bH∧g2.cJ=g.cJ):=by
      first
      |exact⟨_,nn (x:=g.cu-1) i (by simpa using j) t (by have:=A t;simp at j;omega) (by have:=A t;omega),rfl,rfl,rfl,rfl⟩
      |exact⟨_,nn (x:=D.left) (dd:=D.dead) i (by simpa using j) (by simpa using j) (by have:=A (by simpa using j);omega) (by have:=A (by simpa using j);omega),rfl,rfl,rfl,rfl⟩
     exact⟨g2,n.1.2,n.1.1,n.2,q⟩
 ·
  refine G.skip (au (G.t2 (fun aA aB=>G.L (fun aD=>?_))));refine o.ax 2 ?_;refine o.v1 (Y.ai i.aQ.N rfl hd rfl cW) ?_;refine o.v1 (ar (i.aQ.N.drop 5) dr) (o.nil (aD ?_));refine cI (fun j=>?_) (fun j=>?_)
  ·
   first
   |(simp at j;done)
   |skip
    refine G.L (fun aF=>?_);refine o.aj ?_;refine aF ?_;refine G.ret (aB (E ?_));have n:=rO (x:=D.left) (dd:=D.dead) A i (by simpa using j) (.inl (by simpa using j));exact⟨_,n.2,n.1,⟨rfl,rfl,rfl,rfl⟩,q⟩
  ·
   first
   |(simp at j;done)
   |skip
    refine G.skip (aA (G.L (fun R=>?_)));refine o.ax 2 ?_;refine o.v1 (Y.ai i.aQ.N rfl hd rfl tl) ?_;refine aV rX (rH w0 _ i N) (fun P F H=>?_);obtain⟨rfl,i,ad⟩:=H;replace q:=q.aJ ad (ag.cF (C) (by intro k B;simp[B]));have aO:=ad.size;refine o.nil (R (G.L (fun S=>?_)));refine o.aj ?_;refine S ?_;refine G.ret (E ?_)
    obtain⟨g2,n⟩:∃g2:cz,(bn K g2 F b D.begin.2∧ .bool true=Value.bool D.begin.1)∧(g2.ρ=g.ρ∧g2.fb=g.fb∧g2.bH=g.bH∧g2.cJ=g.cJ):=by
     first
     |exact⟨_,nn (x:=g.cu-1) i (by simpa using j) t (by have:=A t;simp at j;omega) (by have:=A t;omega),rfl,rfl,rfl,rfl⟩
     |exact⟨_,nn (x:=D.left) (dd:=D.dead) i (by simpa using j) (by simpa using j) (by have:=A (by simpa using j);omega) (by have:=A (by simpa using j);omega),rfl,rfl,rfl,rfl⟩
    exact⟨g2,n.1.2,n.1.1,n.2,q⟩
section
open Go.MapKept
variable {P : Program} {w0 : World} {n : Nat} {l : bZ} {H : Heap} {J : Oper} {κ β : Type} [DecidableEq κ] {aS : Nat → Prop} {a7 : κ → Value} {fv : β → Value} {v : Value} {m : List (κ × β)} {d : TypeDesc}
theorem sx{t e2 j:TypeId}{x i:Operand}{k:κ}(ad:β→Addr)(h:hr aS H a7 fv v m)(B:∀b,fv b= .pointer (some (ad b)))(A:la d a7)(F:J.op= .lookup t x i false)(hm:∀w,(underlying t).run P w= .ok (.map e2 j) w)(E:P.underlying e2=some d)(I:∀w,(zeroValue j).run P w= .ok (.pointer none) w)
 (G:aF l x=some v) (C:aF l i=some (a7 k)):Y P w0 n l H J (.pointer ((aL m k).map ad)):=by
 intro a w q r;have o:=yx (ok:=false) (k:=k) h A r hm E I;simp only[Bool.false_eq_true,if_false]at o
 have U:(Instr.lookup t v (a7 k) false).run P w= .ok (.pointer ((aL m k).map ad)) w:=by
  rw[o]
  cases aL m k with
  |none=>rfl
  |some b=>simp[B]
 simp[execOp,F,q.eval G,q.eval C,U]
end
abbrev um(b:Nat):Addr:=⟨b,0,none⟩
theorem qg(bk:Int)(K:List Nat)(g:cz)(b:Nat)(D:aG)(p:aH)(w0:World)(I:Heap)
 (aN:dV bk I) (L:bg (fun b=>b=0) I.size) (j:bn K g I b D) (N:p.length≤4294967280):
 aC Tryz.prog w0 168 #[ptr b,aI p] I (fun r P=>r= .tuple #[.pointer (ln g.fb (if D.look p=0 then aL D.now p else none)),.int .i64 (D.look p:Int)]∧ak I P):=by
 refine aC.aK [ptr b,aI p] Tryz.func168 ?_;intro aj B;have k:ak I I:=V.refl _ _;have ay:=j.aB;refine G.L (fun X=>?_);refine o.aR 2 ?_;refine X (G.t2 (fun ap Z=>G.L (fun aa=>?_)));refine o.W ?_;refine aV mH (mW bk p w0 _ aN (L.mono (by omega)) N) ?_;rintro v9 H ⟨rfl,A⟩;replace aN:=aN.M A;replace j:=j.M A;replace k:=k.L A;have an:=A.size;refine o.v1 eI (o.nil (aa ?_));refine cI (fun x=>?_) (fun x=>?_)
 ·
  refine G.L (fun ab=>?_);refine o.aR 2 ?_;refine ab ?_;refine G.ret (Z (B ?_))
  have n:D.look p=7:=by
   unfold aG.look;rw[if_neg (by simpa using x)]
  exact⟨by rw[n];rfl,k⟩
 ·
  refine G.skip (ap (G.t2 (fun au ae=>G.t1 (fun af=>?_))));refine dC (fun t=>ak H t) [] ?_;have q:=ak.refl H;refine O.W 0 rfl q ?_;refine O.bI 1 rfl q ?_;refine O.t1 2 rfl (fun t d=>Y.ai (j.aQ.N.M d) rfl hd rfl qY) q ?_;refine O.t1 3 rfl (fun t d=>ar ((j.aQ.N.drop 2).M d) pK) q ?_;refine O.W 4 rfl q ?_;refine O.aY 5 ?_;refine ch nu (nw bk p w0 _ aN (L.mono (by omega)) N) (fun aq am ag=>?_);obtain⟨rfl,E⟩:=ag;replace j:=j.M E;replace k:=k.L E;have R:=q.L E;refine O.cn R ?_;have C:=ak.refl am;refine O.t1 6 rfl (fun t d=>sx um (j.hm.fj.M d) (fun _=>rfl) gr rfl rf Tryz.underlying9 zF rfl rfl) C ?_;refine O.t1 7 rfl (fun t d=>ev) C ?_;refine cD ?_;have az:=C;refine af (G.L (fun ah=>?_));refine o.W ?_;refine o.v1 (Y.tc rfl (by kernel_rfl) (by kernel_rfl) rfl rfl) (o.nil (ah ?_));refine cI (fun ac=>?_) (fun ac=>?_)
  ·
   obtain⟨bf,M⟩:∃bf,aL g.cJ (cp p)=some bf:=by
    cases d:aL g.cJ (cp p)with
    |none=>rw[d]at ac;cases ac
    |some bf=>exact⟨bf,rfl⟩
   obtain⟨bK,cV,aA,bm,b3,eD,al⟩:=j.gh _ bf M;refine G.L (fun ai=>?_);refine o.v1 (Y.cast (v2:=ptr bf) fp (by rw[M];rfl)) ?_;refine o.bI ?_;refine o.v1 (Y.ai al.cP.N rfl kA rfl m4) ?_;refine o.v1 (Y.ai (al.cP.N.drop 0) rfl na rfl ly) ?_;refine o.v1 (ar ((al.cP.N.drop 0).drop 0) oq) ?_;refine o.W ?_;refine o.v1 (Y.cast (v2:= .pointer (ln g.fb (aL D.now p))) (sx (fun i=>⟨g.fb.getD i 0,0,none⟩) al.aA.fj (fun _=>rfl) gr rfl re Tryz.underlying9 Ik rfl rfl) (by rw[al.gW p,if_pos rfl])) ?_;refine o.aj ?_;refine ai (G.L (fun Q=>?_));refine o.W ?_;refine o.v1 (Y.tc rfl (by kernel_rfl) (by kernel_rfl) rfl rfl) (o.nil (Q ?_));refine cI (fun ad=>?_) (fun ad=>?_)
   ·
    refine G.L (fun S=>?_);refine o.aR 3 ?_;refine S ?_;refine G.ret (ae (B ?_))
    have n:D.look p=0:=by
     unfold aG.look
     rw[if_pos (by simpa using x),if_pos (by cases d:aL D.now p with
      |none=>rw[d]at ad;cases ad
      |some i=>rfl)]
    exact⟨by rw[n,if_pos rfl];rfl,k⟩
   ·
    refine G.skip (au (G.L (fun T=>?_)));refine o.aR 2 ?_;refine T ?_;refine G.ret (B ?_)
    have n:D.look p=2:=by
     unfold aG.look;rw[if_pos (by simpa using x),if_neg]
     first
     |(cases d:aL D.now p with
      |none=>simp
      |some i=>rw[d]at ad;cases ad)
     |(have F:aL g.cJ (cp p)=none:=(by cases d:aL g.cJ (cp p)with
       |none=>rfl
       |some bf=>rw[d]at ac;cases ac)
       rw[((j.abs _ F).1 p rfl).1];simp)
    exact⟨by rw[n];rfl,k⟩
  ·
   refine G.skip (au (G.L (fun W=>?_)));refine o.aR 2 ?_;refine W ?_;refine G.ret (B ?_)
   have n:D.look p=2:=by
    unfold aG.look;rw[if_pos (by simpa using x),if_neg]
    first
    |(cases d:aL D.now p with
     |none=>simp
     |some i=>rw[d]at ad;cases ad)
    |(have F:aL g.cJ (cp p)=none:=(by cases d:aL g.cJ (cp p)with
      |none=>rfl
      |some bf=>rw[d]at ac;cases ac)
      rw[((j.abs _ F).1 p rfl).1];simp)
   exact⟨by rw[n];rfl,k⟩
end gL

namespace gU
open E Go.RowKit fz f_ gn gL
section
variable {H : Heap} {b bH : Nat}
theorem bn.new(cap most:Nat)(d:Var 102 H b [.int .i64 cap,.int .i64 most,.map (some bH),.int .i64 0,.int .i64 0,.bool false])(hm:de H aI ptr bH ([]:List (aH×Nat)))(av:cap≤9223372036854775807)(k:most≤9223372036854775807)(n:b≠bH):
 bn [b+1,bH+1] ⟨fx (fx (fun _=> .out) bH .gh) b .fs,[],bH,[],0⟩ H b (aG.empty cap most) where
 c_:=nG (nG (K:=[]) (ρ:=fun _=> .out) (fun c=>by simp) (by simp)) (by simp)
 lt:=nN (nN (H:=H) (fun c h=>absurd rfl h) (Nat.le_refl _) hm.lt) (Nat.le_refl _) d.lt
 eb:=n3
 aQ:=d
 iA:=fun _=>rfl
 iK:=by simp
 jv:=av
 jy:=k
 hB:=by show fx (fx (fun _=> .out) bH .gh) b .fs bH=_;rw[mf (Ne.symm n),n3]
 hm:=hm
 gh:=fun p bf e=>(by cases e)
 abs:=fun p _=>⟨fun q _=>⟨rfl,rfl⟩,rfl⟩
 len:=rfl
 fq:=fun i j=>(by simp[aG.empty]at j)
 ids:=⟨fun p i e=>(by cases e),fun p i e=>(by cases e),fun c av=>(by cases av)⟩
 iy:=Nat.le_refl _
end
theorem sU(cap most:Nat)(w0:World)(I:Heap)
 (av:cap≤9223372036854775807) (P:most≤9223372036854775807):
 aC Tryz.prog w0 12 #[.int .i64 (cap:Int),.int .i64 (most:Int)] I (fun r n=>∃K:List Nat,∃g:cz,∃b:Nat,r= .tuple #[ptr b,.int .i64 0]∧(bn K g n b (aG.empty cap most))∧(aZ [] I.size K)∧ak I n):=by
 refine aC.aK [.int .i64 (cap:Int),.int .i64 (most:Int)] Tryz.func12 ?_;intro R Q;have d:ak I I:=V.refl _ _;refine G.L (fun B=>?_);refine o.aR 2 ?_;refine B (G.t1 (fun C=>G.L (fun au=>?_)));refine o.W ?_;refine o.v1 ((bG).fC (by omega)) ?_;refine o.ax 2 ?_;refine o.an ((bG).fC (by omega)) ?_;refine o.dF ?_;refine o.nil (au ?_);refine dB ?_;refine G.skip (C (G.L (fun am=>?_)));refine o.ax 2 ?_;refine o.aO (Z.nO aI ptr rfl) fun ae ac E=>?_;obtain⟨rfl,i,q,ap,x⟩:=E;have X:ac.size=I.size+1:=by rw[x];simp
 have F:T 0 I.size (I.size+1):=T.new d.size;replace d:=d.L q;have af:=q.size;have ad:=i.lt;refine o.v1 (Y.build (v:= .agg #[.int .i64 cap,.int .i64 most,.map (some I.size),.int .i64 0,.int .i64 0,.bool false]) rfl rfl (by intro w;kernel_rfl)) ?_;refine o.aO cr fun S t H=>?_;obtain⟨rfl,k,j,ab,A⟩:=H;have aa:t.size=ac.size+1:=by rw[A];simp
 have L:T 0 I.size (ac.size+1):=T.new d.size;replace i:=i.M j;replace d:=d.L j;have W:=j.size;replace k:Var 102 t ac.size ([.int .i64 cap,.int .i64 most,.map (some I.size),.int .i64 0,.int .i64 0,.bool false]):=k;have M:=aZ.cons (F) (aZ.refl [] _);have N:=aZ.cons (L) (M);have O:=bn.new cap most k i av P (by omega);refine o.aR 2 ?_;refine am ?_;refine G.ret (Q ?_);exact⟨_,_,_,rfl,O,N,d⟩
theorem Ix(a m:Int)(w0:World)(I:Heap)
 (aA:a<0∨m<0):
 aC Tryz.prog w0 12 #[.int .i64 a,.int .i64 m] I (fun r q=>r= .tuple #[.pointer none,.int .i64 1]∧ak I q):=by
 refine aC.aK [.int .i64 a,.int .i64 m] Tryz.func12 ?_;intro x n;have k:ak I I:=V.refl _ _;refine G.L (fun ac=>?_);refine o.aR 2 ?_;refine ac (G.t2 (fun _ i=>G.L (fun j=>?_)));refine o.W ?_;refine o.v1 bG ?_;refine o.W ?_;refine o.bj (d:=8) rfl (fun g8=>?_) (fun g8=>?_)
 ·
  refine o.ax 2 ?_;refine o.v1 (Y.cast (v2:= .bool true) eh (by first|rfl|(congr 1;simp;omega))) (o.nil (j ?_));refine G.ix rfl ?_;refine G.L (fun ad=>?_);refine o.aR 2 ?_;refine ad ?_;refine G.ret (i (n ?_));exact⟨rfl,k⟩
 ·
  refine o.bU ?_;refine o.an bG ?_;refine o.v1 (Y.cast (v2:= .bool true) dI (by first|rfl|(congr 1;simp;omega))) (o.nil (j ?_));refine G.ix rfl ?_;refine G.L (fun t=>?_);refine o.aR 2 ?_;refine t ?_;refine G.ret (i (n ?_));exact⟨rfl,k⟩
theorem yc(bk:Int)(K:List Nat)(g:cz)(b:Nat)(D:aG)(p:aH)(w0:World)(I:Heap)
 (aN:dV bk I) (ag:bg (fun b=>b=0) I.size) (j:bn K g I b D) (ai:p.length≤4294967280) (ah:∀i,(b4 D.fs i).now.length≤1099511627776):
 aC Tryz.prog w0 89 #[ptr b,aI p] I (fun r E=>∃s:aM,∃k:Nat,r= .tuple #[s.v,.int .i64 (D.fw p:Int)]∧(aU k 5 E a1 1 s.v (D.cx p))∧(T 0 I.size k)∧ak I E):=by
 refine aC.aK [ptr b,aI p] Tryz.func89 ?_;intro an C;have n:ak I I:=V.refl _ _;have ad:=j.aB;refine G.L (fun O=>?_);refine o.aR 2 ?_;refine O (G.t2 (fun P Q=>G.L (fun au=>?_)));refine o.ax 2 ?_;refine o.v1 (Y.ai j.aQ.N rfl hd rfl cW) ?_;refine o.v1 (ar (j.aQ.N.drop 5) dr) (o.nil (au ?_));refine cI (fun ac=>?_) (fun ac=>?_)
 ·
  refine G.L (fun am=>?_);refine o.aR 2 ?_;refine am ?_;refine G.ret (Q (C ?_));have d:D.fw p=11:=by unfold aG.fw;rw[if_pos ac]
  have t:D.cx p=[]:=by unfold aG.cx;rw[if_neg (by rw[d];omega)]
  exact⟨⟨none,0,0⟩,0,by rw[d];rfl,by rw[t];exact aU.nil eB fH,T.refl _ _,n⟩
 ·
  refine G.skip (P (G.L (fun R=>?_)));refine o.ax 2 ?_;refine aV pT (qg bk K g b D p w0 _ aN (ag.mono (by omega)) j ai) (fun aq ay ap=>?_);obtain⟨rfl,A⟩:=ap;replace j:=j.M A;replace n:=n.L A;have az:=A.size;refine o.W ?_;refine o.v1 cN ?_;refine o.v1 cN ?_;refine o.aR 2 ?_;refine R (G.t2 (fun S W=>G.L (fun X=>?_)));refine o.W ?_;refine o.v1 c1 (o.nil (X ?_));refine aT (fun Z=>?_) (fun Z=>?_)
  ·
   refine G.L (fun aa=>?_);refine o.aR 3 ?_;refine aa ?_;refine G.ret (W (C ?_));have d:D.fw p=D.look p:=by unfold aG.fw;rw[if_neg (by simpa using ac)]
   have t:D.cx p=[]:=by unfold aG.cx;rw[if_neg (by rw[d];omega)]
   exact⟨⟨none,0,0⟩,0,by rw[d];rfl,by rw[t];exact aU.nil eB fH,T.refl _ _,n⟩
  ·
   have q:D.look p=0:=by omega
   obtain⟨i,B⟩:∃i,aL D.now p=some i:=by
    cases aj:aL D.now p with
    |some i=>exact⟨i,rfl⟩
    |none=>exfalso;unfold aG.look at q;rw[aj]at q;by_cases aA:cv p=true<;>simp[aA]at q
   obtain⟨eM,bm,fo,kw,lw,x⟩:=j.fq i (j.ids.1 p i B);refine G.skip (S (G.L (fun ab=>?_)));refine o.v1 (Y.cast (v2:=hW g.fb i) fp (by rw[if_pos q,B];rfl)) ?_;refine o.bI ?_;refine o.v1 (Y.ai x.cH.N rfl jm rfl lz) ?_;refine o.v1 (Y.ai (x.cH.N.drop 0) rfl lE rfl da) ?_;refine o.v1 (ar ((x.cH.N.drop 0).drop 0) eA) ?_;refine aV nv (mE _ (b4 D.fs i).now w0 _ x.aA.any (by have:=ah i;omega)) (fun aB aD ae=>?_);obtain⟨af,F,rfl,L,M,N⟩:=ae;have H:T 0 I.size F:=T.L (T.refl 0 _) M n.size;replace n:=n.L N;refine o.aR 2 ?_;refine ab ?_;refine G.ret (C ?_);have d:D.fw p=0:=by unfold aG.fw;rw[if_neg (by simpa using ac)];exact q
   have t:D.cx p=(b4 D.fs i).now:=by unfold aG.cx aG.dk;rw[if_pos d,B]
   exact⟨af,F,by rw[d];rfl,by rw[t];exact L,H,n⟩
end gU

namespace hi
open E Go.RowKit fz f_ gn gL gU
def il(ks dn:List aH)(w:aH→Nat):Nat:=((ks.filter (fun k=> !decide (k∈dn))).map w).sum
theorem yp(ks:List aH)(w:aH→Nat):il ks [] w=(ks.map w).sum:=by
 unfold il;rw[List.filter_eq_self.2 (fun k _=>by simp)]
theorem yo{ks dn:List aH}{w:aH→Nat}(h:∀k∈ks,k∈dn):il ks dn w=0:=by
 unfold il;rw[List.filter_eq_nil_iff.2 (fun k d=>by simp[h k d])];rfl
theorem tj{w:aH→Nat}{k:aH}{dn:List aH}(al:k∉dn):∀{ks:List aH},ks.Nodup→k∈ks→il ks dn w=w k+il ks (dn++[k]) w
 |[],_,h=>by cases h
 |x::ks,aA,h=>by
  rw[List.nodup_cons]at aA;unfold il;by_cases i:x=k
  ·subst i
   have e:(x::ks).filter (fun q=> !decide (q∈dn++[x]))=ks.filter (fun q=> !decide (q∈dn)):=by
    rw[List.filter_cons_of_neg (by simp)];refine List.filter_congr (fun q n=>?_);have:q≠x:=fun e=>aA.1 (by rw[←e];exact n);simp[this]
   rw[e,List.filter_cons_of_pos (by simp[al]),List.map_cons,List.sum_cons]
  ·have j:k∈ks:=by
    rcases List.mem_cons.1 h with e|h
    ·exact absurd e.symm i
    ·exact h
   have ih:=tj (w:=w) (dn:=dn) al aA.2 j;unfold il at ih;by_cases d:x∈dn
   ·rw[List.filter_cons_of_neg (by simp[d]),List.filter_cons_of_neg (by simp[d])];exact ih
   ·rw[List.filter_cons_of_pos (by simp[d]),List.filter_cons_of_pos (by simp[d,i]),List.map_cons,List.map_cons,List.sum_cons,List.sum_cons,ih];omega
def kM(D:aG)(d:aH):Nat:=iC D.fs (D.now.filter (fun x=>cp x.1=d))
theorem Hx(ks:List aH)(aA:ks.Nodup)(d:aH)(a:Nat):d∈ks→(ks.map (fun k=>if d=k then a else 0)).sum=a:=by
 induction ks with
 |nil=>intro h;cases h
 |cons x ks ih=>
  intro h;rw[List.nodup_cons]at aA;rw[List.map_cons,List.sum_cons];by_cases i:d=x
  ·subst i
   rw[if_pos rfl]
   have:(ks.map (fun k=>if d=k then a else 0)).sum=0:=by
    have:ks.map (fun k=>if d=k then a else 0)=ks.map (fun _=>0):=List.map_congr_left (fun k j=>if_neg (fun e=>aA.1 (by rw[e];exact j)));rw[this];clear this ih aA h
    induction ks with
    |nil=>rfl
    |cons x ks ih=>rw[List.map_cons,List.sum_cons,ih]
   omega
  ·rw[if_neg i,ih aA.2 (by
    rcases List.mem_cons.1 h with e|h
    ·exact absurd e i
    ·exact h)];omega
theorem sum_add(ks:List aH)(f g:aH→Nat):(ks.map (fun k=>f k+g k)).sum=(ks.map f).sum+(ks.map g).sum:=by
 induction ks with
 |nil=>rfl
 |cons x ks ih=>simp only[List.map_cons,List.sum_cons,ih];omega
theorem vJ(fs:List fX)(ks:List aH)(aA:ks.Nodup):∀l:dq,(∀x∈l,cp x.1∈ks)→(ks.map (fun d=>iC fs (l.filter (fun x=>cp x.1=d)))).sum=iC fs l
 |[],_=>by
  have:ks.map (fun d=>iC fs (([]:dq).filter (fun x=>cp x.1=d)))=ks.map (fun _=>0):=List.map_congr_left (fun k _=>rfl);rw[this];clear this aA;rename_i bE;clear bE
  induction ks with
  |nil=>rfl
  |cons x ks ih=>rw[List.map_cons,List.sum_cons,ih];rfl
 |x::l,h=>by
  have ih:=vJ fs ks aA l (fun y hy=>h y (List.mem_cons_of_mem _ hy))
  have e:ks.map (fun d=>iC fs ((x::l).filter (fun x=>cp x.1=d)))=ks.map (fun d=>(if cp x.1=d then(b4 fs x.2).now.length else 0)+iC fs (l.filter (fun x=>cp x.1=d))):=by
   refine List.map_congr_left (fun k _=>?_);by_cases i:cp x.1=k
   ·rw[List.filter_cons_of_pos (by simpa using i),if_pos i];simp[iC]
   ·rw[List.filter_cons_of_neg (by simpa using i),if_neg i];simp
  rw[e,sum_add,Hx ks aA _ _ (h x List.mem_cons_self),ih];simp[iC]
theorem Fj{D:aG}{b3:dq}{d:aH}(i:e_ D.now)(aA:(b3.map (·.1)).Nodup)(he:∀q,aL b3 q=if cp q=d then aL D.now q else none):((b3.map (·.1)).map (fun q=>(D.dk q).length)).sum=kM D d:=by
 have j:e_ (D.now.filter (fun x=>decide (cp x.1=d))):=i.filter _
 have k:(b3.map (·.1)).Perm ((D.now.filter (fun x=>decide (cp x.1=d))).map (·.1)):=(List.perm_ext_iff_of_nodup aA j.nodup).2 (fun q=>by
  rw[←gP,←gP,he,sG (f:=fun p=>decide (cp p=d))];by_cases h:cp q=d<;>simp[h])
 rw[(k.map _).sum_nat];unfold kM iC;rw[List.map_map];congr 1;refine List.map_congr_left (fun x n=>?_);have:=l3 i.nodup (show(x.1,x.2)∈D.now from(List.mem_filter.1 n).1);simp only[Function.comp,aG.dk,this]
theorem HX{K:List Nat}{g:cz}{H:Heap}{b:Nat}{D:aG}(i:bn K g H b D)(j:e_ D.now):((g.cJ.map (·.1)).map (kM D)).sum=D.used:=
 vJ D.fs _ i.hm.fj.nodup D.now (fun x n=>by
  have d:=l3 j.nodup (show(x.1,x.2)∈D.now from n);rw[←gP]
  cases k:aL g.cJ (cp x.1)with
  |some _=>rfl
  |none=>rw[((i.abs _ k).1 x.1 rfl).1]at d;cases d)
theorem lr{α:Type}[DecidableEq α]:∀{a b:List α},a.Nodup→(∀k∈a,k∈b)→a.length≤b.length
 |[],b,_,_=>Nat.zero_le _
 |x::a,b,aA,ao=>by
  rw[List.nodup_cons]at aA;have h:=lr (b:=b.erase x) aA.2 (fun k d=>(List.mem_erase_of_ne (fun e=>aA.1 (by rw[←e];exact d))).2 (ao k (List.mem_cons_of_mem _ d)));have i:=ao x List.mem_cons_self;rw[List.length_erase_of_mem i]at h;have:=List.length_pos_of_mem i;simp only[List.length_cons];omega
set_option maxHeartbeats 2000000 in
theorem zq(K:List Nat)(g:cz)(b:Nat)(D:aG)(w0:World)(I:Heap)
 (j:bn K g I b D) (aX:e_ D.now) (cj:D.used≤4611686018427387904):
 aC Tryz.prog w0 226 #[ptr b] I (fun r a6=>r= .int .i64 (D.used:Int)∧ak I a6):=by
 refine aC.aK [ptr b] Tryz.func226 ?_;intro bS bP;have L:ak I I:=V.refl _ _;have b5:=j.aB;refine G.L (fun bk=>?_);refine o.aj ?_;refine bk (G.L (fun bl=>?_));refine o.aj ?_;refine bl (G.t1 (fun bo=>G.L (fun bp=>?_)));refine o.ax 2 ?_;refine o.v1 (Y.ai j.aQ.N rfl hd rfl qY) ?_;refine o.v1 (ar (j.aQ.N.drop 2) pK) ?_;have A:=j.hm;have b1:=A.lt;obtain⟨es,bE,A⟩:=A.raw;refine o.aO (Z.te A rfl rf rfl) fun b0 W bq=>?_;obtain⟨rfl,it,S,bZ,ap⟩:=bq;have bV:W.size=I.size+1:=by rw[ap];simp
 have aO:ah (I.size+1) K:=ah.hn j.aB;have aQ:af (g.bH+1) (I.size+1):=af.new A.lt;have aR:T 0 I.size (I.size+1):=T.new L.size;replace j:=j.M S;replace A:=A.M S;replace L:=L.L S;have b7:=S.size;have b6:=it.lt;refine o.nil (bp (G.aB (fun _ bs _=>?_)))
 refine G.bd (fun(aN:(List aH)×(Nat))=>match aN with|(x,n)=>[(3,.int .i64 (n:Int)),(12,.pointer (some ⟨I.size,0,none⟩))])
  (fun(x,n) (H:Heap)=>(hO H I.size g.bH aI es bE x)∧(x.Nodup∧∀k∈x,k∈g.cJ.map (·.1))∧(n+il (g.cJ.map (·.1)) x (kM D)=D.used)∧V (aE [(I.size+1)]) W H)
  (fun(x,n)=>g.cJ.length-x.length) ([],0) ⟨rfl,rfl,trivial⟩ ?_ ?_
 ·
  exact⟨it,⟨List.nodup_nil,by simp⟩,by rw[yp,HX j aX];omega,V.refl _ _⟩
 rintro⟨x,n⟩ b8 bt bR bu a0;obtain⟨it,X,cn,B⟩:=bt;replace j:=j.ab B (ew.cons aO ew.nil);replace A:=A.ab B (ah.J aQ);replace L:=L.bl B (ag.J (aq.q aR));have b9:=B.size;have bw:=T.refl (I.size+1) W.size;have aB:=lr X.1 X.2;rw[List.length_map]at aB;refine G.L (fun b2=>?_);refine o.aO (Z.sW it A gr.inj rfl rfl) fun bT C a2=>?_;obtain⟨cq,d,bf,cg,rfl,it,bL,bH,N⟩:=a2;replace N:=N.bp;replace j:=j.ab N (ew.cons aO ew.nil);replace A:=A.ab N (ah.J aQ);replace L:=L.bl N (ag.J (aq.q aR));replace B:=B.aJ N (ag.J (aq.r bw));have be:=N.size;refine o.v1 (Y.r_ rfl rfl) (o.nil (b2 ?_));refine G.t2 (fun a3 a4=>?_);refine cI (fun aj=>?_) (fun aj=>?_)
 ·
  obtain⟨E,R,aK⟩:=bL aj;rw[aK]at it;have bN:=l3 A.fj.nodup E;obtain⟨bK,cV,cp,bm,b3,eD,al⟩:=j.gh _ bf bN;have bQ:=E;have bO:=R;have cl:il (g.cJ.map (·.1)) x (kM D)=kM D d+il (g.cJ.map (·.1)) (x++[d]) (kM D):=tj (w:=kM D) R A.fj.nodup (List.mem_map.2 ⟨_,E,rfl⟩);refine G.skip (a3 (G.aB (fun a5 _ _=>G.L (fun bx=>?_))));refine o.v1 (Y.r9 it A gr.inj E rfl rfl) ?_;refine o.v1 cN ?_;refine o.aj ?_;refine bx (G.L (fun bz=>?_));refine o.ax 2 ?_;refine o.v1 (Y.ai al.cP.N rfl kA rfl m4) ?_;refine o.v1 (Y.ai (al.cP.N.drop 0) rfl na rfl ly) ?_;refine o.v1 (ar ((al.cP.N.drop 0).drop 0) oq) ?_;have t:=al.aA;have au:=t.lt;obtain⟨bG,bF,t⟩:=t.raw;refine o.aO (Z.te t rfl re rfl) fun bY an a7=>?_;obtain⟨rfl,M,Q,bU,bA⟩:=a7;have bX:an.size=C.size+1:=by rw[bA];simp
  have aS:ah (C.size+1) K:=ah.hn j.aB;have aT:af (I.size+1) (C.size+1):=af.new it.lt;have aV:af (bK+1) (C.size+1):=af.new t.lt;have aW:T 0 W.size (C.size+1):=T.new B.size;replace j:=j.M Q;replace it:=it.M Q;replace t:=t.M Q;replace B:=B.bc Q;have b_:=Q.size;have am:=M.lt;refine o.nil (bz (G.aB (fun _ bC _=>?_)))
  refine G.bd (fun(aN:(List aH)×(Nat))=>match aN with|(dn,m)=>[(3,.int .i64 (m:Int)),(12,.pointer (some ⟨I.size,0,none⟩)),(22,.pointer (some ⟨C.size,0,none⟩))])
   (fun(dn,m) (H:Heap)=>(hO H C.size bK aI bG bF dn)∧(dn.Nodup∧∀k∈dn,k∈b3.map (·.1))∧(m+il (b3.map (·.1)) dn (fun q=>(D.dk q).length)+il (g.cJ.map (·.1)) (x++[d]) (kM D)=D.used)∧V (aE [(C.size+1)]) an H)
   (fun(dn,m)=>b3.length-dn.length) ([],n) ⟨rfl,rfl,rfl,trivial⟩ ?_ ?_
  ·
   exact⟨M,⟨List.nodup_nil,by simp⟩,by rw[yp,Fj aX t.fj.nodup al.gW];omega,V.refl _ _⟩
  rintro⟨dn,m⟩ ca a8 bi bD a_;obtain⟨M,aa,ae,F⟩:=a8;replace j:=j.ab F (ew.cons aS ew.nil);replace it:=it.ab F (ah.J aT);replace t:=t.ab F (ah.J aV);replace B:=B.aJ F (ag.J (aq.q aW));have cb:=F.size;have ac:=T.refl (C.size+1) an.size;have aB:=lr aa.1 aa.2;rw[List.length_map]at aB;refine G.L (fun bb=>?_);refine o.aO (Z.sW M t gr.inj rfl rfl) fun cc cd a9=>?_;obtain⟨cr,q,i,ch,rfl,M,bM,bJ,ad⟩:=a9;replace ad:=ad.bp;replace j:=j.ab ad (ew.cons aS ew.nil);replace it:=it.ab ad (ah.J aT);replace t:=t.ab ad (ah.J aV);replace B:=B.aJ ad (ag.J (aq.q aW));replace F:=F.aJ ad (ag.J (aq.r ac));have cf:=ad.size;refine o.v1 (Y.r_ rfl rfl) (o.nil (bb ?_));refine G.t2 (fun bc bd=>?_);refine cI (fun ai=>?_) (fun ai=>?_)
  ·
   obtain⟨E,R,aK⟩:=bM ai;rw[aK]at M;have P:=l3 t.fj.nodup E;rw[al.gW]at P
   have P:aL D.now q=some i:=by
    split at P
    ·exact P
    ·cases P
   obtain⟨eM,ct,fo,kw,lw,ab⟩:=j.fq i (j.ids.1 q i P);have aZ:il (b3.map (·.1)) dn (fun q=>(D.dk q).length)=(D.dk q).length+il (b3.map (·.1)) (dn++[q]) (fun q=>(D.dk q).length):=tj (w:=fun q=>(D.dk q).length) R t.fj.nodup (List.mem_map.2 ⟨_,E,rfl⟩);have a1:D.dk q=(b4 D.fs i).now:=by unfold aG.dk;rw[P]
   refine G.skip (bc (G.aB (fun bg _ _=>G.L (fun bh=>?_))));refine o.v1 (Y.r9 M t gr.inj E rfl rfl) ?_;refine o.v1 cN ?_;refine o.aj ?_;refine bh (G.region ?_);refine o.ax 3 ?_;refine o.v1 (Y.ai ab.cH.N rfl jm rfl lz) ?_;refine o.v1 (Y.ai (ab.cH.N.drop 0) rfl lE rfl da) ?_;refine o.v1 (ar ((ab.cH.N.drop 0).drop 0) eA) ?_;refine o.v1 (ba ab.aA db) ?_;refine o.v1 (Y.cast (v2:= .int .i64 ((m+(D.dk q).length:Nat):Int)) (Y.uq rfl rfl rfl (by rw[a1]at aZ;omega)) (fJ (by rw[a1];omega))) ?_;refine o.aj ?_;refine bg ?_
   have aJ:(dn++[q]).Nodup∧∀k∈dn++[q],k∈b3.map (·.1):=by
    refine⟨?_,fun k O=>?_⟩
    ·rw[List.nodup_append]
     exact⟨aa.1,by simp,fun a ay b aw e=>by simp only[List.mem_singleton]at aw;subst aw;subst e;exact R ay⟩
    ·rcases List.mem_append.1 O with h|h
     ·exact aa.2 k h
     ·rw[List.mem_singleton.1 h];exact List.mem_map.2 ⟨_,E,rfl⟩
   have aF:=lr aJ.1 aJ.2;rw[List.length_append,List.length_singleton,List.length_map]at aF;refine aP.sub (bD (dn++[q],m+(D.dk q).length) _ ?_ ?_) ⟨(aD (by omega)),rfl,rfl,trivial⟩
   ·exact⟨M,aJ,by rw[aZ,←Nat.add_assoc]at ae;exact ae,F⟩
   ·simp only[List.length_append,List.length_singleton];omega
  ·
   obtain⟨az,_⟩:=bJ ai;have aY:il (b3.map (·.1)) dn (fun q=>(D.dk q).length)=0:=yo (fun k O=>by obtain⟨p,aM,rfl⟩:=List.mem_map.1 O;exact az p aM);refine G.exit (bd (a_ (bC ?_)));refine a5 ?_
   have aA:(x++[d]).Nodup∧∀k∈x++[d],k∈g.cJ.map (·.1):=by
    refine⟨?_,fun k O=>?_⟩
    ·rw[List.nodup_append]
     exact⟨X.1,by simp,fun a ay b aw e=>by simp only[List.mem_singleton]at aw;subst aw;subst e;exact bO ay⟩
    ·rcases List.mem_append.1 O with h|h
     ·exact X.2 k h
     ·rw[List.mem_singleton.1 h];exact List.mem_map.2 ⟨_,bQ,rfl⟩
   have aF:=lr aA.1 aA.2;rw[List.length_append,List.length_singleton,List.length_map]at aF;refine aP.sub (bu (x++[d],m) _ ?_ ?_) ⟨(aD (by omega)),rfl,trivial⟩
   ·exact⟨it,aA,by rw[aY,Nat.add_zero]at ae;exact ae,B⟩
   ·simp only[List.length_append,List.length_singleton];omega
 ·
  obtain⟨az,_⟩:=bH aj;have aY:il (g.cJ.map (·.1)) x (kM D)=0:=yo (fun k O=>by obtain⟨p,aM,rfl⟩:=List.mem_map.1 O;exact az p aM);refine G.exit (a4 (a0 (bs ?_)));refine bo (G.L (fun bj=>?_));refine o.aR 2 ?_;refine bj ?_;refine G.ret (bP ?_);exact⟨by rw[show n=D.used by omega],L⟩
end hi

namespace hs
open E Go.RowKit fz f_ gn gL gU hi
set_option maxRecDepth 100000 in
theorem wP:c6 Tryz.prog 171 177 3 40:=⟨Tryz.underlying171,_,_,rfl,rfl,rfl,rfl,rfl⟩
theorem sL(K:List Nat)(g:cz)(b:Nat)(D:aG)(p:aH)(w0:World)(I:Heap)
 (d:bn K g I b D) (aK:g.cJ.length+1≤D.ops):
 aC Tryz.prog w0 222 #[ptr b,aI p] I (fun r E=>∃bq:List Nat,∃g2:cz,∃bf:Nat,r=ptr bf∧(bn bq g2 E b D)∧(aZ K I.size bq)∧(aL g2.cJ p=some bf)∧(g2.fb=g.fb)∧V (aE K) I E):=by
 refine aC.aK [ptr b,aI p] Tryz.func222 ?_;intro aP N;have i:V (aE K) I I:=V.refl _ _;have x:=aZ.refl K I.size;have a8:=d.aB;refine G.L (fun O=>?_);refine o.aj ?_;refine O (G.seq (fun bq P _=>G.region ?_));refine o.ax 2 ?_;refine o.v1 (Y.ai d.aQ.N rfl hd rfl qY) ?_;refine o.v1 (ar (d.aQ.N.drop 2) pK) ?_;refine o.W ?_;refine o.v1 (sx um d.hm.fj (fun _=>rfl) gr rfl rf Tryz.underlying9 zF rfl rfl) ?_;refine o.aj ?_;refine P _ _ (G.t1 (fun H=>G.L (fun Q=>?_)));refine o.W ?_;refine o.v1 (Y.peq rfl (by kernel_rfl) (by kernel_rfl) rfl rfl) (o.nil (Q ?_));refine cI (fun t=>?_) (fun t=>?_)
 ·
  have aO:aL g.cJ p=none:=by
   cases B:aL g.cJ p with
   |none=>rfl
   |some bf=>rw[B]at t;cases t
  refine G.L (fun R=>?_);refine o.aO (Z.nO aI (hW g.fb) rfl) fun aW j W=>?_;obtain⟨rfl,aA,A,aR,az⟩:=W;have ba:j.size=I.size+1:=by rw[az];simp
  have X:ah (I.size+1) K:=ah.hn d.aB;have aa:T 0 I.size (I.size+1):=T.new i.size;replace d:=d.M A;replace i:=i.bc A;have aX:=A.size;have au:=aA.lt;refine o.aO (Z.nO aI (hW g.fb) rfl) fun aY n ab=>?_;obtain⟨rfl,ao,ac,aS,am⟩:=ab;have bb:n.size=j.size+1:=by rw[am];simp
  have ae:ah (j.size+1) K:=ah.hn d.aB;have af:T 0 I.size (j.size+1):=T.new i.size;replace d:=d.M ac;replace aA:=aA.M ac;replace i:=i.bc ac;have a1:=ac.size;have a_:=ao.lt;refine o.v1 (Y.build (v:= .agg #[.map (some I.size),.map (some j.size)]) rfl rfl (by intro w;kernel_rfl)) ?_;refine o.v1 (Y.build (v:= .agg #[.map (some I.size),.map (some j.size),.slice none 0 0]) rfl rfl (by intro w;kernel_rfl)) ?_;refine o.aO cr fun a6 L ai=>?_;obtain⟨rfl,C,q,aT,ap⟩:=ai;have aQ:L.size=n.size+1:=by rw[ap];simp
  have aj:ah (n.size+1) K:=ah.hn d.aB;have an:T 0 I.size (n.size+1):=T.new i.size;replace d:=d.M q;replace aA:=aA.M q;replace ao:=ao.M q;replace i:=i.bc q;have a7:=q.size;replace C:Var 173 L n.size ([.map (some I.size),.map (some j.size),.slice none 0 0]):=C;refine o.aj ?_;refine R (G.region ?_);refine o.ax 2 ?_;refine o.v1 (Y.ai d.aQ.N rfl hd rfl qY) ?_;refine o.v1 (ar (d.aQ.N.drop 2) pK) ?_;refine o.ax 2 ?_;refine o.s1 (S.l8 n.size d.hm gr rfl rf Tryz.underlying9 rfl rfl rfl) fun aV aB=>?_;obtain⟨aN,ad⟩:=aB;have F:=d.ms ad (fun c e=>by rw[e,d.hB];simp);replace i:=i.aJ F (ag.cF (x) (by intro k aM;simp[aM]));have a0:=F.size;have aD:=aZ.cons (aa) (x);have aF:=aZ.cons (af) (aD);have aJ:=aZ.cons (an) (aF);replace d:=d.Fk aO C aA ao (aj) (X) (ae) (by omega) (by omega) (by omega) ad.bp aN aK;refine o.nil (H (G.L (fun aq=>?_)));refine o.aR 2 ?_;refine aq ?_;refine G.ret (N ?_);exact⟨_,_,_,rfl,d,aJ,by show aL (fK g.cJ p _) p=_;rw[kU,if_pos rfl],rfl,i⟩
 ·
  obtain⟨bf,M⟩:∃bf,aL g.cJ p=some bf:=by
   cases B:aL g.cJ p with
   |none=>rw[B]at t;cases t
   |some bf=>exact⟨bf,rfl⟩
  refine G.skip (H (G.L (fun ay=>?_)));refine o.aR 2 ?_;refine ay ?_;refine G.ret (N ?_);exact⟨K,g,bf,by rw[M];rfl,d,x,M,rfl,i⟩
set_option maxHeartbeats 2000000 in
theorem vx(K:List Nat)(g:cz)(b:Nat)(D:aG)(p:aH)(c:dL)(w0:World)(I:Heap)
 (d:bn K g I b D) (bp:g.cJ.length+1≤D.ops) (bm:c.dir=p) (an:∀i,c.f=some i→cp c.n=p∧i<D.fs.length) (bo:c.g≠[]→cp c.g=p) (bR:D.log.length≤1099511627776):
 aC Tryz.prog w0 221 #[ptr b,aI p,.agg (ia g.fb c).toArray] I (fun r aa=>∃bq:List Nat,∃g2:cz,r= .tuple #[]∧(bn bq g2 aa b (D.change c))∧(aZ K I.size bq)∧(g2.fb=g.fb)∧V (aE K) I aa):=by
 refine aC.enter (args:=[ptr b,aI p,.agg (ia g.fb c).toArray]) Tryz.func221 rfl rfl rfl ?_;intro bD bs;have n:V (aE K) I I:=V.refl _ _;have aF:=aZ.refl K I.size;have aJ:=d.aB;refine G.L (fun a7=>?_);refine o.aO cr ?_;rintro v5 az ⟨rfl,q,ai,b2,a8⟩;have bM:az.size=I.size+1:=by rw[a8];simp
 have aA:ah (I.size+1) K:=ah.hn d.aB;replace d:=d.M ai;replace n:=n.bc ai;have a2:=ai.size;replace q:Var 177 az I.size (ia g.fb c):=q;refine o.nil (a7 (G.seq (fun bq a_ _=>G.region ?_)));refine o.ax 2 ?_;refine aV rW (sL K g b D p w0 _ d bp) (fun v9 bC bx=>?_);have ba:=q.lt;obtain⟨L,g9,bf,rfl,d,am,X,aB,aj⟩:=bx;have aD:ah (I.size+1) L:=ah.hk (aA) ba am;have W:aZ K I.size L:=aZ.L (aF) am n.size;replace q:=q.ab aj (aA);replace n:=n.aJ aj (ag.cF (aF) (by intro k E;simp[E]));have a3:=aj.size;have aJ:=d.aB;rw[←aB]at q;refine o.aj ?_;refine a_ _ _ (G.t1 (fun bb=>?_));obtain⟨bu,bV,bT,b0,aO,bX,N⟩:=d.gh _ bf X;refine iV 6 (fun bE bl=>?_);refine o.ax 2 ?_;refine o.v1 (Y.ai N.cP.N rfl kA rfl m4) ?_;refine o.v1 (Y.ai (N.cP.N.drop 0) rfl na rfl ly) ?_;refine o.v1 (ar ((N.cP.N.drop 0).drop 0) oq) ?_;refine o.v1 (aW q.N uf yB (rfl)) ?_;refine o.nil (bl _ ?_);refine aV B_ ((F4 g9.fb bu aO c w0 _ N.aA).mono (fun r aa h=>d.put X N h.2 h.1 (ES c aO) (fun i Z=>⟨(an i Z).1,(an i Z).2⟩) bo)) (fun a4 ad bc=>?_);obtain⟨d,ae⟩:=bc;replace q:=q.ab ae (aD);replace n:=n.aJ ae (ag.cF (W) (by intro k E;simp[E]));have a5:=ae.size;have aJ:=d.aB;refine o.nil (bb ?_);obtain⟨bw,bz,j,bA,bU,bY,C⟩:=d.gh _ bf X;have bS:(D.hH p).length≤D.log.length:=List.length_filter_le _ _;have t:V (aE [(bf+1),j]) ad ad:=V.refl _ _;have bt:gK L (bf+1):=(d.nI C.rd (by simp));have cP:=C.cP;have bP:=cP.lt;have bd:aq K I.size (bf+1):=ag.at (ag.cF (W) (by intro k E;simp[E])) bt;have bj:=T.refl (bf+1) ad.size;have ay:gK L j:=(d.mT C.rc (by simp));have av:=(show aU j 177 _ (ia g9.fb) 3 bA.v (D.hH p)from C.av);have au:=av.le;have bk:af (I.size+1) j:=ah.at (aD) ay;have aP:aq K I.size j:=ag.at (ag.cF (W) (by intro k E;simp[E])) ay;have aK:=T.refl j ad.size;have S:af (bf+1) j:=fun x bQ U=>by have aN:=C.rc x U;rw[show x=bf by omega,C.rd]at aN;cases aN
 refine dC (fun R=>V (aE [j]) ad R) [8,9,10] ?_;have ac:V (aE [j]) ad ad:=V.refl _ _;have aQ:=T.refl j ad.size;refine O.W 0 rfl ac ?_;refine O.W 1 rfl ac ?_;refine O.bI 2 rfl ac ?_;refine O.t1 3 rfl (fun R P=>Y.fieldAddr (cP.ab P (ah.J S)).N rfl kA rfl rfl m5 (by decide) rfl) ac ?_;refine O.t1 4 rfl (fun R P=>ar ((cP.ab P (ah.J S)).N.drop 2) zP) ac ?_;refine O.t1 5 rfl (fun R P=>Y.nM (q.ab P (ah.J bk)).N rfl uf yB (rfl) rfl) ac ?_;refine O.aY 6 ?_;refine ep rfl (cU _ ([c]) wP (p_ _) (qa _) (rfl)) (fun bF B bg=>?_);obtain⟨aR,H,bN,aS⟩:=bg;have bJ:B.size=ad.size+1:=by rw[aS];simp
 have aT:T 0 ad.size (ad.size+1):=T.new ac.size;replace cP:=cP.M H;replace av:=av.M H;replace n:=n.bc H;replace t:=t.bc H;replace ac:=ac.bc H;have bG:=H.size;refine O.b3 ac (ag.cons (aq.r aQ) (ag.J (aq.q aT))) ?_;have ac:V (aE [j,(ad.size+1)]) B B:=V.refl _ _;have ap:=T.refl j B.size;have aX:=T.refl (ad.size+1) B.size;refine O.aY 7 ?_;refine ep rfl (dO av aR.rd wP (by first|omega|(simp;omega)) (by first|omega|(simp;omega))) (fun ab bO a0=>?_);obtain⟨Q,av,M,A⟩:=a0;replace M:T j B.size Q:=M;replace A:=A.md;have aY:af (bf+1) Q:=af.app (S) cP.lt M;have aL:T j ad.size Q:=T.L (aK) M t.size;have a1:T j B.size Q:=T.L (ap) M ac.size;replace cP:=cP.ab A (ah.J S);replace n:=n.aJ A (ag.cons (aP) ag.nil);replace t:=t.aJ A (ag.J (aq.r aK));replace ac:=ac.aJ A (ag.J (aq.r ap));have bH:=A.size;have au:=av.le;refine O.b3 ac (ag.cons (aq.r a1) (ag.J (aq.r aX))) ?_;refine O.aY 8 ?_;refine hg rfl (Y.nilCheck rfl rfl) (.inl rfl) ?_;refine O.aY 9 ?_;refine hg rfl (Y.ai cP.N rfl kA rfl m5) (.inl rfl) ?_;refine O.aY 10 ?_;refine gJ rfl (dh cP 2 ([.map (some bw),.map (some bz),ab]) (av.rd.o8) m5 (by simp) (rfl)) (fun bL bh=>?_);obtain⟨cP,F⟩:=bh;replace F:=F.bp;replace av:=av.ab F (ah.J aY.symm);replace n:=n.aJ F (ag.cons (bd) ag.nil);replace t:=t.aJ F (ag.J (aq.r bj));have a9:=F.size;refine⟨.inl rfl,?_⟩;refine cD ?_;obtain⟨bZ,rfl⟩:∃s:aM,ab=s.v:=⟨cg ab,av.bm.symm⟩;have a6:aZ K I.size (Q::L):=(aZ.app (W) (ay) (aL) (by omega));replace d:=d.note X C t cP av (aL) bm (fun i Z=>(an i Z).2);refine bs .normal (.inl rfl) _ _ _ (iQ rfl) ?_;exact⟨_,_,rfl,d,a6,aB,n⟩
end hs

namespace hD
open E Go.RowKit fz f_ gn gL gU hi hs
set_option maxRecDepth 100000 in
theorem qp:c6 Tryz.prog 184 275 2 32:=⟨Tryz.underlying184,_,_,rfl,rfl,rfl,rfl,rfl⟩
structure gw (n:Nat) (D:aG):Prop where
 aj:e_ D.now
 kk:e_ D.stays
 us:D.used≤2305843009213693952
 dJ:D.log.length≤n
 op:D.ops≤n
 M:∀i,(b4 D.fs i).now.length≤n
 po:∀i,(b4 D.fs i).stays.length≤n
 w:∀i,(b4 D.fs i).w.length≤n
 wd:∀i,∀y∈(b4 D.fs i).w,y.d.length≤n
 nl:D.now.length≤n
 iq:D.stays.length≤n
 fB:D.fs.length≤n
 dF:∀i j,(lu ((b4 D.fs i).w.take j) (b4 D.fs i).stays).length≤n
 kS:∀c∈D.log,∀i,c.f=some i→cp c.n=c.dir
theorem uG(D:aG):D.begin.2.cap=D.cap∧D.begin.2.most=D.most∧D.begin.2.fs=D.fs∧D.begin.2.now=D.now∧D.begin.2.stays=D.stays∧D.begin.2.log=D.log∧D.begin.2.ops≤D.ops+1:=by
 unfold aG.begin;split
 ·exact⟨rfl,rfl,rfl,rfl,rfl,rfl,Nat.le_succ _⟩
 ·split
  ·exact⟨rfl,rfl,rfl,rfl,rfl,rfl,Nat.le_succ _⟩
  ·exact⟨rfl,rfl,rfl,rfl,rfl,rfl,Nat.le_refl _⟩
theorem pQ{D:aG}(h:D.begin.1=true):D.begin.2.ops=D.ops+1∧D.begin.2.dead=false:=by
 unfold aG.begin at h⊢;split at h
 ·cases h
 ·rename_i d
  split at h
  ·cases h
  ·rename_i U
   rw[if_neg d,if_neg U];exact⟨rfl,by simpa using d⟩
theorem gw.mono{n m:Nat}{D:aG}(h:gw n D)(hm:n≤m):gw m D:=⟨h.aj,h.kk,h.us,Nat.le_trans h.dJ hm,Nat.le_trans h.op hm,fun i=>Nat.le_trans (h.M i) hm,fun i=>Nat.le_trans (h.po i) hm,fun i=>Nat.le_trans (h.w i) hm,fun i y hy=>Nat.le_trans (h.wd i y hy) hm,Nat.le_trans h.nl hm,Nat.le_trans h.iq hm,Nat.le_trans h.fB hm,fun i j=>Nat.le_trans (h.dF i j) hm,h.kS⟩
theorem gw.begin{n:Nat}{D:aG}(h:gw n D):gw (n+1) D.begin.2:=by
 obtain⟨aK,o,d,i,j,k,q⟩:=uG D;have h:=h.mono (Nat.le_succ n);exact⟨by rw[i];exact h.aj,by rw[j];exact h.kk,by unfold aG.used;rw[d,i];exact h.us,by rw[k];exact h.dJ,by have:=gw.op ‹gw n D›;omega,by rw[d];exact h.M,by rw[d];exact h.po,by rw[d];exact h.w,by rw[d];exact h.wd,by rw[i];exact h.nl,by rw[j];exact h.iq,by rw[d];exact h.fB,by rw[d];exact h.dF,by rw[k];exact h.kS⟩
theorem qx{D:aG}{p:aH}(h:D.look p=0):cv p=true∧∃i,aL D.now p=some i:=by
 unfold aG.look at h
 cases aA:cv p with
 |false=>rw[aA]at h;simp at h
 |true=>
  rw[aA]at h
  cases d:aL D.now p with
  |none=>rw[d]at h;simp at h
  |some i=>exact⟨rfl,i,rfl⟩
theorem EB{D:aG}{p:aH}(h:D.look p=2):cv p=true∧aL D.now p=none:=by
 unfold aG.look at h
 cases aA:cv p with
 |false=>rw[aA]at h;simp at h
 |true=>
  rw[aA]at h
  cases d:aL D.now p with
  |none=>exact⟨rfl,rfl⟩
  |some i=>rw[d]at h;simp at h
theorem EC{D:aG}{p:aH}(h:D.look p=7):cv p=false:=by
 unfold aG.look at h
 cases aA:cv p with
 |false=>rfl
 |true=>
  rw[aA]at h
  cases d:aL D.now p with
  |none=>rw[d]at h;simp at h
  |some i=>rw[d]at h;simp at h
theorem ED(D:aG)(p:aH):D.look p=0∨D.look p=2∨D.look p=7:=by
 unfold aG.look;split
 ·split
  ·exact .inl rfl
  ·exact .inr (.inl rfl)
 ·exact .inr (.inr rfl)
theorem nV(w:dW)(b:List UInt8):(w.on b w.d.length).length=(if w.b=true then b.length else 0)+w.d.length:=by
 unfold dW.on;rw[List.length_append,List.length_take,Nat.min_self];split<;>rfl
theorem oL{D:aG}{i:Nat}{x:fX}(h:i<D.fs.length):b4 (D.fu i x).fs i=x:=by simp[b4,aG.fu,List.getD,h]
theorem sc{D:aG}{i:Nat}{x:fX}:(D.fu i x).fs.length=D.fs.length:=by simp[aG.fu]
theorem x_{D:aG}{i:Nat}{x y:fX}:(D.fu i x).fu i y=D.fu i y:=by simp[aG.fu]
theorem Ea{D:aG}{p:aH}{w:dW}(h:D.begin.1=false):D.lay p w=(11,D.begin.2):=by unfold aG.lay;simp[h]
theorem qv{D:aG}{p:aH}{w:dW}(h:D.begin.1=true):D.lay p w=(D.begin.2.hJ p w,if D.begin.2.hJ p w=0 then D.begin.2.write p w else D.begin.2):=by unfold aG.lay;simp[h]
theorem D9{D:aG}{p:aH}{w:dW}(h:cv p=false):D.hJ p w=7:=by unfold aG.hJ;rw[if_pos h]
theorem ss{D:aG}{p:aH}{w:dW}(h:cv p=true)(U:D.most<(w.on (D.dk p) w.d.length).length):D.hJ p w=5:=by unfold aG.hJ;rw[if_neg (by simp[h]),if_pos U]
theorem qu{D:aG}{p:aH}{w:dW}(h:cv p=true)(U:¬D.most<(w.on (D.dk p) w.d.length).length)(d:D.cap+(D.dk p).length<D.used+(w.on (D.dk p) w.d.length).length):D.hJ p w=12:=by unfold aG.hJ;rw[if_neg (by simp[h]),if_neg U,if_pos d]
theorem oS{D:aG}{p:aH}{w:dW}(h:cv p=true)(U:¬D.most<(w.on (D.dk p) w.d.length).length)(d:¬D.cap+(D.dk p).length<D.used+(w.on (D.dk p) w.d.length).length):D.hJ p w=0:=by unfold aG.hJ;rw[if_neg (by simp[h]),if_neg U,if_neg d]
theorem zr{D:aG}{p:aH}{i:Nat}(h:aL D.now p=some i):D.dk p=(b4 D.fs i).now:=by unfold aG.dk;rw[h]
theorem H4{D:aG}{p:aH}(h:aL D.now p=none):D.dk p=[]:=by unfold aG.dk;rw[h]
theorem zD{D:aG}{p:aH}{i:Nat}{w:dW}(h:aL D.now p=some i)(d:i<D.fs.length):
 (D.fu i ⟨w.on (D.dk p) w.d.length,(b4 D.fs i).stays,(b4 D.fs i).w⟩).fu i ⟨(b4 (D.fu i ⟨w.on (D.dk p) w.d.length,(b4 D.fs i).stays,(b4 D.fs i).w⟩).fs i).now,(b4 (D.fu i ⟨w.on (D.dk p) w.d.length,(b4 D.fs i).stays,(b4 D.fs i).w⟩).fs i).stays,(b4 (D.fu i ⟨w.on (D.dk p) w.d.length,(b4 D.fs i).stays,(b4 D.fs i).w⟩).fs i).w++[w]⟩=D.write p w:=by
 rw[oL d,x_,zr h];unfold aG.write aG.make;rw[h]
def gE(D:aG)(p:aH):aG:=({D with fs:=D.fs++[⟨[],[],[]⟩]}:aG).change ⟨[],p,some D.fs.length⟩
theorem xl(D:aG)(p:aH):b4 (gE D p).fs D.fs.length=⟨[],[],[]⟩:=by simp[gE,aG.change,b4,List.getD]
theorem xm(D:aG)(p:aH):D.fs.length<(gE D p).fs.length:=by simp[gE,aG.change]
theorem zC{D:aG}{p:aH}{w:dW}(h:aL D.now p=none):
 ((gE D p).fu D.fs.length ⟨w.on (b4 (gE D p).fs D.fs.length).now w.d.length,(b4 (gE D p).fs D.fs.length).stays,(b4 (gE D p).fs D.fs.length).w⟩).fu D.fs.length ⟨(b4 ((gE D p).fu D.fs.length ⟨w.on (b4 (gE D p).fs D.fs.length).now w.d.length,(b4 (gE D p).fs D.fs.length).stays,(b4 (gE D p).fs D.fs.length).w⟩).fs D.fs.length).now,(b4 ((gE D p).fu D.fs.length ⟨w.on (b4 (gE D p).fs D.fs.length).now w.d.length,(b4 (gE D p).fs D.fs.length).stays,(b4 (gE D p).fs D.fs.length).w⟩).fs D.fs.length).stays,(b4 ((gE D p).fu D.fs.length ⟨w.on (b4 (gE D p).fs D.fs.length).now w.d.length,(b4 (gE D p).fs D.fs.length).stays,(b4 (gE D p).fs D.fs.length).w⟩).fs D.fs.length).w++[w]⟩=D.write p w:=by
 rw[oL (xm D p),x_];unfold aG.write aG.make;rw[h];rfl
set_option maxHeartbeats 1000000 in
theorem w1(bk:Int)(K:List Nat)(g:cz)(b:Nat)(D:aG)(p:aH)(x:lN)(F:Nat→Prop)(w0:World)(I:Heap)
 (d:bn K g I b D) (aN:dV bk I) (c1:bg (fun b=>b=0) I.size) (di:az (fun b=>b=0) K) (al:Rd F I a1 1 x.2.v x.1.d) (eu:bg F I.size) (dp:az F K) (dw:p.length≤4294967280) (dq:gw 274877906944 D) (gS:x.1.d.length≤274877906944):
 aC Tryz.prog w0 185 #[ptr b,aI p,n4 x] I (fun r cP=>∃bq:List Nat,∃g2:cz,r= .int .i64 ((D.lay p x.1).1:Int)∧(bn bq g2 cP b (D.lay p x.1).2)∧(aZ K I.size bq)∧V (aE K) I cP):=by
 refine aC.aK [ptr b,aI p,n4 x] Tryz.func185 ?_;intro gj bc;have n:V (aE K) I I:=V.refl _ _;have aX:=aZ.refl K I.size;have bu:=d.aB;have gU:=dq.op;have gT:=d.iy;obtain⟨B,bG⟩:∃B,B=D.begin.2:=⟨_,rfl⟩;have bb:=dq.begin;rw[←bG]at bb;refine G.L (fun bf=>?_);refine o.aO cr ?_;rintro v5 cQ ⟨rfl,q,bA,gG,ee⟩;have dd:cQ.size=I.size+1:=by rw[ee];simp
 have bT:ah (I.size+1) K:=ah.hn d.aB;have dm:T 0 I.size (I.size+1):=T.new n.size;replace d:=d.M bA;replace aN:=aN.M bA;replace al:=al.M bA;replace n:=n.bc bA;have gH:=bA.size;replace q:Var 275 cQ I.size (lV x):=q;refine o.aj ?_;refine bf (G.seq (fun bq fG gO=>G.L (fun fH=>?_)));refine o.W ?_;refine aV pU (pP K g b D w0 _ d (by omega)) (fun gI d0 fI=>?_);obtain⟨g1,rfl,d,fJ,bx⟩:=fI;replace aN:=aN.ab bx (di);replace al:=al.ab bx (dp);replace q:=q.ab bx (bT);replace n:=n.aJ bx (ag.cF (aX) (by intro k aj;simp[aj]));have d1:=bx.size;rw[←bG]at d;refine o.v1 eI (o.nil (fH ?_));refine cI (fun ca=>?_) (fun ca=>?_)
 ·
  refine G.L (fun fK=>?_);refine o.aj ?_;refine fK ?_;refine G.ret (gO .ret nofun _ _ (bc ?_));have dt:=Ea (p:=p) (w:=x.1) (show D.begin.1=false by simpa using ca);exact⟨_,_,by rw[dt];rfl,by rw[dt];rw[bG]at d;exact d,aX,n⟩
 ·
  have dv:D.begin.1=true:=by simpa using ca
  have fY:=(pQ dv).1;rw[←bG]at fY;have dx:=ED B p;have an:=qv (p:=p) (w:=x.1) dv;rw[←bG]at an;refine G.skip (fG _ _ (G.L (fun fL=>?_)));refine o.ax 2 ?_;refine aV pT (qg bk K g1 b B p w0 _ aN (c1.mono (by omega)) d dw) (fun d2 S dl=>?_);obtain⟨rfl,bp⟩:=dl;replace d:=d.M bp;replace aN:=aN.M bp;replace al:=al.M bp;replace q:=q.M bp;replace n:=n.bc bp;have d3:=bp.size;refine o.W ?_;refine o.v1 cN ?_;refine o.v1 cN ?_;refine o.aR 2 ?_;refine fL (G.t2 (fun dn fM=>G.L (fun fN=>?_)));refine o.W ?_;refine o.v1 b9 (o.nil (fN ?_));refine aT (fun gb=>?_) (fun gb=>?_)
  ·
   refine G.L (fun ds=>?_);refine o.aR 2 ?_;refine ds ?_;refine G.ret (fM (bc ?_));have aA:B.hJ p x.1=7:=D9 (EC (D:=B) (by omega));exact⟨_,_,by rw[an,aA];rw[show B.look p=7 by omega];rfl,by rw[an];simp only[aA];exact d,aX,n⟩
  ·
   refine G.skip (dn (G.L (fun fO=>?_)));refine o.aj ?_;refine fO (G.t1 (fun be=>G.L (fun ej=>?_)));refine o.W ?_;refine o.v1 (Y.peq rfl (by kernel_rfl) (by kernel_rfl) rfl rfl) (o.nil (ej ?_));refine cI (fun bY=>?_) (fun bY=>?_)
   ·
    have bH:B.look p=2:=by
     rcases dx with h|h|h
     ·obtain⟨_,i,cu⟩:=qx h
      rw[if_pos h,cu]at bY;cases bY
     ·exact h
     ·omega
    obtain⟨bm,aY⟩:=EB bH;have Z:=H4 aY;have gV:(B.dk p).length=0:=by rw[Z];rfl
    refine G.region ?_;refine o.v1 (Y.build (v:= .agg #[.slice none 0 0,.slice none 0 0,.slice none 0 0]) rfl rfl (by intro w;kernel_rfl)) ?_;refine o.aO cr fun d4 bC fP=>?_;obtain⟨rfl,cH,bs,gN,ek⟩:=fP;have gM:bC.size=S.size+1:=by rw[ek];simp
    have fQ:ah (S.size+1) K:=ah.hn d.aB;have fR:=(ay.new (eu.mono n.size):ay _ (S.size+1));have fS:af (I.size+1) (S.size+1):=af.new q.lt;have fT:T 0 I.size (S.size+1):=T.new n.size;replace d:=d.M bs;replace aN:=aN.M bs;replace al:=al.M bs;replace q:=q.M bs;replace n:=n.bc bs;have d5:=bs.size;replace cH:Var 186 bC S.size ([.slice none 0 0,.slice none 0 0,.slice none 0 0]):=cH;refine o.aj ?_;refine be (G.L (fun en=>?_));refine o.v1 (Y.ai q.N rfl kc rfl da) ?_;refine o.v1 (ar (q.N.drop 1) eA) ?_;refine o.v1 (ba al db) ?_;refine o.aj ?_;refine en ?_
    refine G.cut (fun(sz:(Nat))=>[(0,ptr b),(1,aI p),(5,.pointer (some ⟨I.size,0,none⟩)),(7,ptr S.size),(8,.int .i64 (B.look p:Int)),(9,.int .i64 (0)),(10,.int .i64 (sz:Int))])
     (fun(sz:(Nat)) (H:Heap)=>(sz=(x.1.on (B.dk p) x.1.d.length).length)∧((B.dk p).length≤274877906945)∧ak bC H) (fun _ c2 _=>?_) ?_
    ·
     have cS:ak bC bC:=V.refl _ _;refine G.L (fun eo=>?_);refine o.v1 (Y.ai q.N rfl kc rfl cW) ?_;refine o.v1 (ar q.N dr) (o.nil (eo ?_));refine cI (fun a4=>?_) (fun a4=>?_)
     ·
      refine G.region ?_;refine o.ax 2 ?_;refine o.v1 bD ?_;refine o.aj ?_;refine aP.sub (c2 ((B.dk p).length+x.1.d.length) _ ?_) ⟨rfl,rfl,rfl,rfl,(aD (by omega)),(aD (by omega)),(aD (by omega)),trivial⟩;exact⟨by rw[nV,if_pos a4],by first|(rw[Z];omega)|(rw[Z];simp),cS⟩
     ·
      refine G.skip ?_;refine aP.sub (c2 x.1.d.length _ ?_) ⟨rfl,rfl,rfl,rfl,(aD (by omega)),(aD (by omega)),(aD (by omega)),trivial⟩;exact⟨by rw[nV,if_neg (by simpa using a4)];omega,by first|(rw[Z];omega)|(rw[Z];simp),cS⟩
    ·
     intro sz bz b6;obtain⟨cw,gd,aB⟩:=b6;replace d:=d.M aB;replace aN:=aN.M aB;replace al:=al.M aB;replace q:=q.M aB;replace cH:=cH.M aB;replace n:=n.bc aB;have d6:=aB.size;have ga:=bb.us;have f_:sz≤274877906945+274877906944:=by rw[cw,nV];split<;>omega
     refine G.t2 (fun dF c3=>G.aB (fun dG _ c5=>G.L (fun dH=>?_)));refine o.ax 3 ?_;refine o.v1 (Y.ai d.aQ.N rfl hd rfl b1) ?_;refine o.v1 (ar (d.aQ.N.drop 1) cd) ?_;refine o.v1 eT ?_;refine o.aj ?_;refine dH ?_;refine aT (fun b7=>?_) (fun b7=>?_)
     ·
      refine G.L (fun dI=>?_);refine o.aj ?_;refine dI ?_;refine G.ret (c5 (c3 (bc ?_)));have aA:B.hJ p x.1=5:=ss bm (by omega);exact⟨_,_,by rw[an,aA];rfl,by rw[an];simp only[aA];exact d,aX,n⟩
     ·
      refine G.t1 (fun dJ=>?_);refine dC (fun t=>ak bz t) [] ?_;have X:=ak.refl bz;refine O.W 0 rfl X ?_;refine O.W 2 rfl X ?_;refine O.W 4 rfl X ?_;refine O.W 6 rfl X ?_;refine O.bI 7 rfl X ?_;refine O.t1 8 rfl (fun t j=>Y.ai (d.aQ.N.M j) rfl hd rfl b1) X ?_;refine O.t1 9 rfl (fun t j=>ar ((d.aQ.N.drop 0).M j) cd) X ?_;refine O.aY 1 ?_;refine ch vf (zq _ _ b B w0 _ d bb.aj (by omega)) (fun fu cb b8=>?_);obtain⟨rfl,am⟩:=b8;replace d:=d.M am;replace aN:=aN.M am;replace al:=al.M am;replace q:=q.M am;replace cH:=cH.M am;replace n:=n.bc am;have d7:=am.size;have bZ:=X.L am;refine O.cn bZ ?_;have aS:=ak.refl cb;refine O.t1 3 rfl (fun t j=>fE) aS ?_;refine O.t1 5 rfl (fun t j=>bD) aS ?_;refine O.t1 10 rfl (fun t j=>eT) aS ?_;refine O.t1 11 rfl (fun t j=>ev) aS ?_;refine cD ?_;have fZ:=aS;refine dJ ?_;refine aT (fun b_=>?_) (fun b_=>?_)
      ·
       refine G.L (fun dK=>?_);refine o.aj ?_;refine dK ?_;refine G.ret (c5 (c3 (bc ?_)));have aA:B.hJ p x.1=12:=qu bm (by omega) (by omega);exact⟨_,_,by rw[an,aA];rfl,by rw[an];simp only[aA];exact d,aX,n⟩
      ·
       refine G.skip (dG (dF (G.t1 (fun dM=>G.L (fun er=>?_)))));refine o.W ?_;refine o.v1 b9 (o.nil (er ?_));refine aT (fun cj=>?_) (fun cj=>?_)
       ·
        have fV:=d.len;refine G.region ?_;refine o.ax 2 ?_;refine aV nu (nw bk p w0 _ aN (c1.mono (by omega)) dw) (fun d8 d9 fy=>?_);obtain⟨rfl,bt⟩:=fy;replace d:=d.M bt;replace al:=al.M bt;replace q:=q.M bt;replace cH:=cH.M bt;replace n:=n.bc bt;have gL:=bt.size;refine o.ax 2 ?_;refine o.v1 (Y.cast (v2:= .agg (ia (g1.fb++[S.size]) ⟨[],p,some B.fs.length⟩).toArray) (Y.build (v:= .agg #[aI [],aI p,ptr S.size]) rfl rfl (by intro w;kernel_rfl)) (by simp[ia,ln,List.getD,←d.len])) ?_;have fc:=az.cons (fR) (dp);have c6:ah (I.size+1) ((S.size+1)::K):=ah.cons (fS) (bT);have c_:=aZ.cons (fT) (aX);replace d:=d.Fl cH (fQ);have bu:=d.aB;refine aV ve (vx ((S.size+1)::K) {g1 with ρ:=fx g1.ρ S.size (.fq B.fs.length),fb:=g1.fb++[S.size]} b {B with fs:=B.fs++[⟨[],[],[]⟩]} (cp p) ⟨[],p,some B.fs.length⟩ w0 _ d (by show g1.cJ.length+1≤B.ops;rw[fJ.2.2.2];omega) (by simp[dL.dir]) (fun i cu=>by cases cu;exact⟨rfl,by simp⟩) (fun h=>absurd rfl h) (by have:=bb.dJ;show B.log.length≤_;omega)) (fun gP fz fA=>?_);have fe:=q.lt;obtain⟨aR,cl,rfl,d,cT,ce,bL⟩:=fA;have a5:ah (I.size+1) aR:=ah.hk (c6) fe cT;have dc:aZ K I.size aR:=aZ.L (c_) cT n.size;replace al:=al.ab bL (fc);replace q:=q.ab bL (c6);replace n:=n.aJ bL (ag.cF (c_) (by intro k aj;simp[aj]));have gQ:=bL.size;have bu:=d.aB;obtain⟨i,bw⟩:∃i,i=B.fs.length:=⟨_,rfl⟩;have aQ:i<(gE B p).fs.length:=by rw[bw];exact xm B p
        have fU:cl.fb.getD i 0=S.size:=by rw[ce,bw];simp[List.getD,←fV]
        obtain⟨bi,ae,a8⟩:∃bi,cl.fb.getD i 0=bi∧ptr S.size=ptr bi:=⟨_,fU,rfl⟩;have cv:(b4 (gE B p).fs i).now=B.dk p:=by rw[bw,xl,Z]
        have cy:(b4 (gE B p).fs i).w.length≤274877906945:=by rw[bw,xl];simp
        replace d:bn aR cl fz b (gE B p):=d;refine o.nil (dM (G.L (fun ff=>?_)));refine o.v1 (Y.ai q.N rfl kc rfl da) ?_;refine o.v1 (ar (q.N.drop 1) eA) ?_;refine aV nv (mE _ x.1.d w0 _ al.any (by omega)) (fun fB fC cn=>?_);obtain⟨bd,R,rfl,C,bh,a7⟩:=cn;have de:ah R aR:=ah.ow (ah.kd) d.aB bh;have dX:af (I.size+1) R:=af.app (af.z) q.lt bh;have ci:T 0 I.size R:=T.L (T.refl 0 _) bh n.size;replace d:=d.M a7;replace q:=q.M a7;replace n:=n.bc a7;have gR:=a7.size;have dB:=C.le;refine o.v1 (Y.ai q.N rfl kc rfl da) ?_;refine o.s1 (dh q 1 ([.bool x.1.b,bd.v]) (rfl) da (by simp) (rfl)) fun W b0=>?_;obtain⟨q,aF⟩:=b0;replace aF:=aF.bp;replace d:=d.ab aF (ew.cons a5 ew.nil);replace C:=C.ab aF (ah.J dX.symm);replace n:=n.aJ aF (ag.J (aq.q dm));have gk:=aF.size;refine o.nil (ff (G.t1 (fun fg=>?_)));obtain⟨cJ,cL,cO,gf,gg,a_⟩:=d.fq i aQ;have M:V (aE [(bi+1)]) W W:=V.refl _ _;have cB:gK aR (bi+1):=(d.oR a_ ae);have A:=a_.oy ae;have bS:=A.lt;have fh:af (I.size+1) (bi+1):=ah.at (a5) cB;have fi:af R (bi+1):=ah.at (de) cB;have fj:aq K I.size (bi+1):=ag.at (ag.cF (dc) (by intro k aj;simp[aj])) cB;have fk:=T.refl (bi+1) W.size;refine dC (fun t=>ak W t) [11,12,13,14] ?_;have L:ak W W:=V.refl _ _;refine O.t1 0 rfl (fun t j=>Y.cast (v2:=ptr bi) fp (a8)) L ?_;refine O.t1 1 rfl (fun t j=>aW (q.N.M j) pH qW (rfl)) L ?_;refine O.t1 2 rfl (fun t j=>Y.cast (v2:=ptr bi) fp (a8)) L ?_;refine O.bI 3 rfl L ?_;refine O.t1 4 rfl (fun t j=>Y.ai (A.N.M j) rfl jm rfl lz) L ?_;refine O.t1 5 rfl (fun t j=>Y.ai (A.N.M j) rfl lE rfl da) L ?_;refine O.t1 6 rfl (fun t j=>ar (A.N.M j) eA) L ?_;refine O.t1 7 rfl (fun t j=>Y.ai (q.N.M j) rfl kc rfl da) L ?_;refine O.t1 8 rfl (fun t j=>ar ((q.N.drop 1).M j) eA) L ?_;refine O.t1 9 rfl (fun t j=>ba (C.rd.M j) db) L ?_;refine O.aY 10 ?_;refine ch u4 (xP (x.1,bd) cJ _ x.1.d.length w0 _ C.rd.any a_.aA.any (Nat.le_refl _) (by rw[cv];omega)) (fun fD co cq=>?_);obtain⟨ct,Q,rfl,a6,aJ,ab⟩:=cq;have fl:af (I.size+1) Q:=af.app (af.z) q.lt aJ;have cs:af R Q:=af.app (af.z) C.le aJ;have fm:af (bi+1) Q:=af.app (af.z) A.lt aJ;have bo:T 0 I.size Q:=T.L (T.refl 0 _) aJ n.size;have dA:T 0 W.size Q:=T.L (T.refl 0 _) aJ M.size;have fo:T 0 W.size Q:=T.L (T.refl 0 _) aJ L.size;replace q:=q.M ab;replace C:=C.M ab;replace A:=A.M ab;replace n:=n.bc ab;replace M:=M.bc ab;replace L:=L.L ab;have gl:=ab.size;have dD:=a6.le;refine⟨.inr L,O.narrow (SH2:=fun t=>V (aE [Q]) co t) (fun t j=>(V.aJ (ks:=[]) (L.j1 []) j (ag.J (aq.q fo))).nil) ?_⟩;refine O.aY 11 ?_;refine hg rfl (Y.nilCheck rfl rfl) (.inl rfl) ?_;refine O.aY 12 ?_;refine hg rfl (Y.ai A.N rfl jm rfl lz) (.inl rfl) ?_;refine O.aY 13 ?_;refine hg rfl (Y.ai A.N rfl lE rfl da) (.inl rfl) ?_;refine O.aY 14 ?_;refine gJ rfl (dh A 0 ([ct.v,cL.v,cO.v]) (rfl) da (by simp) (rfl)) (fun P bU=>?_);obtain⟨A,ac⟩:=bU;replace ac:=ac.bp;replace q:=q.ab ac (ah.J fh);replace C:=C.ab ac (ah.J fi);replace a6:=a6.ab ac (ah.J fm.symm);replace n:=n.aJ ac (ag.cons (fj) ag.nil);replace M:=M.aJ ac (ag.J (aq.r fk));have gm:=ac.size;refine⟨.inl rfl,?_⟩;refine cD ?_;have fq:ah (I.size+1) (Q::aR):=(ah.cons (fl) (a5));have bQ:ah R (Q::aR):=(ah.cons (cs) (de));have bR:aZ K I.size (Q::aR):=(aZ.cons (bo) (dc));replace d:=d.wC aQ a_ ae M A a6 (ah.qL d.aB (dA));have bu:=d.aB;refine fg (G.t1 (fun fr=>?_));have bl:=aQ;rw[←sc]at bl;obtain⟨cK,cM,gi,N,cG,ai⟩:=d.fq i bl;have fW:cG.length≤274877906945:=by have bF:=congrArg List.length ai.lw;rw[List.length_map,oL aQ]at bF;rw[bF];exact cy
        have M:V (aE [(bi+1),N]) P P:=V.refl _ _;have dz:gK (Q::aR) (bi+1):=(d.oR ai ae);have A:=ai.oy ae;have bS:=A.lt;have ft:af R (bi+1):=ah.at (bQ) dz;have eK:aq K I.size (bi+1):=ag.at (ag.cF (bR) (by intro k aj;simp[aj])) dz;have eL:=T.refl (bi+1) P.size;have bP:gK (Q::aR) N:=(d.mT ai.jl (by simp));have hw:=ai.hw;have bV:=hw.le;have eM:af (I.size+1) N:=ah.at (fq) bP;have br:af R N:=ah.at (bQ) bP;have eN:aq K I.size N:=ag.at (ag.cF (bR) (by intro k aj;simp[aj])) bP;have df:=T.refl N P.size;have bM:af (bi+1) N:=ai.ne ae;refine dC (fun t=>V (aE [N]) P t) [8,9,10] ?_;have E:V (aE [N]) P P:=V.refl _ _;have eO:=T.refl N P.size;refine O.t1 0 rfl (fun t j=>Y.cast (v2:=ptr bi) fp (a8)) E ?_;refine O.t1 1 rfl (fun t j=>Y.cast (v2:=ptr bi) fp (a8)) E ?_;refine O.bI 2 rfl E ?_;refine O.t1 3 rfl (fun t j=>Y.fieldAddr (A.ab j (ah.J bM)).N rfl jm rfl rfl l9 (by decide) rfl) E ?_;refine O.t1 4 rfl (fun t j=>ar ((A.ab j (ah.J bM)).N.drop 2) ug) E ?_;refine O.t1 5 rfl (fun t j=>Y.nM (q.ab j (ah.J eM)).N rfl pH qW (rfl) rfl) E ?_;refine O.aY 6 ?_;refine ep rfl (cU _ ([(x.1,bd)]) qp qd qe (rfl)) (fun fF aa cc=>?_);obtain⟨a9,ap,eR,b5⟩:=cc;have ey:aa.size=P.size+1:=by rw[b5];simp
        have eS:T 0 P.size (P.size+1):=T.new E.size;replace C:=C.M ap;replace A:=A.M ap;replace hw:=hw.M ap;replace n:=n.bc ap;replace M:=M.bc ap;replace E:=E.bc ap;have gn:=ap.size;refine O.b3 E (ag.cons (aq.r eO) (ag.J (aq.q eS))) ?_;have E:V (aE [N,(P.size+1)]) aa aa:=V.refl _ _;have dg:=T.refl N aa.size;have eU:=T.refl (P.size+1) aa.size;refine O.aY 7 ?_;refine ep rfl (dO hw a9.rd qp (by first|omega|(simp;omega)) (by first|omega|(simp;omega))) (fun bj eV cf=>?_);obtain⟨aO,hw,aK,au⟩:=cf;replace aK:T N aa.size aO:=aK;replace au:=au.md;have eW:af R aO:=af.app (br) C.le aK;have eX:af (bi+1) aO:=af.app (bM) A.lt aK;have bv:T N P.size aO:=T.L (df) aK M.size;have eY:T N aa.size aO:=T.L (dg) aK E.size;replace C:=C.ab au (ah.J br);replace A:=A.ab au (ah.J bM);replace n:=n.aJ au (ag.cons (eN) ag.nil);replace M:=M.aJ au (ag.J (aq.r df));replace E:=E.aJ au (ag.J (aq.r dg));have gp:=au.size;have bV:=hw.le;refine O.b3 E (ag.cons (aq.r eY) (ag.J (aq.r eU))) ?_;refine O.aY 8 ?_;refine hg rfl (Y.nilCheck rfl rfl) (.inl rfl) ?_;refine O.aY 9 ?_;refine hg rfl (Y.ai A.N rfl jm rfl l9) (.inl rfl) ?_;refine O.aY 10 ?_;refine gJ rfl (dh A 2 ([cK.v,cM.v,bj]) (hw.rd.o8) l9 (by simp) (rfl)) (fun et bX=>?_);obtain⟨A,ad⟩:=bX;replace ad:=ad.bp;replace C:=C.ab ad (ah.J ft);replace hw:=hw.ab ad (ah.J eX.symm);replace n:=n.aJ ad (ag.cons (eK) ag.nil);replace M:=M.aJ ad (ag.J (aq.r eL));have gq:=ad.size;refine⟨.inl rfl,?_⟩;refine cD ?_;obtain⟨gh,rfl⟩:∃s:aM,bj=s.v:=⟨cg bj,hw.bm.symm⟩;have eZ:aZ K I.size (R::(aO::(Q::aR))):=(aZ.cons (ci) ((aZ.app (bR) (bP) (bv) (by omega))));replace d:=d.wH bl ai ae M A hw (bv) C (ah.cons (eW) (bQ));have bu:=d.aB;refine fr (G.L (fun e0=>?_));refine o.aj ?_;refine e0 ?_;refine G.ret (bc ?_);have bE:B.hJ p x.1=0:=oS bm (by omega) (by omega);exact⟨_,_,by rw[an,bE];rfl,by rw[an];simp only[bE,if_true];first|(rw[←zD aY aQ];rw[←Z]at d;exact d)|(rw[←zC aY];subst bw;exact d),eZ,n⟩
       ·
        exfalso;omega
   ·
    have bH:B.look p=0:=by
     rcases dx with h|h|h
     ·exact h
     ·rw[if_neg (by omega)]at bY;cases bY
     ·omega
    obtain⟨bm,i,aY⟩:=qx bH;have aQ:=d.ids.1 p i aY;have Z:=zr aY;obtain⟨bi,ae,a8⟩:∃bi,g1.fb.getD i 0=bi∧ .pointer (ln g1.fb (if B.look p=0 then aL B.now p else none))=ptr bi:=⟨_,rfl,by rw[if_pos bH,aY];rfl⟩;have cv:=Z.symm;have fX:=bb.M i;have gW:(B.dk p).length≤274877906945:=by rw[Z];exact fX
    have cy:=bb.w i;obtain⟨gZ,g_,ha,gX,gY,bN⟩:=d.fq i aQ;refine G.region ?_;refine o.v1 (Y.cast (v2:=hW g1.fb i) fp (by rw[if_pos bH,aY];rfl)) ?_;refine o.bI ?_;refine o.v1 (Y.ai bN.cH.N rfl jm rfl lz) ?_;refine o.v1 (Y.ai (bN.cH.N.drop 0) rfl lE rfl da) ?_;refine o.v1 (ar ((bN.cH.N.drop 0).drop 0) eA) ?_;refine o.v1 (Y.cast (v2:= .int .i64 ((B.dk p).length:Int)) (ba bN.aA db) (by rw[Z])) ?_;refine o.aj ?_;refine be (G.L (fun e1=>?_));refine o.v1 (Y.ai q.N rfl kc rfl da) ?_;refine o.v1 (ar (q.N.drop 1) eA) ?_;refine o.v1 (ba al db) ?_;refine o.aj ?_;refine e1 ?_
    refine G.cut (fun(sz:(Nat))=>[(0,ptr b),(1,aI p),(5,.pointer (some ⟨I.size,0,none⟩)),(7,.pointer (ln g1.fb (if B.look p=0 then aL B.now p else none))),(8,.int .i64 (B.look p:Int)),(9,.int .i64 ((B.dk p).length:Int)),(10,.int .i64 (sz:Int))])
     (fun(sz:(Nat)) (H:Heap)=>(sz=(x.1.on (B.dk p) x.1.d.length).length)∧((B.dk p).length≤274877906945)∧ak S H) (fun _ dj _=>?_) ?_
    ·
     have cV:ak S S:=V.refl _ _;refine G.L (fun e2=>?_);refine o.v1 (Y.ai q.N rfl kc rfl cW) ?_;refine o.v1 (ar q.N dr) (o.nil (e2 ?_));refine cI (fun a4=>?_) (fun a4=>?_)
     ·
      refine G.region ?_;refine o.ax 2 ?_;refine o.v1 bD ?_;refine o.aj ?_;refine aP.sub (dj ((B.dk p).length+x.1.d.length) _ ?_) ⟨rfl,rfl,rfl,rfl,(aD (by omega)),(aD (by omega)),(aD (by omega)),trivial⟩;exact⟨by rw[nV,if_pos a4],by first|(rw[Z];omega)|(rw[Z];simp),cV⟩
     ·
      refine G.skip ?_;refine aP.sub (dj x.1.d.length _ ?_) ⟨rfl,rfl,rfl,rfl,(aD (by omega)),(aD (by omega)),(aD (by omega)),trivial⟩;exact⟨by rw[nV,if_neg (by simpa using a4)];omega,by first|(rw[Z];omega)|(rw[Z];simp),cV⟩
    ·
     intro sz bz b6;obtain⟨cw,gd,aB⟩:=b6;replace d:=d.M aB;replace al:=al.M aB;replace q:=q.M aB;replace n:=n.bc aB;have gr:=aB.size;have ga:=bb.us;have f_:sz≤274877906945+274877906944:=by rw[cw,nV];split<;>omega
     refine G.t2 (fun e3 dk=>G.aB (fun e4 _ cZ=>G.L (fun e5=>?_)));refine o.ax 3 ?_;refine o.v1 (Y.ai d.aQ.N rfl hd rfl b1) ?_;refine o.v1 (ar (d.aQ.N.drop 1) cd) ?_;refine o.v1 eT ?_;refine o.aj ?_;refine e5 ?_;refine aT (fun b7=>?_) (fun b7=>?_)
     ·
      refine G.L (fun e6=>?_);refine o.aj ?_;refine e6 ?_;refine G.ret (cZ (dk (bc ?_)));have aA:B.hJ p x.1=5:=ss bm (by omega);exact⟨_,_,by rw[an,aA];rfl,by rw[an];simp only[aA];exact d,aX,n⟩
     ·
      refine G.t1 (fun e7=>?_);refine dC (fun t=>ak bz t) [] ?_;have X:=ak.refl bz;refine O.W 0 rfl X ?_;refine O.W 2 rfl X ?_;refine O.W 4 rfl X ?_;refine O.W 6 rfl X ?_;refine O.bI 7 rfl X ?_;refine O.t1 8 rfl (fun t j=>Y.ai (d.aQ.N.M j) rfl hd rfl b1) X ?_;refine O.t1 9 rfl (fun t j=>ar ((d.aQ.N.drop 0).M j) cd) X ?_;refine O.aY 1 ?_;refine ch vf (zq _ _ b B w0 _ d bb.aj (by omega)) (fun fu cb b8=>?_);obtain⟨rfl,am⟩:=b8;replace d:=d.M am;replace al:=al.M am;replace q:=q.M am;replace n:=n.bc am;have gv:=am.size;have bZ:=X.L am;refine O.cn bZ ?_;have aS:=ak.refl cb;refine O.t1 3 rfl (fun t j=>fE) aS ?_;refine O.t1 5 rfl (fun t j=>bD) aS ?_;refine O.t1 10 rfl (fun t j=>eT) aS ?_;refine O.t1 11 rfl (fun t j=>ev) aS ?_;refine cD ?_;have fZ:=aS;refine e7 ?_;refine aT (fun b_=>?_) (fun b_=>?_)
      ·
       refine G.L (fun e8=>?_);refine o.aj ?_;refine e8 ?_;refine G.ret (cZ (dk (bc ?_)));have aA:B.hJ p x.1=12:=qu bm (by omega) (by omega);exact⟨_,_,by rw[an,aA];rfl,by rw[an];simp only[aA];exact d,aX,n⟩
      ·
       refine G.skip (e4 (e3 (G.t1 (fun e_=>G.L (fun fa=>?_)))));refine o.W ?_;refine o.v1 b9 (o.nil (fa ?_));refine aT (fun cj=>?_) (fun cj=>?_)
       ·
        exfalso;omega
       ·
        refine G.skip (e_ (G.L (fun ez=>?_)));refine o.v1 (Y.ai q.N rfl kc rfl da) ?_;refine o.v1 (ar (q.N.drop 1) eA) ?_;refine aV nv (mE _ x.1.d w0 _ al.any (by omega)) (fun fB fC cn=>?_);obtain⟨bd,R,rfl,C,bh,a7⟩:=cn;have c0:ah R K:=ah.ow (ah.kd) d.aB bh;have eB:af (I.size+1) R:=af.app (af.z) q.lt bh;have eC:T 0 I.size R:=T.L (T.refl 0 _) bh n.size;replace d:=d.M a7;replace q:=q.M a7;replace n:=n.bc a7;have gx:=a7.size;have dB:=C.le;refine o.v1 (Y.ai q.N rfl kc rfl da) ?_;refine o.s1 (dh q 1 ([.bool x.1.b,bd.v]) (rfl) da (by simp) (rfl)) fun W b0=>?_;obtain⟨q,aF⟩:=b0;replace aF:=aF.bp;replace d:=d.ab aF (ew.cons bT ew.nil);replace C:=C.ab aF (ah.J eB.symm);replace n:=n.aJ aF (ag.J (aq.q dm));have gy:=aF.size;refine o.nil (ez (G.t1 (fun dE=>?_)));obtain⟨cJ,cL,cO,gf,gg,a_⟩:=d.fq i aQ;have M:V (aE [(bi+1)]) W W:=V.refl _ _;have cC:gK K (bi+1):=(d.oR a_ ae);have A:=a_.oy ae;have bS:=A.lt;have eD:af (I.size+1) (bi+1):=ah.at (bT) cC;have eF:af R (bi+1):=ah.at (c0) cC;have eG:aq K I.size (bi+1):=ag.at (ag.cF (aX) (by intro k aj;simp[aj])) cC;have cE:=T.refl (bi+1) W.size;refine dC (fun t=>ak W t) [11,12,13,14] ?_;have L:ak W W:=V.refl _ _;refine O.t1 0 rfl (fun t j=>Y.cast (v2:=ptr bi) fp (a8)) L ?_;refine O.t1 1 rfl (fun t j=>aW (q.N.M j) pH qW (rfl)) L ?_;refine O.t1 2 rfl (fun t j=>Y.cast (v2:=ptr bi) fp (a8)) L ?_;refine O.bI 3 rfl L ?_;refine O.t1 4 rfl (fun t j=>Y.ai (A.N.M j) rfl jm rfl lz) L ?_;refine O.t1 5 rfl (fun t j=>Y.ai (A.N.M j) rfl lE rfl da) L ?_;refine O.t1 6 rfl (fun t j=>ar (A.N.M j) eA) L ?_;refine O.t1 7 rfl (fun t j=>Y.ai (q.N.M j) rfl kc rfl da) L ?_;refine O.t1 8 rfl (fun t j=>ar ((q.N.drop 1).M j) eA) L ?_;refine O.t1 9 rfl (fun t j=>ba (C.rd.M j) db) L ?_;refine O.aY 10 ?_;refine ch u4 (xP (x.1,bd) cJ _ x.1.d.length w0 _ C.rd.any a_.aA.any (Nat.le_refl _) (by rw[cv];omega)) (fun fD co cq=>?_);obtain⟨ct,Q,rfl,a6,aJ,ab⟩:=cq;have dN:af (I.size+1) Q:=af.app (af.z) q.lt aJ;have dP:af R Q:=af.app (af.z) C.le aJ;have dQ:af (bi+1) Q:=af.app (af.z) A.lt aJ;have dR:T 0 I.size Q:=T.L (T.refl 0 _) aJ n.size;have dS:T 0 W.size Q:=T.L (T.refl 0 _) aJ M.size;have dT:T 0 W.size Q:=T.L (T.refl 0 _) aJ L.size;replace q:=q.M ab;replace C:=C.M ab;replace A:=A.M ab;replace n:=n.bc ab;replace M:=M.bc ab;replace L:=L.L ab;have gz:=ab.size;have dD:=a6.le;refine⟨.inr L,O.narrow (SH2:=fun t=>V (aE [Q]) co t) (fun t j=>(V.aJ (ks:=[]) (L.j1 []) j (ag.J (aq.q dT))).nil) ?_⟩;refine O.aY 11 ?_;refine hg rfl (Y.nilCheck rfl rfl) (.inl rfl) ?_;refine O.aY 12 ?_;refine hg rfl (Y.ai A.N rfl jm rfl lz) (.inl rfl) ?_;refine O.aY 13 ?_;refine hg rfl (Y.ai A.N rfl lE rfl da) (.inl rfl) ?_;refine O.aY 14 ?_;refine gJ rfl (dh A 0 ([ct.v,cL.v,cO.v]) (rfl) da (by simp) (rfl)) (fun P bU=>?_);obtain⟨A,ac⟩:=bU;replace ac:=ac.bp;replace q:=q.ab ac (ah.J eD);replace C:=C.ab ac (ah.J eF);replace a6:=a6.ab ac (ah.J dQ.symm);replace n:=n.aJ ac (ag.cons (eG) ag.nil);replace M:=M.aJ ac (ag.J (aq.r cE));have gA:=ac.size;refine⟨.inl rfl,?_⟩;refine cD ?_;have dU:ah (I.size+1) (Q::K):=(ah.cons (dN) (bT));have b2:ah R (Q::K):=(ah.cons (dP) (c0));have b3:aZ K I.size (Q::K):=(aZ.cons (dR) (aX));replace d:=d.wC aQ a_ ae M A a6 (ah.qL d.aB (dS));have bu:=d.aB;refine dE (G.t1 (fun eH=>?_));have bl:=aQ;rw[←sc]at bl;obtain⟨cK,cM,gi,N,cG,ai⟩:=d.fq i bl;have fW:cG.length≤274877906945:=by have bF:=congrArg List.length ai.lw;rw[List.length_map,oL aQ]at bF;rw[bF];exact cy
        have M:V (aE [(bi+1),N]) P P:=V.refl _ _;have dy:gK (Q::K) (bi+1):=(d.oR ai ae);have A:=ai.oy ae;have bS:=A.lt;have dW:af R (bi+1):=ah.at (b2) dy;have dY:aq K I.size (bi+1):=ag.at (ag.cF (b3) (by intro k aj;simp[aj])) dy;have dZ:=T.refl (bi+1) P.size;have bO:gK (Q::K) N:=(d.mT ai.jl (by simp));have hw:=ai.hw;have bV:=hw.le;have d_:af (I.size+1) N:=ah.at (dU) bO;have cY:af R N:=ah.at (b2) bO;have ea:aq K I.size N:=ag.at (ag.cF (b3) (by intro k aj;simp[aj])) bO;have a0:=T.refl N P.size;have bJ:af (bi+1) N:=ai.ne ae;refine dC (fun t=>V (aE [N]) P t) [8,9,10] ?_;have E:V (aE [N]) P P:=V.refl _ _;have eb:=T.refl N P.size;refine O.t1 0 rfl (fun t j=>Y.cast (v2:=ptr bi) fp (a8)) E ?_;refine O.t1 1 rfl (fun t j=>Y.cast (v2:=ptr bi) fp (a8)) E ?_;refine O.bI 2 rfl E ?_;refine O.t1 3 rfl (fun t j=>Y.fieldAddr (A.ab j (ah.J bJ)).N rfl jm rfl rfl l9 (by decide) rfl) E ?_;refine O.t1 4 rfl (fun t j=>ar ((A.ab j (ah.J bJ)).N.drop 2) ug) E ?_;refine O.t1 5 rfl (fun t j=>Y.nM (q.ab j (ah.J d_)).N rfl pH qW (rfl) rfl) E ?_;refine O.aY 6 ?_;refine ep rfl (cU _ ([(x.1,bd)]) qp qd qe (rfl)) (fun fF aa cc=>?_);obtain⟨a9,ap,eR,b5⟩:=cc;have ey:aa.size=P.size+1:=by rw[b5];simp
        have ec:T 0 P.size (P.size+1):=T.new E.size;replace C:=C.M ap;replace A:=A.M ap;replace hw:=hw.M ap;replace n:=n.bc ap;replace M:=M.bc ap;replace E:=E.bc ap;have gB:=ap.size;refine O.b3 E (ag.cons (aq.r eb) (ag.J (aq.q ec))) ?_;have E:V (aE [N,(P.size+1)]) aa aa:=V.refl _ _;have a2:=T.refl N aa.size;have ed:=T.refl (P.size+1) aa.size;refine O.aY 7 ?_;refine ep rfl (dO hw a9.rd qp (by first|omega|(simp;omega)) (by first|omega|(simp;omega))) (fun bj eV cf=>?_);obtain⟨aO,hw,aK,au⟩:=cf;replace aK:T N aa.size aO:=aK;replace au:=au.md;have ef:af R aO:=af.app (cY) C.le aK;have eg:af (bi+1) aO:=af.app (bJ) A.lt aK;have a3:T N P.size aO:=T.L (a0) aK M.size;have eh:T N aa.size aO:=T.L (a2) aK E.size;replace C:=C.ab au (ah.J cY);replace A:=A.ab au (ah.J bJ);replace n:=n.aJ au (ag.cons (ea) ag.nil);replace M:=M.aJ au (ag.J (aq.r a0));replace E:=E.aJ au (ag.J (aq.r a2));have gC:=au.size;have bV:=hw.le;refine O.b3 E (ag.cons (aq.r eh) (ag.J (aq.r ed))) ?_;refine O.aY 8 ?_;refine hg rfl (Y.nilCheck rfl rfl) (.inl rfl) ?_;refine O.aY 9 ?_;refine hg rfl (Y.ai A.N rfl jm rfl l9) (.inl rfl) ?_;refine O.aY 10 ?_;refine gJ rfl (dh A 2 ([cK.v,cM.v,bj]) (hw.rd.o8) l9 (by simp) (rfl)) (fun et bX=>?_);obtain⟨A,ad⟩:=bX;replace ad:=ad.bp;replace C:=C.ab ad (ah.J dW);replace hw:=hw.ab ad (ah.J eg.symm);replace n:=n.aJ ad (ag.cons (dY) ag.nil);replace M:=M.aJ ad (ag.J (aq.r dZ));have gF:=ad.size;refine⟨.inl rfl,?_⟩;refine cD ?_;obtain⟨gh,rfl⟩:∃s:aM,bj=s.v:=⟨cg bj,hw.bm.symm⟩;have ei:aZ K I.size (R::(aO::(Q::K))):=(aZ.cons (eC) ((aZ.app (b3) (bO) (a3) (by omega))));replace d:=d.wH bl ai ae M A hw (a3) C (ah.cons (ef) (b2));have bu:=d.aB;refine eH (G.L (fun eJ=>?_));refine o.aj ?_;refine eJ ?_;refine G.ret (bc ?_);have bE:B.hJ p x.1=0:=oS bm (by omega) (by omega);exact⟨_,_,by rw[an,bE];rfl,by rw[an];simp only[bE,if_true];first|(rw[←zD aY aQ];rw[←Z]at d;exact d)|(rw[←zC aY];subst bw;exact d),ei,n⟩
end hD

namespace hR
open E Go.RowKit fz f_ gn gL gU hi hs hD
theorem HA{D:aG}{p:aH}(h:D.begin.1=false):D.sync p=(11,D.begin.2):=by unfold aG.sync;simp[h]
theorem tH{D:aG}{p:aH}(h:D.begin.1=true):D.sync p=(D.begin.2.look p,if D.begin.2.look p=0 then D.begin.2.tG ((aL D.begin.2.now p).getD 0)else D.begin.2):=by unfold aG.sync;simp[h]
theorem Gm{D:aG}{p q:aH}(h:D.begin.1=false):D.rename p q=(11,D.begin.2):=by unfold aG.rename;simp[h]
theorem yg{D:aG}{p q:aH}(h:D.begin.1=true):D.rename p q=(D.begin.2.j8 p q,if D.begin.2.j8 p q=0∧p≠q then D.begin.2.change ⟨p,q,some ((aL D.begin.2.now p).getD 0)⟩else D.begin.2):=by unfold aG.rename;simp[h]
theorem ye{D:aG}{p q:aH}(h:cv p=false∨cv q=false):D.j8 p q=7:=by unfold aG.j8;rw[if_pos h]
theorem Gl{D:aG}{p q:aH}(h:cv p=true)(U:cv q=true)(d:cp p≠cp q):D.j8 p q=13:=by unfold aG.j8;rw[if_neg (by simp[h,U]),if_pos d]
theorem yf{D:aG}{p q:aH}(h:cv p=true)(U:cv q=true)(d:cp p=cp q):D.j8 p q=D.look p:=by unfold aG.j8;rw[if_neg (by simp[h,U]),if_neg (by simpa using d)]
theorem GW{D:aG}{p:aH}(h:D.begin.1=false):D.iu p=(11,D.begin.2):=by unfold aG.iu;simp[h]
theorem yF{D:aG}{p:aH}(h:D.begin.1=true):D.iu p=(ja p,if ja p=0 then D.begin.2.m8 p else D.begin.2):=by unfold aG.iu;simp[h]
theorem xF{p:aH}(h:cv p=true):p≠[]:=((sT p).1 h).1
theorem xd{κ β:Type}{a7:κ→Value}{fv:β→Value}(bH:Nat)(m:List (κ×β))(w0:World)(I:Heap)(h:de I a7 fv bH m):aC Tryz.prog w0 79 #[.map (some bH)] I (fun r j=>∃d:Nat,r= .map (some d)∧de j a7 fv d m∧T 0 I.size (d+1)∧ak I j):=by
 intro w i;obtain⟨r,es,clock,q,U,k,n,o⟩:=h.fj.ex;obtain rfl:=U;have aw:w.heap[r]?=some (.map es clock):=by rw[i.heap];exact k
 refine(AnyW.maps_Clone Tryz.mclone79 r es clock w aw).mono ?_;rintro e t ⟨rfl,rfl⟩;refine⟨_,I.push (.map es clock),rfl,i.alloc _,I.size,by rw[i.heap],⟨⟨I.size,es,clock,rfl,rfl,by simp,n,o⟩⟩,.inr (.inr (by omega)),ak.pu _ _⟩
set_option maxHeartbeats 2000000 in
theorem rj(bk:Int)(K:List Nat)(g:cz)(b:Nat)(D:aG)(p:aH)(i:aM)(d:List UInt8)(F:Nat→Prop)(w0:World)(I:Heap)
 (j:bn K g I b D) (aN:dV bk I) (M:bg (fun b=>b=0) I.size) (di:az (fun b=>b=0) K) (al:Rd F I a1 1 i.v d) (L:bg F I.size) (N:az F K) (R:p.length≤4294967280) (O:gw 274877906944 D) (P:d.length≤274877906944):
 aC Tryz.prog w0 170 #[ptr b,aI p,i.v] I (fun r q=>∃bq:List Nat,∃g2:cz,r= .int .i64 ((D.lay p ⟨false,d⟩).1:Int)∧(bn bq g2 q b (D.lay p ⟨false,d⟩).2)∧(aZ K I.size bq)∧V (aE K) I q):=by
 refine aC.aK [ptr b,aI p,i.v] Tryz.func170 ?_;intro T S;have n:V (aE K) I I:=V.refl _ _;have t:=aZ.refl K I.size;have ac:=j.aB;refine G.L (fun A=>?_);refine o.aj ?_;refine A (G.seq (fun bq B _=>G.region ?_));refine o.ax 3 ?_;refine o.v1 (Y.build (v:=n4 (⟨false,d⟩,i)) rfl rfl (by intro w;kernel_rfl)) ?_;refine aV u9 (w1 bk K g b D p (⟨false,d⟩,i) F w0 _ j aN (M.mono (by omega)) di al (L.mono (by omega)) N R O P) (fun W X C=>?_);obtain⟨E,au,rfl,j,x,ad⟩:=C;have H:aZ K I.size E:=aZ.L (t) x n.size;replace n:=n.aJ ad (ag.cF (t) (by intro k Q;simp[Q]));refine o.aj ?_;refine B _ _ ?_;refine G.ret (S ?_);exact⟨_,_,rfl,j,H,n⟩
set_option maxHeartbeats 2000000 in
theorem uv(bk:Int)(K:List Nat)(g:cz)(b:Nat)(D:aG)(p:aH)(i:aM)(d:List UInt8)(F:Nat→Prop)(w0:World)(I:Heap)
 (j:bn K g I b D) (aN:dV bk I) (M:bg (fun b=>b=0) I.size) (di:az (fun b=>b=0) K) (al:Rd F I a1 1 i.v d) (L:bg F I.size) (N:az F K) (R:p.length≤4294967280) (O:gw 274877906944 D) (P:d.length≤274877906944):
 aC Tryz.prog w0 110 #[ptr b,aI p,i.v] I (fun r q=>∃bq:List Nat,∃g2:cz,r= .int .i64 ((D.lay p ⟨true,d⟩).1:Int)∧(bn bq g2 q b (D.lay p ⟨true,d⟩).2)∧(aZ K I.size bq)∧V (aE K) I q):=by
 refine aC.aK [ptr b,aI p,i.v] Tryz.func110 ?_;intro T S;have n:V (aE K) I I:=V.refl _ _;have t:=aZ.refl K I.size;have ac:=j.aB;refine G.L (fun A=>?_);refine o.aj ?_;refine A (G.seq (fun bq B _=>G.region ?_));refine o.ax 3 ?_;refine o.v1 (Y.build (v:=n4 (⟨true,d⟩,i)) rfl rfl (by intro w;kernel_rfl)) ?_;refine aV u9 (w1 bk K g b D p (⟨true,d⟩,i) F w0 _ j aN (M.mono (by omega)) di al (L.mono (by omega)) N R O P) (fun W X C=>?_);obtain⟨E,au,rfl,j,x,ad⟩:=C;have H:aZ K I.size E:=aZ.L (t) x n.size;replace n:=n.aJ ad (ag.cF (t) (by intro k Q;simp[Q]));refine o.aj ?_;refine B _ _ ?_;refine G.ret (S ?_);exact⟨_,_,rfl,j,H,n⟩
set_option maxHeartbeats 2000000 in
theorem y1(bk:Int)(K:List Nat)(g:cz)(b:Nat)(D:aG)(p:aH)(w0:World)(I:Heap)
 (d:bn K g I b D) (aN:dV bk I) (aP:bg (fun b=>b=0) I.size) (di:az (fun b=>b=0) K) (aR:p.length≤4294967280) (aa:gw 274877906944 D):
 aC Tryz.prog w0 107 #[ptr b,aI p] I (fun r W=>∃bq:List Nat,∃g2:cz,r= .int .i64 ((D.sync p).1:Int)∧(bn bq g2 W b (D.sync p).2)∧(aZ K I.size bq)∧V (aE K) I W):=by
 refine aC.aK [ptr b,aI p] Tryz.func107 ?_;intro aY S;have j:V (aE K) I I:=V.refl _ _;have t:=aZ.refl K I.size;have a_:=d.aB;have bd:=aa.op;have bb:=d.iy;obtain⟨q,x⟩:∃q,q=D.begin.2:=⟨_,rfl⟩;have aQ:=aa.begin;rw[←x]at aQ;refine G.L (fun ap=>?_);refine o.aj ?_;refine ap (G.seq (fun bq aA aB=>G.L (fun aD=>?_)));refine o.W ?_;refine aV pU (pP K g b D w0 _ d (by omega)) ?_;rintro bl aX ⟨g1,rfl,d,a1,F⟩;replace aN:=aN.ab F (di);replace j:=j.aJ F (ag.cF (t) (by intro k P;simp[P]));have a6:=F.size;rw[←x]at d;refine o.v1 eI (o.nil (aD ?_));refine cI (fun L=>?_) (fun L=>?_)
 ·
  refine G.L (fun aF=>?_);refine o.aj ?_;refine aF ?_;refine G.ret (aB .ret nofun _ _ (S ?_));have ab:=HA (p:=p) (show D.begin.1=false by simpa using L);exact⟨_,_,by rw[ab];rfl,by rw[ab];rw[x]at d;exact d,t,j⟩
 ·
  have ae:D.begin.1=true:=by simpa using L
  have aS:=(pQ ae).1;rw[←x]at aS;have A:=tH (p:=p) ae;rw[←x]at A;refine G.skip (aA _ _ (G.L (fun aJ=>?_)));refine o.ax 2 ?_;refine aV pT (qg bk K g1 b q p w0 _ aN (aP.mono (by omega)) d aR) (fun a7 H aK=>?_);obtain⟨rfl,ad⟩:=aK;replace d:=d.M ad;replace j:=j.bc ad;have a8:=ad.size;refine o.W ?_;refine o.v1 cN ?_;refine o.v1 cN ?_;refine o.aR 2 ?_;refine aJ (G.t1 (fun X=>G.L (fun aM=>?_)));refine o.W ?_;refine o.v1 b9 (o.nil (aM ?_));refine aT (fun aO=>?_) (fun aO=>?_)
  ·
   have Q:q.look p=0:=by omega
   obtain⟨bc,i,R⟩:=qx Q;have af:=d.ids.1 p i R;obtain⟨bi,M,N⟩:∃bi,g1.fb.getD i 0=bi∧ .pointer (ln g1.fb (if q.look p=0 then aL q.now p else none))=ptr bi:=⟨_,rfl,by rw[if_pos Q,R];rfl⟩;obtain⟨E,bj,aW,bf,bh,O⟩:=d.fq i af;have B:V (aE [(bi+1)]) H H:=V.refl _ _;have nI:gK K (bi+1):=(d.oR O M);have n:=O.oy M;have Z:aq K I.size (bi+1):=ag.at (ag.cF (t) (by intro k P;simp[P])) nI;have au:=T.refl (bi+1) H.size;refine G.region ?_;refine o.v1 (Y.cast (v2:=ptr bi) fp (N)) ?_;refine o.v1 (Y.cast (v2:=ptr bi) fp (N)) ?_;refine o.v1 (Y.cast (v2:=ptr bi) fp (N)) ?_;refine o.bI ?_;refine o.v1 (Y.ai n.N rfl jm rfl lz) ?_;refine o.v1 (Y.ai n.N rfl lE rfl da) ?_;refine o.v1 (ar n.N eA) ?_;refine o.bI ?_;refine o.v1 (Y.ai n.N rfl jm rfl lz) ?_;refine o.v1 (Y.ai n.N rfl lE rfl da) ?_;refine o.s1 (dh n 1 ([E.v,E.v,aW.v]) (rfl) da (by simp) (rfl)) fun am an=>?_;obtain⟨n,C⟩:=an;replace C:=C.bp;replace j:=j.aJ C (ag.cons (Z) ag.nil);replace B:=B.aJ C (ag.J (aq.r au));refine o.bI ?_;refine o.v1 (Y.ai n.N rfl jm rfl l9) ?_;refine o.s1 (dh n 2 ([E.v,E.v,.slice none 0 0]) (rfl) l9 (by simp) (rfl)) fun ba ay=>?_;obtain⟨n,ac⟩:=ay;replace ac:=ac.bp;replace j:=j.aJ ac (ag.cons (Z) ag.nil);replace B:=B.aJ ac (ag.J (aq.r au));refine o.nil ?_;have ah:aZ K I.size K:=t;replace d:=d.fsync af O M B n;refine X (G.L (fun ai=>?_));refine o.aR 2 ?_;refine ai ?_;refine G.ret (S ?_);exact⟨_,_,by rw[A];rfl,by rw[A];simp only[Q,if_true,R,Option.getD_some];exact d,ah,j⟩
  ·
   refine G.skip (X (G.L (fun aj=>?_)));refine o.aR 2 ?_;refine aj ?_;refine G.ret (S ?_);exact⟨_,_,by rw[A];rfl,by rw[A];rw[if_neg (by omega)];exact d,t,j⟩
set_option maxHeartbeats 2000000 in
theorem Gn(bk:Int)(K:List Nat)(g:cz)(b:Nat)(D:aG)(p q:aH)(w0:World)(I:Heap)
 (n:bn K g I b D) (aN:dV bk I) (F:bg (fun b=>b=0) I.size) (di:az (fun b=>b=0) K) (S:p.length≤4294967280) (aF:q.length≤4294967280) (ar:gw 274877906944 D):
 aC Tryz.prog w0 174 #[ptr b,aI p,aI q] I (fun r an=>∃bq:List Nat,∃g2:cz,r= .int .i64 ((D.rename p q).1:Int)∧(bn bq g2 an b (D.rename p q).2)∧(aZ K I.size bq)∧V (aE K) I an):=by
 refine aC.aK [ptr b,aI p,aI q] Tryz.func174 ?_;intro bC E;have t:V (aE K) I I:=V.refl _ _;have B:=aZ.refl K I.size;have ap:=n.aB;have bX:=ar.op;have bV:=n.iy;obtain⟨A,N⟩:∃A,A=D.begin.2:=⟨_,rfl⟩;have ay:=ar.begin;rw[←N]at ay;refine G.L (fun aP=>?_);refine o.aj ?_;refine aP (G.seq (fun bq aQ aR=>G.L (fun aS=>?_)));refine o.W ?_;refine aV pU (pP K g b D w0 _ n (by omega)) (fun a0 a2 aW=>?_);obtain⟨g1,rfl,n,aX,T⟩:=aW;replace aN:=aN.ab T (di);replace t:=t.aJ T (ag.cF (B) (by intro k ah;simp[ah]));have a3:=T.size;rw[←N]at n;refine o.v1 eI (o.nil (aS ?_));refine cI (fun Z=>?_) (fun Z=>?_)
 ·
  refine G.L (fun aY=>?_);refine o.aj ?_;refine aY ?_;refine G.ret (aR .ret nofun _ _ (E ?_));have aA:=Gm (p:=p) (q:=q) (show D.begin.1=false by simpa using Z);exact⟨_,_,by rw[aA];rfl,by rw[aA];rw[N]at n;exact n,B,t⟩
 ·
  have aD:D.begin.1=true:=by simpa using Z
  have bA:=(pQ aD).1;rw[←N]at bA;have x:=yg (p:=p) (q:=q) aD;rw[←N]at x;refine G.skip (aQ _ _ (G.t2 (fun a1 aa=>G.aB (fun a6 _ ab=>G.L (fun aq=>?_)))));refine o.W ?_;refine aV mH (mW bk p w0 _ aN (F.mono (by omega)) S) (fun a4 a5 a7=>?_);obtain⟨rfl,O⟩:=a7;replace n:=n.M O;replace aN:=aN.M O;replace t:=t.bc O;have bD:=O.size;refine o.v1 eI ?_;refine o.W ?_;refine o.split (d:=16) rfl (fun L=>?_) (fun L=>?_)
  ·
   refine o.aR 5 ?_;refine aq ?_;refine G.ix rfl ?_;refine G.L (fun a8=>?_);refine o.aj ?_;refine a8 ?_;refine G.ret (ab (aa (E ?_)));have C:=ye (D:=A) (p:=p) (q:=q) (by first|exact .inl (by simpa using L)|exact .inr (by simpa using M));exact⟨_,_,by rw[x,C];rfl,by rw[x,C];exact n,B,t⟩
  ·
   refine o.bU ?_;refine o.call rfl mH rfl bh rfl rfl (mW bk q w0 _ aN (F.mono (by omega)) aF) (fun bE bF a_=>?_);obtain⟨rfl,ac⟩:=a_;replace n:=n.M ac;replace aN:=aN.M ac;replace t:=t.bc ac;have a9:=ac.size;refine o.an eI ?_;refine o.aR 2 ?_;refine aq ?_;refine cI (fun M=>?_) (fun M=>?_)
   ·
    refine G.L (fun ba=>?_);refine o.aj ?_;refine ba ?_;refine G.ret (ab (aa (E ?_)));have C:=ye (D:=A) (p:=p) (q:=q) (by first|exact .inl (by simpa using L)|exact .inr (by simpa using M));exact⟨_,_,by rw[x,C];rfl,by rw[x,C];exact n,B,t⟩
   ·
    refine G.L (fun bo=>?_);refine o.W ?_;refine aV nu (nw bk p w0 _ aN (F.mono (by omega)) S) (fun bH bJ bb=>?_);obtain⟨rfl,ad⟩:=bb;replace n:=n.M ad;replace aN:=aN.M ad;replace t:=t.bc ad;have bL:=ad.size;refine o.W ?_;refine aV nu (nw bk q w0 _ aN (F.mono (by omega)) aF) (fun bM bT bc=>?_);obtain⟨rfl,P⟩:=bc;replace n:=n.M P;replace aN:=aN.M P;replace t:=t.bc P;have be:=P.size;refine o.v1 (Y.iS rfl rfl rfl) ?_;refine o.aj ?_;refine bo ?_;refine aT (fun ae=>?_) (fun ae=>?_)
    ·
     refine G.L (fun bp=>?_);refine o.aj ?_;refine bp ?_;refine G.ret (ab (aa (E ?_)));have C:=Gl (D:=A) (p:=p) (q:=q) (by simpa using L) (by simpa using M) (by simpa using ae);exact⟨_,_,by rw[x,C];rfl,by rw[x,C];exact n,B,t⟩
    ·
     have aB:cp p=cp q:=by simpa using ae
     have bw:cv p=true:=by simpa using L
     have bx:cv q=true:=by simpa using M
     have H:=yf (D:=A) bw bx aB;refine G.skip (a6 (a1 (G.L (fun bs=>?_))));refine o.ax 2 ?_;refine aV pT (qg bk K g1 b A p w0 _ aN (F.mono (by omega)) n S) (fun bY bN bd=>?_);obtain⟨rfl,Q⟩:=bd;replace n:=n.M Q;replace aN:=aN.M Q;replace t:=t.bc Q;have bO:=Q.size;refine o.W ?_;refine o.v1 cN ?_;refine o.v1 cN ?_;refine o.aR 2 ?_;refine bs (G.t1 (fun W=>G.L (fun au=>?_)));refine o.W ?_;refine o.v1 b9 ?_;refine o.W ?_;refine o.bj (d:=35) rfl (fun af=>?_) (fun af=>?_)
     ·
      refine o.ax 2 ?_;refine o.an (Y.iS rfl rfl rfl) ?_;refine o.N ?_;refine o.nil (au ?_);refine aT (fun R=>?_) (fun R=>?_)
      ·
       have ai:A.look p=0:=by omega
       obtain⟨bz,i,aj⟩:=qx ai;have bt:=n.ids.1 p i aj;refine G.region ?_;refine o.ax 2 ?_;refine aV nu (nw bk p w0 _ aN (F.mono (by omega)) S) (fun bi bP bf=>?_);obtain⟨rfl,X⟩:=bf;replace n:=n.M X;replace t:=t.bc X;have bQ:=X.size;refine o.ax 3 ?_;refine o.v1 (Y.cast (v2:= .agg (ia g1.fb ⟨p,q,some i⟩).toArray) (Y.build (v:= .agg #[aI p,aI q,.pointer (ln g1.fb (if A.look p=0 then aL A.now p else none))]) rfl rfl (by intro w;kernel_rfl)) (by rw[if_pos ai,aj])) ?_;refine aV ve (vx K g1 b A (cp p) ⟨p,q,some i⟩ w0 _ n (by rw[aX.2.2.2];omega) (by simp[dL.dir,xF bz]) (fun j bu=>by cases bu;exact⟨aB.symm,bt⟩) (fun h=>rfl) (by have:=ay.dJ;omega)) (fun bR bS bj=>?_);obtain⟨bl,bU,rfl,n,am,bG,aJ⟩:=bj;have bm:aZ K I.size bl:=aZ.L (B) am t.size;replace t:=t.aJ aJ (ag.cF (B) (by intro k ah;simp[ah]));refine o.nil (W (G.L (fun aK=>?_)));refine o.aR 2 ?_;refine aK ?_;refine G.ret (E ?_);exact⟨_,_,by rw[x,H];rfl,by rw[x,H];rw[if_pos ⟨ai,by simpa using R⟩,aj];exact n,bm,t⟩
      ·
       refine G.skip (W (G.L (fun aM=>?_)));refine o.aR 2 ?_;refine aM ?_;refine G.ret (E ?_);exact⟨_,_,by rw[x,H];rfl,by rw[x,H];rw[if_neg (fun h=>by first|exact af (by omega)|exact h.2 (by simpa using R))];exact n,B,t⟩
     ·
      refine o.ax 4 ?_;refine o.nil (au ?_);refine dB ?_;refine G.skip (W (G.L (fun aO=>?_)));refine o.aR 2 ?_;refine aO ?_;refine G.ret (E ?_);exact⟨_,_,by rw[x,H];rfl,by rw[x,H];rw[if_neg (fun h=>by first|exact af (by omega)|exact h.2 (by simpa using R))];exact n,B,t⟩
set_option maxHeartbeats 2000000 in
theorem Hz(bk:Int)(K:List Nat)(g:cz)(b:Nat)(D:aG)(p:aH)(w0:World)(I:Heap)
 (j:bn K g I b D) (aN:dV bk I) (bz:bg (fun b=>b=0) I.size) (di:az (fun b=>b=0) K) (bA:p.length≤4294967280) (aT:gw 274877906944 D):
 aC Tryz.prog w0 176 #[ptr b,aI p] I (fun r aB=>∃bq:List Nat,∃g2:cz,r= .int .i64 ((D.iu p).1:Int)∧(bn bq g2 aB b (D.iu p).2)∧(aZ K I.size bq)∧V (aE K) I aB):=by
 refine aC.aK [ptr b,aI p] Tryz.func176 ?_;intro bL S;have i:V (aE K) I I:=V.refl _ _;have F:=aZ.refl K I.size;have bO:=j.aB;have bR:=aT.op;have bQ:=j.iy;obtain⟨Q,O⟩:∃Q,Q=D.begin.2:=⟨_,rfl⟩;have an:=aT.begin;rw[←O]at an;refine G.L (fun bo=>?_);refine o.aj ?_;refine bo (G.seq (fun bq bp bs=>G.L (fun bt=>?_)));refine o.W ?_;refine aV pU (pP K g b D w0 _ j (by omega)) ?_;rintro bS bJ ⟨g1,rfl,j,aD,ai⟩;replace aN:=aN.ab ai (di);replace i:=i.aJ ai (ag.cF (F) (by intro k C;simp[C]));have bM:=ai.size;rw[←O]at j;refine o.v1 eI (o.nil (bt ?_));refine cI (fun aj=>?_) (fun aj=>?_)
 ·
  refine G.L (fun bu=>?_);refine o.aj ?_;refine bu ?_;refine G.ret (bs .ret nofun _ _ (S ?_));have aW:=GW (p:=p) (show D.begin.1=false by simpa using aj);exact⟨_,_,by rw[aW];rfl,by rw[aW];rw[O]at j;exact j,F,i⟩
 ·
  have aX:D.begin.1=true:=by simpa using aj
  have bC:=(pQ aX).1;rw[←O]at bC;have L:=yF (p:=p) aX;rw[←O]at L;refine G.skip (bp _ _ (G.t2 (fun aF bw=>G.L (fun aJ=>?_))));refine o.W ?_;refine o.v1 (Y.iS rfl rfl rfl) ?_;refine o.W ?_;refine o.bj (d:=11) rfl (fun R=>?_) (fun R=>?_)
  ·
   refine o.bU ?_;refine o.call rfl mH rfl bh rfl rfl (mW bk p w0 _ aN (bz.mono (by omega)) bA) (fun a9 bN a0=>?_);obtain⟨rfl,ae⟩:=a0;replace j:=j.M ae;replace i:=i.bc ae;have bP:=ae.size;refine o.an eI ?_;refine o.N ?_;refine o.nil (aJ ?_);refine cI (fun N=>?_) (fun N=>?_)
   ·
    refine G.L (fun b2=>?_);refine o.aj ?_;refine b2 ?_;refine G.ret (bw (S ?_));have E:ja p=7:=by unfold ja;rw[if_pos ⟨R,by simpa using N⟩]
    exact⟨_,_,by rw[L,E];rfl,by rw[L,E];exact j,F,i⟩
   ·
    refine G.skip (aF (G.L (fun a2=>?_)));refine o.ax 2 ?_;refine aV rW (sL K g1 b Q p w0 _ j (by rw[aD.2.2.2];omega)) (fun a3 A W=>?_);obtain⟨au,a4,bf,rfl,j,Z,P,a6,am⟩:=W;have aK:aZ K I.size au:=aZ.L (F) Z i.size;replace i:=i.aJ am (ag.cF (F) (by intro k C;simp[C]));refine o.aj ?_;refine a2 (G.t1 (fun a5=>?_));obtain⟨M,bG,bD,aA,ay,bH,B⟩:=j.gh _ bf P;have n:V (aE [(bf+1)]) A A:=V.refl _ _;have bF:gK au (bf+1):=(j.nI B.rd (by simp));have cP:=B.cP;have aL:aq K I.size (bf+1):=ag.at (ag.cF (aK) (by intro k C;simp[C])) bF;have aM:=T.refl (bf+1) A.size;refine G.region ?_;refine o.ax 4 ?_;refine o.v1 (Y.ai cP.N rfl kA rfl m4) ?_;refine o.v1 (Y.ai cP.N rfl na rfl ly) ?_;refine o.v1 (ar cP.N oq) ?_;refine aV vq (xd M ay w0 _ B.aA) (fun aY a1 X=>?_);obtain⟨q,rfl,x,ad,H⟩:=X;have aO:af (bf+1) (q+1):=af.app (af.z) cP.lt ad;have a7:T 0 I.size (q+1):=T.L (T.refl 0 _) ad i.size;have a8:T 0 A.size (q+1):=T.L (T.refl 0 _) ad n.size;replace cP:=cP.M H;replace i:=i.bc H;replace n:=n.bc H;refine o.bI ?_;refine o.v1 (Y.ai cP.N rfl kA rfl m4) ?_;refine o.v1 (Y.ai cP.N rfl na rfl ly) ?_;refine o.s1 (dh cP 1 ([.map (some M),.map (some q),aA.v]) (rfl) ly (by simp) (rfl)) fun ap aa=>?_;obtain⟨cP,t⟩:=aa;replace t:=t.bp;replace x:=x.ab t (ah.J aO.symm);replace i:=i.aJ t (ag.cons (aL) ag.nil);replace n:=n.aJ t (ag.J (aq.r aM));refine o.bI ?_;refine o.v1 (Y.ai cP.N rfl kA rfl m5) ?_;refine o.s1 (dh cP 2 ([.map (some M),.map (some q),.slice none 0 0]) (rfl) m5 (by simp) (rfl)) fun bx ab=>?_;obtain⟨cP,ac⟩:=ab;replace ac:=ac.bp;replace x:=x.ab ac (ah.J aO.symm);replace i:=i.aJ ac (ag.cons (aL) ag.nil);replace n:=n.aJ ac (ag.J (aq.r aM));refine o.nil ?_;have a_:aZ K I.size ((q+1)::au):=(aZ.cons (a7) (aK));replace j:=j.vM an.aj P B n cP x (fun _=>rfl) (ah.qL j.aB (a8));refine a5 (G.L (fun ba=>?_));refine o.aj ?_;refine ba ?_;refine G.ret (S ?_);have E:ja p=0:=by unfold ja;rw[if_neg (fun h=>by first|exact absurd h.1 R|(rw[h.2]at N;cases N))]
    exact⟨_,_,by rw[L,E];rfl,by rw[L,E];exact j,a_,i⟩
  ·
   refine o.ax 4 ?_;refine o.nil (aJ ?_);refine dB ?_;refine G.skip (aF (G.L (fun bb=>?_)));refine o.ax 2 ?_;refine aV rW (sL K g1 b Q p w0 _ j (by rw[aD.2.2.2];omega)) (fun a3 A W=>?_);obtain⟨au,a4,bf,rfl,j,Z,P,a6,am⟩:=W;have aP:aZ K I.size au:=aZ.L (F) Z i.size;replace i:=i.aJ am (ag.cF (F) (by intro k C;simp[C]));refine o.aj ?_;refine bb (G.t1 (fun bc=>?_));obtain⟨M,bG,bD,aA,ay,bH,B⟩:=j.gh _ bf P;have n:V (aE [(bf+1)]) A A:=V.refl _ _;have bE:gK au (bf+1):=(j.nI B.rd (by simp));have cP:=B.cP;have aQ:aq K I.size (bf+1):=ag.at (ag.cF (aP) (by intro k C;simp[C])) bE;have aR:=T.refl (bf+1) A.size;refine G.region ?_;refine o.ax 4 ?_;refine o.v1 (Y.ai cP.N rfl kA rfl m4) ?_;refine o.v1 (Y.ai cP.N rfl na rfl ly) ?_;refine o.v1 (ar cP.N oq) ?_;refine aV vq (xd M ay w0 _ B.aA) (fun aY a1 X=>?_);obtain⟨q,rfl,x,ad,H⟩:=X;have aS:af (bf+1) (q+1):=af.app (af.z) cP.lt ad;have bd:T 0 I.size (q+1):=T.L (T.refl 0 _) ad i.size;have bj:T 0 A.size (q+1):=T.L (T.refl 0 _) ad n.size;replace cP:=cP.M H;replace i:=i.bc H;replace n:=n.bc H;refine o.bI ?_;refine o.v1 (Y.ai cP.N rfl kA rfl m4) ?_;refine o.v1 (Y.ai cP.N rfl na rfl ly) ?_;refine o.s1 (dh cP 1 ([.map (some M),.map (some q),aA.v]) (rfl) ly (by simp) (rfl)) fun ap aa=>?_;obtain⟨cP,t⟩:=aa;replace t:=t.bp;replace x:=x.ab t (ah.J aS.symm);replace i:=i.aJ t (ag.cons (aQ) ag.nil);replace n:=n.aJ t (ag.J (aq.r aR));refine o.bI ?_;refine o.v1 (Y.ai cP.N rfl kA rfl m5) ?_;refine o.s1 (dh cP 2 ([.map (some M),.map (some q),.slice none 0 0]) (rfl) m5 (by simp) (rfl)) fun bx ab=>?_;obtain⟨cP,ac⟩:=ab;replace ac:=ac.bp;replace x:=x.ab ac (ah.J aS.symm);replace i:=i.aJ ac (ag.cons (aQ) ag.nil);replace n:=n.aJ ac (ag.J (aq.r aR));refine o.nil ?_;have bl:aZ K I.size ((q+1)::au):=(aZ.cons (bd) (aP));replace j:=j.vM an.aj P B n cP x (fun _=>rfl) (ah.qL j.aB (bj));refine bc (G.L (fun bm=>?_));refine o.aj ?_;refine bm ?_;refine G.ret (S ?_);have E:ja p=0:=by unfold ja;rw[if_neg (fun h=>by first|exact absurd h.1 R|(rw[h.2]at N;cases N))]
   exact⟨_,_,by rw[L,E];rfl,by rw[L,E];exact j,bl,i⟩
end hR

namespace lb
open E Go.RowKit fz f_ gn gL gU hi hs hD hR
open Go.Sort Go.Shelf
theorem rQ(a b:aH):blt a b↔a<b:=by unfold blt;rw[bytesLess_eq,decide_eq_true_iff]
theorem Fp{a b:aH}(h:a≤b):¬blt b a:=by rw[rQ];exact List.not_lt.2 h
theorem Ha{l m:List aH}(aA:l.Nodup)(h:m=l.mergeSort (fun x y=>decide (x≤y))):jL m∧m.Perm l:=by
 subst h;have j:=List.mergeSort_perm l (fun x y=>decide (x≤y))
 have ao:(l.mergeSort (fun x y=>decide (x≤y))).Pairwise (fun x y=>decide (x≤y)=true):=List.pairwise_mergeSort (le:=fun x y:List UInt8=>decide (x≤y)) (fun a b c d U=>by
  simp only[decide_eq_true_eq]at*;exact List.le_trans d U) (fun a b=>by
  simp only[Bool.or_eq_true,decide_eq_true_eq];exact List.le_total a b) l
 have i:(l.mergeSort (fun x y=>decide (x≤y))).Nodup:=j.nodup_iff.2 aA;refine⟨?_,j⟩;unfold jL;rw[List.nodup_iff_pairwise_ne]at i;refine(ao.and i).imp (fun{x y} h=>?_);obtain⟨d,U⟩:=h;refine Classical.byContradiction (fun k=>U (lS k ?_));simp only[decide_eq_true_eq]at d;exact Fp d
theorem sd:∀l:List aH,l.flatMap gd=l.map aI
 |[]=>rfl
 |x::l=>by rw[List.flatMap_cons,sd l];rfl
theorem F3(d:Array aH)(cur:Array Value)(h:d.size≤cur.size):(putCells encStr 0 d cur).size=cur.size∧(putCells encStr 0 d cur).toList.take d.size=d.toList.flatMap gd:=by
 refine⟨by simp[putCells],?_⟩;rw[sd];apply List.ext_getElem?;intro i;rw[List.getElem?_take];split
 ·rename_i j
  rw[Array.getElem?_toList,List.getElem?_map,Array.getElem?_toList,Array.getElem?_eq_getElem (by simp[putCells];omega),Array.getElem?_eq_getElem j];simp only[putCells,Array.getElem_mapIdx,Nat.zero_le,Nat.zero_add,true_and,Nat.sub_zero];rw[if_pos j,getElem!_pos d i j];rfl
 ·rw[List.getElem?_map,Array.getElem?_toList,Array.getElem?_eq_none (by omega)];rfl
theorem G9(k:Nat)(v:Value)(l:List aH)(w0:World)(H:Heap)(h:aU k 9 H gd 1 v l)(Y:l.length<4611686018427387904):
 aC Tryz.prog w0 134 #[v] H (fun r C=>∃O:List aH,∃a8:Nat,r= .tuple #[]∧aU a8 9 C gd 1 v O∧T k H.size a8∧(O=l.mergeSort (fun x y=>decide (x≤y)))∧V (aE [k]) H C):=by
 intro w i;rcases h.own.ex with⟨t,aa⟩|⟨d,cap,cur,t,L,M,P,U,E,Q⟩
 ·subst t aa
  exact(Any.slices_Sort_string_none Tryz.lays190 none 0 w).mono (fun e ab ⟨he,hw⟩=>⟨_,H,he,by rw[hw];exact i,[],k,rfl,h,T.refl _ _,by simp,V.refl _ _⟩)
 ·obtain⟨A,bE,N⟩:=id M
  have B:w.heap[d]?=some (.cells cur 9 A):=by rw[i.heap];exact bE
  have hle:l.length≤cur.size:=by rw[E];omega
  have S:Holds encStr w d 0 l.toArray:=by
   intro j K;have X:j<l.length:=by simpa using K
   have av:cur[j]?=some (aI l[j]):=by
    have:(cur.toList.take (l.length*1))[j]?=(l.flatMap gd)[j]?:=by rw[Q]
    rw[List.getElem?_take,if_pos (by omega),Array.getElem?_toList,sd]at this;rw[this,List.getElem?_map,List.getElem?_eq_getElem X];rfl
   refine⟨?_,?_⟩
   ·simp only[World.cell?,B,Nat.zero_add,Option.isSome_none,Bool.false_eq_true,if_false,id_eq]
    rw[av,getElem!_pos l.toArray j K];rfl
   ·have:=N.2 j (by omega)
    simp only[World.frozen?,B,Nat.zero_add]
    simpa using this
  have I:d<w.heap.size:=by rw[i.heap];exact M.lt
  have G:=Any.slices_Sort_string Tryz.lays190 d 0 cap l w S I Y;rw[←t]at G;refine G.mono ?_;rintro gW ab ⟨he,n,os,rfl⟩;have al:(l.mergeSort fun x y=>decide (x≤y)).length=l.length:=List.length_mergeSort l;obtain⟨F,R⟩:=F3 (l.mergeSort fun x y=>decide (x≤y)).toArray cur (by simp;exact hle);have o:(grow (putRow encStr (Sort.ahead w n) d 0 (l.mergeSort fun x y=>decide (x≤y)).toArray) os).heap=w.heap.modify d (onCells (putCells encStr 0 (l.mergeSort fun x y=>decide (x≤y)).toArray))++os:=rfl
  have W:(grow (putRow encStr (Sort.ahead w n) d 0 (l.mergeSort fun x y=>decide (x≤y)).toArray) os).heap[d]?=some (.cells (putCells encStr 0 (l.mergeSort fun x y=>decide (x≤y)).toArray cur) 9 A):=by
   rw[o,Array.getElem?_append_left (by simpa using I),Array.getElem?_modify,if_pos rfl,B];rfl
  refine⟨_,(grow (putRow encStr (Sort.ahead w n) d 0 (l.mergeSort fun x y=>decide (x≤y)).toArray) os).heap,he,⟨rfl,i.os,i.tape,i.output,Nat.le_trans i.gb (Nat.le_add_right _ _)⟩,_,k,rfl,⟨⟨mL,nA,.inr ⟨d,cap,_,by rw[al];exact t,L,⟨A,W,by rw[F];exact N⟩,by rw[al];exact P,U,by rw[F];exact E,?_⟩⟩,?_⟩,T.refl _ _,rfl,?_,?_⟩
  ·simpa using R
  ·rw[o]
   have:=h.le;simp[i.heap];omega
  ·rw[o];simp[i.heap]
  ·intro b aw aA
   have Z:d≠b:=fun q=>aA (by unfold aE;rw[←q];simp[L]);rw[o,Array.getElem?_append_left (by simp[i.heap,aw]),Array.getElem?_modify,if_neg Z,i.heap]
end lb

namespace lI
open E Go.RowKit fz f_ gn gL gU hi hs hD hR lb
set_option maxRecDepth 100000 in
theorem oQ:c6 Tryz.prog 69 9 1 16:=⟨Tryz.underlying69,_,_,rfl,rfl,rfl,rfl,rfl⟩
def n0:Code→Code
 | .seq _ (.seq (.seq _ (.block _ c)) _)=>c
 |_=> .skip
def rM:Code→Code
 | .rangeFunc _ _ c _=>c
 |_=> .skip
def rR:Code→Code
 | .rangeFunc _ _ _ c=>c
 |_=> .skip
structure rn (r:Loop) (bP:Nat):Prop where
 st:r.state= .ready
 x4:r.pending=none
 eR:r.params= #[7]
 A:r.assign=rM (n0 (Tryz.f196.body.getD .skip))
 B:r.body=rR (n0 (Tryz.f196.body.getD .skip))
 se:Fr Tryz.f196.ntmps [(2,.pointer (some ⟨bP,0,none⟩))] {tmps:=r.tmps,defers:=[]}
theorem Ad(r:Loop)(bP bd k:Nat)(X:Value)(N:List aH)(x:aH)(w0:World)(H:Heap)(o:rn r bP)(B:hh H bd r)(i:Var 69 H bP [X])(n:aU k 9 H gd 1 X N)(d1:af (bd+1) (bP+1))(d2:af (bd+1) k)(d3:af (bP+1) k)(hlen:N.length≤1099511627776):
 oo Tryz.prog w0 bd [aI x] H (fun au t=>∃Y:Value,∃W:Nat,au= .bool true∧hh t bd r∧Var 69 t bP [Y]∧aU W 9 t gd 1 Y (N++[x])∧T k H.size W∧V (aE [bd+1,bP+1,k]) H t):=by
 have ai:=o.se.put (d:=7) rfl (aI x);refine oo.of B o.st o.x4 o.eR (o.A.trans rfl) (o.B.trans rfl) ai ?_;have Q:bd≠bP:=d1.ne;have aB:=B.lt;have az:=i.lt;have aC:=n.le;have hm:=V.refl (aE [bd+1,bP+1,k]) H;refine eV.v ev (by intro c e;cases e) cR rfl rfl ?_;refine eV.nil (fun a w P G=>⟨rfl,_,H,P,G,B,?_⟩);have L:V (fun c=>c=bd) H (H.setIfInBounds bd (.loop {r with state:= .busy})):=ku _;have j:hh (H.setIfInBounds bd (.loop {r with state:= .busy})) bd {r with state:= .busy}:=⟨by simp[B.lt]⟩;obtain⟨A,ae⟩:∃A,A=H.setIfInBounds bd (.loop {r with state:= .busy}):=⟨_,rfl⟩;rw[←ae]at L j⊢;have M:=L.bp;replace hm:=hm.aJ M (ag.cons (aq.root (by simp)) ag.nil);replace i:=i.ab M (ah.cons (af.of (Ne.symm Q)) ah.nil);replace n:=n.ab M (ah.J d2.symm);have aL:=L.size;refine eV.v (ar i.N ui) (by intro c e;cases e) cR rfl rfl ?_;refine eV.v fp (by intro c e;cases e) cR rfl rfl ?_;refine eV.z (cU _ ([x]) oQ mL nA rfl) (by intro c e;cases e) cR rfl rfl ?_;rintro v10 O ⟨an,C,aN,ab⟩;have aF:O.size=A.size+1:=by rw[ab];simp
 replace hm:=hm.bc C;replace j:=j.M C;replace i:=i.M C;replace n:=n.M C;have aA:af k (A.size+1):=af.new (by omega);have aD:=n.le;refine eV.z (dO n an.rd oQ (by simp;omega) (by simp;omega)) (by intro c e;cases e) cR rfl rfl ?_;rintro v11 ay ⟨E,F,q,R⟩;replace q:T k O.size E:=q;have I:=R.md;replace hm:=hm.aJ I (ag.cons (aq.root (by simp)) ag.nil);replace j:=j.ab I (ah.J d2);replace i:=i.ab I (ah.J d3);have aJ:=R.size;have aa:af (bP+1) E:=af.app d3 (by omega) q;have dl:af (bd+1) E:=af.app d2 (by omega) q;obtain⟨aO,aj⟩:∃s:aM,v11=s.v:=⟨cg v11,F.bm.symm⟩;refine eV.s (dh i 0 ([v11]) (by rw[aj];rfl) GV (by simp) rfl) (by intro c e;cases e) cR rfl ?_;rintro Z ⟨i,S⟩;have K:=S.bp;replace hm:=hm.aJ K (ag.cons (aq.root (by simp)) ag.nil);replace j:=j.ab K (ah.J d1);replace F:=F.ab K (ah.J aa.symm);have aK:=S.size;refine eV.nil (fun a w P G=>⟨rfl,Z,G,j,v11,E,rfl,?_,?_,?_,?_,?_⟩)
 ·exact⟨by simp[j.lt]⟩
 ·exact i.ab (V.bp (ku (r:=bd) _)) (ah.cons (af.of (Ne.symm Q)) ah.nil)
 ·exact F.ab (V.bp (ku (r:=bd) _)) (ah.J dl.symm)
 ·unfold T at q⊢;omega
 ·exact hm.aJ (V.bp (ku (r:=bd) _)) (ag.cons (aq.root (by simp)) ag.nil)
theorem Fr.start{n:Nat}{args:List Value}(i:args.length≤n):Fr n (lR args 0) {tmps:=args.toArray++Array.replicate (n-args.toArray.size) undef,defers:=[]}:=by
 refine⟨rfl,?_,?_⟩
 ·simp;omega
 ·intro t v e
  obtain⟨_,U⟩:=rK args 0 t v e;simp only[Nat.sub_zero]at U;simp only;have d:=(List.getElem?_eq_some_iff.1 U).1;rw[Array.getElem?_append_left (by simpa using d)]
  simpa using U
theorem tW.v{P:Program}{w0:World}{Q:Exit→Act→World→Prop}{n:Nat}{l:bZ}{H:Heap}{ops:Array Oper}{rest:List Oper}{J:Oper}{ds:List Deferred}{v:Value}{d:Nat}(hy:Y P w0 n l H J v)(o:∀c,J.op≠ .defer c)(hw:c7 ops l J)(al:J.dst=some d)(aA:Nat.blt d n=true)
 (h:∀a w,Fr n ((d,v)::l) a→At w0 H w→wpListIn (mm none) 0 P ops Q rest {a with defers:=ds} w):∀a w,Fr n l a→At w0 H w→wpListIn (mm none) 0 P ops Q (J::rest) {a with defers:=ds} w:=by
 intro a w i j;have k:=i.put aA v;rw[←al]at k;unfold wpListIn;rw[if_pos (hw n a i)];refine⟨fun _ _=>trivial,?_⟩;rw[Oper.semAt_eq _ _ _ o];show Oper.uponIn _ _ _ _ _ _ _ ((execOp a.eval J).run P w);rw[hy a w i j,Oper.uponIn_value];have U:=h _ w k j;have e:({a with defers:=ds}:Act).put J.dst v={(a.put J.dst v)with defers:=ds}:=by rw[al];rfl
 rw[e];exact U
end lI

namespace pB
open E Go.RowKit fz f_ gn gL gU hi hs hD hR lb lI
theorem D4(P:Loop)(bd bP F bH D d:Nat)(X:Value)(fv:cX→Value)(L:List (aH×cX))(w0:World)(I:Heap)
 (aF:Var 130 I F [.map (some bH)]) (q:de I aI fv bH L) (bq:iW I D) (n:hh I bd P) (j:Var 69 I bP [X]) (i:aU d 9 I gd 1 X []) (bD:rn P bP) (b8:L.length≤1099511627776) (bl:af (bd+1) (bP+1)) (bm:af (bd+1) (d)) (bk:af (bP+1) (d)) (b5:af (F+1) (bd+1)) (b4:af (F+1) (bP+1)) (b6:af (F+1) (d)) (bo:af (bH+1) (bd+1)) (bn:af (bH+1) (bP+1)) (bp:af (bH+1) (d)) (b1:af (D+1) (bd+1)) (b0:af (D+1) (bP+1)) (b3:af (D+1) (d)):
 aC Tryz.prog w0 135 #[.func (.yield bd) #[] #[],.pointer (some ⟨F,0,none⟩)] I (fun r Q=>∃aL:Value,∃aK:Nat,∃out:List aH,r= .tuple #[]∧(hh Q bd P)∧(Var 69 Q bP [aL])∧(aU aK 9 Q gd 1 aL out)∧(T d I.size aK)∧(out.Nodup∧∀k,k∈out↔k∈L.map (·.1))∧V (aE [(bd+1),(bP+1),d]) I Q):=by
 refine aC.enter (args:=[.func (.yield bd) #[] #[],.pointer (some ⟨F,0,none⟩)]) Tryz.func135 rfl rfl rfl ?_;intro bL bE;have B:V (aE [(bd+1),(bP+1),d]) I I:=V.refl _ _;have bX:=aF.lt;have bV:=q.lt;have bY:=bq.lt;have bc:=T.refl (bd+1) I.size;have bQ:=n.lt;have bf:=T.refl (bP+1) I.size;have bR:=j.lt;have aj:=T.refl d I.size;have an:=i.le;refine G.L (fun aW=>?_);refine o.v1 (ar aF.N zO) ?_;obtain⟨es,bj,q⟩:=q.raw;refine o.aO (Z.te q rfl k6 rfl) ?_;rintro v5 C ⟨rfl,it,E,a4,aX⟩;have bT:C.size=I.size+1:=by rw[aX];simp
 have aa:af (bH+1) (I.size+1):=af.new q.lt;have ab:af (bd+1) (I.size+1):=af.new n.lt;have ae:af (bP+1) (I.size+1):=af.new j.lt;have aY:af d (I.size+1):=af.new i.le;have ai:T 0 I.size (I.size+1):=T.new B.size;replace q:=q.M E;replace n:=n.M E;replace j:=j.M E;replace i:=i.M E;replace B:=B.bc E;have a5:=E.size;have bS:=it.lt;refine o.nil (aW (G.aB (fun _ aZ _=>?_)))
 refine G.bd (fun(bF:(List aH)×(Value)×(Nat))=>match bF with|(dn,M,t)=>[(0,.func (.yield bd) #[] #[]),(5,.pointer (some ⟨I.size,0,none⟩))])
  (fun(dn,M,t) (H:Heap)=>(hO H I.size bH aI es bj dn)∧(hh H bd P)∧(Var 69 H bP [M])∧(aU t 9 H gd 1 M dn)∧(dn.Nodup∧∀k∈dn,k∈L.map (·.1))∧(T d C.size t)∧(af (I.size+1) t)∧(af (bd+1) t)∧(af (bP+1) t)∧V (aE [(I.size+1),(bd+1),(bP+1),d]) C H)
  (fun(dn,M,t)=>L.length-dn.length) ([],X,d) ⟨rfl,rfl,trivial⟩ ?_ ?_
 ·
  exact⟨it,n,j,i,⟨List.nodup_nil,by simp⟩,T.refl _ _,aY.symm,bm,bk,V.refl _ _⟩
 rintro⟨dn,M,t⟩ bM a1 oc a6 a7;obtain⟨it,n,j,i,K,ay,bg,bh,au,A⟩:=a1;have aM:T d I.size t:=T.L (aj) ay B.size;replace q:=q.ab A (ah.cons aa (ah.cons bo (ah.cons bn (ah.J bp))));replace B:=B.aJ A (ag.cons (aq.q ai) (ag.cons (aq.r bc) (ag.cons (aq.r bf) (ag.J (aq.r aj)))));have bN:=A.size;have an:=i.le;have ap:=bg;have az:=bh;have aA:=au;have ac:=T.refl (I.size+1) C.size;have ad:=T.refl (bd+1) C.size;have bb:=T.refl (bP+1) C.size;have aB:=ay;have bx:=lr K.1 K.2;rw[List.length_map]at bx;refine G.L (fun a8=>?_);refine o.aO (Z.sW it q gr.inj rfl rfl) ?_;rintro v6 bJ ⟨b9,x,y,b7,rfl,it,bt,bs,am⟩;replace am:=am.bp;replace q:=q.ab am (ah.J aa);replace i:=i.ab am (ah.J ap.symm);replace n:=n.ab am (ah.J ab);replace j:=j.ab am (ah.J ae);replace B:=B.aJ am (ag.J (aq.q ai));replace A:=A.aJ am (ag.J (aq.r ac));have bO:=am.size;refine o.v1 (Y.r_ rfl rfl) (o.nil (a8 ?_));refine G.t2 (fun a_ ba=>?_);refine cI (fun cE=>?_) (fun cE=>?_)
 ·
  obtain⟨aJ,bA,aD⟩:=bt cE;rw[aD]at it;refine G.skip (a_ (G.aB (fun a0 _ _=>G.L (fun b2=>?_))));refine o.v1 (Y.r9 it q gr.inj aJ rfl rfl) ?_;refine o.v1 cN ?_;refine o.aj ?_;refine b2 (G.t1 (fun a2=>?_));refine G.Gh ?_;refine eV.v fp (by intro c e;cases e) cR rfl rfl ?_;refine eV.v fp (by intro c e;cases e) cR rfl rfl ?_;refine eV.round rfl rfl rfl cR rfl rfl (Ad P bP bd _ _ dn x w0 _ bD n j i (bl) (az) (aA) (by omega)) (fun a9 bU a3=>?_);have aN:=it.lt;have aO:=n.lt;have aQ:=j.lt;obtain⟨bG,O,rfl,n,j,i,R,S⟩:=a3;have aR:af (I.size+1) O:=af.app (ap) aN R;have aS:af (bd+1) O:=af.app (az) aO R;have aT:af (bP+1) O:=af.app (aA) aQ R;have aV:T d C.size O:=T.L (aB) R A.size;replace it:=it.ab S (ah.cons ab.symm (ah.cons ae.symm (ah.J ap)));replace A:=A.aJ S (ag.cons (aq.r ad) (ag.cons (aq.r bb) (ag.J (aq.r aB))));have bZ:=S.size;have an:=i.le;refine eV.v eI (by intro c e;cases e) cR rfl rfl ?_;refine eV.nil ?_;refine a2 ?_;refine dB ?_;refine G.skip (a0 ?_)
  have W:(dn++[x]).Nodup∧∀k∈dn++[x],k∈L.map (·.1):=by
   refine⟨?_,fun k N=>?_⟩
   ·rw[List.nodup_append]
    exact⟨K.1,by simp,fun a bu b aw e=>by simp only[List.mem_singleton]at aw;subst aw;subst e;exact bA bu⟩
   ·rcases List.mem_append.1 N with N|N
    ·exact K.2 k N
    ·rw[List.mem_singleton.1 N];exact List.mem_map.2 ⟨_,aJ,rfl⟩
  have bz:=lr W.1 W.2;rw[List.length_append,List.length_map,List.length_singleton]at bz;refine aP.sub (a6 (dn++[x],bG,O) _ ?_ ?_) ⟨rfl,rfl,trivial⟩
  ·exact⟨it,n,j,i,W,aV,aR,aS,aT,A⟩
  ·simp only[List.length_append,List.length_singleton];omega
 ·
  obtain⟨bw,aD⟩:=bs cE;refine G.exit (ba (a7 (aZ ?_)));refine bE .normal (.inl rfl) _ _ _ (iQ rfl) ?_;exact⟨M,t,dn,rfl,n,j,i,aM,⟨K.1,fun k=>⟨K.2 k,fun h=>by obtain⟨p,bC,rfl⟩:=List.mem_map.1 h;exact bw p bC⟩⟩,B⟩
theorem Ak(i bH:Nat)(fv:cX→Value)(W:List (aH×cX))(w0:World)(I:Heap)(C:Var 130 I i [.map (some bH)])(B:de I aI fv bH W)(bk:W.length≤1099511627776):
 aC Tryz.prog w0 196 #[.slice none 0 0,.func (.func 135) #[] #[.pointer (some ⟨i,0,none⟩)]] I (fun r aJ=>∃s:aM,∃k:Nat,∃out:List aH,r=s.v∧(aU k 9 aJ gd 1 s.v out)∧(T 0 I.size k)∧(out.Nodup∧∀k,k∈out↔k∈W.map (·.1))∧ak I aJ):=by
 intro w a_;refine callsIn_wide.1 (callsIn_of_wp_marks (n:=0) Tryz.func196 rfl trivial ?_);have bb:=Fr.start (n:=Tryz.f196.ntmps) (args:=[.slice none 0 0,.func (.func 135) #[] #[.pointer (some ⟨i,0,none⟩)]]) (Nat.le_of_ble_eq_true rfl);refine wpIn_seq (wpIn_wide.2 ?_);refine(G.region (w0:=w0) (H:=I) (n:=Tryz.f196.ntmps) (l:=lR [.slice none 0 0,.func (.func 135) #[] #[.pointer (some ⟨i,0,none⟩)]] 0) ?_) _ w bb a_;refine o.aO (Z.nq rfl rfl rfl) ?_;rintro v2 H1 ⟨rfl,ae,aD,bC,a6⟩;have bw:H1.size=I.size+1:=by rw[a6];simp
 have bu:=C.lt;have bt:=B.lt;replace C:=C.M aD;replace B:=B.M aD;refine o.b2 ?_;refine o.nil (fun b2 an bc ba=>?_);show(Code.seq _ _).wpIn Fence.wide 0 _ _ b2 an;refine wpIn_seq (wpIn_seq (wpIn_wide.2 ?_));refine(G.region (w0:=w0) (H:=H1) ?_) b2 an bc ba;refine o.W ?_;refine o.nil (fun a2 d K aO=>?_);show(Code.block _ _).wpIn Fence.wide 0 _ _ a2 d;refine wpIn_block (wpIn_rangeFunc (fun fn _=>?_));obtain⟨rc,aS⟩:∃rc:Loop,rc={state:= .ready,pending:=none,fn,tmps:=a2.tmps,params:= #[7],assign:=rM (n0 (Tryz.f196.body.getD .skip)),body:=rR (n0 (Tryz.f196.body.getD .skip)),defers:=d.heap.size}:=⟨_,rfl⟩
 have aW:(Instr.enterLoop fn a2.tmps #[7] (rM (n0 (Tryz.f196.body.getD .skip))) (rR (n0 (Tryz.f196.body.getD .skip))) none).run Tryz.prog d= .ok (d.heap.size+1,[{target:= .collected d.heap.size,args:= #[]}]) ((d.alloc (.deferred (some []))).alloc (.loop rc)):=by
  rw[aS];exact run_enterLoop_outer fn a2.tmps #[7] _ _
 have au:At w0 ((H1.push (.deferred (some []))).push (.loop rc)) ((d.alloc (.deferred (some []))).alloc (.loop rc)):=(aO.alloc _).alloc _;obtain⟨M,bn⟩:∃M,M=(d.alloc (.deferred (some []))).alloc (.loop rc):=⟨_,rfl⟩;rw[←bn]at aW au;obtain⟨j,F⟩:∃j,j=(H1.push (.deferred (some []))).push (.loop rc):=⟨_,rfl⟩;rw[←F]at au;have bx:j.size=H1.size+2:=by rw[F];simp
 have L:d.heap.size=H1.size:=by rw[aO.heap]
 have O:ak H1 j:=by rw[F];exact(ak.pu _ _).L (ak.pu _ _)
 replace C:=C.M O;replace B:=B.M O;replace ae:=ae.M O;have aN:iW j H1.size:=⟨by rw[F,Array.getElem?_push,if_neg (by simp)];exact Array.getElem?_push_size⟩
 have bf:hh j (H1.size+1) rc:=⟨by
  have aL:=Array.getElem?_push_size (xs:=H1.push (.deferred (some []))) (x:=Obj.loop rc);rw[Array.size_push,←F]at aL;exact aL⟩
 have aA:rn rc I.size:=by
  subst aS;exact⟨rfl,rfl,rfl,rfl,rfl,⟨rfl,K.size,fun t v e=>(K.sub (l':=[(2,.pointer (some ⟨I.size,0,none⟩))]) ⟨rfl,trivial⟩).get t v e⟩⟩
 have bo:∀w,(callFunc 135 #[.func (.yield (H1.size+1)) #[] #[],.pointer (some ⟨i,0,none⟩)]).run Tryz.prog w= .ok (.enter 135 #[.func (.yield (H1.size+1)) #[] #[],.pointer (some ⟨i,0,none⟩)]) w:=fun w=>enters_of Tryz.func135 (by kernel_rfl) rfl _ w;refine⟨d.heap.size+1,[{target:= .collected d.heap.size,args:= #[]}],M,{target:= .fn (.func 135) #[.pointer (some ⟨i,0,none⟩)],args:= #[.func (.yield (H1.size+1)) #[] #[]]},M,135,#[.func (.yield (H1.size+1)) #[] #[],.pointer (some ⟨i,0,none⟩)],M,aW,?_,fun _ _=>trivial,?_,fun h=>(by cases h),?_⟩
 ·have aZ:=K.get 6 (.func (.func 135) #[] #[.pointer (some ⟨i,0,none⟩)]) rfl
  rw[L];simp[resolve,rangeCall,Deferred.ofValue,Act.eval,aZ]
 ·exact bo _
 refine callsIn_wide.2 ((D4 rc (H1.size+1) I.size i bH H1.size 0 (.slice none 0 0) fv W w0 j C B aN bf ae (aU.nil mL nA) aA bk kC af.z af.z kC kC af.z kC kC af.z kC kC af.z _ au).mono ?_);rintro e aF ⟨bD,E,rfl,ay,Y,a8,out,rfl,bg,ai,X,aR,bl,aB⟩;have aj:iW E H1.size:=aN.ab aB (ah.cons kC (ah.cons kC (ah.J af.z)));have bh:aF.heap[d.heap.size+1]?=some (.loop rc):=by rw[ay.heap,L];exact bg.at_
 have aT:rc.pending=none:=aA.x4;have aQ:=run_endLoop (P:=Tryz.prog) bh (by rw[aA.st];simp);rw[aT]at aQ;refine⟨none,_,aQ,?_⟩;have Q:V (fun c=>c=H1.size+1) E (E.setIfInBounds (H1.size+1) (.loop {rc with state:= .exhausted})):=ku _
 have N:At w0 (E.setIfInBounds (H1.size+1) (.loop {rc with state:= .exhausted})) (aF.putObj (d.heap.size+1) (.loop {rc with state:= .exhausted})):=by
  unfold World.putObj;rw[ay.heap,L];exact ay.set
 rw[aT]at Q N;obtain⟨aa,aX⟩:∃aa,aa=aF.putObj (d.heap.size+1) (.loop {rc with state:= .exhausted,pending:=none}):=⟨_,rfl⟩;obtain⟨A,a7⟩:∃A,A=E.setIfInBounds (H1.size+1) (.loop {rc with state:= .exhausted,pending:=none}):=⟨_,rfl⟩;rw[←aX]at N;rw[←a7]at Q N;rw[←aX];have bz:=aB.size;have bA:=Q.size;have R:=Q.bp;have aK:∀c,c+1≤j.size→af a8 (c+1):=fun c av q bs U=>by unfold T at aR;omega
 replace ai:=ai.ab R (ah.cons kC ah.nil);replace X:=X.ab R (ah.cons (aK _ (by omega)) ah.nil);replace aj:=aj.ab R (ah.cons kC ah.nil)
 have bj:V (aE []) I A:=by
  have bp:=((V.refl (S:=aE []) I).bc aD).bc O;have bq:=bp.aJ aB (ag.cons (aq.new (by omega)) (ag.cons (aq.new (Nat.le_refl _)) (ag.cons aq.z ag.nil)));exact bq.aJ R (ag.cons (aq.new (by omega)) ag.nil)
 show(Code.seq _ _).wpIn Fence.wide 0 _ _ _ aa;refine wpIn_seq (wpIn_region_lit ?_);refine tW.v (w0:=w0) (H:=A) (ar ai.N ui) (by intro c e;cases e) cR rfl rfl ?_ a2 aa K N;refine tW.v (w0:=w0) (H:=A) ev (by intro c e;cases e) cR rfl rfl ?_;intro aY ab bd az;show Code.ret.wpIn Fence.wide 0 _ _ _ ab;refine wpIn_ret ?_;show LeavesInM Fence.wide 0 _ _ aY.tmps _ ([{target:= .collected d.heap.size,args:= #[]}]++a2.defers) .returning ab;rw[K.defers,List.append_nil];have a1:ab.heap[d.heap.size]?=some (.deferred (some [])):=by rw[az.heap,L];exact aj.at_
 refine⟨by simp,.inl ⟨_,_,rfl,run_takeDeferred (P:=Tryz.prog) a1,?_⟩⟩;have bm:V (fun c=>c=H1.size) A (A.setIfInBounds H1.size (.deferred none)):=ku _
 have aP:At w0 (A.setIfInBounds H1.size (.deferred none)) (ab.putObj d.heap.size (.deferred none)):=by
  unfold World.putObj;rw[az.heap,L];exact az.set
 have aV:=bm.bp;obtain⟨s,ao⟩:∃s:aM,Y=s.v:=⟨cg Y,X.bm.symm⟩;refine⟨Y,yh rfl rfl _ _ bd aP,Y,_,rfl,aP,s,a8,out,ao,?_,?_,bl,?_⟩
 ·rw[←ao];exact X.ab aV (ah.cons (aK _ (by omega)) ah.nil)
 ·unfold T at aR⊢;omega
 ·exact(bj.aJ aV (ag.cons (aq.new (by omega)) ag.nil)).nil
theorem vC(d bH:Nat)(fv:cX→Value)(j:List (aH×cX))(w0:World)(I:Heap)
 (K:Var 130 I d [.map (some bH)]) (H:de I aI fv bH j) (C:j.length≤1099511627776):
 aC Tryz.prog w0 133 #[.func (.func 135) #[] #[.pointer (some ⟨d,0,none⟩)]] I (fun r n=>∃s:aM,∃k:Nat,∃out:List aH,r=s.v∧(aU k 9 n gd 1 s.v out)∧(T 0 I.size k)∧(out.Nodup∧∀k,k∈out↔k∈j.map (·.1))∧ak I n):=by
 refine aC.aK [.func (.func 135) #[] #[.pointer (some ⟨d,0,none⟩)]] Tryz.func133 ?_;intro O F;have i:ak I I:=V.refl _ _;refine G.L (fun t=>?_);refine o.aj ?_;refine t (G.L (fun x=>?_));refine o.W ?_;refine aV Bv (Ak d bH fv j w0 _ K H C) ?_;rintro v4 N ⟨M,q,L,rfl,ac,ad,E,A⟩;have B:T 0 I.size q:=T.L (T.refl 0 _) ad i.size;replace i:=i.L A;refine o.aj ?_;refine x ?_;refine G.ret (F ?_);exact⟨M,q,L,rfl,ac,B,E,i⟩
theorem wV(bH:Nat)(w0:World)(I:Heap)
 :
 aC Tryz.prog w0 58 #[.map (some bH)] I (fun r k=>∃d:Nat,r= .func (.func 135) #[] #[.pointer (some ⟨d,0,none⟩)]∧(Var 130 k d [.map (some bH)])∧(T 0 I.size (d+1))∧ak I k):=by
 refine aC.aK [.map (some bH)] Tryz.func58 ?_;intro x t;have i:ak I I:=V.refl _ _;refine G.L (fun n=>?_);refine o.aO (Z.nq rfl rfl (rfl)) ?_;rintro v1 H1 ⟨rfl,j,q,ad,A⟩;replace i:=i.L q;replace j:Var 130 H1 I.size ([.map (some bH)]):=j;refine o.aj ?_;refine n (G.L (fun ac=>?_));refine o.v1 (Y.makeFunc rfl rfl) ?_;refine o.aj ?_;refine ac ?_;refine G.ret (t ?_);exact⟨_,rfl,j,T.new (Nat.le_refl _),i⟩
theorem G_(i bH:Nat)(fv:cX→Value)(n:List (aH×cX))(w0:World)(I:Heap)
 (B:Var 130 I i [.map (some bH)]) (A:de I aI fv bH n) (O:n.length≤1099511627776):
 aC Tryz.prog w0 57 #[.func (.func 135) #[] #[.pointer (some ⟨i,0,none⟩)]] I (fun r t=>∃s:aM,∃k:Nat,∃out:List aH,r=s.v∧(aU k 9 t gd 1 s.v out)∧(T 0 I.size k)∧(jL out∧∀k,k∈out↔k∈n.map (·.1))∧ak I t):=by
 refine aC.aK [.func (.func 135) #[] #[.pointer (some ⟨i,0,none⟩)]] Tryz.func57 ?_;intro ae W;have d:ak I I:=V.refl _ _;have ah:=B.lt;have af:=A.lt;refine G.L (fun E=>?_);refine o.aj ?_;refine E (G.L (fun F=>?_));refine o.W ?_;refine aV uY (vC i bH fv n w0 _ B A O) ?_;rintro v5 aa ⟨Z,C,Y,rfl,q,H,j,ad⟩;have x:T 0 I.size C:=T.L (T.refl 0 _) H d.size;replace d:=d.L ad;have ai:=ad.size;have ac:=q.le;have P:=lr j.1 (fun k N=>(j.2 k).1 N);rw[List.length_map]at P;refine o.aj ?_;refine F (G.L (fun K=>?_));refine o.W ?_;refine aV A_ (G9 C _ Y w0 _ q (by omega)) ?_;rintro aj ab ⟨X,a8,rfl,q,L,S,M⟩;have au:T 0 I.size a8:=T.L (x) L d.size;replace d:=d.bl M (ag.J (aq.q x));refine o.nil (K (G.L (fun am=>?_)));refine o.aR 2 ?_;refine am ?_;refine G.ret (W ?_);obtain⟨Q,R⟩:=Ha j.1 S;exact⟨Z,a8,X,rfl,q,au,⟨Q,fun k=>by rw[R.mem_iff,j.2]⟩,d⟩
end pB

namespace fO
open E Go.RowKit eJ eN eW e3 ey eX eY fF fG pB
set_option maxRecDepth 100000 in
theorem jX:c6 Tryz.prog 244 35 1 8:=⟨Tryz.underlying244,_,_,rfl,rfl,rfl,rfl,rfl⟩
theorem xC:∀{ml:List bF} {l:dP} {q:aH},dc l→(∀x∈ml,x.n≠q)→aL (ml.foldl dK l) q=aL l q
 |[],_,_,_,_=>rfl
 |x::ml,l,q,h,aA=>by
  rw[List.foldl_cons,xC (qm h x) (fun y hy=>aA y (List.mem_cons_of_mem _ hy)),o2 h,if_neg (fun e=>aA x List.mem_cons_self e.symm)]
theorem xB:∀{ml:List bF} {l:dP} {m:bF},dc l→(ml.map (·.n)).Nodup→m∈ml→aL (ml.foldl dK l) m.n=if m.w=bz then none else some m.w
 |x::ml,l,m,h,aA,hm=>by
  rw[List.map_cons,List.nodup_cons]at aA;rw[List.foldl_cons];rcases List.mem_cons.1 hm with rfl|hm
  ·rw[xC (qm h m) (fun y hy e=>aA.1 (by rw[←e];exact List.mem_map_of_mem hy)),o2 h,if_pos rfl]
  ·exact xB (qm h x) aA.2 hm
theorem E_{l:dP}{pre r:List bF}{m:bF}(h:h0 l pre (m::r)=0):gQ l pre m=0∧h0 l (pre++[m]) r=0:=by
 rw[h0]at h;by_cases d:gQ l pre m≠0
 ·rw[if_pos d]at h;exact absurd h d
 ·rw[if_neg d]at h;exact⟨by simpa using d,h⟩
theorem E2{l:dP}{pre:List bF}{m:bF}(h:gQ l pre m=0):m.n∉pre.map (·.n):=by
 intro U;unfold gQ at h;by_cases d:c8 m.n≠0
 ·rw[if_pos d]at h;cases h
 ·rw[if_neg d,if_pos U]at h;cases h
theorem xD:∀{ml:List bF} {l:dP} {pre:List bF},h0 l pre ml=0→(ml.map (·.n)).Nodup∧∀m∈ml,m.n∉pre.map (·.n)
 |[],_,_,_=>⟨List.nodup_nil,fun m h=>by cases h⟩
 |x::ml,l,pre,h=>by
  obtain⟨i,U⟩:=E_ h;obtain⟨j,d⟩:=xD U;refine⟨?_,fun m hm=>?_⟩
  ·rw[List.map_cons,List.nodup_cons]
   refine⟨fun n=>?_,j⟩;obtain⟨y,hy,e⟩:=List.mem_map.1 n;exact d y hy (by rw[e];simp)
  ·rcases List.mem_cons.1 hm with rfl|hm
   ·exact E2 i
   ·intro k;exact d m hm (by rw[List.map_append];exact List.mem_append_left _ k)
theorem Dr{u m:dP}{n:aH}{out:List aH}(hm:∀q,aL m q=aL u q)(o:∀k,k∈out↔k∈(d_ m n).map (·.1)):out.any (i_ n)=(u.map (·.1)).any (fun x=>decide (x≠n)&&i_ n x)∧n∉out:=by
 have e:∀k,k∈out↔k∈u.map (·.1)∧k≠n:=by
  intro k;rw[o,←gP,jg,←gP];by_cases d:k=n
  ·simp[d]
  ·rw[if_neg d,hm];simp[d]
 refine⟨?_,fun h=>((e n).1 h).2 rfl⟩;rw[Bool.eq_iff_iff,List.any_eq_true,List.any_eq_true];constructor
 ·rintro⟨x,i,h⟩
  obtain⟨j,U⟩:=(e x).1 i;exact⟨x,j,by simp[U,h]⟩
 ·rintro⟨x,i,h⟩
  rw[Bool.and_eq_true,decide_eq_true_eq]at h;exact⟨x,(e x).2 ⟨i,h.1⟩,h.2⟩
theorem zn{l:dP}{ml:List bF}(i:∀x∈l,x.1.length≤60)(h:h0 l [] ml=0):∀x∈ml.foldl dK l,x.1.length≤60:=by
 intro x d;rcases qH d with d|⟨m,hm,e,_⟩
 ·exact i x d
 ·rw[e];exact((mJ m.n).1 (nR h m hm)).1
theorem wy{u:dP}{ml:List bF}(h:∀m∈ml,hI u m=false):nC u ml=0:=by
 unfold nC;rw[if_neg];rw[List.any_eq_true];rintro⟨m,hm,e⟩;rw[h m hm]at e;cases e
theorem wx{u:dP}{ml:List bF}{m:bF}(hm:m∈ml)(h:hI u m=true):nC u ml=13:=by
 unfold nC;rw[if_pos (List.any_eq_true.2 ⟨m,hm,h⟩)]
theorem mC{α:Type}{l:List α}{p:α→Prop}{i:Nat}(h:∀x∈l.take i,p x)(j:i<l.length)(U:p l[i]):∀x∈l.take (i+1),p x:=by
 intro x d;rw[List.take_succ_eq_append_getElem j]at d;rcases List.mem_append.1 d with d|d
 ·exact h x d
 ·rw[List.mem_singleton.1 d];exact U
theorem E0(x:bF)(k:Nat)(m:bF)(w0:World)(I:Heap)
 (d:Var 52 I k (dt m)):
 aC Tryz.prog w0 131 #[j3 x,.pointer (some ⟨k,0,none⟩)] I (fun r j=>r= .bool (decide (x.n=m.n))∧ak I j):=by
 refine aC.aK [j3 x,.pointer (some ⟨k,0,none⟩)] Tryz.func131 ?_;intro B A;have n:ak I I:=V.refl _ _;refine G.L (fun t=>?_);refine o.aO cr ?_;rintro v2 j ⟨rfl,i,q,ad,C⟩;replace d:=d.M q;replace n:=n.L q;replace i:Var 52 j I.size (dt x):=i;refine o.aj ?_;refine t (G.L (fun ac=>?_));refine o.v1 (Y.ai i.N rfl cy rfl bO) ?_;refine o.v1 (ar i.N bL) ?_;refine o.v1 (Y.ai d.N rfl cy rfl bO) ?_;refine o.v1 (ar d.N bL) ?_;refine o.v1 (Y.jB rfl rfl rfl) ?_;refine o.aj ?_;refine ac ?_;refine G.ret (A ?_);exact⟨rfl,n⟩
theorem DP(v cH:Value)(l:List bF)(p:bF→Bool)(w0:World)(I:Heap)
 (d:bw I dt 66 v l) (ah:∀(x:bF) (aa:Heap),ak I aa→x∈l→fa Tryz.prog w0 cH [j3 x] aa (fun r q=>r= .bool (p x)∧ak aa q)):
 aC Tryz.prog w0 193 #[v,cH] I (fun r q=>∃n:Int,r= .int .i64 n∧((0≤n↔l.any p=true)∧ -1≤n∧n≤9223372036854775807)∧ak I q):=by
 refine aC.aK [v,cH] Tryz.func193 ?_;intro aj E;have i:ak I I:=V.refl _ _;replace d:=d.bt;have aE:=d.len;refine G.L (fun Q=>?_);refine o.aj ?_;refine Q (G.t2 (fun au am=>G.L (fun R=>?_)));refine o.W ?_;refine o.v1 (ba d dG) ?_;refine o.W (o.nil (R ?_));refine G.aB (fun _ ap S=>?_)
 refine G.bd (fun(j:(Nat))=>[(0,v),(1,cH),(7,.int .i64 l.length),(8,.int .i64 j)])
  (fun(j:(Nat)) (H:Heap)=>(j≤l.length)∧((l.take j).any p=false)∧ak I H)
  (fun(j:(Nat))=>l.length-j) 0 ⟨rfl,rfl,rfl,rfl,trivial⟩ ?_ ?_
 ·
  exact⟨(by omega),rfl,V.refl _ _⟩
 intro j aq T ai W C;obtain⟨aB,B,k⟩:=T;replace d:=d.M k;replace i:=i.L k;have ar:=k.size;refine G.L (fun X=>?_);refine o.v1 bG (o.nil (X ?_));refine G.t2 (fun Z ab=>?_);refine aT (fun ag=>?_) (fun ag=>?_)
 ·
  refine G.skip (Z (G.t2 (fun ae af=>G.aB (fun F _ K=>G.L (fun ac=>?_)))));refine o.aR 2 ?_;refine ac (G.L (fun M=>?_));refine o.ax 3 ?_;refine o.bR (Y.bJ d (j) rfl dG dM rfl rfl) fun an N=>?_;refine o.v1 (aW N.N iE dM (e0 _)) ?_;refine o.kl rfl rfl rfl cR rfl rfl (ah l[j] _ i (List.getElem_mem (by omega))) (fun ay az L=>?_);obtain⟨rfl,t⟩:=L;replace i:=i.L t;replace k:=k.L t;have aA:=t.size;refine o.nil (M ?_);refine cI (fun A=>?_) (fun A=>?_)
  ·
   refine G.L (fun O=>?_);refine o.aR 2 ?_;refine O ?_;refine G.ret (K (af (C (S (am (E ?_))))));exact⟨j,rfl,⟨⟨fun _=>mD (j:=j) (by omega) (by simpa using A),fun _=>by omega⟩,by omega,by omega⟩,i⟩
  ·
   refine G.skip (F (ae (G.region ?_)));refine o.v1 bD ?_;refine o.W (o.nil ?_);refine aP.sub (W (j+1) _ ?_ ?_) ⟨rfl,rfl,(aD (by omega)),(aD (by omega)),trivial⟩
   ·exact⟨(by omega),ou B (by omega) (by simpa using A),k⟩
   ·first|omega|(simp only;omega)|(simp;omega)
 ·
  refine G.exit (ab (C (ap ?_)));refine au (G.L (fun P=>?_));refine o.aj ?_;refine P ?_;refine G.ret (E ?_);exact⟨-1,rfl,⟨⟨fun h=>by omega,fun h=>by rw[List.take_of_length_le (by omega),h]at B;cases B⟩,by omega,by omega⟩,i⟩
theorem CC(v cH:Value)(l:List bF)(p:bF→Bool)(w0:World)(I:Heap)
 (d:bw I dt 66 v l) (A:∀(x:bF) (aa:Heap),ak I aa→x∈l→fa Tryz.prog w0 cH [j3 x] aa (fun r i=>r= .bool (p x)∧ak aa i)):
 aC Tryz.prog w0 130 #[v,cH] I (fun r i=>r= .bool (l.any p)∧ak I i):=by
 refine aC.aK [v,cH] Tryz.func130 ?_;intro E B;have j:ak I I:=V.refl _ _;replace d:=d.bt;have F:=d.len;refine G.L (fun q=>?_);refine o.aj ?_;refine q (G.L (fun t=>?_));refine o.ax 2 ?_;refine aV Bt (DP _ cH l p w0 _ d.any A) ?_;rintro H C ⟨n7,rfl,n,ac⟩;replace j:=j.L ac;refine o.v1 dH ?_;refine o.aj ?_;refine t ?_;refine G.ret (B ?_);exact⟨by cases k:l.any p with|true=>(rw[decide_eq_true (n.1.2 k)])|false=>(rw[decide_eq_false (fun h=>by rw[n.1.1 h]at k;cases k)]),j⟩
theorem EX(s:c2)(v:Value)(ml:List bF)(F:Nat→Prop)(bk:Int)(w0:World)(I:Heap)
 (aN:dV bk I) (a6:bg (fun b=>b=0) I.size) (ao:e4 F I s) (dS:bg F I.size) (hm:bw I dt 66 v ml) (c9:dc (bN s.bb)) (fB:∀x∈(bN s.bb),x.1.length≤60) (cq:∀m∈ml,m.n.length≤140737488355328):
 aC Tryz.prog w0 49 #[ed s,v] I (fun r bb=>r= .int .i64 (ft (bN s.bb) ml)∧ak I bb):=by
 refine aC.aK [ed s,v] Tryz.func49 ?_;intro fH bx;have k:ak I I:=V.refl _ _;replace hm:=hm.bt;have b2:=hm.bY;have ha:=hm.len;refine G.L (fun ey=>?_);refine o.aO cr ?_;rintro v2 bb ⟨rfl,bY,aX,gi,ez⟩;have fT:bb.size=I.size+1:=by rw[ez];simp
 replace aN:=aN.M aX;replace ao:=ao.M aX;replace hm:=hm.M aX;replace k:=k.L aX;have gj:=aX.size;replace bY:Var 47 bb I.size (bS s):=bY;refine o.aj ?_;refine ey (G.L (fun eA=>?_));refine o.v1 (aW bY.N fg dx (b8 _)) ?_;refine aV vm (y4 s F w0 _ ao (dS.mono (by omega))) (fun gk cl eB=>?_);obtain⟨bH,rfl,n,bC,bl⟩:=eB;have bP:=ay.app (ay.z) (a6.mono k.size) bC;have cs:=ay.app (ay.z) (b2.mono k.size) bC;have bq:T 0 I.size (bH+1):=T.L (T.refl 0 _) bC k.size;replace aN:=aN.M bl;replace hm:=hm.M bl;replace k:=k.L bl;have gl:=bl.size;have fJ:=n.le;have cu:=xk s.bb c9.nodup;refine o.aj ?_;refine eA (G.t2 (fun eC eD=>G.L (fun eF=>?_)));refine o.W ?_;refine o.v1 (ba hm dG) ?_;refine o.W (o.nil (eF ?_));refine G.aB (fun _ eG eH=>?_)
 refine G.bd (fun(j:(Nat))=>[(1,v),(5,.map (some bH)),(16,v),(17,.int .i64 (ml.length:Int)),(18,.int .i64 (j:Int))])
  (fun(j:(Nat)) (H:Heap)=>(j≤ml.length)∧(∀i (h:i<j),∀U:i<ml.length,gQ (bN s.bb) (ml.take i) ml[i]=0)∧ak cl H)
  (fun(j:(Nat))=>ml.length-j) 0 ⟨rfl,rfl,rfl,rfl,rfl,trivial⟩ ?_ ?_
 ·
  exact⟨(by omega),(fun i h=>by omega),V.refl _ _⟩
 intro j P eJ fG eK cn;obtain⟨gX,bQ,C⟩:=eJ;replace aN:=aN.M C;replace hm:=hm.M C;replace n:=n.M C;replace k:=k.L C;have gm:=C.size;refine G.L (fun eL=>?_);refine o.v1 bG (o.nil (eL ?_));refine G.t2 (fun eM eN=>?_);refine aT (fun eg=>?_) (fun eg=>?_)
 ·
  refine G.skip (eM (G.t2 (fun eh ei=>G.aB (fun dW _ br=>G.L (fun dY=>?_)))));refine o.W ?_;have Q:j<ml.length:=by omega
  obtain⟨y,L⟩:∃q,q=ml[j]:=⟨_,rfl⟩;have aj:y∈ml:=by rw[L];exact List.getElem_mem Q
  have hc:=cq y aj;refine o.bR (Y.bJ hm (j) rfl dG dM rfl rfl) fun dE dZ=>?_;refine o.v1 (Y.cast (v2:= .agg (dt y).toArray) (aW dZ.N iE dM (e0 _)) (by rw[L])) ?_;refine o.aO (cQ mi) ?_;rintro hd cv ⟨rfl,M,an,gn,ej⟩;have fL:cv.size=P.size+1:=by rw[ej];simp
  have ea:=(ay.new (a6.mono k.size):ay _ (P.size+1));have bv:=(ay.new (b2.mono k.size):ay _ (P.size+1));have eb:af (bH+1) (P.size+1):=af.new n.le;have ef:T 0 I.size (P.size+1):=T.new k.size;have c6:T 0 cl.size (P.size+1):=T.new C.size;replace aN:=aN.M an;replace hm:=hm.M an;replace n:=n.M an;replace k:=k.L an;replace C:=C.L an;have gp:=an.size;refine o.b2 ?_;refine o.s1 (dy M (_) (dt y) (kO y) dM (e0 _) ((c0 (e0 _).symm))) fun b9 c_=>?_;obtain⟨M,W⟩:=c_;replace W:=W.bp;replace aN:=aN.ab W (az.J ea);replace hm:=hm.ab W (az.J bv);replace n:=n.ab W (ah.J eb);replace k:=k.bl W (ag.J (aq.q ef));replace C:=C.bl W (ag.J (aq.q c6));have gq:=W.size;refine o.nil (dY (G.t1 (fun da=>?_)));refine dC (fun K=>ak b9 K) [] ?_;have E:=ak.refl b9;refine O.t1 0 rfl (fun K t=>Y.ai (M.N.M t) rfl cy rfl bO) E ?_;refine O.t1 1 rfl (fun K t=>ar (M.N.M t) bL) E ?_;refine O.W 3 rfl E ?_;refine O.W 4 rfl E ?_;refine O.e (g:=fun v=>v) 5 (by kernel_rfl) rfl (by kernel_rfl) (by kernel_rfl) (by kernel_rfl) (Y.slice hm (0) (j) rfl dG dM rfl (.inl ⟨rfl,rfl⟩) (.inr ⟨_,_,_,rfl,rfl,by first|rfl|omega⟩) (by omega) (by omega)) cR rfl rfl E (fun gv bA=>?_);rw[List.drop_zero]at bA;refine O.t1 6 rfl (fun K t=>Y.makeFunc rfl rfl) E ?_;refine O.W 10 rfl E ?_;refine O.t1 11 rfl (fun K t=>Y.ai (M.N.M t) rfl cy rfl bO) E ?_;refine O.t1 12 rfl (fun K t=>ar (M.N.M t) bL) E ?_;refine O.t1 13 rfl (fun K t=>Y.cast (v2:=bs (hG (bN s.bb) y.n)) (Y.lookup (z0:=bz) (n.M t).fj gr rfl k6 Tryz.underlying9 nb rfl rfl) (by rw[hG,←cu])) E ?_;refine O.t1 14 rfl (fun K t=>Y.ai (M.N.M t) rfl cy rfl a_) E ?_;refine O.t1 15 rfl (fun K t=>Y.cast (v2:=bs y.J) (aW (((M.N.drop 1).M t).take 32) b_ a_ (by rw[gY];exact bB _)) (b6 (gY _))) E ?_;refine O.t1 16 rfl (fun K t=>Y.h_ rfl Tryz.eqGuardType26 (fun w=>fR 9998 Tryz.underlying26 Tryz.underlying5 cL dQ ((hG (bN s.bb) y.n).2) (y.J.2) w) rfl rfl) E ?_;refine O.t1 18 rfl (fun K t=>Y.ai (M.N.M t) rfl cy rfl a_) E ?_;refine O.t1 19 rfl (fun K t=>Y.cast (v2:=bs y.w) (aW (((M.N.drop 33).M t).take 32) b_ a_ (by rw[e1];exact bB _)) (b6 (e1 _))) E ?_;refine O.t1 20 rfl (fun K t=>Y.ai (M.N.M t) rfl cy rfl a_) E ?_;refine O.t1 21 rfl (fun K t=>Y.cast (v2:=bs y.J) (aW (((M.N.drop 1).M t).take 32) b_ a_ (by rw[gY];exact bB _)) (b6 (gY _))) E ?_;refine O.t1 22 rfl (fun K t=>Y.jN rfl Tryz.eqGuardType26 (fun w=>fR 9998 Tryz.underlying26 Tryz.underlying5 cL dQ (y.w.2) (y.J.2) w) rfl rfl) E ?_;refine O.aY 2 ?_;refine ch pX (p2 y.n bk w0 _ aN (a6.mono (by omega)) (by omega)) (fun gw bo ek=>?_);obtain⟨rfl,aJ⟩:=ek;replace M:=M.M aJ;replace bA:=bA.M aJ;replace k:=k.L aJ;replace C:=C.L aJ;have d0:=aJ.size;have cw:=E.L aJ;refine O.cn cw ?_;have cz:=ak.refl bo;refine O.aY 7 ?_;refine ch A7 (CC _ _ (ml.take j) (fun x=>decide (x.n=y.n)) w0 _ bA.any (fun x aa aA _=>fa.of (caps:=[.pointer (some ⟨P.size,0,none⟩)]) A8 (E0 x _ y w0 aa (M.M aA)))) (fun d1 dA cE=>?_);obtain⟨rfl,bm⟩:=cE;replace k:=k.L bm;replace C:=C.L bm;have d2:=bm.size;have cB:=cz.L bm;refine O.cn cB ?_;have b3:=ak.refl dA;refine O.t1 8 rfl (fun K t=>eI) b3 ?_;refine O.aY 9 ?_;refine ch hv (th (!((ml.take j).any (fun x=>decide (x.n=y.n)))) 18 w0 _) (fun d3 e7 en=>?_);obtain⟨rfl,bn⟩:=en;replace k:=k.L bn;replace C:=C.L bn;have d4:=bn.size;have cC:=b3.L bn;refine O.cn cC ?_;have cG:=ak.refl e7;refine O.aY 17 ?_;refine dD.call rfl rfl hv rfl cR rfl rfl (h4 (decide (hG (bN s.bb) y.n=y.J)) 21 (decide_eq_decide.2 ⟨fun h=>Subtype.ext h,fun h=>by rw[h]⟩) w0 _) (fun d5 e8 eo=>?_);obtain⟨rfl,bp⟩:=eo;replace k:=k.L bp;replace C:=C.L bp;have cp:=bp.size;have cH:=cG.L bp;refine O.cn cH ?_;have cI:=ak.refl e8;refine O.aY 23 ?_;refine dD.call rfl rfl hv rfl cR rfl rfl (h4 (decide (¬y.w=y.J)) 26 (decide_eq_decide.2 ⟨fun h e=>h (by rw[e]),fun h e=>h (Subtype.ext e)⟩) w0 _) (fun d6 cb eO=>?_);obtain⟨rfl,bc⟩:=eO;replace k:=k.L bc;replace C:=C.L bc;have gy:=bc.size;have cK:=cI.L bc;refine O.cn cK ?_;have cM:=ak.refl cb;refine O.aY 24 ?_;refine ep rfl (cU _ ([c8 y.n,dj (!((ml.take j).any (fun x=>decide (x.n=y.n)))) 18,dj (decide (hG (bN s.bb) y.n=y.J)) 21,dj (decide (¬y.w=y.J)) 26]) jX kn ko (rfl)) (fun d7 cc bf=>?_);obtain⟨db,bd,ee,df⟩:=bf;have fV:cc.size=cb.size+1:=by rw[df];simp
  replace k:=k.L bd;replace C:=C.L bd;have dd:=bd.size;have a0:=cM.L bd;refine O.cn a0 ?_;have a2:=ak.refl cc;refine O.aY 25 ?_;refine ch kJ (kX _ [c8 y.n,dj (!((ml.take j).any (fun x=>decide (x.n=y.n)))) 18,dj (decide (hG (bN s.bb) y.n=y.J)) 21,dj (decide (¬y.w=y.J)) 26] w0 _ db.rd.any) (fun d8 er fj=>?_);obtain⟨rfl,bj⟩:=fj;replace k:=k.L bj;replace C:=C.L bj;have gO:=bj.size;rw[E1];have a3:=a2.L bj;refine O.cn a3 ?_;have b4:=ak.refl er;refine O.t1 26 rfl (fun K t=>ev) b4 ?_;refine cD ?_;have fD:=b4;refine da (G.L (fun dg=>?_));refine o.W ?_;refine o.v1 c1 (o.nil (dg ?_));refine aT (fun bt=>?_) (fun bt=>?_)
  ·
   refine G.L (fun dh=>?_);refine o.aR 2 ?_;refine dh ?_;refine G.ret (br (ei (cn (eH (eD (bx ?_))))));exact⟨by have t:=sP (ml:=ml) (l:=(bN s.bb)) (pre:=[]) (j:=j) Q (fun i h=>by rw[List.nil_append];exact bQ i h (by omega)) (by rw[List.nil_append,←L];exact bt);rw[List.nil_append,←L]at t;rw[ft,if_pos (by rw[t];exact bt),t],k⟩
  ·
   refine G.skip (dW (eh (G.region ?_)));refine o.v1 bD ?_;refine o.W (o.nil ?_);refine aP.sub (eK (j+1) _ ?_ ?_) ⟨rfl,rfl,rfl,(aD (by omega)),(aD (by omega)),trivial⟩
   ·exact⟨(by omega),(fun i h U=>by rcases Nat.lt_or_ge i j with ab|ab;exact bQ i ab U;obtain rfl:i=j:=(by omega);rw[←L];simpa using bt),C⟩
   ·first|omega|(simp only;omega)|(simp;omega)
 ·
  obtain rfl:j=ml.length:=by omega
  have aR:h0 (bN s.bb) [] ml=0:=sQ (fun i bU=>by rw[List.nil_append];exact bQ i bU bU);have fE:=zn fB aR;have fA:=(xD aR).1;refine G.exit (eN (cn (eG ?_)));refine eC (G.t1 (fun di=>G.L (fun dk=>?_)));refine o.W ?_;refine o.v1 (ba hm dG) ?_;refine o.W (o.nil (dk ?_));refine G.aB (fun _ dm _=>?_)
  refine G.bd (fun(bX:(Nat)×(List (List UInt8×cX)))=>match bX with|(i,ae)=>[(1,v),(5,.map (some bH)),(53,v),(54,.int .i64 (ml.length:Int)),(55,.int .i64 (i:Int))])
   (fun(i,ae) (H:Heap)=>(i≤ml.length)∧(de H aI bs bH ae)∧(∀q,aL ae q=aL ((ml.take i).foldl dK (bN s.bb)) q)∧V (aE [(bH+1)]) P H)
   (fun(i,ae)=>ml.length-i) (0,lD s.bb) ⟨rfl,rfl,rfl,rfl,rfl,trivial⟩ ?_ ?_
  ·
   exact⟨(by omega),n,cu,V.refl _ _⟩
  rintro⟨i,ae⟩ aF fk d9 dp dq;obtain⟨bU,n,t,N⟩:=fk;replace aN:=aN.ab N (az.J bP);replace hm:=hm.ab N (az.J cs);replace k:=k.bl N (ag.J (aq.q bq));have gz:=N.size;have au:=T.refl (bH+1) P.size;refine G.L (fun dr=>?_);refine o.v1 bG (o.nil (dr ?_));refine G.t2 (fun dv dw=>?_);refine aT (fun fl=>?_) (fun fl=>?_)
  ·
   refine G.skip (dv (G.t1 (fun dz=>G.aB (fun dB _ _=>G.L (fun dF=>?_)))));have Q:i<ml.length:=by omega
   obtain⟨y,L⟩:∃q,q=ml[i]:=⟨_,rfl⟩;have aj:y∈ml:=by rw[L];exact List.getElem_mem Q
   refine o.bR (Y.bJ hm (i) rfl dG dM rfl rfl) fun gA dH=>?_;refine o.v1 (Y.cast (v2:= .agg (dt y).toArray) (aW dH.N iE dM (e0 _)) (by rw[L])) ?_;refine o.aO (cQ mi) fun gx fm dl=>?_;obtain⟨rfl,bZ,bE,cJ,dI⟩:=dl;have fM:fm.size=aF.size+1:=by rw[dI];simp
   have dJ:af (bH+1) (aF.size+1):=af.new n.le;have dL:T 0 P.size (aF.size+1):=T.new N.size;replace n:=n.M bE;replace N:=N.bc bE;have dn:=bE.size;refine o.s1 (dy bZ (_) (dt y) (kO y) dM (e0 _) ((c0 (e0 _).symm))) fun fN a4=>?_;obtain⟨bZ,aY⟩:=a4;replace aY:=aY.bp;replace n:=n.ab aY (ah.J dJ);replace N:=N.aJ aY (ag.J (aq.q dL));have gB:=aY.size;refine o.nil (dF (G.region ?_));refine o.W ?_;refine o.v1 (aW bZ.N iE dM (e0 _)) ?_;refine aV vn (xv bH ae y w0 _ n) (fun gG gH fo=>?_);obtain⟨rfl,n,a5⟩:=fo;replace N:=N.aJ a5 (ag.J (aq.r au));have gb:=a5.size;refine o.nil (dB (dz (G.region ?_)));refine o.v1 bD ?_;refine o.W (o.nil ?_);refine aP.sub (dp (i+1,j2 ae y) _ ?_ ?_) ⟨rfl,rfl,rfl,(aD (by omega)),(aD (by omega)),trivial⟩
   ·exact⟨(by omega),n,(fun q=>by rw[kq Q,←L,sJ,o2 (kr c9),t]),N⟩
   ·first|omega|(simp only;omega)|(simp;omega)
  ·
   obtain rfl:i=ml.length:=by omega
   rw[List.take_length]at t;have hb:=sH n.fj.nodup (kr c9).nodup t;refine G.exit (dw (dq (dm ?_)));refine di (G.t2 (fun dN dO=>G.L (fun cO=>?_)));refine o.W ?_;refine o.v1 (Y.xn n.fj rfl k6 rfl) ?_;refine o.v1 eT (o.nil (cO ?_));refine aT (fun ds=>?_) (fun ds=>?_)
   ·
    refine G.L (fun cP=>?_);refine o.aj ?_;refine cP ?_;refine G.ret (dO (bx ?_));exact⟨by rw[ft,if_neg (by rw[aR];decide),if_pos (by omega)],k⟩
   ·
    have gU:(ml.foldl dK (bN s.bb)).length≤200:=by omega
    refine G.skip (dN (G.t2 (fun cS cT=>G.L (fun cV=>?_))));refine o.W ?_;refine o.v1 (ba hm dG) ?_;refine o.W (o.nil (cV ?_));refine G.aB (fun _ cW cY=>?_)
    refine G.bd (fun(bX:(Nat)×(List (List UInt8×cX)))=>match bX with|(i3,R)=>[(5,.map (some bH)),(66,v),(67,.int .i64 (ml.length:Int)),(68,.int .i64 (i3:Int))])
     (fun(i3,R) (H:Heap)=>(i3≤ml.length)∧(de H aI bs bH R)∧(∀q,aL R q=aL (ml.foldl dK (bN s.bb)) q)∧(∀m∈ml.take i3,hI (ml.foldl dK (bN s.bb)) m=false)∧V (aE [(bH+1)]) aF H)
     (fun(i3,R)=>ml.length-i3) (0,ae) ⟨rfl,rfl,rfl,rfl,trivial⟩ ?_ ?_
    ·
     exact⟨(by omega),n,t,(fun m h=>by simp at h),V.refl _ _⟩
    rintro⟨i3,R⟩ aS fp gI bJ b0;obtain⟨gW,n,aH,ab,A⟩:=fp;replace aN:=aN.ab A (az.J bP);replace hm:=hm.ab A (az.J cs);replace k:=k.bl A (ag.J (aq.q bq));have gC:=A.size;have ca:=T.refl (bH+1) aF.size;refine G.L (fun cZ=>?_);refine o.v1 bG (o.nil (cZ ?_));refine G.t2 (fun c3 c5=>?_);refine aT (fun fq=>?_) (fun fq=>?_)
    ·
     refine G.skip (c3 (G.t2 (fun bM dP=>G.aB (fun eR b1 eS=>G.L (fun eU=>?_)))));have Q:i3<ml.length:=by omega
     obtain⟨y,L⟩:∃q,q=ml[i3]:=⟨_,rfl⟩;have aj:y∈ml:=by rw[L];exact List.getElem_mem Q
     refine o.bR (Y.bJ hm (i3) rfl dG dM rfl rfl) fun gE eV=>?_;refine o.v1 (Y.cast (v2:= .agg (dt y).toArray) (aW eV.N iE dM (e0 _)) (by rw[L])) ?_;refine o.aO (cQ mi) fun gJ fr fu=>?_;obtain⟨rfl,B,a1,gF,ce⟩:=fu;have fO:fr.size=aS.size+1:=by rw[ce];simp
     have eW:=(ay.new (a6.mono k.size):ay _ (aS.size+1));have a9:af (bH+1) (aS.size+1):=af.new n.le;have eX:T 0 I.size (aS.size+1):=T.new k.size;have dX:T 0 aF.size (aS.size+1):=T.new A.size;replace aN:=aN.M a1;replace n:=n.M a1;replace k:=k.L a1;replace A:=A.bc a1;have fW:=a1.size;refine o.s1 (dy B (_) (dt y) (kO y) dM (e0 _) ((c0 (e0 _).symm))) fun fP cN=>?_;obtain⟨B,ac⟩:=cN;replace ac:=ac.bp;replace aN:=aN.ab ac (az.J eW);replace n:=n.ab ac (ah.J a9);replace k:=k.bl ac (ag.J (aq.q eX));replace A:=A.aJ ac (ag.J (aq.q dX));have fX:=ac.size;refine o.nil (eU (G.t2 (fun ci cd=>G.L (fun cf=>?_))));refine o.v1 (Y.ai B.N rfl cy rfl a_) ?_;refine o.v1 (Y.cast (v2:=bs y.J) (aW ((B.N.drop 1).take 32) b_ a_ (by rw[gY];exact bB _)) (b6 (gY _))) ?_;refine aV kK (kZ y.J w0 _) (fun gK gL e_=>?_);obtain⟨rfl,ap⟩:=e_;replace aN:=aN.M ap;replace n:=n.M ap;replace B:=B.M ap;replace k:=k.L ap;replace A:=A.bc ap;have fY:=ap.size;refine o.v1 (Y.h2 rfl rfl) ?_;refine o.W ?_;refine o.bj (d:=76) rfl (fun cj=>?_) (fun cj=>?_)
     ·
      refine o.ax 4 ?_;refine o.nil (cf ?_);refine G.ix rfl ?_;refine G.exit (cd (b1 ?_));refine bM (G.region ?_);refine o.v1 bD ?_;refine o.W (o.nil ?_);refine aP.sub (bJ (i3+1,R) _ ?_ ?_) ⟨rfl,rfl,(aD (by omega)),(aD (by omega)),trivial⟩
      ·exact⟨(by omega),n,aH,mC ab Q (by rw[←L];unfold hI;rw[decide_eq_false (by first|exact a8|(intro h;simp_all))];rfl),A⟩
      ·first|omega|(simp only;omega)|(simp;omega)
     ·
      refine o.an (Y.ai B.N rfl cy rfl a_) ?_;refine o.an (Y.cast (v2:=bs y.w) (aW ((B.N.drop 33).take 32) b_ a_ (by rw[e1];exact bB _)) (b6 (e1 _))) ?_;refine o.call rfl kK rfl bh rfl rfl (kZ y.w w0 _) (fun gM gN fc=>?_);obtain⟨rfl,aK⟩:=fc;replace aN:=aN.M aK;replace n:=n.M aK;replace B:=B.M aK;replace k:=k.L aK;replace A:=A.bc aK;have fZ:=aK.size;refine o.dF ?_;refine o.nil (cf ?_);refine aT (fun fe=>?_) (fun fe=>?_)
      ·
       have a8:¬(y.J=bz∧y.w≠bz):=by first|(intro h;simp_all)
       refine G.exit (cd (b1 ?_));refine bM (G.region ?_);refine o.v1 bD ?_;refine o.W (o.nil ?_);refine aP.sub (bJ (i3+1,R) _ ?_ ?_) ⟨rfl,rfl,(aD (by omega)),(aD (by omega)),trivial⟩
       ·exact⟨(by omega),n,aH,mC ab Q (by rw[←L];unfold hI;rw[decide_eq_false (by first|exact a8|(intro h;simp_all))];rfl),A⟩
       ·first|omega|(simp only;omega)|(simp;omega)
      ·
       have a8:y.J=bz∧y.w≠bz:=by first|exact⟨by simpa using cj,by assumption⟩|(constructor<;>simp_all)
       refine G.skip (ci (G.L (fun eY=>?_)));refine o.W ?_;refine o.v1 (Y.ai B.N rfl cy rfl bO) ?_;refine o.v1 (ar B.N bL) ?_;refine o.rm (Z.p7 n gr rfl k6 Tryz.underlying9 rfl rfl) cR rfl (fun fQ b5 dR=>?_);obtain⟨rfl,n,ai⟩:=dR;replace ai:=ai.bp;replace aN:=aN.ab ai (az.J bP);replace B:=B.ab ai (ah.J a9.symm);replace k:=k.bl ai (ag.J (aq.q bq));replace A:=A.aJ ai (ag.J (aq.r ca));have f_:=ai.size;refine o.nil (eY (G.t1 (fun eZ=>?_)));refine dC (fun K=>ak b5 K) [] ?_;have E:=ak.refl b5;refine O.t1 0 rfl (fun K t=>Y.ai (B.N.M t) rfl cy rfl bO) E ?_;refine O.t1 1 rfl (fun K t=>ar (B.N.M t) bL) E ?_;refine O.W 2 rfl E ?_;refine O.aY 3 ?_;refine ch vo (wV bH w0 _) (fun gR et ff=>?_);obtain⟨ec,rfl,aQ,gZ,am⟩:=ff;replace aN:=aN.M am;replace n:=n.M am;replace B:=B.M am;replace k:=k.L am;replace A:=A.bc am;have ga:=am.size;have fU:=aQ.le;have bT:=E.L am;refine O.cn bT ?_;have be:=ak.refl et;refine O.aY 4 ?_;have g_:=sH n.fj.nodup (show((d_ (ml.foldl dK (bN s.bb)) y.n).map (·.1)).Nodup from(sg (kr c9) _).nodup) (fun q=>by rw[jg,jg,aH]);have gV:(d_ (ml.foldl dK (bN s.bb)) y.n).length≤(ml.foldl dK (bN s.bb)).length:=List.length_filter_le _ _;refine ch uY (vC ec bH bs (d_ R y.n) w0 _ aQ n (by omega)) (fun gS eu fh=>?_);obtain⟨gT,el,bV,rfl,cg,gd,ct,X⟩:=fh;replace aN:=aN.M X;replace n:=n.M X;replace B:=B.M X;replace aQ:=aQ.M X;replace k:=k.L X;replace A:=A.bc X;have gf:=X.size;have fI:=cg.le;obtain⟨fy,fz⟩:=Dr aH ct.2;have fF:=nR aR y aj;have bR:iH y.n bV=if hI (ml.foldl dK (bN s.bb)) y=true then 13 else 0:=by rw[wz fF fz,fy];unfold hI;rw[decide_eq_true a8,Bool.true_and]
       have fC:∀x∈bV,x.length≤140737488355328:=fun x aQ=>by
        have a7:=(ct.2 x).1 aQ;rw[←gP,jg]at a7;split at a7
        ·cases a7
        ·rw[aH,gP]at a7
         obtain⟨z,cp,rfl⟩:=List.mem_map.1 a7;have:=fE z cp;omega
       have bi:=be.L X;refine O.cn bi ?_;have dT:=ak.refl eu;refine O.aY 5 ?_;refine ch A9 (Ds y.n _ bV bk w0 _ aN (a6.mono (by omega)) cg.rd.any (cq y aj) fC) (fun em ew fi=>?_);obtain⟨rfl,aM⟩:=fi;replace n:=n.M aM;replace B:=B.M aM;replace k:=k.L aM;replace A:=A.bc aM;have gg:=aM.size;have aB:=dT.L aM;refine O.cn aB ?_;have b7:=ak.refl ew;refine O.t1 6 rfl (fun K t=>ev) b7 ?_;refine cD ?_;have fD:=b7;refine eZ (G.L (fun e2=>?_));refine o.W ?_;refine o.v1 (Y.ai B.N rfl cy rfl bO) ?_;refine o.v1 (ar B.N bL) ?_;refine o.v1 (Y.ai B.N rfl cy rfl a_) ?_;refine o.v1 (Y.cast (v2:=bs y.w) (aW ((B.N.drop 33).take 32) b_ a_ (by rw[e1];exact bB _)) (b6 (e1 _))) ?_;refine o.s1 (S.l8 (y.w) n gr rfl k6 Tryz.underlying9 rfl rfl rfl) fun fS dU=>?_;obtain⟨n,aZ⟩:=dU;replace aZ:=aZ.bp;replace k:=k.bl aZ (ag.J (aq.q bq));replace A:=A.aJ aZ (ag.J (aq.r ca));have gh:=aZ.size;refine o.nil (e2 (G.L (fun e3=>?_)));refine o.W ?_;refine o.v1 c1 (o.nil (e3 ?_));refine aT (fun co=>?_) (fun co=>?_)
       ·
        refine G.L (fun e5=>?_);refine o.aR 2 ?_;refine e5 ?_;refine G.ret (eS (dP (b0 (cY (cT (bx ?_))))));exact⟨by have aO:hI (ml.foldl dK (bN s.bb)) y=true:=(by cases aO:hI (ml.foldl dK (bN s.bb)) y with|true=>rfl|false=>exact absurd (by rw[bR,aO];rfl) co);rw[ft,if_neg (by rw[aR];decide),if_neg (by omega),wx aj aO,bR,if_pos aO],k⟩
       ·
        refine G.skip (eR (bM (G.region ?_)));refine o.v1 bD ?_;refine o.W (o.nil ?_);refine aP.sub (bJ (i3+1,fK (d_ R y.n) y.n y.w) _ ?_ ?_) ⟨rfl,rfl,(aD (by omega)),(aD (by omega)),trivial⟩
        ·exact⟨(by omega),n,(fun q=>by
          rw[kU,jg];by_cases bu:q=y.n
          ·rw[if_pos bu,bu,xB c9 fA aj,if_neg a8.2]
          ·rw[if_neg bu,if_neg bu,aH]),mC ab Q (by rw[←L];cases aO:hI (ml.foldl dK (bN s.bb)) y with|false=>rfl|true=>exact absurd (by rw[bR,aO];decide) co),A⟩
        ·first|omega|(simp only;omega)|(simp;omega)
    ·
     refine G.exit (c5 (b0 (cW ?_)));refine cS (G.L (fun e6=>?_));refine o.aj ?_;refine e6 ?_;refine G.ret (bx ?_);exact⟨by obtain rfl:i3=ml.length:=(by omega);rw[List.take_length]at ab;rw[ft,if_neg (by rw[aR];decide),if_neg (by omega),wy ab],k⟩
end fO

namespace fY
open E Go.RowKit eJ eN eW e3 ey eX eY fF fG pB fO
set_option maxRecDepth 100000 in
theorem jX:c6 Tryz.prog 244 35 1 8:=⟨Tryz.underlying244,_,_,rfl,rfl,rfl,rfl,rfl⟩
theorem wU{l:List bA}{m:List (cX×Int)}{P:cX→Prop}{j:Nat}{n:Int}(h:∀k,(aL m k).isSome=true↔P k∨∃x∈l.take j,x.k=k)(q:j<l.length):∀k,(aL (fK m l[j].k n) k).isSome=true↔P k∨∃x∈l.take (j+1),x.k=k:=by
 intro k;rw[kU,List.take_succ_eq_append_getElem q];by_cases i:k=l[j].k
 ·rw[if_pos i]
  exact⟨fun _=> .inr ⟨l[j],List.mem_append_right _ (List.mem_singleton.2 rfl),i.symm⟩,fun _=>rfl⟩
 ·rw[if_neg i,h]
  constructor
  ·rintro(o|⟨x,d,e⟩)
   ·exact .inl o
   ·exact .inr ⟨x,List.mem_append_left _ d,e⟩
  ·rintro(o|⟨x,d,e⟩)
   ·exact .inl o
   ·rcases List.mem_append.1 d with d|d
    ·exact .inr ⟨x,d,e⟩
    ·rw[List.mem_singleton.1 d]at e;exact absurd e.symm i
def eO(a b:Int):Int:=if a≠0 then a else b
theorem qi(a b:Int):hV [a,b]=eO a b:=by
 unfold eO;by_cases h:a≠0
 ·simp[hV,h]
 ·have h:a=0:=by simpa using h
  subst h;by_cases U:b=0<;>simp[hV,U]
theorem sf(a b c:Int):eO (eO a b) c=eO a (eO b c):=by
 unfold eO;by_cases h:a≠0
 ·rw[if_pos h,if_pos h,if_pos h]
 ·rw[if_neg h,if_neg h]
theorem vy(s:dU)(t:b0):eE s t=eO (eO (eO (eO (eC t) (fr t)) (ft s.b5 t.ml)) (gj t)) (ie s.gB t.el):=by
 rw[sf,sf,sf];rfl
theorem sl{t:b0}{a:Int}(d:t.bE=true)(U:t.al≠[]):some (Value.int .i64 (eO a (c8 t.al)))=some (Value.int .i64 (eO a (fr t))):=by unfold fr;rw[if_pos ⟨d,U⟩]
theorem wG(a:Int):eO a 0=a:=by unfold eO;by_cases h:a≠0<;>simp_all
theorem nH{t:b0}{a:Int}(h:t.bE=false∨t.al=[]):some (Value.int .i64 a)=some (Value.int .i64 (eO a (fr t))):=by
 unfold fr;rw[if_neg,wG];rintro⟨d,U⟩;rcases h with h|h
 ·rw[h]at d;cases d
 ·exact U h
theorem yT{t:b0}{a:Int}(d:t.ao=true):some (Value.int .i64 (eO a (if t.q.k≠0 then gH t.q else 0)))=some (Value.int .i64 (eO a (gj t))):=by unfold gj;simp[d]
theorem yS{t:b0}{a:Int}(d:t.ao=false):some (Value.int .i64 a)=some (Value.int .i64 (eO a (gj t))):=by unfold gj;simp[d,wG]
theorem qK(t:b0):dj (decide (eC t=0)) 1=eC t:=by
 unfold dj eC;split<;>simp_all
theorem j4{t:b0}(h:t.bE=true∨t.ao=true∨0<t.ml.length∨0<t.el.length):true=decide (eC t=0):=by
 refine(decide_eq_true ?_).symm;unfold eC;rw[if_neg];rintro⟨d,U,i,j⟩;rw[d,U,i,j]at h;simp at h
theorem qJ{t:b0}(i:t.bE=false)(U:t.ao=false)(d:¬0<t.ml.length):decide ((t.el.length:Int)>0)=decide (eC t=0):=by
 unfold eC;have d:t.ml=[]:=List.length_eq_zero_iff.1 (by omega)
 cases j:t.el with
 |nil=>simp[i,U,d]
 |cons a l=>simp[i,U,d]
theorem zb:∀{l:List fA},gS l=0→∀t∈l,1≤t.d∧t.d≤3
 |[],_,t,h=>by cases h
 |a::l,h,t,d=>by
  rw[gS]at h;by_cases e:ho a≠0
  ·rw[if_pos e]at h;exact absurd h e
  ·rw[if_neg e]at h
   rcases List.mem_cons.1 d with rfl|d
   ·apply Decidable.byContradiction
    intro i;unfold ho at e;rw[if_pos i]at e;exact e (by decide)
   ·exact zb h t d
theorem vW{x:cY}(h:gH x=0):oa x∧(x.k=1∨x.k=2):=by
 unfold gH at h;split at h
 ·cases h
 rename_i d;split at h
 ·cases h
 rename_i U;split at h
 ·cases h
 rename_i i;split at h
 ·cases h
 rename_i q;have j:hS x=true:=by cases e:hS x with|true=>rfl|false=>exact absurd e i
 obtain⟨_,_,a3,a4,a5,o,_⟩:=of_decide_eq_true j;have aw:=((mJ x.br).1 (by simpa using U)).1;have k:x.k=1∨x.k=2:=Decidable.not_not.1 d;exact⟨⟨by omega,by omega,by omega,by omega,by omega,fun t n=>by have:=zb h t n;omega⟩,k⟩
structure lf (t:b0):Prop where
 ml:t.ml.length≤65535
 el:t.el.length≤65535
 Fb:∀m∈t.ml,m.y.length≤65535
 iM:∀m∈t.ml,m.n.length≤140737488355328
 al:t.al.length≤140737488355328
 br:t.q.br.length≤140737488355328
 a6:t.q.a6.length≤1048576
 l1:(fi t).length≤1048576
theorem r8{s:dU}{t:b0}(h:lf t)(c:eE s t=0):k_ t:=by
 have c:=p0 c;refine⟨h.ml,h.el,fun bE=>?_,fun m hm=>⟨?_,h.Fb m hm⟩,fun m hm=>?_,fun ao=>?_,fun ao i=>?_⟩
 ·have d:=c.al
  unfold fr at d;by_cases U:t.al=[]
  ·rw[U];simp
  ·rw[if_pos ⟨bE,U⟩]at d
   have:=((mJ t.al).1 d).1;omega
 ·have:=((mJ m.n).1 (nR c.eL m hm)).1;omega
 ·have d:=oZ c.gB m hm
  unfold gC at d;split at d
  ·cases d
  ·split at d
   ·cases d
   ·omega
 ·have d:=c.h5
  unfold gj at d;by_cases U:t.q.k=0
  ·omega
  ·rw[if_pos ⟨ao,U⟩]at d
   have:=(vW d).2;omega
 ·have d:=c.h5
  unfold gj at d;rw[if_pos ⟨ao,i⟩]at d;exact(vW d).1
theorem EM(s:c2)(v:Value)(el:List bA)(F:Nat→Prop)(w0:World)(I:Heap)
 (ao:e4 F I s) (cK:bg F I.size) (he:bw I bM 33 v el) (al:∀y∈el,bw I a1 1 y.v.v y.d) (c9:dc (cl s.el)):
 aC Tryz.prog w0 51 #[ed s,v] I (fun r t=>r= .int .i64 (ie (cl s.el) el)∧ak I t):=by
 refine aC.aK [ed s,v] Tryz.func51 ?_;intro df bd;have d:ak I I:=V.refl _ _;replace he:=he.bt;have bZ:=he.bY;replace al:=fun y E=>(al y E).bt;have aS:bg (fun b=>True∧b<I.size) I.size:=fun b h=>h.2;have ec:=he.len;have eh:=ao.e.len;refine G.L (fun b9=>?_);refine o.aO cr ?_;rintro v2 t ⟨rfl,ab,aj,dO,cb⟩;have dv:t.size=I.size+1:=by rw[cb];simp
 replace ao:=ao.M aj;replace he:=he.M aj;replace al:=fun y E=>(al y E).M aj;replace d:=d.L aj;have dP:=aj.size;replace ab:Var 47 t I.size (bS s):=ab;refine o.aj ?_;refine b9 (G.L (fun cc=>?_));refine o.aO (Z.nO bs (Value.int .i64) rfl) fun dQ aA cd=>?_;obtain⟨rfl,ax,Q,dw,bF⟩:=cd;have dE:aA.size=t.size+1:=by rw[bF];simp
 have cg:=(ay.new (cK.mono d.size):ay _ (t.size+1));have bv:=(ay.new (bZ.mono d.size):ay _ (t.size+1));have a7:=(ay.new (aS.mono d.size):ay _ (t.size+1));have a8:T 0 I.size (t.size+1):=T.new d.size;replace ao:=ao.M Q;replace he:=he.M Q;replace al:=fun y E=>(al y E).M Q;replace ab:=ab.M Q;replace d:=d.L Q;have dR:=Q.size;have dg:=ax.lt;refine o.aj ?_;refine cc (G.t1 (fun cj=>G.L (fun cn=>?_)));refine o.v1 (Y.ai ab.N rfl ca rfl dp) ?_;refine o.v1 (ar ab.N.iB dS) ?_;refine o.v1 (ba ao.e cq) ?_;refine o.W (o.nil (cn ?_));refine G.aB (fun _ cp _=>?_)
 refine G.bd (fun(aO:(Nat)×(List (cX×Int)))=>match aO with|(j,W)=>[(1,v),(5,.map (some t.size)),(13,s.cB.v),(14,.int .i64 (s.el.length:Int)),(15,.int .i64 (j:Int))])
  (fun(j,W) (H:Heap)=>(j≤s.el.length)∧(de H bs (Value.int .i64) t.size W)∧(∀k,(aL W k).isSome=true↔False∨∃x∈s.el.take j,x.k=k)∧V (aE [(t.size+1)]) aA H)
  (fun(j,W)=>s.el.length-j) (0,[]) ⟨rfl,rfl,rfl,rfl,rfl,trivial⟩ ?_ ?_
 ·
  exact⟨(by omega),ax,(fun k=>by simp[aL]),V.refl _ _⟩
 rintro⟨j,W⟩ aa ct c_ cu cv;obtain⟨ef,ax,aN,C⟩:=ct;replace ao:=ao.ab C (az.J cg);replace he:=he.ab C (az.J bv);replace al:=fun y E=>(al y E).ab C (az.J a7);replace d:=d.bl C (ag.J (aq.q a8));have dT:=C.size;have bX:=T.refl (t.size+1) aA.size;refine G.L (fun cw=>?_);refine o.v1 bG (o.nil (cw ?_));refine G.t2 (fun cy cz=>?_);refine aT (fun cB=>?_) (fun cB=>?_)
 ·
  refine G.skip (cy (G.t1 (fun cC=>G.aB (fun bH _ _=>G.L (fun bJ=>?_)))));refine o.W ?_;have M:j<s.el.length:=by omega
  obtain⟨y,K⟩:∃q,q=s.el[j]:=⟨_,rfl⟩;have bc:y∈s.el:=by rw[K];exact List.getElem_mem M
  refine o.bR (Y.bJ ao.e (j) rfl cq cf rfl rfl) fun dx bL=>?_;refine o.v1 (Y.cast (v2:= .agg (bM y).toArray) (aW bL.N hF cf (cZ _)) (by rw[K])) ?_;refine o.aO (cQ kD) ?_;rintro ei bf ⟨rfl,aK,aM,co,cE⟩;have dz:bf.size=aa.size+1:=by rw[cE];simp
  have bN:af (t.size+1) (aa.size+1):=af.new ax.lt;have bO:T 0 aA.size (aa.size+1):=T.new C.size;replace ax:=ax.M aM;replace C:=C.bc aM;have dU:=aM.size;refine o.b2 ?_;refine o.s1 (dy aK (_) (bM y) (gX y) cf (cZ _) ((c0 (cZ _).symm))) fun dB bP=>?_;obtain⟨aK,ai⟩:=bP;replace ai:=ai.bp;replace ax:=ax.ab ai (ah.J bN);replace C:=C.aJ ai (ag.J (aq.q bO));have dV:=ai.size;refine o.nil (bJ (G.region ?_));refine o.W ?_;refine o.v1 (Y.ai aK.N rfl eS rfl a_) ?_;refine o.v1 (Y.cast (v2:=bs y.k) (aW (aK.N.take 32) b_ a_ (by rw[show(bM y).take 32=b7 y.k from eK y];exact bB _)) (b6 (show(bM y).take 32=b7 y.k from eK y))) ?_;refine o.W ?_;refine o.s1 (S.x9 ((j:Int)) ax wT rfl tO rfl rfl rfl) fun dh bQ=>?_;obtain⟨ax,aI⟩:=bQ;replace aI:=aI.bp;replace C:=C.aJ aI (ag.J (aq.r bX));have dW:=aI.size;refine o.nil (bH (cC (G.region ?_)));refine o.v1 bD ?_;refine o.W (o.nil ?_);refine aP.sub (cu (j+1,fK W y.k (j:Int)) _ ?_ ?_) ⟨rfl,rfl,rfl,(aD (by omega)),(aD (by omega)),trivial⟩
  ·exact⟨(by omega),ax,(by rw[K];exact wU aN M),C⟩
  ·first|omega|(simp only;omega)|(simp;omega)
 ·
  obtain rfl:j=s.el.length:=by omega
  rw[List.take_length]at aN;refine G.exit (cz (cv (cp ?_)));refine cj (G.t2 (fun bR bU=>G.L (fun a0=>?_)));refine o.W ?_;refine o.v1 (ba he cq) ?_;refine o.W (o.nil (a0 ?_));refine G.aB (fun _ a2 a3=>?_)
  refine G.bd (fun(aO:(Nat)×(List (cX×Int)))=>match aO with|(i,P)=>[(5,.map (some t.size)),(25,v),(26,.int .i64 (el.length:Int)),(27,.int .i64 (i:Int))])
   (fun(i,P) (H:Heap)=>(i≤el.length)∧(de H bs (Value.int .i64) t.size P)∧(∀k,(aL P k).isSome=true↔(∃x∈s.el,x.k=k)∨∃x∈el.take i,x.k=k)∧(∀x∈el.take i,gC x=0)∧V (aE [(t.size+1)]) aa H)
   (fun(i,P)=>el.length-i) (0,W) ⟨rfl,rfl,rfl,rfl,trivial⟩ ?_ ?_
  ·
   exact⟨(by omega),ax,(fun k=>by rw[aN];simp),(fun x h=>by simp at h),V.refl _ _⟩
  rintro⟨i,P⟩ an b0 cs a4 aY;obtain⟨ee,ax,a5,aJ,n⟩:=b0;replace he:=he.ab n (az.J bv);replace al:=fun y E=>(al y E).ab n (az.J a7);replace d:=d.bl n (ag.J (aq.q a8));have dY:=n.size;have bY:=T.refl (t.size+1) aa.size;refine G.L (fun bj=>?_);refine o.v1 bG (o.nil (bj ?_));refine G.t2 (fun bk bl=>?_);refine aT (fun b1=>?_) (fun b1=>?_)
  ·
   refine G.skip (bk (G.t2 (fun a9 bV=>G.aB (fun cH _ cI=>G.L (fun cJ=>?_)))));refine o.W ?_;have M:i<el.length:=by omega
   obtain⟨y,K⟩:∃q,q=el[i]:=⟨_,rfl⟩;have bc:y∈el:=by rw[K];exact List.getElem_mem M
   refine o.bR (Y.bJ he (i) rfl cq cf rfl rfl) fun di bT=>?_;refine o.v1 (Y.cast (v2:= .agg (bM y).toArray) (aW bT.N hF cf (cZ _)) (by rw[K])) ?_;refine o.aO (cQ kD) ?_;rintro v9 bh ⟨rfl,A,ae,bo,b2⟩;have dk:bh.size=an.size+1:=by rw[b2];simp
   have be:=(ay.new (aS.mono d.size):ay _ (an.size+1));have cL:af (t.size+1) (an.size+1):=af.new ax.lt;have cM:T 0 I.size (an.size+1):=T.new d.size;have bi:T 0 aa.size (an.size+1):=T.new n.size;replace al:=fun y E=>(al y E).M ae;replace ax:=ax.M ae;replace d:=d.L ae;replace n:=n.bc ae;have dA:=ae.size;refine o.b2 ?_;refine o.s1 (dy A (_) (bM y) (gX y) cf (cZ _) ((c0 (cZ _).symm))) fun aQ cN=>?_;obtain⟨A,ac⟩:=cN;replace ac:=ac.bp;replace al:=fun y E=>(al y E).ab ac (az.J be);replace ax:=ax.ab ac (ah.J cL);replace d:=d.bl ac (ag.J (aq.q cM));replace n:=n.aJ ac (ag.J (aq.q bi));have dZ:=ac.size;refine o.nil (cJ (G.t2 (fun aB cO=>G.t1 (fun cP=>?_))));refine dC (fun L=>ak aQ L) [] ?_;have N:=ak.refl aQ;refine O.t1 0 rfl (fun L B=>Y.ai (A.N.M B) rfl eS rfl a_) N ?_;refine O.t1 1 rfl (fun L B=>Y.cast (v2:=bs y.k) (aW ((A.N.M B).take 32) b_ a_ (by rw[show(bM y).take 32=b7 y.k from eK y];exact bB _)) (b6 (show(bM y).take 32=b7 y.k from eK y))) N ?_;refine O.t1 5 rfl (fun L B=>Y.ai (A.N.M B) rfl eS rfl da) N ?_;refine O.t1 6 rfl (fun L B=>ar (A.N.ji.M B) eA) N ?_;refine O.t1 7 rfl (fun L B=>ba ((al y bc).M B) db) N ?_;refine O.t1 8 rfl (fun L B=>eH) N ?_;refine O.aY 2 ?_;refine ch kK (kZ y.k w0 _) (fun d_ cY b3=>?_);obtain⟨rfl,R⟩:=b3;replace ax:=ax.M R;replace A:=A.M R;replace d:=d.L R;replace n:=n.bc R;have dm:=R.size;have bm:=N.L R;refine O.cn bm ?_;have aV:=ak.refl cY;refine O.t1 3 rfl (fun L B=>Y.h2 rfl rfl) aV ?_;refine O.aY 4 ?_;refine ch hv (h4 (decide (¬y.k=bz)) 1 rfl w0 _) (fun ea b5 b4=>?_);obtain⟨rfl,au⟩:=b4;replace ax:=ax.M au;replace A:=A.M au;replace d:=d.L au;replace n:=n.bc au;have dq:=au.size;have bn:=aV.L au;refine O.cn bn ?_;have bp:=ak.refl b5;refine O.aY 9 ?_;refine dD.call rfl rfl hv rfl cR rfl rfl (h4 (decide (y.d.length≤65536)) 5 (by first|(exact(decide_eq_true (by omega)).symm)|(exact(decide_eq_false (by omega)).symm)|(exact decide_eq_decide.2 (by omega))) w0 _) (fun eb aZ cG=>?_);obtain⟨rfl,am⟩:=cG;replace ax:=ax.M am;replace A:=A.M am;replace d:=d.L am;replace n:=n.bc am;have dJ:=am.size;have bq:=bp.L am;refine O.cn bq ?_;have bt:=ak.refl aZ;refine O.aY 10 ?_;refine ep rfl (cU _ ([dj (decide (¬y.k=bz)) 1,dj (decide (y.d.length≤65536)) 5]) jX kn ko (rfl)) (fun dF a6 c3=>?_);obtain⟨cS,X,dK,cT⟩:=c3;have dr:a6.size=aZ.size+1:=by rw[cT];simp
   replace ax:=ax.M X;replace A:=A.M X;replace d:=d.L X;replace n:=n.bc X;have dL:=X.size;have bu:=bt.L X;refine O.cn bu ?_;have bx:=ak.refl a6;refine O.aY 11 ?_;refine ch kJ (kX _ [dj (decide (¬y.k=bz)) 1,dj (decide (y.d.length≤65536)) 5] w0 _ cS.rd.any) (fun dG b8 ce=>?_);obtain⟨rfl,ap⟩:=ce;replace ax:=ax.M ap;replace A:=A.M ap;replace d:=d.L ap;replace n:=n.bc ap;have dM:=ap.size;rw[EK];have bC:=bx.L ap;refine O.cn bC ?_;have aX:=ak.refl b8;refine O.t1 12 rfl (fun L B=>ev) aX ?_;refine cD ?_;have eg:=aX;refine cP (G.L (fun br=>?_));refine o.W ?_;refine o.v1 c1 (o.nil (br ?_));refine aT (fun aF=>?_) (fun aF=>?_)
   ·
    refine G.L (fun cV=>?_);refine o.aR 2 ?_;refine cV ?_;refine G.ret (cO (cI (bV (aY (a3 (bU (bd ?_)))))));exact⟨by have B:=sE (l:=el) (j:=i) M aJ (by rw[←K];exact aF);rw[←K]at B;rw[ie,if_pos (by rw[B];exact aF),B],d⟩
   ·
    refine G.skip (aB (G.region ?_));refine o.W ?_;refine o.v1 (Y.ai A.N rfl eS rfl a_) ?_;refine o.v1 (Y.cast (v2:=bs y.k) (aW (A.N.take 32) b_ a_ (by rw[show(bM y).take 32=b7 y.k from eK y];exact bB _)) (b6 (show(bM y).take 32=b7 y.k from eK y))) ?_;refine o.W ?_;refine o.s1 (S.x9 ((i:Int)) ax wT rfl tO rfl rfl rfl) fun dt bE=>?_;obtain⟨ax,aH⟩:=bE;replace aH:=aH.bp;replace n:=n.aJ aH (ag.J (aq.r bY));have dN:=aH.size;refine o.nil (cH (a9 (G.region ?_)));refine o.v1 bD ?_;refine o.W (o.nil ?_);refine aP.sub (a4 (i+1,fK P y.k (i:Int)) _ ?_ ?_) ⟨rfl,rfl,(aD (by omega)),(aD (by omega)),trivial⟩
    ·exact⟨(by omega),ax,(by rw[K];exact wU a5 M),mC aJ M (by rw[←K];simpa using aF),n⟩
    ·first|omega|(simp only;omega)|(simp;omega)
  ·
   obtain rfl:i=el.length:=by omega
   rw[List.take_length]at a5 aJ;have c6:=sF aJ;have c5:=D3 (s:=s.el) (el:=el) c9 ax.fj.nodup (fun k=>by rw[←gP,a5]);refine G.exit (bl (aY (a2 ?_)));refine bR (G.L (fun cW=>?_));refine o.W ?_;refine o.v1 (Y.xn ax.fj rfl tO rfl) ?_;refine o.v1 eH ?_;refine o.call rfl hv rfl cR rfl rfl (h4 (decide (P.length≤500)) 4 (decide_eq_decide.2 (by omega)) w0 _) (fun dH dI dX=>?_);obtain⟨rfl,aR⟩:=dX;replace d:=d.L aR;have ci:=aR.size;refine o.aj ?_;refine cW ?_;refine G.ret (bd ?_);exact⟨by rw[ie,if_neg (by rw[c6];decide),c5];unfold dj;by_cases bb:(gA (cl s.el) el).length≤500;rw[if_pos (decide_eq_true bb),if_neg (by omega)];rw[if_neg (by simpa using bb),if_pos (by omega)],d⟩
theorem pZ(s:c2)(t:b0)(F aS:Nat→Prop)(bk:Int)(w0:World)(I:Heap)
 (aN:dV bk I) (an:bg (fun b=>b=0) I.size) (ao:e4 F I s) (aH:bg F I.size) (k:e6 aS I t) (bH:bg aS I.size) (ok:s.m.Ok) (T:lf t):
 aC Tryz.prog w0 23 #[ed s,eg t] I (fun r A=>r= .int .i64 (eE s.m t)∧ak I A):=by
 refine aC.aK [ed s,eg t] Tryz.func23 ?_;intro b2 aI;have j:ak I I:=V.refl _ _;have dh:=k.m.len;have de:=k.e.len;have aO:=T.al;have z2:=T.br;refine G.L (fun a9=>?_);refine o.aO cr ?_;rintro v2 A ⟨rfl,q,S,b_,bd⟩;have cD:A.size=I.size+1:=by rw[bd];simp
 replace aN:=aN.M S;replace ao:=ao.M S;replace k:=k.M S;replace j:=j.L S;have ca:=S.size;replace q:Var 47 A I.size (bS s):=q;refine o.aO cr ?_;rintro v3 R ⟨rfl,i,Q,cb,bG⟩;have cE:R.size=A.size+1:=by rw[bG];simp
 replace aN:=aN.M Q;replace ao:=ao.M Q;replace k:=k.M Q;replace q:=q.M Q;replace j:=j.L Q;have cc:=Q.size;replace i:Var 32 R A.size (df t):=i;refine o.aj ?_;refine a9 ?_
 refine G.cut (fun(_:Unit)=>[(2,.pointer (some ⟨I.size,0,none⟩)),(3,.pointer (some ⟨A.size,0,none⟩)),(5,.int .i64 (eC t))])
  (fun(_:Unit) (H:Heap)=>(True)∧ak R H) (fun _ W _=>?_) ?_
 ·
  have ad:ak R R:=V.refl _ _;refine G.region ?_;refine o.v1 (Y.ai i.N rfl bx rfl cW) ?_;refine o.v1 (ar i.N dr) ?_;refine o.W ?_;refine o.split (d:=9) rfl (fun g9=>?_) (fun g9=>?_)
  ·
   refine o.ax 15 ?_;refine o.call rfl hv rfl cR rfl rfl (h4 (decide (eC t=0)) 1 (by first|exact j4 (.inl (by assumption))|exact j4 (.inr (.inl (by assumption)))|exact j4 (.inr (.inr (.inl (by omega))))|exact qJ (by simp_all) (by simp_all) (by omega)) w0 _) (fun aa ab N=>?_);obtain⟨rfl,x⟩:=N;replace ad:=ad.L x;have cd:=x.size;rw[qK];refine o.aj ?_;refine aP.sub (W () _ ?_) ⟨rfl,rfl,(aD (by omega)),trivial⟩;exact⟨trivial,ad⟩
  ·
   refine o.an (Y.ai i.N rfl bx rfl cW) ?_;refine o.an (ar (i.N.drop 3) dr) ?_;refine o.ax 2 ?_;refine o.split (d:=13) rfl (fun bT=>?_) (fun bT=>?_)
   ·
    refine o.ax 11 ?_;refine o.call rfl hv rfl cR rfl rfl (h4 (decide (eC t=0)) 1 (by first|exact j4 (.inl (by assumption))|exact j4 (.inr (.inl (by assumption)))|exact j4 (.inr (.inr (.inl (by omega))))|exact qJ (by simp_all) (by simp_all) (by omega)) w0 _) (fun aa ab N=>?_);obtain⟨rfl,x⟩:=N;replace ad:=ad.L x;have cf:=x.size;rw[qK];refine o.aj ?_;refine aP.sub (W () _ ?_) ⟨rfl,rfl,(aD (by omega)),trivial⟩;exact⟨trivial,ad⟩
   ·
    refine o.an (Y.ai i.N rfl bx rfl ek) ?_;refine o.an (ar (i.N.drop 2) ez) ?_;refine o.an (ba k.m dG) ?_;refine o.an eT ?_;refine o.ax 2 ?_;refine o.bj (d:=19) rfl (fun be=>?_) (fun be=>?_)
    ·
     refine o.ax 5 ?_;refine o.call rfl hv rfl cR rfl rfl (h4 (decide (eC t=0)) 1 (by first|exact j4 (.inl (by assumption))|exact j4 (.inr (.inl (by assumption)))|exact j4 (.inr (.inr (.inl (by omega))))|exact qJ (by simp_all) (by simp_all) (by omega)) w0 _) (fun aa ab N=>?_);obtain⟨rfl,x⟩:=N;replace ad:=ad.L x;have cg:=x.size;rw[qK];refine o.aj ?_;refine aP.sub (W () _ ?_) ⟨rfl,rfl,(aD (by omega)),trivial⟩;exact⟨trivial,ad⟩
    ·
     refine o.an (Y.ai i.N rfl bx rfl dp) ?_;refine o.an (ar i.N.fT dS) ?_;refine o.an (ba k.e cq) ?_;refine o.an eT ?_;refine o.dF ?_;refine o.call rfl hv rfl cR rfl rfl (h4 (decide (eC t=0)) 1 (by first|exact j4 (.inl (by assumption))|exact j4 (.inr (.inl (by assumption)))|exact j4 (.inr (.inr (.inl (by omega))))|exact qJ (by simp_all) (by simp_all) (by omega)) w0 _) (fun aa ab N=>?_);obtain⟨rfl,x⟩:=N;replace ad:=ad.L x;have ch:=x.size;rw[qK];refine o.aj ?_;refine aP.sub (W () _ ?_) ⟨rfl,rfl,(aD (by omega)),trivial⟩;exact⟨trivial,ad⟩
 ·
  intro _ ag bf;obtain⟨aJ,ac⟩:=bf;replace aN:=aN.M ac;replace ao:=ao.M ac;replace k:=k.M ac;replace q:=q.M ac;replace i:=i.M ac;replace j:=j.L ac;have cj:=ac.size
  refine G.cut (fun(_:Unit)=>[(2,.pointer (some ⟨I.size,0,none⟩)),(3,.pointer (some ⟨A.size,0,none⟩)),(5,.int .i64 (eO (eC t) (fr t)))])
   (fun(_:Unit) (H:Heap)=>(True)∧ak ag H) (fun _ ae _=>?_) ?_
  ·
   have B:ak ag ag:=V.refl _ _;refine G.L (fun a0=>?_);refine o.v1 (Y.ai i.N rfl bx rfl cW) ?_;refine o.v1 (ar i.N dr) ?_;refine o.W ?_;refine o.split (d:=28) rfl (fun bY=>?_) (fun bY=>?_)
   ·
    refine o.an (Y.ai i.N rfl bx rfl bO) ?_;refine o.an (ar (i.N.drop 1) bL) ?_;refine o.an (Y.iS rfl rfl rfl) ?_;refine o.N ?_;refine o.nil (a0 ?_);refine aT (fun O=>?_) (fun O=>?_)
    ·
     refine G.region ?_;refine o.W ?_;refine o.v1 (Y.ai i.N rfl bx rfl bO) ?_;refine o.v1 (ar (i.N.drop 1) bL) ?_;refine aV pX (p2 t.al bk w0 _ aN (an.mono j.size) (by omega)) (fun cC bJ bM=>?_);obtain⟨rfl,az⟩:=bM;replace B:=B.L az;have cM:=az.size;refine o.aO (cU _ ([(eC t),(c8 t.al)]) jX kn ko (rfl)) fun cO bi bN=>?_;obtain⟨aL,aA,aB,aM⟩:=bN;have a2:bi.size=bJ.size+1:=by rw[aM];simp
     replace B:=B.L aA;have cP:=aA.size;refine aV kJ (kX _ [(eC t),(c8 t.al)] w0 _ aL.rd.any) (fun cQ ce bP=>?_);obtain⟨rfl,aE⟩:=bP;replace B:=B.L aE;have cG:=aE.size;rw[qi];refine o.aj ?_;refine aP.sub (ae () _ ?_) ⟨rfl,rfl,(by first|(have n:t.al≠[]:=(by simpa using O);exact sl (by assumption) n)|(have n:t.al=[]:=(by simpa using O);exact nH (.inr n))|(have n:t.bE=false:=(by simp_all);exact nH (.inl n))),trivial⟩;exact⟨trivial,B⟩
    ·
     refine G.skip ?_;refine aP.sub (ae () _ ?_) ⟨rfl,rfl,(by first|(have n:t.al≠[]:=(by simpa using O);exact sl (by assumption) n)|(have n:t.al=[]:=(by simpa using O);exact nH (.inr n))|(have n:t.bE=false:=(by simp_all);exact nH (.inl n))),trivial⟩;exact⟨trivial,B⟩
   ·
    refine o.ax 4 ?_;refine o.nil (a0 ?_);refine dB ?_;refine G.skip ?_;refine aP.sub (ae () _ ?_) ⟨rfl,rfl,(by first|(have n:t.al≠[]:=(by simpa using O);exact sl (by assumption) n)|(have n:t.al=[]:=(by simpa using O);exact nH (.inr n))|(have n:t.bE=false:=(by simp_all);exact nH (.inl n))),trivial⟩;exact⟨trivial,B⟩
  ·
   intro _ b4 au;obtain⟨aJ,E⟩:=au;replace aN:=aN.M E;replace ao:=ao.M E;replace k:=k.M E;replace q:=q.M E;replace i:=i.M E;replace j:=j.L E;have cH:=E.size;refine G.L (fun bQ=>?_);refine o.W ?_;refine o.v1 (aW q.N fg dx (b8 _)) ?_;refine o.v1 (Y.ai i.N rfl bx rfl ek) ?_;refine o.v1 (ar (i.N.drop 2) ez) ?_;refine aV BS (EX s t.eL.v t.ml F bk w0 _ aN (an.mono j.size) ao (aH.mono j.size) k.m.any ok.e9 ok.bb T.iM) (fun cS bR bU=>?_);obtain⟨rfl,K⟩:=bU;replace aN:=aN.M K;replace ao:=ao.M K;replace k:=k.M K;replace q:=q.M K;replace i:=i.M K;replace j:=j.L K;have cJ:=K.size;refine o.aO (cU _ ([(eO (eC t) (fr t)),(ft s.m.b5 t.ml)]) jX kn ko (rfl)) fun cV bV bX=>?_;obtain⟨aQ,L,bv,aR⟩:=bX;have a3:bV.size=bR.size+1:=by rw[aR];simp
   replace aN:=aN.M L;replace ao:=ao.M L;replace k:=k.M L;replace q:=q.M L;replace i:=i.M L;replace j:=j.L L;have cK:=L.size;refine aV kJ (kX _ [(eO (eC t) (fr t)),(ft s.m.b5 t.ml)] w0 _ aQ.rd.any) (fun dX af bZ=>?_);obtain⟨rfl,M⟩:=bZ;replace aN:=aN.M M;replace ao:=ao.M M;replace k:=k.M M;replace q:=q.M M;replace i:=i.M M;replace j:=j.L M;have cL:=M.size;rw[qi];refine o.aj ?_;refine bQ ?_
   refine G.cut (fun(_:Unit)=>[(2,.pointer (some ⟨I.size,0,none⟩)),(3,.pointer (some ⟨A.size,0,none⟩)),(5,.int .i64 (eO (eO (eO (eC t) (fr t)) (ft s.m.b5 t.ml)) (gj t)))])
    (fun(_:Unit) (H:Heap)=>(True)∧ak af H) (fun _ a4 _=>?_) ?_
   ·
    have C:ak af af:=V.refl _ _;refine G.L (fun bj=>?_);refine o.v1 (Y.ai i.N rfl bx rfl cW) ?_;refine o.v1 (ar (i.N.drop 3) dr) (o.nil (bj ?_));refine cI (fun bl=>?_) (fun bl=>?_)
    ·
     refine G.region ?_;refine o.W ?_;refine o.v1 (Y.ai i.N rfl bx rfl cT) ?_;refine o.v1 (Y.cast (v2:=eo t.q) (aW ((i.N.drop 4).take 70) h8 cT (by rw[jc];exact ef _)) (b6 (jc t))) ?_;refine aV BT (G0 t.q bk w0 _ aN (an.mono j.size) k.q.any (by omega)) (fun ci bm bn=>?_);obtain⟨rfl,ah⟩:=bn;replace ao:=ao.M ah;replace C:=C.L ah;have cl:=ah.size;refine o.aO (cU _ ([(eO (eO (eC t) (fr t)) (ft s.m.b5 t.ml)),(if t.q.k≠0 then gH t.q else 0)]) jX kn ko (rfl)) fun cY bp bq=>?_;obtain⟨aX,ai,cn,aY⟩:=bq;have a5:bp.size=bm.size+1:=by rw[aY];simp
     replace ao:=ao.M ai;replace C:=C.L ai;have cp:=ai.size;refine aV kJ (kX _ [(eO (eO (eC t) (fr t)) (ft s.m.b5 t.ml)),(if t.q.k≠0 then gH t.q else 0)] w0 _ aX.rd.any) (fun cZ c0 bs=>?_);obtain⟨rfl,aj⟩:=bs;replace ao:=ao.M aj;replace C:=C.L aj;have ct:=aj.size;rw[qi];refine o.aj ?_;refine aP.sub (a4 () _ ?_) ⟨rfl,rfl,(by first|(have n:t.ao=true:=(by assumption);exact yT n)|(have n:t.ao=false:=(by simp_all);exact yS n)),trivial⟩;exact⟨trivial,C⟩
    ·
     refine G.skip ?_;refine aP.sub (a4 () _ ?_) ⟨rfl,rfl,(by first|(have n:t.ao=true:=(by assumption);exact yT n)|(have n:t.ao=false:=(by simp_all);exact yS n)),trivial⟩;exact⟨trivial,C⟩
   ·
    intro _ b5 am;obtain⟨aJ,P⟩:=am;replace ao:=ao.M P;replace k:=k.M P;replace q:=q.M P;replace i:=i.M P;replace j:=j.L P;have cu:=P.size;refine G.t2 (fun bt bu=>G.L (fun bw=>?_));refine o.W ?_;refine o.v1 (aW q.N fg dx (b8 _)) ?_;refine o.v1 (Y.ai i.N rfl bx rfl dp) ?_;refine o.v1 (ar i.N.fT dS) ?_;refine aV BU (EM s t.cB.v t.el F w0 _ ao (aH.mono j.size) k.e.any (fun y hy=>(k.d y hy).any) ok.sy) (fun c3 bz bA=>?_);obtain⟨rfl,ap⟩:=bA;replace k:=k.M ap;replace i:=i.M ap;replace j:=j.L ap;have cv:=ap.size;refine o.aO (cU _ ([(eO (eO (eO (eC t) (fr t)) (ft s.m.b5 t.ml)) (gj t)),(ie s.m.gB t.el)]) jX kn ko (rfl)) fun c5 bC bD=>?_;obtain⟨aZ,X,cw,a1⟩:=bD;have b3:bC.size=bz.size+1:=by rw[a1];simp
    replace k:=k.M X;replace i:=i.M X;replace j:=j.L X;have cy:=X.size;refine aV kJ (kX _ [(eO (eO (eO (eC t) (fr t)) (ft s.m.b5 t.ml)) (gj t)),(ie s.m.gB t.el)] w0 _ aZ.rd.any) (fun co c6 bE=>?_);obtain⟨rfl,Z⟩:=bE;replace k:=k.M Z;replace i:=i.M Z;replace j:=j.L Z;have cz:=Z.size;rw[qi];refine o.aj ?_;refine bw (G.L (fun a6=>?_));refine o.W ?_;refine o.v1 c1 (o.nil (a6 ?_));refine aT (fun aq=>?_) (fun aq=>?_)
    ·
     refine G.L (fun a7=>?_);refine o.aR 2 ?_;refine a7 ?_;refine G.ret (bu (aI ?_));exact⟨by rw[vy],j⟩
    ·
     have ay:eE s.m t=0:=by rw[vy];simpa using aq
     have b1:=r8 T ay;have dg:=T.l1;refine G.skip (bt (G.L (fun a_=>?_)));refine o.v1 (aW i.N gM fk (dY _)) ?_;refine aV vi (vU t aS w0 _ k (bH.mono j.size) b1) (fun c_ da bF=>?_);obtain⟨s2,a8,rfl,aK,cs,aF⟩:=bF;replace j:=j.L aF;have cB:=aF.size;have b7:=aK.le;refine o.W ?_;refine o.v1 cN ?_;refine o.v1 cN ?_;refine o.aR 2 ?_;refine a_ (G.L (fun bb=>?_));refine o.W ?_;refine o.v1 ((b9).gq (rfl)) ?_;refine o.ax 2 ?_;refine o.an (ba aK.rd db) ?_;refine o.an ((eH).gq (by omega)) ?_;refine o.N ?_;refine aV hv (th true 5 w0 _) (fun dc bo bh=>?_);obtain⟨rfl,bc⟩:=bh;replace j:=j.L bc;refine o.aj ?_;refine bb ?_;refine G.ret (aI ?_);exact⟨by rw[ay];rfl,j⟩
end fY

namespace gg
open E Go.RowKit eJ eN eW e3 ey eX eY fF fG fO fY
set_option maxRecDepth 100000 in
theorem lY:c6 Tryz.prog 27 129 33 40:=⟨Tryz.underlying27,_,_,rfl,rfl,rfl,rfl,rfl⟩
set_option maxRecDepth 100000 in
theorem jY:c6 Tryz.prog 44 71 33 48:=⟨Tryz.underlying44,_,_,rfl,rfl,rfl,rfl,rfl⟩
set_option maxRecDepth 100000 in
theorem dv:c6 Tryz.prog 57 5 1 1:=⟨Tryz.underlying57,_,_,rfl,rfl,rfl,rfl,rfl⟩
set_option maxRecDepth 100000 in
theorem kQ:c6 Tryz.prog 60 64 65 80:=⟨Tryz.underlying60,_,_,rfl,rfl,rfl,rfl,rfl⟩
theorem oA{k:cX}(s:aM)(d:List UInt8)(w:World):(Instr.build 68 #[(0,bs k),(1,s.v)]).run Tryz.prog w= .ok (gZ ⟨k,s,d⟩) w:=by
 obtain⟨k,i⟩:=k;simp only[gZ,bM,b7,bs];obtain⟨j,n,G,S,W,X,Y,Z,aa,ab,o,q,r,t,x,A,B,C,E,F,H,I,K,L,M,N,O,P,Q,R,T,V,rfl⟩:=lZ i
 kernel_rfl
theorem rT{i:cX}(n:List UInt8)(w:World):(Instr.build 71 #[(0,aI n),(1,bs i)]).run Tryz.prog w= .ok (.agg (du ⟨n,i⟩).toArray) w:=by
 obtain⟨k,d⟩:=i;simp only[du,b7,bs];obtain⟨j,o,H,T,X,Y,Z,aa,ab,ae,q,r,t,x,A,B,C,E,F,G,I,K,L,M,N,O,P,Q,R,S,V,W,rfl⟩:=lZ d
 kernel_rfl
theorem uP{J i:cX}(n:List UInt8)(w:World):(Instr.build 64 #[(0,bs J),(1,bs i),(2,aI n)]).run Tryz.prog w= .ok (.agg (dm ⟨J,i,n⟩).toArray) w:=by
 obtain⟨k,d⟩:=J;obtain⟨l,j⟩:=i;simp only[dm,b7,bs];obtain⟨o,q,I,V,Y,Z,aa,ab,ae,af,r,t,x,A,B,C,E,F,G,H,K,L,M,N,O,P,Q,R,S,T,W,X,rfl⟩:=lZ d;obtain⟨ag,ah,aC,dE,aR,aS,aT,cE,aV,aW,ai,aj,an,aq,ar,au,ay,az,aA,aB,aD,aE,aF,aH,aJ,aK,aL,aM,aN,aO,aP,aQ,rfl⟩:=lZ j
 kernel_rfl
theorem uQ{h:List UInt8}{r:aM}{l:List cw}{q:cY}(w:World):(Instr.build 47 #[(0,aI h),(1,r.v),(3,eo q)]).run Tryz.prog w= .ok (ed ⟨h,r,l,cO,[],q,cO,[]⟩) w:=by
 obtain⟨k,br,⟨bX,i⟩,⟨bo,d⟩,cM,a6,dn,md,st⟩:=q;simp only[eo,bS,dT,b7];obtain⟨j,n,I,V,Y,Z,aa,ab,ae,af,o,t,x,A,B,C,E,F,G,H,K,L,M,N,O,P,Q,R,S,T,W,X,rfl⟩:=lZ i;obtain⟨ag,ah,aC,dE,aS,aT,aV,cE,aW,aX,ai,aj,an,aq,ar,au,ay,az,aA,aB,aD,aE,aF,aH,aJ,aK,aL,aN,aO,aP,aQ,aR,rfl⟩:=lZ d
 kernel_rfl
section
variable {x : c2}
theorem yV(h:List UInt8):(bS x).set 0 (aI h)=bS {x with al:=h}:=rfl
theorem tD(s:aM)(l:List cw):(bS x).set 1 s.v=bS {x with ej:=s,bb:=l}:=rfl
theorem q5(s:aM)(l:List e5):(bS x).set 2 s.v=bS {x with cu:=s,bW:=l}:=rfl
theorem oJ:bS x=(aI x.al::x.ej.v::x.cu.v::(.int .i64 x.q.k::aI x.q.br::(b7 x.q.bX++b7 x.q.bo)))++(jb x.q++[x.cB.v]):=by
 simp[bS,dT,jb]
theorem oK:(aI x.al::x.ej.v::x.cu.v::(.int .i64 x.q.k::aI x.q.br::(b7 x.q.bX++b7 x.q.bo)):List Value).length=69:=by simp[bB]
theorem yW(j:Nat)(v:Value):(bS x).set (69+j) v=(bS x).take 69++(jb x.q++[x.cB.v]).set j v:=by
 rw[oJ,List.set_append,if_neg (by rw[oK];omega),oK,List.take_left' oK];congr 2;omega
theorem yX:(bS x).take 69=aI x.al::x.ej.v::x.cu.v::(.int .i64 x.q.k::aI x.q.br::(b7 x.q.bX++b7 x.q.bo)):=by rw[oJ];exact List.take_left' oK
theorem tE(s:aM)(l:List fA):(bS x).set 69 s.v=bS {x with q:={x.q with cM:=s,a6:=l}}:=by
 rw[yW 0,yX]
 conv=>rhs;rw[oJ]
 rfl
theorem tC(s:aM)(l:List bA):(bS x).set 73 s.v=bS {x with cB:=s,el:=l}:=by
 rw[yW 4,yX]
 conv=>rhs;rw[oJ]
 rfl
theorem q6(q:cY):ec (bS x) 3 (dT q)=bS {x with q:=q}:=by
 unfold ec;rw[ef];show[aI x.al,x.ej.v,x.cu.v]++dT q++(bS x).drop 73=_;rw[wk];simp[bS]
end
section
variable {H : Heap} {ad : Addr} {x : c2}
theorem _root_.Go.Proofs.YtfjmpninmdjcaaaGreatDoor.E.cc.Hm(h:cc H ad (bS x)):cc H ((ad.add 3).add 66) (jb x.q++[x.cB.v]):=by
 have d:=h.drop 69;have e:(bS x).drop 69=jb x.q++[x.cB.v]:=by rw[oJ];exact List.drop_left' oK
 rw[e]at d;rwa[show ad.add 69=(ad.add 3).add 66 from by cases ad;rfl]at d
theorem _root_.Go.Proofs.YtfjmpninmdjcaaaGreatDoor.E.cc.HN{x:b0}(h:cc H ad (df x)):cc H ((ad.add 4).add 66) (jb x.q++[x.cB.v]):=by
 have d:=h.drop 70
 have e:(df x).drop 70=jb x.q++[x.cB.v]:=by
  have i:df x=(.bool x.bE::aI x.al::x.eL.v:: .bool x.ao::(.int .i64 x.q.k::aI x.q.br::(b7 x.q.bX++b7 x.q.bo)))++(jb x.q++[x.cB.v]):=by simp[df,dT,jb]
  rw[i];exact List.drop_left' (by simp[bB])
 rw[e]at d;rwa[show ad.add 70=(ad.add 4).add 66 from by cases ad;rfl]at d
end
structure ju (F:Nat→Prop) (H:Heap) (s:c2):Prop where
 r:Rd F H du 33 s.ej.v s.bb
 g:Rd F H ei 2 s.cu.v s.bW
 n:∀y∈s.bW,Rd F H dm 65 y.v.v y.l
 q:Rd F H c4 33 s.q.cM.v s.q.a6
 d:∀y∈s.el,Rd F H a1 1 y.v.v y.d
section
variable {F aS : Nat → Prop} {H aa : Heap} {s : c2} {ks : List Nat} {h : Nat}
theorem ju.M(x:ju F H s)(w:ak H aa):ju F aa s:=⟨x.r.M w,x.g.M w,fun y hy=>(x.n y hy).M w,x.q.M w,fun y hy=>(x.d y hy).M w⟩
theorem ju.ab(x:ju F H s)(w:V (aE ks) H aa)(d:az F ks):ju F aa s:=⟨x.r.ab w d,x.g.ab w d,fun y hy=>(x.n y hy).ab w d,x.q.ab w d,fun y hy=>(x.d y hy).ab w d⟩
theorem ju.imp(x:ju F H s)(d:∀b,b<H.size→F b→aS b):ju aS H s:=⟨x.r.imp d,x.g.imp d,fun y hy=>(x.n y hy).imp d,x.q.imp d,fun y hy=>(x.d y hy).imp d⟩
theorem ju.st(x:ju F H s)(h:Rd F H bM 33 s.cB.v s.el):e4 F H s:=⟨x.r,x.g,x.n,x.q,h,x.d⟩
end
theorem ay.eG{aS:Nat→Prop}{d k:Nat}(h:ay aS k)(i:af k d):ay (fun b=>aS b∨b+1=d) k:=by
 rintro b (e|e) U
 ·exact h b e U
 ·exact i b U e
theorem bg.eG{aS:Nat→Prop}{n d:Nat}(h:bg aS n)(i:d≤n):bg (fun b=>aS b∨b+1=d) n:=by
 rintro b (e|e)
 ·exact h b e
 ·omega
theorem mB{aS:Nat→Prop}{h d:Nat}(a:∀c,aS c→h≤c)(n:T 0 h d):∀c,aS c∨c+1=d→h≤c:=by
 rintro c (e|e)
 ·exact a c e
 ·unfold T at n;omega
theorem tu{α β:Type}{f:β→List Value}{sz:Nat}{v:α→Value}{r:α→List β}{aS d:Nat→Prop}{H:Heap}{l:List α}{x:α}(h:∀y∈l,Rd aS H f sz (v y) (r y))(i:∀b,aS b→d b)(j:Rd d H f sz (v x) (r x)):∀y∈l++[x],Rd d H f sz (v y) (r y):=by
 intro y hy;rcases List.mem_append.1 hy with hy|hy
 ·exact(h y hy).imp (fun b _ e=>i b e)
 ·rw[List.mem_singleton]at hy;rw[hy];exact j
theorem sr{l:List cA}{q:Nat}(h:q=l.length-100):l.drop q=hX l:=by subst h;rfl
theorem Gx{s:c2}(h:s.m.Ok):s.bb.length≤200:=by have:=h.g_;simpa[c2.m,bN]using this
theorem Em{s:c2}(h:s.m.Ok):s.bW.length≤200:=by
 have d:=h.g_;have U:=congrArg List.length h.cK;rw[List.length_map,List.length_map]at U;rw[←U]at d
 simpa[c2.m,cm]using d
theorem CX{s:c2}(h:s.m.Ok):s.el.length≤500:=by have:=h.iM;simpa[c2.m,cl]using this
theorem Et{s:c2}(h:s.m.Ok):∀y∈s.bW,y.l.length≤100:=fun y hy=>h.bW (y.n,y.l) (List.mem_map.2 ⟨y,hy,rfl⟩)
theorem EJ{s:c2}(h:s.m.Ok):∀y∈s.el,y.d.length≤65536:=fun y hy=>h.md (y.k.1,y.d) (List.mem_map.2 ⟨y,hy,rfl⟩)
theorem HE{s:c2}(h:s.m.Ok):s.q.a6.length≤100:=h.iT
theorem yb(v1:Value)(a:List cw)(w0:World)(I:Heap)
 (i:bw I du 33 v1 a) (ae:a.length≤1073741824):
 aC Tryz.prog w0 113 #[v1] I (fun r x=>∃s:aM,∃k:Nat,r=s.v∧(aU k 71 x du 33 s.v a)∧(T 0 I.size k)∧ak I x):=by
 refine aC.aK [v1] Tryz.func113 ?_;intro X E;have d:ak I I:=V.refl _ _;replace i:=i.bt;obtain⟨p,ab,rfl,_,_,R⟩:=id i.ex;refine G.L (fun H=>?_);refine o.aj ?_;refine H (G.t2 (fun K L=>G.L (fun M=>?_)));refine o.W ?_;refine o.v1 (Y.pj rfl Tryz.underlying44 rfl rfl) (o.nil (M ?_));refine cI (fun q=>?_) (fun q=>?_)
 ·
  obtain rfl:a=[]:=by
   apply Decidable.byContradiction;intro h;obtain⟨ad,Q,_⟩:=R h;rw[Q]at q;cases q
  refine G.L (fun N=>?_);refine o.aj ?_;refine N ?_;refine G.ret (L (E ?_));exact⟨⟨none,0,0⟩,0,rfl,aU.nil hT ll,T.refl _ _,d⟩
 ·
  refine G.skip (K (G.L (fun au=>?_)));refine o.aO (cU _ (([]:List cw)) jY hT ll (rfl)) ?_;rintro v5 A ⟨am,j,Z,O⟩;have ap:A.size=I.size+1:=by rw[O];simp
  have B:T 0 I.size (I.size+1):=T.new d.size;replace i:=i.M j;replace d:=d.L j;have aa:=j.size;refine o.W ?_;refine o.aO (dO am i jY (by first|omega|(simp;omega)) (by first|omega|(simp;omega))) ?_;rintro F W ⟨t,C,n,ac⟩;replace n:T (I.size+1) A.size t:=n;replace ac:=ac.md;have P:T 0 I.size t:=T.L (B) n d.size;replace d:=d.bl ac (ag.J (aq.q B));refine o.aj ?_;refine au ?_;refine G.ret (E ?_);obtain⟨S,rfl⟩:∃s:aM,F=s.v:=⟨cg F,C.bm.symm⟩;exact⟨S,t,rfl,by simpa using C,P,d⟩
theorem oU(v1:Value)(a:List cA)(w0:World)(I:Heap)
 (i:bw I dm 65 v1 a) (ae:a.length≤1073741824):
 aC Tryz.prog w0 114 #[v1] I (fun r x=>∃s:aM,∃k:Nat,r=s.v∧(aU k 64 x dm 65 s.v a)∧(T 0 I.size k)∧ak I x):=by
 refine aC.aK [v1] Tryz.func114 ?_;intro X E;have d:ak I I:=V.refl _ _;replace i:=i.bt;obtain⟨p,ab,rfl,_,_,R⟩:=id i.ex;refine G.L (fun H=>?_);refine o.aj ?_;refine H (G.t2 (fun K L=>G.L (fun M=>?_)));refine o.W ?_;refine o.v1 (Y.pj rfl Tryz.underlying60 rfl rfl) (o.nil (M ?_));refine cI (fun q=>?_) (fun q=>?_)
 ·
  obtain rfl:a=[]:=by
   apply Decidable.byContradiction;intro h;obtain⟨ad,Q,_⟩:=R h;rw[Q]at q;cases q
  refine G.L (fun N=>?_);refine o.aj ?_;refine N ?_;refine G.ret (L (E ?_));exact⟨⟨none,0,0⟩,0,rfl,aU.nil kN nx,T.refl _ _,d⟩
 ·
  refine G.skip (K (G.L (fun au=>?_)));refine o.aO (cU _ (([]:List cA)) kQ kN nx (rfl)) ?_;rintro v5 A ⟨am,j,Z,O⟩;have ap:A.size=I.size+1:=by rw[O];simp
  have B:T 0 I.size (I.size+1):=T.new d.size;replace i:=i.M j;replace d:=d.L j;have aa:=j.size;refine o.W ?_;refine o.aO (dO am i kQ (by first|omega|(simp;omega)) (by first|omega|(simp;omega))) ?_;rintro F W ⟨t,C,n,ac⟩;replace n:T (I.size+1) A.size t:=n;replace ac:=ac.md;have P:T 0 I.size t:=T.L (B) n d.size;replace d:=d.bl ac (ag.J (aq.q B));refine o.aj ?_;refine au ?_;refine G.ret (E ?_);obtain⟨S,rfl⟩:∃s:aM,F=s.v:=⟨cg F,C.bm.symm⟩;exact⟨S,t,rfl,by simpa using C,P,d⟩
theorem y6(v1:Value)(a:List fA)(w0:World)(I:Heap)
 (i:bw I c4 33 v1 a) (ae:a.length≤1073741824):
 aC Tryz.prog w0 52 #[v1] I (fun r x=>∃s:aM,∃k:Nat,r=s.v∧(aU k 129 x c4 33 s.v a)∧(T 0 I.size k)∧ak I x):=by
 refine aC.aK [v1] Tryz.func52 ?_;intro X E;have d:ak I I:=V.refl _ _;replace i:=i.bt;obtain⟨p,ab,rfl,_,_,R⟩:=id i.ex;refine G.L (fun H=>?_);refine o.aj ?_;refine H (G.t2 (fun K L=>G.L (fun M=>?_)));refine o.W ?_;refine o.v1 (Y.pj rfl Tryz.underlying27 rfl rfl) (o.nil (M ?_));refine cI (fun q=>?_) (fun q=>?_)
 ·
  obtain rfl:a=[]:=by
   apply Decidable.byContradiction;intro h;obtain⟨ad,Q,_⟩:=R h;rw[Q]at q;cases q
  refine G.L (fun N=>?_);refine o.aj ?_;refine N ?_;refine G.ret (L (E ?_));exact⟨⟨none,0,0⟩,0,rfl,aU.nil hU mM,T.refl _ _,d⟩
 ·
  refine G.skip (K (G.L (fun au=>?_)));refine o.aO (cU _ (([]:List fA)) lY hU mM (rfl)) ?_;rintro v5 A ⟨am,j,Z,O⟩;have ap:A.size=I.size+1:=by rw[O];simp
  have B:T 0 I.size (I.size+1):=T.new d.size;replace i:=i.M j;replace d:=d.L j;have aa:=j.size;refine o.W ?_;refine o.aO (dO am i lY (by first|omega|(simp;omega)) (by first|omega|(simp;omega))) ?_;rintro F W ⟨t,C,n,ac⟩;replace n:T (I.size+1) A.size t:=n;replace ac:=ac.md;have P:T 0 I.size t:=T.L (B) n d.size;replace d:=d.bl ac (ag.J (aq.q B));refine o.aj ?_;refine au ?_;refine G.ret (E ?_);obtain⟨S,rfl⟩:∃s:aM,F=s.v:=⟨cg F,C.bm.symm⟩;exact⟨S,t,rfl,by simpa using C,P,d⟩
theorem mE(v1:Value)(a:List UInt8)(w0:World)(I:Heap)
 (i:bw I a1 1 v1 a) (ae:a.length≤140737488355328):
 aC Tryz.prog w0 59 #[v1] I (fun r x=>∃s:aM,∃k:Nat,r=s.v∧(aU k 5 x a1 1 s.v a)∧(T 0 I.size k)∧ak I x):=by
 refine aC.aK [v1] Tryz.func59 ?_;intro X E;have d:ak I I:=V.refl _ _;replace i:=i.bt;obtain⟨p,ab,rfl,_,_,R⟩:=id i.ex;refine G.L (fun H=>?_);refine o.aj ?_;refine H (G.t2 (fun K L=>G.L (fun M=>?_)));refine o.W ?_;refine o.v1 (Y.pj rfl Tryz.underlying57 rfl rfl) (o.nil (M ?_));refine cI (fun q=>?_) (fun q=>?_)
 ·
  obtain rfl:a=[]:=by
   apply Decidable.byContradiction;intro h;obtain⟨ad,Q,_⟩:=R h;rw[Q]at q;cases q
  refine G.L (fun N=>?_);refine o.aj ?_;refine N ?_;refine G.ret (L (E ?_));exact⟨⟨none,0,0⟩,0,rfl,aU.nil eB fH,T.refl _ _,d⟩
 ·
  refine G.skip (K (G.L (fun au=>?_)));refine o.aO (cU _ (([]:List UInt8)) dv eB fH (rfl)) ?_;rintro v5 A ⟨am,j,Z,O⟩;have ap:A.size=I.size+1:=by rw[O];simp
  have B:T 0 I.size (I.size+1):=T.new d.size;replace i:=i.M j;replace d:=d.L j;have aa:=j.size;refine o.W ?_;refine o.aO (dO am i dv (by first|omega|(simp;omega)) (by first|omega|(simp;omega))) ?_;rintro F W ⟨t,C,n,ac⟩;replace n:T (I.size+1) A.size t:=n;replace ac:=ac.md;have P:T 0 I.size t:=T.L (B) n d.size;replace d:=d.bl ac (ag.J (aq.q B));refine o.aj ?_;refine au ?_;refine G.ret (E ?_);obtain⟨S,rfl⟩:∃s:aM,F=s.v:=⟨cg F,C.bm.symm⟩;exact⟨S,t,rfl,by simpa using C,P,d⟩
theorem Ex(v:Value)(l:List cA)(m:bF)(w0:World)(I:Heap)
 (L:bw I dm 65 v l) (bp:l.length≤1000):
 aC Tryz.prog w0 56 #[v,j3 m] I (fun r aB=>∃s:aM,∃k:Nat,r=s.v∧(aU k 64 aB dm 65 s.v (hX (l++[⟨m.J,m.w,m.y⟩])))∧(T 0 I.size k)∧ak I aB):=by
 refine aC.aK [v,j3 m] Tryz.func56 ?_;intro bl aH;have n:ak I I:=V.refl _ _;replace L:=L.bt;refine G.L (fun aS=>?_);refine o.aO cr ?_;rintro v3 C ⟨rfl,M,af,bo,aT⟩;have bn:C.size=I.size+1:=by rw[aT];simp
 replace L:=L.M af;replace n:=n.L af;have a0:=af.size;replace M:Var 52 C I.size (dt m):=M;refine o.aj ?_;refine aS (G.t1 (fun aD=>?_));refine dC (fun A=>ak C A) [] ?_;have d:ak C C:=V.refl _ _;refine O.W 0 rfl d ?_;refine O.t1 2 rfl (fun A t=>Y.ai (M.N.M t) rfl cy rfl a_) d ?_;refine O.t1 3 rfl (fun A t=>Y.cast (v2:=bs m.J) (aW (((M.N.drop 1).M t).take 32) b_ a_ (by rw[gY];exact bB _)) (b6 (gY _))) d ?_;refine O.t1 4 rfl (fun A t=>Y.ai (M.N.M t) rfl cy rfl a_) d ?_;refine O.t1 5 rfl (fun A t=>Y.cast (v2:=bs m.w) (aW (((M.N.drop 33).M t).take 32) b_ a_ (by rw[e1];exact bB _)) (b6 (e1 _))) d ?_;refine O.t1 6 rfl (fun A t=>Y.ai (M.N.M t) rfl cy rfl bO) d ?_;refine O.t1 7 rfl (fun A t=>ar (M.N.mV.M t) bL) d ?_;refine O.t1 8 rfl (fun A t=>Y.build (v:= .agg (dm ⟨m.J,m.w,m.y⟩).toArray) rfl rfl (by intro w;exact uP _ _)) d ?_;refine O.two (i:=1) (j:=9) (by kernel_rfl) ?_ ?_
 ·
  refine ch oC (oU v l w0 _ L.any (by omega)) ?_;rintro v6 x ⟨bk,B,rfl,E,am,K⟩;have aX:T 0 I.size B:=T.L (T.refl 0 _) am n.size;have aY:T 0 C.size B:=T.L (T.refl 0 _) am d.size;replace n:=n.L K;replace d:=d.L K;have b2:=K.size;have ad:=E.le;refine⟨.inr d,O.narrow (SH2:=fun A=>V (aE [B]) x A) (fun A t=>(V.aJ (ks:=[]) (d.j1 []) t (ag.J (aq.q aY))).nil) ?_⟩;have d:V (aE [B]) x x:=V.refl _ _;have aZ:=T.refl B x.size;refine O.aY 9 ?_;refine ep rfl (cU _ ([(⟨m.J,m.w,m.y⟩:cA)]) kQ kN nx (rfl)) (fun a1 F ah=>?_);obtain⟨S,ac,bf,ab⟩:=ah;have bd:F.size=x.size+1:=by rw[ab];simp
  have bg:T 0 x.size (x.size+1):=T.new d.size;replace E:=E.M ac;replace n:=n.L ac;replace d:=d.bc ac;have a2:=ac.size;refine O.b3 d (ag.cons (aq.r aZ) (ag.J (aq.q bg))) ?_;have d:V (aE [B,(x.size+1)]) F F:=V.refl _ _;have ap:=T.refl B F.size;have bh:=T.refl (x.size+1) F.size;refine O.aY 10 ?_;refine ep rfl (dO E S.rd kQ (by simp;omega) (by simp;omega)) (fun a6 Q ai=>?_);obtain⟨P,E,N,H⟩:=ai;replace N:T B F.size P:=N;replace H:=H.md;have aI:T B F.size P:=T.L (ap) N d.size;replace n:=n.bl H (ag.J (aq.q aX));replace d:=d.aJ H (ag.J (aq.r ap));have a3:=H.size;have ad:=E.le;refine O.b3 d (ag.cons (aq.r aI) (ag.J (aq.r bh))) ?_;have d:V (aE [P,(x.size+1)]) Q Q:=V.refl _ _;refine O.t1 11 rfl (fun A t=>ev) d ?_;refine cD ?_;refine aD (G.L (fun a7=>?_));refine o.ax 2 ?_;refine o.v1 (ba E.rd hM) ?_;have bj:(l++[(⟨m.J,m.w,m.y⟩:cA)]).length=l.length+1:=by simp
  obtain⟨q,t⟩:∃q,q=(l++[(⟨m.J,m.w,m.y⟩:cA)]).length-100:=⟨_,rfl⟩;have az:=sr t;refine o.v1 fE ?_;refine o.v1 (Y.cast (v2:= .int .i64 (q:Int)) (Y.sD rfl rfl rfl) (fJ (by omega))) ?_;refine o.aK (g:=fun v=>v) (Y.slice E.rd (q) ((l++[(⟨m.J,m.w,m.y⟩:cA)]).length) rfl hM j9 rfl (.inr ⟨_,_,_,rfl,rfl,by first|rfl|omega⟩) (.inl ⟨rfl,rfl⟩) (by omega) (by omega)) fun X W=>?_;rw[List.take_length,az]at W;have aj:(hX (l++[(⟨m.J,m.w,m.y⟩:cA)])).length≤1073741824:=by have:=qt (l++[(⟨m.J,m.w,m.y⟩:cA)]);omega
  have an:=W.any;have ay:=oU X _ w0 _ an aj;refine aV oC (ay) (fun a8 bb Z=>?_);obtain⟨aa,R,rfl,aA,ae,au⟩:=Z;have aJ:T 0 I.size R:=T.L (T.refl 0 _) ae n.size;replace n:=n.L au;refine o.aj ?_;refine a7 ?_;refine G.ret (aH ?_);exact⟨aa,R,rfl,aA,aJ,n⟩
 ·
  refine ep rfl (cU _ ([(⟨m.J,m.w,m.y⟩:cA)]) kQ kN nx (rfl)) (fun a1 F ah=>?_);obtain⟨S,ac,bf,ab⟩:=ah;have bd:F.size=C.size+1:=by rw[ab];simp
  have aK:T 0 C.size (C.size+1):=T.new d.size;replace L:=L.M ac;replace n:=n.L ac;replace d:=d.L ac;have a4:=ac.size;refine⟨.inr d,O.narrow (SH2:=fun A=>V (aE [(C.size+1)]) F A) (fun A t=>(V.aJ (ks:=[]) (d.j1 []) t (ag.J (aq.q aK))).nil) ?_⟩;have d:V (aE [(C.size+1)]) F F:=V.refl _ _;have aL:=T.refl (C.size+1) F.size;refine O.aY 1 ?_;refine ch oC (oU v l w0 _ L.any (by omega)) ?_;rintro v6 x ⟨bk,B,rfl,E,am,K⟩;have aN:T 0 I.size B:=T.L (T.refl 0 _) am n.size;have aO:T 0 F.size B:=T.L (T.refl 0 _) am d.size;replace S:=S.M K;replace n:=n.L K;replace d:=d.bc K;have a5:=K.size;have ad:=E.le;refine O.b3 d (ag.cons (aq.r aL) (ag.J (aq.q aO))) ?_;have d:V (aE [(C.size+1),B]) x x:=V.refl _ _;have aP:=T.refl (C.size+1) x.size;have aF:=T.refl B x.size;refine O.aY 10 ?_;refine ep rfl (dO E S.rd kQ (by simp;omega) (by simp;omega)) (fun a6 Q ai=>?_);obtain⟨P,E,N,H⟩:=ai;replace N:T B x.size P:=N;replace H:=H.md;have aQ:T B x.size P:=T.L (aF) N d.size;replace n:=n.bl H (ag.J (aq.q aN));replace d:=d.aJ H (ag.J (aq.r aF));have bm:=H.size;have ad:=E.le;refine O.b3 d (ag.cons (aq.r aP) (ag.J (aq.r aQ))) ?_;have d:V (aE [(C.size+1),P]) Q Q:=V.refl _ _;refine O.t1 11 rfl (fun A t=>ev) d ?_;refine cD ?_;refine aD (G.L (fun bc=>?_));refine o.ax 2 ?_;refine o.v1 (ba E.rd hM) ?_;have bj:(l++[(⟨m.J,m.w,m.y⟩:cA)]).length=l.length+1:=by simp
  obtain⟨q,t⟩:∃q,q=(l++[(⟨m.J,m.w,m.y⟩:cA)]).length-100:=⟨_,rfl⟩;have az:=sr t;refine o.v1 fE ?_;refine o.v1 (Y.cast (v2:= .int .i64 (q:Int)) (Y.sD rfl rfl rfl) (fJ (by omega))) ?_;refine o.aK (g:=fun v=>v) (Y.slice E.rd (q) ((l++[(⟨m.J,m.w,m.y⟩:cA)]).length) rfl hM j9 rfl (.inr ⟨_,_,_,rfl,rfl,by first|rfl|omega⟩) (.inl ⟨rfl,rfl⟩) (by omega) (by omega)) fun X W=>?_;rw[List.take_length,az]at W;have aj:(hX (l++[(⟨m.J,m.w,m.y⟩:cA)])).length≤1073741824:=by have:=qt (l++[(⟨m.J,m.w,m.y⟩:cA)]);omega
  have an:=W.any;have ay:=oU X _ w0 _ an aj;refine aV oC (ay) (fun a8 bb Z=>?_);obtain⟨aa,R,rfl,aA,ae,au⟩:=Z;have aR:T 0 I.size R:=T.L (T.refl 0 _) ae n.size;replace n:=n.L au;refine o.aj ?_;refine bc ?_;refine G.ret (aH ?_);exact⟨aa,R,rfl,aA,aR,n⟩
end gg

namespace gx
open E Go.RowKit eJ eN eW e3 ey eX eY fF fG fO fY gg
set_option maxRecDepth 100000 in
theorem iI:c6 Tryz.prog 30 68 33 56:=⟨Tryz.underlying30,_,_,rfl,rfl,rfl,rfl,rfl⟩
set_option maxRecDepth 100000 in
theorem jZ:c6 Tryz.prog 45 62 2 40:=⟨Tryz.underlying45,_,_,rfl,rfl,rfl,rfl,rfl⟩
section
variable {P : Program} {w0 : World} {n : Nat} {l : bZ} {H H1 : Heap} {J : Oper}
end
section
variable {P : Program} {w0 : World} {n : Nat} {l : bZ} {H : Heap} {J : Oper}
theorem Z.vF{d x:Operand}{t t2 e A:TypeId}{b off o F k2 q sz k:Nat}{cs ys:List Value}{ad:Addr}(E:Var e H b cs)(S:∀w,At w0 H w→∀j v,ys[j]?=some v→w.cell? (ad.add j)=some v)(hy:ys.length=k*sz)(R:∀u∈ys,u.oneCell'=true)(Q:J.op= .call {callee:= .builtin .copy,args:= #[d,x],argTypes:= #[t,t2]})
 (T:P.underlying t=some (.slice A)) (ao:∀w,(sizeOf A).run P w= .ok sz w) (al:aF l d=some (.slice (some ⟨b,off,none⟩) o F)) (W:aF l x=some (.slice (some ad) k2 q)) (N:k=min k2 o) (X:off+k*sz≤cs.length):
 Z P w0 n l H J (fun r aa=>r= .int .i64 k∧Var e aa b (ec cs off ys)∧V (fun g=>g=b) H aa):=by
 intro a w B i;obtain⟨G,I,K⟩:=id E.row;have O:Nat.min k2 o=k:=N.symm
 have L:(Builtin.firstCells sz k (.slice (some ad) k2 q)).run P w= .ok ys.toArray w:=
  run_firstCells_some (P:=P) w sz k ad k2 q _ hy (fun j v M=>S w i j v M)
 have C:=m3 P b off e G ys 0 cs.toArray w (by rw[i.heap];exact I) K (by simp;omega) R;simp only[Nat.add_zero]at C;refine⟨_,_,w.setRow b (ec cs off ys).toArray,?_,i.row _ _,rfl,⟨q2 i E.row (by simp[ec];omega)⟩,pg i _ _⟩;simp[execOp,Q,B.eval al,B.eval W,resolve,invoke,builtin,Builtin.copy_,run_underlying T,Builtin.lenOf,ao,O,L,C,ec,goInt]
theorem Is{z:Value}{α:Type}{f:α→List Value}{z0:α}(h:z.cells.toList=f z0):∀m,(Builtin.zeroCells z.cells m).toList=(List.replicate m z0).flatMap f:=by
 have o:(f z0).length=z.cells.size:=by rw[←h,Array.length_toList]
 have k:∀m,(Builtin.zeroCells z.cells m).toList=(List.range (m*z.cells.size)).map (fun i=>z.cells[i%z.cells.size]!):=fun m=>by
  unfold Builtin.zeroCells;rw[Array.toList_map,Array.toList_range]
 have aK:(List.range z.cells.size).map (fun i=>z.cells[i%z.cells.size]!)=f z0:=by
  rw[←h];apply List.ext_getElem
  ·simp
  ·intro j n U
   have d:j<z.cells.size:=by simpa using n
   simp[Nat.mod_eq_of_lt d,getElem!_pos z.cells j d]
 intro m;rw[k]
 induction m with
 |zero=>simp
 |succ m ih=>
  rw[Nat.succ_mul,Nat.add_comm,List.range_add,List.map_append,List.map_map,aK,List.replicate_succ,List.flatMap_cons,←ih];congr 1;apply List.map_congr_left;intro j _;simp
theorem Z.Ag{α:Type}{F:Nat→Prop}{f:α→List Value}{s x:Operand}{t iT e:TypeId}{C E:IntKind}{ad:Addr}{c m sz bytes:Nat}{i:TypeInfo}{z:Value}{xs:List α}(z0:α)(av:∀x,(f x).length=sz)(G:∀x,∀u∈f x,u.oneCell'=true)(T:Rd F H f sz (.slice (some ad) xs.length c) xs)
 (S:J.op= .call {callee:= .builtin .append,args:= #[s,x],argTypes:= #[t,iT]}) (ab:P.underlying t=some (.slice e)) (ae:P.underlying iT=some (.int C)) (N:P.info? e=some i) (ag:i.zero=some z) (Y:i.size=sz) (I:i.bytes=bytes) (B:z.cells.toList=f z0) (X:0<sz) (Q:0<m)
 (ao:aF l s=some (.slice (some ad) xs.length c)) (af:aF l x=some (.int E m)) (q:c<xs.length+m) (aw:(xs.length+m)*bytes≤140737488355328) (hm:xs.length+m≤9223372036854775807):
 Z P w0 n l H J (fun r aa=>aU (H.size+1) e aa f sz r (xs++List.replicate m z0)∧ak H aa∧∃ai,aa=H.push ai):=by
 subst Y;subst I;intro a w o d;have holds:=T.lx av rfl d
 have hold:(Builtin.firstCells i.size xs.length (.slice (some ad) xs.length c)).run P w.drew= .ok (xs.flatMap f).toArray w.drew:=
  run_firstCells_some (P:=P) w.drew i.size xs.length ad xs.length c _ (length_flatMap av xs) (fun j v O=>by simpa using holds j v O)
 have W:=Lib.run_append_grow_zeros (P:=P) w t iT J.type e i z E C ab ae N ag (some ad) xs.length c (xs.flatMap f) hold m Q X q (by omega) (by
  have:m*i.bytes≤(xs.length+m)*i.bytes:=Nat.mul_le_mul_right _ (by omega);omega) (growslice_fits q aw)
 have k:At w0 H w.drew:=d.drew;have M:=grownCap_ge w (xs.length+m) c e;have L:grownCap w (xs.length+m) c e≤maxLen:=grownCap_le_maxLen w (xs.length+m) c e (by unfold maxLen;omega);have ah:z.cells.size=i.size:=by rw[←Array.length_toList,B,av]
 have R:=Own.new (e:=e) (G':=fun b=>b+1=H.size+1) (w:=w.drew) (z:=z) (cap:=grownCap w (xs.length+m) c e) (zs:=xs++List.replicate m z0) av G ah (by rw[k.heap]) (by simpa using M) L
 have K:(xs.flatMap f).toArray++Builtin.zeroCells z.cells m=((xs++List.replicate m z0).flatMap f).toArray:=by
  apply Array.ext';rw[Array.toList_append,Is B,List.flatMap_append]
 have A:w.heap.size=H.size:=by rw[d.heap]
 refine⟨.slice (some ⟨w.heap.size,0,none⟩) (xs.length+m) (grownCap w (xs.length+m) c e),_,w.drew.alloc (.cells ((xs.flatMap f).toArray++Builtin.zeroCells z.cells m++Builtin.zeroCells z.cells (grownCap w (xs.length+m) c e-(xs.length+m))) e),?_,⟨rfl,d.os,d.tape,d.output,k.gb⟩,⟨?_,?_⟩,?_,?_⟩
 ·simp[execOp,S,resolve,invoke,builtin,o.eval ao,o.eval af,W,A]
 ·rw[K]
  simpa[A]using R
 ·rw[(k.alloc _).heap];simp
 ·rw[(k.alloc _).heap];exact V.push _ _ _
 ·exact⟨_,(k.alloc _).heap⟩
theorem Y.yL{x:Operand}{o d:Option Operand}{t e:TypeId}{a:Option Addr}{len cap sz:Nat}(i j:Nat)(B:J.op= .slice t x o d none)(C:∀w,(underlying t).run P w= .ok (.slice e) w)(ao:∀w,(sizeOf e).run P w= .ok sz w)(E:aF l x=some (.slice a len cap))
 (A:o=none∧i=0∨∃p k aD,o=some p∧aF l p=some (.int k aD)∧aD=(i:Int)) (r:d=none∧j=len∨∃p k aD,d=some p∧aF l p=some (.int k aD)∧aD=(j:Int)) (K:i≤j) (L:j≤cap):
 Y P w0 n l H J (.slice (if cap=i then a else a.map (·.add (i*sz))) (j-i) (cap-i)):=by
 intro ac w q I
 have aK:∀w,(Instr.sliceBounds true len cap (o.map ac.eval) (d.map ac.eval) none).run P w= .ok (i,j,cap) w:=by
  intro w
  rcases A with⟨rfl,rfl⟩|⟨p,k,aD,rfl,F,rfl⟩<;>rcases r with⟨rfl,rfl⟩|⟨N,a8,M,rfl,G,rfl⟩<;>
   simp[Instr.sliceBounds,Instr.sliceBound,asIntOf,q.eval, *]
 have hu:∀w,(underlying t).run P w= .ok (.slice e) w:=C;simp[execOp,B,q.eval E,Instr.sliceAt,Instr.slice,hu,ao,aK]
theorem Y.Ci{x:Operand}{t e:TypeId}{a:Option Addr}{len cap:Nat}(i:J.op= .call {callee:= .builtin .cap,args:= #[x],argTypes:= #[t]})(j:∀w,(underlying t).run P w= .ok (.slice e) w)(k:aF l x=some (.slice a len cap)):Y P w0 n l H J (.int .i64 cap):=by
 intro ac w d o;simp[execOp,i,d.eval k,resolve,invoke,builtin,Builtin.cap_,j,goInt]
theorem aU.view{α:Type}{k:Nat}{e:TypeId}{f:α→List Value}{sz:Nat}{v:Value}{xs:List α}(h:aU k e H f sz v xs)(o:xs≠[]):∃g cap cs,v= .slice (some ⟨g,0,none⟩) xs.length cap∧k=g+1∧Var e H g cs∧xs.length≤cap∧cap≤maxLen∧cs.length=cap*sz∧cs.take (xs.length*sz)=xs.flatMap f:=by
 rcases h.own.ex with⟨_,t⟩|⟨g,cap,cur,r,n,q,d,U,i,j⟩
 ·exact absurd t o
 ·exact⟨g,cap,cur.toList,r,n.symm,⟨q⟩,d,U,by rw[Array.length_toList];exact i,j⟩
theorem aU.back{α:Type}{g:Nat}{e:TypeId}{f:α→List Value}{sz cap:Nat}{cs:List Value}{xs:List α}(av:∀x,(f x).length=sz)(i:∀x,∀u∈f x,u.oneCell'=true)(d:Var e H g cs)(j:xs.length≤cap)(hm:cap≤maxLen)(ao:cs.length=cap*sz)(k:cs.take (xs.length*sz)=xs.flatMap f):aU (g+1) e H f sz (.slice (some ⟨g,0,none⟩) xs.length cap) xs:=
 ⟨⟨av,i,.inr ⟨g,cap,cs.toArray,rfl,rfl,d.row,j,hm,by simpa using ao,by simpa using k⟩⟩,d.lt⟩
end
theorem Hc{α:Type}{f:α→List Value}{sz:Nat}(av:∀x,(f x).length=sz){cs:List Value}{xs ys:List α}{i:Nat}(h:cs.take (xs.length*sz)=xs.flatMap f)(q:cs.length≥xs.length*sz)(n:i+ys.length≤xs.length):(ec cs (i*sz) (ys.flatMap f)).take (xs.length*sz)=(xs.take i++ys++xs.drop (i+ys.length)).flatMap f:=by
 have hy:=length_flatMap av ys;have hm:(i+ys.length)*sz≤xs.length*sz:=Nat.mul_le_mul_right _ n;have o:(i+ys.length)*sz=i*sz+ys.length*sz:=Nat.add_mul _ _ _
 have j:cs.take (i*sz)=(xs.take i).flatMap f:=by
  have:=congrArg (List.take (i*sz)) h;rw[List.take_take,Nat.min_eq_left (by omega)]at this;rw[this]
  conv=>lhs;rw[←List.take_append_drop i xs,List.flatMap_append]
  rw[List.take_left' (by rw[length_flatMap av,List.length_take,Nat.min_eq_left (by omega)])]
 have k:(cs.take (xs.length*sz)).drop ((i+ys.length)*sz)=(xs.drop (i+ys.length)).flatMap f:=by
  rw[h]
  conv=>lhs;rw[←List.take_append_drop (i+ys.length) xs,List.flatMap_append]
  rw[List.drop_left' (by rw[length_flatMap av,List.length_take,Nat.min_eq_left (by omega)])]
 have d:((xs.take i++ys).flatMap f).length=(i+ys.length)*sz:=by
  rw[length_flatMap av,List.length_append,List.length_take,Nat.min_eq_left (by omega)]
 rw[ec,j,←List.flatMap_append,hy,←o,List.flatMap_append (xs:=xs.take i++ys),←k,List.take_append,d,List.take_of_length_le (by rw[d];exact hm),List.drop_take]
section
variable {P : Program} {w0 : World} {n : Nat} {l : bZ} {H : Heap} {J : Oper}
theorem Z.r3{α:Type}{F:Nat→Prop}{f:α→List Value}{d x:Operand}{t t2 e q:TypeId}{g i o I cap sz k:Nat}{ad:Addr}{G:Nat}{v:Value}{xs ys:List α}(h:aU k e H f sz v xs)(E:v= .slice (some ⟨g,0,none⟩) xs.length cap)(S:Rd F H f sz (.slice (some ad) ys.length G) ys)(Q:xs≠[])
 (R:J.op= .call {callee:= .builtin .copy,args:= #[d,x],argTypes:= #[t,t2]})
 (X:P.underlying t=some (.slice q)) (ao:∀w,(sizeOf q).run P w= .ok sz w) (al:aF l d=some (.slice (some ⟨g,i*sz,none⟩) o I)) (ab:aF l x=some (.slice (some ad) ys.length G)) (af:ys.length≤o) (A:i+ys.length≤xs.length) (ah:ys≠[]):
 Z P w0 n l H J (fun r aa=>r= .int .i64 ys.length∧aU k e aa f sz v (xs.take i++ys++xs.drop (i+ys.length))∧V (fun b=>b+1=k) H aa):=by
 obtain⟨g2,ae,cs,j,B,O,K,U,L,M⟩:=aU.view h Q;rw[E]at j;simp only[Value.slice.injEq,Option.some.injEq,Addr.mk.injEq,true_and,and_true]at j;obtain⟨rfl,rfl⟩:=j;have av:=h.own.cells;have hlen:=length_flatMap av ys;have W:(i+ys.length)*sz≤xs.length*sz:=Nat.mul_le_mul_right _ A;have ag:xs.length*sz≤cap*sz:=Nat.mul_le_mul_right _ K;rw[Nat.add_mul]at W;refine(Z.vF O (fun w N=>S.lx av rfl N) hlen (fun u hu=>by obtain⟨y,_,hu⟩:=List.mem_flatMap.1 hu;exact h.own.one y u hu) R X ao al ab (by omega) (by omega)).mono ?_;rintro r aa ⟨T,Y,hm⟩;have C:(xs.take i++ys++xs.drop (i+ys.length)).length=xs.length:=by simp;omega
 refine⟨T,?_,?_⟩
 ·rw[B,E,←C]
  refine aU.back av h.own.one Y (by omega) U ?_ ?_
  ·rw[tz (by omega),L]
  ·rw[C];exact Hc av M (by omega) A
 ·exact hm.weaken (fun b _ e=>by rw[B,e])
theorem Z.CF{k:Nat}{α:Type}{f:α→List Value}{d x:Operand}{t t2 e E:TypeId}{g i C L k2 ah cap sz:Nat}{v:Value}{xs:List α}(h:aU k e H f sz v xs)(af:v= .slice (some ⟨g,0,none⟩) xs.length cap)(q:i<xs.length)(O:xs.length<cap)
 (T:J.op= .call {callee:= .builtin .copy,args:= #[d,x],argTypes:= #[t,t2]})
 (ab:P.underlying t=some (.slice E)) (ao:∀w,(sizeOf E).run P w= .ok sz w) (al:aF l d=some (.slice (some ⟨g,(i+1)*sz,none⟩) C L)) (ag:aF l x=some (.slice (some ⟨g,i*sz,none⟩) k2 ah)) (Q:xs.length-i=min k2 C):
 Z P w0 n l H J (fun r aa=>r= .int .i64 (xs.length-i:Nat)∧aU k e aa f sz (.slice (some ⟨g,0,none⟩) (xs.length+1) cap) (xs.take (i+1)++xs.drop i)∧V (fun b=>b+1=k) H aa):=by
 have S:xs≠[]:=by intro e;rw[e]at q;simp at q
 obtain⟨g2,ai,cs,B,I,G,aj,U,M,F⟩:=aU.view h S;rw[af]at B;simp only[Value.slice.injEq,Option.some.injEq,Addr.mk.injEq,true_and,and_true]at B;obtain⟨rfl,rfl⟩:=B;have av:=h.own.cells;have R:(xs.drop i).length=xs.length-i:=List.length_drop;have hlen:((xs.drop i).flatMap f).length=(xs.length-i)*sz:=by rw[length_flatMap av,R]
 have W:i*sz+(xs.length-i)*sz=xs.length*sz:=by rw[←Nat.add_mul];congr 1;omega
 have an:(i+1)*sz+(xs.length-i)*sz=(xs.length+1)*sz:=by rw[←Nat.add_mul];congr 1;omega
 have aq:(xs.length+1)*sz≤cap*sz:=Nat.mul_le_mul_right _ O;have ar:(i+1)*sz≤xs.length*sz:=Nat.mul_le_mul_right _ q
 have ax:∀j,j≤xs.length→cs.take (j*sz)=(xs.take j).flatMap f:=fun j o=>by
  have hm:j*sz≤xs.length*sz:=Nat.mul_le_mul_right _ o;have:=congrArg (List.take (j*sz)) F;rw[List.take_take,Nat.min_eq_left hm]at this;rw[this]
  conv=>lhs;rw[←List.take_append_drop j xs,List.flatMap_append]
  rw[List.take_left' (by rw[length_flatMap av,List.length_take,Nat.min_eq_left o])]
 have Y:(cs.take (xs.length*sz)).drop (i*sz)=(xs.drop i).flatMap f:=by
  rw[F]
  conv=>lhs;rw[←List.take_append_drop i xs,List.flatMap_append]
  rw[List.drop_left' (by rw[length_flatMap av,List.length_take,Nat.min_eq_left (by omega)])]
 have K:cc H ⟨g,i*sz,none⟩ ((xs.drop i).flatMap f):=by
  have:=(G.N.take (xs.length*sz)).drop (i*sz);rw[Y,add_eq rfl]at this
  simpa using this
 refine(Z.vF (k:=xs.length-i) (sz:=sz) G (fun w N j v o=>by rw[N.cell,add_eq K.spot];exact K.cells j v o) hlen (fun u hu=>by obtain⟨y,_,hu⟩:=List.mem_flatMap.1 hu;exact h.own.one y u hu) T ab ao al ag Q (by omega)).mono ?_;rintro r aa ⟨X,ae,hm⟩;have A:(xs.take (i+1)++xs.drop i).length=xs.length+1:=by simp;omega
 refine⟨X,?_,hm.weaken (fun b _ e=>by rw[I,e])⟩;rw[I,←A];refine aU.back av h.own.one ae (by omega) U ?_ ?_
 ·rw[tz (by omega),M]
 ·rw[A,ec,ax (i+1) (by omega),←List.flatMap_append,List.take_left' (by rw[length_flatMap av,A])]
theorem Y.yJ{x:Operand}{d:Option Operand}{t e:TypeId}{g len cap sz:Nat}(j:Nat)(q:J.op= .slice t x none d none)(r:∀w,(underlying t).run P w= .ok (.slice e) w)(ao:∀w,(sizeOf e).run P w= .ok sz w)(A:aF l x=some (.slice (some ⟨g,0,none⟩) len cap))
 (i:d=none∧j=len∨∃p k aD,d=some p∧aF l p=some (.int k aD)∧aD=(j:Int)) (o:j≤cap):Y P w0 n l H J (.slice (some ⟨g,0,none⟩) j cap):=by
 have:=Y.yL (P:=P) (w0:=w0) (n:=n) (H:=H) 0 j q r ao A (.inl ⟨rfl,rfl⟩) i (Nat.zero_le _) o
 simpa[add_eq]using this
theorem Y.m7{x p:Operand}{t e:TypeId}{g len cap sz:Nat}{k:IntKind}{aD:Int}(i:Nat)(r:J.op= .slice t x (some p) none none)(A:∀w,(underlying t).run P w= .ok (.slice e) w)(ao:∀w,(sizeOf e).run P w= .ok sz w)(B:aF l x=some (.slice (some ⟨g,0,none⟩) len cap))
 (q:aF l p=some (.int k aD)) (j:aD=(i:Int)) (d:i≤len) (av:i<cap) (o:len≤cap):Y P w0 n l H J (.slice (some ⟨g,i*sz,none⟩) (len-i) (cap-i)):=by
 have:=Y.yL (P:=P) (w0:=w0) (n:=n) (H:=H) i len r A ao B (.inr ⟨_,_,_,rfl,q,j⟩) (.inl ⟨rfl,rfl⟩) d o;rw[if_neg (by omega)]at this
 simpa[add_eq]using this
end
abbrev jK:bA:=Ip
theorem DX{l:List bA}{x:bA}{i:Nat}(h:i=l.length):l++[x]=l.take i++x::l.drop i:=by subst h;simp
theorem DY{l:List bA}{x:bA}{i n:Nat}(k:i<l.length)(aA:n=l.length+1-i):
 ((l.take i++List.replicate n jK).take i++[x]++(l.take i++List.replicate n jK).drop (i+1)).take (i+1)++l.drop i++((l.take i++List.replicate n jK).take i++[x]++(l.take i++List.replicate n jK).drop (i+1)).drop (i+1+(l.drop i).length)=l.take i++x::l.drop i:=by
 have d:(l.take i).length=i:=by rw[List.length_take];omega
 have U:(l.take i++[x]).length=i+1:=by simp[d]
 have aK:(l.take i++List.replicate n jK).take i=l.take i:=List.take_left' d;rw[aK,List.take_left' U];have j:(l.take i++[x]++(l.take i++List.replicate n jK).drop (i+1)).drop (i+1+(l.drop i).length)=[]:=List.drop_eq_nil_of_le (by simp[d];omega);rw[j];simp
theorem DZ{l:List bA}{x:bA}{i:Nat}(j:i<l.length):(l.take (i+1)++l.drop i).take i++[x]++(l.take (i+1)++l.drop i).drop (i+1)=l.take i++x::l.drop i:=by
 have d:(l.take (i+1)).length=i+1:=by rw[List.length_take];omega
 rw[List.drop_left' d,List.take_append_of_le_length (by omega),List.take_take,Nat.min_eq_left (by omega)];simp
theorem F9{F:Nat→Prop}{H:Heap}{l:List bA}{g cap i:Nat}(h:Rd F H bM 33 (.slice (some ⟨g,0,none⟩) l.length cap) l):Rd F H bM 33 (.slice (some ⟨g,0,none⟩) (l.take i).length cap) (l.take i):=by
 obtain⟨a,c,e,A,U,r⟩:=h.ex;cases e;refine⟨_,_,rfl,by rw[List.length_take];omega,U,fun t=>?_⟩;obtain⟨ad,aK,k,n,o,q⟩:=r (by intro e;subst e;simp at t);exact⟨ad,aK,k,n,o,fun j x d=>q j x (by rw[List.getElem?_take]at d;split at d;exact d;cases d)⟩
theorem F8{F:Nat→Prop}{H:Heap}{l:List bA}{g cap i:Nat}(h:Rd F H bM 33 (.slice (some ⟨g,0,none⟩) l.length cap) l):Rd F H bM 33 (.slice (some ⟨g,i*33,none⟩) (l.drop i).length (cap-i)) (l.drop i):=by
 obtain⟨a,c,e,A,U,q⟩:=h.ex;cases e;refine⟨_,_,rfl,by rw[List.length_drop];omega,by omega,fun r=>?_⟩;obtain⟨ad,aK,t,k,n,o⟩:=q (by intro e;subst e;simp at r);cases aK;refine⟨_,rfl,rfl,k,n,fun j x d=>?_⟩;rw[List.getElem?_drop]at d;have:=o (i+j) x d
 simpa[Nat.add_mul]using this
section
variable {P : Program} {w0 : World} {n : Nat} {l : bZ} {H : Heap} {J : Oper}
theorem Y.overlaps{f:FuncId}{fn:Func}{args:List Operand}{r:Array TypeId}{tS tR e:TypeId}{g d q o off aX j sz:Nat}{cs:List Value}{k:Array Value}(i:H[d]?=some (.cells k e (0,0)))(I:Var e H g cs)(E:d≠g)(A:cs.length≠0)
 (F:J.op= .call {callee:= .value (.func f),args:=args.toArray,argTypes:=r}) (B:P.funcs[f]?=some fn) (C:(fn.name== "runtime.NumGoroutine")=false) (aw:fn.body.isNone=true) (aA:Extern.findNext fn=none) (he:Extern.find fn=some (Extern.SlicesOverlaps.overlaps #[tS,tS] #[tR]))
 (G:P.underlying tS=some (.slice e)) (ao:∀w,(sizeOf e).run P w= .ok sz w) (x:gG l args=some [.slice (some ⟨d,0,none⟩) q o,.slice (some ⟨g,off,none⟩) aX j]):Y P w0 n l H J (.bool false):=by
 refine Y.ext F B C aw aA he x (fun w hw=>?_);obtain⟨K,t,_⟩:=I.row;refine Lib.run_overlaps_apart w tS tR e G sz ao ⟨d,0,none⟩ ⟨g,off,none⟩ q o aX j E e e k.size cs.toArray.size ?_ ?_ (by simpa using A) ?_ ?_
 ·simp[World.shape?,hw.heap,i]
 ·simp[World.shape?,hw.heap,t]
 ·simp[World.frozen?,hw.heap,i]
 ·simp[World.frozen?,hw.heap,i]
end
section
variable {α : Type} {P : Program} {w0 : World} {n : Nat} {l : bZ} {H : Heap} {J : Oper} {e : TypeId} {f : α → List Value} {sz : Nat}
theorem Z.Ei{t:TypeId}{k bytes:Nat}{parts:List (Nat×Operand)}(d:List Value)(zs:List α)(O:J.op= .buildSlice t k parts.toArray)(Y:c6 P t e sz bytes)(Q:gG l (parts.map (·.2))=some d)(N:parts.map (·.1)=List.range k)(j:d.length=k)(aq:k*sz≤16777216)(an:k≤16777216)
 (av:∀x,(f x).length=sz) (V:∀x,∀u∈f x,u.oneCell'=true) (G:d.map (fun v=>v.cells.toList)=zs.map f):
 Z P w0 n l H J (fun r aa=>Own (fun b=>b=H.size) e aa f sz r zs∧ak H aa∧∃c:Array Value,aa=H.push (.cells c e (0,0))):=by
 obtain⟨S,i,z,B,ah,ae,aj,ar⟩:=Y;subst ae;intro a w X I;have L:=X.jS Q;have T:zs.length=k:=by have:=congrArg List.length G;simpa[j]using this.symm
 have R:(parts.toArray.map (fun(x:Nat×Operand)=>(x.1,a.eval x.2))).toList=(d.zipIdx 0).map (fun p=>(p.2,p.1)):=by
  have aK:parts.map (fun(x:Nat×Operand)=>(x.1,a.eval x.2))=(List.range k).zip d:=by
   rw[←N,←L,List.map_map];clear N L Q O
   induction parts with
   |nil=>rfl
   |cons p eR ih=>simp[ih]
  rw[List.map_toArray];simp only;rw[aK,List.zipIdx_eq_zip_range',xc j]
 have K:∀v∈d,v.cells.size=i.size:=by
  intro v af;have:v.cells.toList∈zs.map f:=by rw[←G];exact List.mem_map.2 ⟨v,af,rfl⟩
  obtain⟨x,_,ag⟩:=List.mem_map.1 this;have:=av x;rw[ag]at this
  simpa using this
 have M:d.flatMap (fun v=>v.cells.toList)=zs.flatMap f:=by rw[List.flatMap_def,List.flatMap_def,G]
 have W:∀(o:Array Value),((Array.range (k*i.size)).map (o[·%o.size]!)).toList=[]++((Array.range (k*i.size)).map (o[·%o.size]!)).toList:=fun _=>rfl
 have F:∃cs:Array Value,cs.toList=zs.flatMap f∧(Instr.buildSlice t k (parts.toArray.map (fun(x:Nat×Operand)=>(x.1,a.eval x.2)))).run P w= .ok (.slice (some ⟨w.heap.size,0,none⟩) k k) (w.alloc (.cells cs e)):=by
  by_cases q:k*i.size=0
  ·obtain⟨r,C,E⟩:=oM i.size d 0 #[] [] [] rfl (by simp) (by simp[j,q]) K
   refine⟨r,by rw[E,M];rfl,?_⟩;simp only[Instr.buildSlice,Sem.run_bind,run_underlying S,Result.andThen_ok,sizeOf,typeInfo,run_program,B,Sem.run_pure,R];have ai:∀g:Nat→Value,(Array.range 0).map g= #[]:=fun g=>by simp
   simp[q,ai,C,newRow]
  ·obtain⟨r,C,E⟩:=oM i.size d 0 ((Array.range (k*i.size)).map (z.cells[·%z.cells.size]!)) [] _ (W _) (by simp) (by simp[j]) K
   refine⟨r,by rw[E,M];rfl,?_⟩;simp only[Instr.buildSlice,Sem.run_bind,run_underlying S,Result.andThen_ok,sizeOf,typeInfo,run_program,B,Sem.run_pure,R];have ab:¬(k*i.size>2^24):=by simp only[Nat.reducePow];omega
   simp[q,ab,zeroValue,typeInfo,B,ah,C,newRow]
 obtain⟨cs,A,F⟩:=F;refine⟨.slice (some ⟨w.heap.size,0,none⟩) k k,H.push (.cells cs e),w.alloc (.cells cs e),?_,I.alloc (.cells cs e),⟨av,V,.inr ⟨H.size,k,cs,?_,rfl,.of (by simp),?_,?_,?_,?_⟩⟩,ak.pu _ _,_,rfl⟩
 ·simp only[execOp,O,Sem.run_bind,F,Result.andThen_ok,Sem.run_pure]
 ·rw[T,I.heap]
 ·omega
 ·unfold maxLen;omega
 ·rw[←Array.length_toList,A,length_flatMap av,T]
 ·rw[←length_flatMap av,List.take_of_length_le (by rw[←A];exact Nat.le_refl _),A]
theorem Z.Ej{t:TypeId}{k bytes:Nat}{parts:List (Nat×Operand)}(d:List Value)(zs:List α)(E:J.op= .buildSlice t k parts.toArray)(q:c6 P t e sz bytes)(F:gG l (parts.map (·.2))=some d)(o:parts.map (·.1)=List.range k)(A:d.length=k)(C:k*sz≤16777216)(B:k≤16777216)
 (av:∀x,(f x).length=sz) (i:∀x,∀u∈f x,u.oneCell'=true) (G:d.map (fun v=>v.cells.toList)=zs.map f):
 Z P w0 n l H J (fun r aa=>aU (H.size+1) e aa f sz r zs∧ak H aa∧∃c:Array Value,aa=H.push (.cells c e (0,0))):=
 (Z.Ei d zs E q F o A C B av i G).mono fun r aa ⟨i,U,c,j⟩=>⟨aU.new (fun _ e=>e) i j,U,c,j⟩
end
theorem D0(k B:Nat)(v ab:Value)(l:List bA)(x:bA)(i:Nat)(w0:World)(I:Heap)
 (j:aU k 68 I bM 33 v l) (q:aU B 68 I bM 33 ab [x]) (ar:af k B) (b6:i≤l.length) (bz:∃c,I[B-1]?=some (.cells c 68 (0,0))) (b8:l.length≤1048576):
 aC Tryz.prog w0 63 #[v,.int .i64 i,ab] I (fun r ae=>∃aB:Value,∃aA:Nat,r=aB∧(aU aA 68 ae bM 33 aB (l.take i++x::l.drop i))∧(T k I.size aA)∧V (aE [k]) I ae):=by
 refine aC.aK [v,.int .i64 i,ab] Tryz.func63 ?_;intro bC aa;have n:V (aE [k]) I I:=V.refl _ _;have C:=T.refl k I.size;have a_:=j.le;have bO:=q.le;have b_:=j.len;refine G.L (fun aI=>?_);refine o.aj ?_;refine aI (G.L (fun aJ=>?_));refine o.ax 2 ?_;refine o.aK (g:=fun v=>v) (Y.slice j.rd (i) (l.length) rfl cq cf rfl (.inr ⟨_,_,_,rfl,rfl,by first|rfl|omega⟩) (.inl ⟨rfl,rfl⟩) (by omega) (by omega)) fun bG ca=>?_;refine o.nil (aJ (G.L (fun aK=>?_)));refine o.W ?_;refine o.v1 (Y.cast (v2:= .int .i64 1) (ba q.rd cq) (rfl)) ?_;refine o.aj ?_;refine aK (G.t1 (fun aL=>G.L (fun aM=>?_)));refine o.W ?_;refine o.v1 ((b9).fC (fun h=>by simp at h)) (o.nil (aM ?_));refine dB ?_;refine G.skip (aL (G.L (fun aN=>?_)));refine o.W ?_;refine o.v1 (ba j.rd cq) ?_;refine o.aj ?_;refine aN (G.t2 (fun aO aP=>G.L (fun aQ=>?_)));refine o.ax 2 ?_;refine o.v1 b9 (o.nil (aQ ?_));refine aT (fun aR=>?_) (fun aR=>?_)
 ·
  refine G.L (fun aS=>?_);refine o.ax 2 ?_;refine o.aO (dO j q.rd iI (by simp only[List.length_cons,List.length_nil];omega) (by simp only[List.length_cons,List.length_nil];omega)) fun aV bH aW=>?_;obtain⟨au,j,W,N⟩:=aW;replace W:T k I.size au:=W;replace N:=N.md;have aX:T k I.size au:=T.L (C) W n.size;replace n:=n.aJ N (ag.J (aq.r C));have bJ:=N.size;have a_:=j.le;refine o.aj ?_;refine aS ?_;refine G.ret (aP (aa ?_));exact⟨aV,au,rfl,by rw[←DX (by omega)];exact j,aX,n⟩
 ·
  have H:i<l.length:=by omega
  have bu:l≠[]:=by intro e;rw[e]at H;simp at H
  obtain⟨g,cap,cs,A,bt,bx,b1,bq,b4,_⟩:=aU.view j bu;unfold maxLen at bq;obtain⟨Q,an,bZ,M,b7,_,b3,b5,_,_⟩:=aU.view q (by simp);obtain⟨b0,az⟩:=bz;rw[show B-1=Q by omega]at az;have bs:Q≠g:=fun e=>ar g bt.symm (by omega);refine G.skip (aO (G.t2 (fun am bb=>G.L (fun ap=>?_))));refine o.ax 2 ?_;refine o.v1 bD ?_;refine o.W ?_;refine o.v1 (Y.Ci rfl cq (congrArg some A)) ?_;refine o.v1 eT (o.nil (ap ?_));refine aT (fun aY=>?_) (fun aY=>?_)
  ·
   obtain⟨bw,i0,z0,ay,ai,aZ,bo,_⟩:=iI
   have a1:z0.cells.toList=bM jK:=by
    have d:(zeroValue 68).run Tryz.prog w0= .ok (.agg (bM jK).toArray) w0:=by kernel_rfl
    simp[zeroValue,typeInfo,ay,ai]at d;rw[d];rfl
   have K:(l.take i).length=i:=by rw[List.length_take];omega
   refine G.L (fun bc=>?_);refine o.ax 2 ?_;refine o.v1 (Y.yJ i rfl cq cf (congrArg some A) (.inr ⟨_,_,_,rfl,rfl,rfl⟩) (by omega)) ?_;refine o.ax 2 ?_;refine o.v1 bD ?_;refine o.W ?_;refine o.v1 (Y.cast (v2:= .int .i64 ((l.length+1-i:Nat):Int)) fE (by congr 1;omega)) ?_;refine o.aO (Z.Ag (F:=fun b=>b+1=k) (ad:=⟨g,0,none⟩) (c:=cap) (xs:=l.take i) (m:=l.length+1-i) jK cZ gX (by have d:=j.rd;rw[A]at d;exact F9 d) rfl bw Tryz.underlying3 ay ai aZ bo a1 (by decide) (by omega) (by rw[K];rfl) rfl (by rw[K];omega) (by rw[K];omega) (by rw[K];omega)) fun a6 a7 a8=>?_;obtain⟨on,O,a0,bd⟩:=a8;have bL:a7.size=I.size+1:=by rw[bd];simp
   have b2:af k (I.size+1):=af.new j.le;have aj:T 0 I.size (I.size+1):=T.new n.size;replace j:=j.M O;replace q:=q.M O;replace n:=n.bc O;have a9:=O.size;have t:(l.take i++List.replicate (l.length+1-i) jK).length=l.length+1:=by rw[List.length_append,K,List.length_replicate];omega
   obtain⟨g2,bX,_,L,_,_,bp,_,_,_⟩:=aU.view on (by intro e;rw[e]at t;simp at t);rw[t]at L bp;refine o.aj ?_;refine bc (G.L (fun bf=>?_));refine o.ax 2 ?_;refine o.v1 (Y.m7 i rfl cq cf (congrArg some L) rfl rfl (by omega) (by omega) (by omega)) ?_;refine o.W ?_;refine o.aO (Z.r3 (i:=i) on (by rw[t];exact L) (show Rd (fun b=>b+1=B) _ bM 33 (.slice (some ⟨Q,0,none⟩) [x].length an) [x]from by have d:=q.rd;rw[M]at d;exact d) (by intro e;rw[e]at t;simp at t) rfl Tryz.underlying30 cf rfl (congrArg some M) (by simp;omega) (by rw[t];simp;omega) (by simp)) fun bN bP a2=>?_;obtain⟨rfl,on,E⟩:=a2;replace E:=E.md;replace j:=j.ab E (ah.J b2);replace n:=n.aJ E (ag.J (aq.q aj));have bQ:=E.size;have R:((l.take i++List.replicate (l.length+1-i) jK).take i++[x]++(l.take i++List.replicate (l.length+1-i) jK).drop (i+[x].length)).length=l.length+1:=by simp;omega
   refine o.nil (bf (G.t1 (fun bg=>?_)));refine iV 8 (fun bE bm=>?_);refine o.ax 3 ?_;refine o.v1 bD ?_;refine o.v1 (Y.m7 (i+1) rfl cq cf (congrArg some L) rfl (by simp) (by omega) (by omega) (by omega)) ?_;refine o.ax 2 ?_;refine o.v1 (Y.m7 i rfl cq cf (congrArg some A) rfl rfl (by omega) (by omega) (by omega)) ?_;refine o.nil (bm _ ?_);refine o.aO (Z.r3 (i:=i+1) (ys:=l.drop i) on (by rw[R];exact L) (show Rd (fun b=>b+1=k) _ bM 33 (.slice (some ⟨g,i*33,none⟩) (l.drop i).length (cap-i)) (l.drop i)from by have d:=j.rd;rw[A]at d;exact F8 d) (by intro e;rw[e]at R;simp at R) rfl Tryz.underlying30 cf rfl (by rw[List.length_drop];rfl) (by rw[List.length_drop];omega) (by rw[R,List.length_drop];omega) (by intro e;have d:=congrArg List.length e;rw[List.length_drop]at d;simp at d;omega)) fun bR bT a3=>?_;obtain⟨rfl,on,P⟩:=a3;replace P:=P.md;replace n:=n.aJ P (ag.J (aq.q aj));have be:=P.size;refine o.nil (bg (G.L (fun bh=>?_)));refine o.aR 2 ?_;refine bh ?_;refine G.ret (bb (aa ?_));exact⟨a6,(I.size+1),rfl,by have d:=on;rw[show i+[x].length=i+1 from rfl,DY H rfl]at d;exact d,(by unfold T;omega),n⟩
  ·
   refine G.skip (am (G.L (fun bj=>?_)));refine o.ax 3 ?_;refine o.v1 bD ?_;refine o.v1 (Y.yJ (l.length+1) rfl cq cf (congrArg some A) (.inr ⟨_,_,_,rfl,rfl,by simp⟩) (by omega)) ?_;refine o.aj ?_;refine bj (G.t2 (fun _ bk=>G.L (fun bl=>?_)));refine o.ax 4 ?_;refine o.v1 bD ?_;refine o.v1 (Y.m7 (i+1) rfl cq cf rfl rfl (by simp) (by omega) (by omega) (by omega)) ?_;refine o.v1 (Y.overlaps (tS:=30) (tR:=4) az bx bs (by omega) rfl rfl (by kernel_rfl) (by kernel_rfl) (by kernel_rfl) (by kernel_rfl) Tryz.underlying30 cf (congrArg (fun z=>some [z,_]) M)) ?_;refine o.v1 eI (o.nil (bl ?_));refine G.ix rfl ?_;refine G.t1 (fun aD=>?_);refine iV 8 (fun bF bn=>?_);refine o.ax 3 ?_;refine o.v1 bD ?_;refine o.v1 (Y.m7 (i+1) rfl cq cf rfl rfl (by simp) (by omega) (by omega) (by omega)) ?_;refine o.ax 2 ?_;refine o.v1 (Y.m7 i rfl cq cf rfl rfl rfl (by omega) (by omega) (by omega)) ?_;refine o.nil (bn _ ?_);refine o.aO (Z.CF (i:=i) j A H (by omega) rfl Tryz.underlying30 cf rfl rfl (by omega)) fun bY bS a4=>?_;obtain⟨rfl,j,ac⟩:=a4;replace ac:=ac.md;replace q:=q.ab ac (ah.J ar.symm);replace n:=n.aJ ac (ag.J (aq.r C));have bU:=ac.size;have S:(l.take (i+1)++l.drop i).length=l.length+1:=by simp;omega
   refine o.nil (aD (G.L (fun aF=>?_)));refine o.ax 2 ?_;refine o.v1 (Y.m7 i rfl cq cf rfl rfl rfl (by omega) (by omega) (by omega)) ?_;refine o.W ?_;refine o.aO (Z.r3 (i:=i) j (by rw[S]) (show Rd (fun b=>b+1=B) _ bM 33 (.slice (some ⟨Q,0,none⟩) [x].length an) [x]from by have d:=q.rd;rw[M]at d;exact d) (by intro e;rw[e]at S;simp at S) rfl Tryz.underlying30 cf rfl (congrArg some M) (by simp;omega) (by rw[S];simp;omega) (by simp)) fun bi bV a5=>?_;obtain⟨rfl,j,X⟩:=a5;replace X:=X.md;replace n:=n.aJ X (ag.J (aq.r C));refine o.nil (aF (G.L (fun aH=>?_)));refine o.aR 2 ?_;refine aH ?_;refine G.ret (bk (aa ?_));exact⟨.slice (some ⟨g,0,none⟩) (l.length+1) cap,k,rfl,by have d:=j;rw[show i+[x].length=i+1 from rfl,DZ H]at d;exact d,C,n⟩
theorem oE:∀{a b:List UInt8},Lib.compareBytes a b<0↔Op.bytesLess a b=true
 |[],[]=>by simp[Lib.compareBytes,Op.bytesLess]
 |[],_::_=>by simp[Lib.compareBytes,Op.bytesLess]
 |_::_,[]=>by simp[Lib.compareBytes,Op.bytesLess]
 |x::a,y::b=>by
  simp only[Lib.compareBytes,Op.bytesLess];by_cases d:x<y
  ·simp[d]
  ·by_cases U:y<x
   ·have:¬x=y:=fun e=>by subst e;exact d U
    simp[d,U,this]
   ·have e:x=y:=by apply UInt8.toNat.inj;rw[UInt8.lt_iff_toNat_lt]at d U;omega
    subst e;simp[d,oE (a:=a) (b:=b)]
theorem r0:∀{a b:List UInt8},Lib.compareBytes a b=0↔a=b
 |[],[]=>by simp[Lib.compareBytes]
 |[],_::_=>by simp[Lib.compareBytes]
 |_::_,[]=>by simp[Lib.compareBytes]
 |x::a,y::b=>by
  simp only[Lib.compareBytes];by_cases d:x<y
  ·have:¬x=y:=fun e=>by subst e;simp[UInt8.lt_iff_toNat_lt]at d
   simp[d,this]
  ·by_cases U:y<x
   ·have:¬x=y:=fun e=>by subst e;exact d U
    simp[d,U,this]
   ·have e:x=y:=by apply UInt8.toNat.inj;rw[UInt8.lt_iff_toNat_lt]at d U;omega
    subst e;simp[d,r0 (a:=a) (b:=b)]
theorem Cw(u v:Value)(a b:List UInt8)(w0:World)(I:Heap)
 (d:bw I a1 1 u a) (aw:bw I a1 1 v b):
 aC Tryz.prog w0 62 #[u,v] I (fun r i=>r= .int .i64 (Lib.compareBytes a b)∧ak I i):=by
 refine aC.aK [u,v] Tryz.func62 ?_;intro t q;have n:ak I I:=V.refl _ _;replace d:=d.bt;replace aw:=aw.bt;refine G.L (fun j=>?_);refine o.aj ?_;refine j (G.L (fun k=>?_));refine o.ax 2 ?_;refine o.v1 (Y.compare d aw rfl Tryz.func136 (by kernel_rfl) (by kernel_rfl) (by kernel_rfl) (by kernel_rfl) rfl) ?_;refine o.aj ?_;refine k ?_;refine G.ret (q ?_);exact⟨rfl,n⟩
theorem zf(s:c2)(F:Nat→Prop)(w0:World)(I:Heap)
 (ao:e4 F I s) (cB:bg F I.size) (ok:s.m.Ok):
 aC Tryz.prog w0 39 #[ed s] I (fun r C=>∃s2:c2,∃cP:Nat,∃aS:Nat→Prop,r=ed s2∧(ju aS C s2)∧(aU cP 68 C bM 33 s2.cB.v s2.el)∧(T 0 I.size cP)∧(bg aS C.size)∧(∀c,aS c→I.size≤c)∧(ay aS cP)∧(s2.m=s.m)∧ak I C):=by
 refine aC.enter (args:=[ed s]) Tryz.func39 rfl rfl rfl ?_;intro gj gd;have n:ak I I:=V.refl _ _;have aO:=Gx ok;have z2:=Em ok;have z3:=CX ok;have z4:=Et ok;have z5:=EJ ok;have hx:=HE ok;refine G.L (fun fV=>?_);refine o.aO cr ?_;rintro v1 H1 ⟨rfl,K,cL,em,fX⟩;have gG:H1.size=I.size+1:=by rw[fX];simp
 replace ao:=ao.M cL;replace n:=n.L cL;have gW:=cL.size;replace K:Var 47 H1 I.size (bS s):=K;refine o.aO (cQ jq) ?_;rintro v2 C ⟨rfl,B,cp,hf,fY⟩;have gH:C.size=H1.size+1:=by rw[fY];simp
 have ft:T 0 I.size (H1.size+1):=T.new n.size;replace ao:=ao.M cp;replace K:=K.M cp;replace n:=n.L cp;have bR:=cp.size;refine o.nil (fV ?_)
 refine G.cut (fun(cc:(aM)×(Nat)×(Nat))=>match cc with|(R,P,A)=>[(1,.pointer (some ⟨I.size,0,none⟩)),(2,.pointer (some ⟨H1.size,0,none⟩)),(3,.pointer (some ⟨A,0,none⟩))])
  (fun(R,P,A) (H:Heap)=>(aU P 71 H du 33 R.v s.bb)∧(Var 47 H A (bS ⟨s.al,R,s.bb,cO,[],s.q,cO,[]⟩))∧(T 0 C.size P)∧(T 0 C.size ((A+1)))∧(af P ((A+1)))∧ak C H) (fun _ dl _=>?_) ?_
 ·
  have W:ak C C:=V.refl _ _;refine dC (fun t=>ak C t) [9] ?_;have am:ak C C:=V.refl _ _;refine O.t1 0 rfl (fun t k=>Y.ai (K.N.M k) rfl ca rfl bO) am ?_;refine O.t1 1 rfl (fun t k=>ar (K.N.M k) bL) am ?_;refine O.t1 2 rfl (fun t k=>Y.ai (K.N.M k) rfl ca rfl hb) am ?_;refine O.t1 3 rfl (fun t k=>ar ((K.N.drop 1).M k) iw) am ?_;refine O.t1 5 rfl (fun t k=>Y.ai (K.N.M k) rfl ca rfl cT) am ?_;refine O.t1 6 rfl (fun t k=>Y.cast (v2:=eo s.q) (aW (((K.N.drop 3).M k).take 70) h8 cT (by rw[jU];exact ef _)) (b6 (jU s))) am ?_;refine O.two (i:=4) (j:=8) (by kernel_rfl) ?_ ?_
  ·
   refine ch uX (yb s.ej.v s.bb w0 _ ao.r.any (by omega)) (fun fu ab co=>?_);obtain⟨R,P,rfl,or,bF,bc⟩:=co;have fi:T 0 C.size P:=T.L (T.refl 0 _) bF W.size;have fj:T 0 C.size P:=T.L (T.refl 0 _) bF am.size;replace W:=W.L bc;replace am:=am.L bc;have hg:=bc.size;have cS:=or.le;refine⟨.inr am,O.narrow (SH2:=fun t=>V (aE [P]) ab t) (fun t k=>(V.aJ (ks:=[]) (am.j1 []) k (ag.J (aq.q fj))).nil) ?_⟩;have am:V (aE [P]) ab ab:=V.refl _ _;have fk:=T.refl P ab.size;refine O.t1 (v:=ed ⟨s.al,R,s.bb,cO,[],s.q,cO,[]⟩) 7 rfl (fun t k=>?_) am ?_
   ·exact Y.build (v:=ed ⟨s.al,R,s.bb,cO,[],s.q,cO,[]⟩) rfl rfl (by intro w;exact uQ _)
   refine O.aY 8 ?_;refine ep rfl (cQ jq) ?_;rintro v3 a6 ⟨rfl,d,aZ,fy,cs⟩;have fm:a6.size=ab.size+1:=by rw[cs];simp
   have cW:af P (ab.size+1):=af.new or.le;have cY:T 0 C.size (ab.size+1):=T.new W.size;have bo:T 0 ab.size (ab.size+1):=T.new am.size;replace or:=or.M aZ;replace W:=W.L aZ;replace am:=am.bc aZ;have es:=aZ.size;refine O.b3 am (ag.cons (aq.r fk) (ag.J (aq.q bo))) ?_;refine O.aY 9 ?_;refine gJ rfl (dy d (_) (bS ⟨s.al,R,s.bb,cO,[],s.q,cO,[]⟩) (iG _) dx (b8 _) ((c0 (b8 _).symm))) (fun dA br=>?_);obtain⟨d,aL⟩:=br;replace aL:=aL.bp;replace or:=or.ab aL (ah.J cW);replace W:=W.bl aL (ag.J (aq.q cY));have hh:=aL.size;refine⟨.inl rfl,?_⟩;refine cD ?_;refine aP.sub (dl (R,P,ab.size) _ ?_) ⟨rfl,rfl,rfl,trivial⟩;exact⟨or,d,fi,cY,cW,W⟩
  ·
   refine ep rfl (cQ jq) ?_;rintro v3 a6 ⟨rfl,d,aZ,fy,cs⟩;have fm:a6.size=C.size+1:=by rw[cs];simp
   have c1:T 0 C.size (C.size+1):=T.new W.size;have fo:T 0 C.size (C.size+1):=T.new am.size;replace ao:=ao.M aZ;replace W:=W.L aZ;replace am:=am.L aZ;have hi:=aZ.size;refine⟨.inr am,O.narrow (SH2:=fun t=>V (aE [(C.size+1)]) a6 t) (fun t k=>(V.aJ (ks:=[]) (am.j1 []) k (ag.J (aq.q fo))).nil) ?_⟩;have am:V (aE [(C.size+1)]) a6 a6:=V.refl _ _;have fp:=T.refl (C.size+1) a6.size;refine O.aY 4 ?_;refine ch uX (yb s.ej.v s.bb w0 _ ao.r.any (by omega)) (fun fu ab co=>?_);obtain⟨R,P,rfl,or,bF,bc⟩:=co;have c3:af (C.size+1) P:=af.app (af.z) d.lt bF;have fq:T 0 C.size P:=T.L (T.refl 0 _) bF W.size;have fr:T 0 a6.size P:=T.L (T.refl 0 _) bF am.size;replace d:=d.M bc;replace W:=W.L bc;replace am:=am.bc bc;have hj:=bc.size;have cS:=or.le;refine O.b3 am (ag.cons (aq.r fp) (ag.J (aq.q fr))) ?_;have am:V (aE [(C.size+1),P]) ab ab:=V.refl _ _;refine O.t1 (v:=ed ⟨s.al,R,s.bb,cO,[],s.q,cO,[]⟩) 7 rfl (fun t k=>?_) am ?_
   ·exact Y.build (v:=ed ⟨s.al,R,s.bb,cO,[],s.q,cO,[]⟩) rfl rfl (by intro w;exact uQ _)
   refine O.aY 9 ?_;refine gJ rfl (dy d (_) (bS ⟨s.al,R,s.bb,cO,[],s.q,cO,[]⟩) (iG _) dx (b8 _) ((c0 (b8 _).symm))) (fun dA br=>?_);obtain⟨d,aL⟩:=br;replace aL:=aL.bp;replace or:=or.ab aL (ah.J c3.symm);replace W:=W.bl aL (ag.J (aq.q c1));have ex:=aL.size;refine⟨.inl rfl,?_⟩;refine cD ?_;refine aP.sub (dl (R,P,C.size) _ ?_) ⟨rfl,rfl,rfl,trivial⟩;exact⟨or,d,fq,c1,c3.symm,W⟩
 ·
  rintro⟨R,P,A⟩ gk er;obtain⟨or,d,cV,cj,a0,bZ⟩:=er;have eC:af (H1.size+1) P:=af.app (af.z) B.lt cV;have eD:T 0 I.size P:=T.L (T.refl 0 _) cV n.size;have cC:=ay.app (ay.z) (cB.mono n.size) cj;have c5:af (I.size+1) ((A+1)):=af.app (af.z) K.lt cj;have cG:af (H1.size+1) ((A+1)):=af.app (af.z) B.lt cj;have cH:T 0 I.size ((A+1)):=T.L (T.refl 0 _) cj n.size;replace ao:=ao.M bZ;replace K:=K.M bZ;replace B:=B.M bZ;replace n:=n.L bZ;have hk:=bZ.size;have cS:=or.le;have gl:=d.le;have bv:=a0;refine G.L (fun fz=>?_);refine o.v1 (Y.ai K.N rfl ca rfl cT) ?_;refine o.v1 (Y.ai (K.N.drop 3) rfl bu rfl en) ?_;refine o.v1 (ar K.N.Hm ff) ?_;refine aV vl (y6 s.q.cM.v s.q.a6 w0 _ ao.q.any (by omega)) (fun hl gI fA=>?_);obtain⟨bC,b3,rfl,aF,cI,bk⟩:=fA;have eF:af (H1.size+1) b3:=af.app (af.z) B.lt cI;have cK:af ((A+1)) b3:=af.app (af.z) d.lt cI;have eG:T 0 I.size b3:=T.L (T.refl 0 _) cI n.size;replace ao:=ao.M bk;replace K:=K.M bk;replace B:=B.M bk;replace or:=or.M bk;replace d:=d.M bk;replace n:=n.L bk;have gp:=bk.size;have gm:=aF.le;refine o.v1 (Y.ai d.N rfl ca rfl cT) ?_;refine o.v1 (Y.ai (d.N.drop 3) rfl bu rfl en) ?_;refine o.s1 (dh d 69 (bS ⟨s.al,R,s.bb,cO,[],{s.q with cM:=bC},cO,[]⟩) (rfl) en (by rw[b8];omega) ((tE _ _))) fun a3 eH=>?_;obtain⟨d,aY⟩:=eH;replace aY:=aY.bp;replace ao:=ao.ab aY (az.J cC);replace K:=K.ab aY (ah.J c5);replace B:=B.ab aY (ah.J cG);replace or:=or.ab aY (ah.J bv);replace aF:=aF.ab aY (ah.J cK.symm);replace n:=n.bl aY (ag.J (aq.q cH));have gq:=aY.size;refine o.nil (fz (G.t1 (fun fB=>G.L (fun fC=>?_))));refine o.v1 (Y.ai K.N rfl ca rfl fS) ?_;refine o.v1 (ar (K.N.drop 2) ht) ?_;refine o.v1 (ba ao.g fD) ?_;refine o.W (o.nil (fC ?_));refine G.aB (fun _ fE _=>?_)
  refine G.bd (fun(cc:(Nat)×(aM)×(Nat)×(List e5)×(Nat→Prop))=>match cc with|(j,s1,Q,aa,aH)=>[(1,.pointer (some ⟨I.size,0,none⟩)),(2,.pointer (some ⟨H1.size,0,none⟩)),(3,.pointer (some ⟨A,0,none⟩)),(23,s.cu.v),(24,.int .i64 (s.bW.length:Int)),(25,.int .i64 (j:Int))])
   (fun(j,s1,Q,aa,aH) (H:Heap)=>(j≤s.bW.length)∧(Var 47 H A (bS ⟨s.al,R,s.bb,s1,aa,{s.q with cM:=bC},cO,[]⟩))∧(aU Q 62 H ei 2 s1.v aa)∧(∀x∈aa,Rd aH H dm 65 x.v.v x.l)∧(bg aH H.size)∧(ay aH (A+1))∧(ay aH Q)∧(ay aH (H1.size+1))∧(∀c,aH c→I.size≤c)∧(cm aa=cm (s.bW.take j))∧(T 0 a3.size Q)∧(af (A+1) Q)∧V (aE [(A+1)]) a3 H)
   (fun(j,s1,Q,aa,aH)=>s.bW.length-j) (0,cO,0,[],fun _=>False) ⟨rfl,rfl,rfl,rfl,rfl,rfl,trivial⟩ ?_ ?_
  ·
   exact⟨(by omega),d,aU.nil fI jw,(fun x h=>by cases h),(fun b e=>e.elim),(fun b e=>e.elim),(fun b e=>e.elim),(fun b e=>e.elim),(fun c e=>e.elim),rfl,T.refl _ _,af.z,V.refl _ _⟩
  rintro⟨j,s1,Q,aa,aH⟩ ae fF gi fG fH;obtain⟨ho,d,L,X,b0,f1,f2,f5,b2,b5,cw,dB,ac⟩:=fF;have eI:af (H1.size+1) Q:=af.app (af.z) B.lt cw;have eJ:T 0 I.size Q:=T.L (T.refl 0 _) cw n.size;replace ao:=ao.ab ac (az.J cC);replace K:=K.ab ac (ah.J c5);replace B:=B.ab ac (ah.J cG);replace or:=or.ab ac (ah.J bv);replace aF:=aF.ab ac (ah.J cK.symm);replace n:=n.bl ac (ag.J (aq.q cH));have gr:=ac.size;have bT:=L.le;have a4:=dB;have dw:=T.refl (A+1) a3.size;have c6:=cw;refine G.L (fun fJ=>?_);refine o.v1 bG (o.nil (fJ ?_));refine G.t2 (fun fK fL=>?_);refine aT (fun fM=>?_) (fun fM=>?_)
  ·
   refine G.skip (fK (G.t1 (fun eL=>G.aB (fun eM _ _=>G.L (fun eN=>?_)))));have b4:j<s.bW.length:=by omega
   obtain⟨y,bE⟩:∃q,q=s.bW[j]:=⟨_,rfl⟩;have cb:y∈s.bW:=by rw[bE];exact List.getElem_mem b4
   have gf:=z4 y cb;have hp:aa.length=j:=by have cN:=congrArg List.length b5;simp only[cm,List.length_map,List.length_take]at cN;omega
   refine o.bR (Y.bJ ao.g (j) rfl fD fl rfl rfl) fun gv eO=>?_;refine o.v1 (Y.cast (v2:= .agg (ei y).toArray) (aW eO.N lP fl (fI _)) (by rw[bE])) ?_;refine o.aO (cQ pz) ?_;rintro v5 dt ⟨rfl,bN,bh,gK,fN⟩;have gw:dt.size=ae.size+1:=by rw[fN];simp
   have eR:=(ay.new (cB.mono n.size):ay _ (ae.size+1));have eT:af (H1.size+1) (ae.size+1):=af.new B.lt;have eU:af ((A+1)) (ae.size+1):=af.new d.lt;have a5:af Q (ae.size+1):=af.new L.le;have eV:=(ay.new (b0.mono (by omega)):ay _ (ae.size+1));have eW:T 0 I.size (ae.size+1):=T.new n.size;have eX:T 0 a3.size (ae.size+1):=T.new ac.size;replace ao:=ao.M bh;replace B:=B.M bh;replace d:=d.M bh;replace L:=L.M bh;replace X:=fun x E=>(X x E).M bh;replace n:=n.L bh;replace ac:=ac.bc bh;have gx:=bh.size;refine o.s1 (dy bN (_) (ei y) (jw y) fl (fI _) ((c0 (fI _).symm))) fun bQ eY=>?_;obtain⟨bN,au⟩:=eY;replace au:=au.bp;replace ao:=ao.ab au (az.J eR);replace B:=B.ab au (ah.J eT);replace d:=d.ab au (ah.J eU);replace L:=L.ab au (ah.J a5);replace X:=fun x E=>(X x E).ab au (az.J eV);replace n:=n.bl au (ag.J (aq.q eW));replace ac:=ac.aJ au (ag.J (aq.q eX));have gy:=au.size;refine o.nil (eN ?_);refine dC (fun t=>V (aE [Q]) bQ t) [11] ?_;have ap:V (aE [Q]) bQ bQ:=V.refl _ _;have eZ:=T.refl Q bQ.size;refine O.t1 0 rfl (fun t k=>Y.fieldAddr (d.ab k (ah.J a4)).N rfl ca rfl rfl fS (by decide) rfl) ap ?_;refine O.t1 1 rfl (fun t k=>ar ((d.ab k (ah.J a4)).N.drop 2) ht) ap ?_;refine O.t1 2 rfl (fun t k=>Y.fieldAddr (bN.ab k (ah.J a5.symm)).N rfl fW rfl rfl bO (by decide) rfl) ap ?_;refine O.t1 3 rfl (fun t k=>Y.fQ (bN.ab k (ah.J a5.symm)).N rfl bL rfl) ap ?_;refine O.t1 4 rfl (fun t k=>Y.fieldAddr (bN.ab k (ah.J a5.symm)).N rfl fW rfl rfl gR (by decide) rfl) ap ?_;refine O.t1 5 rfl (fun t k=>ar ((bN.ab k (ah.J a5.symm)).N.drop 1) h9) ap ?_;refine O.aY 6 ?_;refine ch oC (oU y.v.v y.l w0 _ (ao.n y cb).any (by omega)) (fun gL aJ fO=>?_);obtain⟨ct,ai,rfl,aX,bU,bH⟩:=fO;have e0:af (H1.size+1) ai:=af.app (af.z) B.lt bU;have cy:af ((A+1)) ai:=af.app (af.z) d.lt bU;have c_:af Q ai:=af.app (af.z) L.le bU;have e1:T 0 I.size ai:=T.L (T.refl 0 _) bU n.size;have e2:T 0 bQ.size ai:=T.L (T.refl 0 _) bU ap.size;replace d:=d.M bH;replace L:=L.M bH;replace X:=fun x E=>(X x E).M bH;replace ac:=ac.bc bH;replace ap:=ap.bc bH;have gz:=bH.size;have gn:=aX.le;refine O.b3 ap (ag.cons (aq.r eZ) (ag.J (aq.q e2))) ?_;have ap:V (aE [Q,ai]) aJ aJ:=V.refl _ _;have et:=T.refl Q aJ.size;have eu:=T.refl ai aJ.size;refine O.t1 7 rfl (fun t k=>Y.build (v:= .agg (ei ⟨y.n,ct,y.l⟩).toArray) rfl rfl (by intro w;kernel_rfl)) ap ?_;refine O.aY 8 ?_;refine ep rfl (cU _ ([(⟨y.n,ct,y.l⟩:e5)]) jZ fI jw (rfl)) (fun gM be fP=>?_);obtain⟨gg,bl,d0,ev⟩:=fP;have cJ:be.size=aJ.size+1:=by rw[ev];simp
   have dE:af ((A+1)) (aJ.size+1):=af.new d.lt;have dQ:T 0 aJ.size (aJ.size+1):=T.new ap.size;replace d:=d.M bl;replace L:=L.M bl;replace X:=fun x E=>(X x E).M bl;replace aX:=aX.M bl;replace ac:=ac.bc bl;replace ap:=ap.bc bl;have d1:=bl.size;refine O.b3 ap (ag.cons (aq.r et) (ag.cons (aq.r eu) (ag.J (aq.q dQ)))) ?_;have ap:V (aE [Q,ai,(aJ.size+1)]) be be:=V.refl _ _;have bi:=T.refl Q be.size;have dR:=T.refl ai be.size;have dT:=T.refl (aJ.size+1) be.size;refine O.aY 9 ?_;refine ep rfl (dO L gg.rd jZ (by simp;omega) (by simp;omega)) (fun dn df d2=>?_);obtain⟨bx,L,bm,a7⟩:=d2;replace bm:T Q be.size bx:=bm;replace a7:=a7.md;have cu:af ((A+1)) bx:=af.app (a4) d.lt bm;have dU:=ay.app (f2) (b0.mono (by omega)) bm;have dV:af ai bx:=af.app (c_.symm) aX.le bm;have dW:T 0 a3.size bx:=T.L (c6) bm ac.size;have dY:T Q be.size bx:=T.L (bi) bm ap.size;replace d:=d.ab a7 (ah.J a4);replace X:=fun x E=>(X x E).ab a7 (az.J f2);replace aX:=aX.ab a7 (ah.J c_.symm);replace ac:=ac.aJ a7 (ag.J (aq.q c6));replace ap:=ap.aJ a7 (ag.J (aq.r bi));have d3:=a7.size;have bT:=L.le;obtain⟨di,rfl⟩:∃s:aM,dn=s.v:=⟨cg dn,L.bm.symm⟩;refine O.b3 ap (ag.cons (aq.r dY) (ag.cons (aq.r dR) (ag.J (aq.r dT)))) ?_;have ap:V (aE [bx,ai,(aJ.size+1)]) df df:=V.refl _ _;refine O.t1 10 rfl (fun t k=>Y.fieldAddr (d.ab k (ah.cons cu (ah.cons cy (ah.J dE)))).N rfl ca rfl rfl fS (by decide) rfl) ap ?_;refine O.aY 11 ?_;refine gJ rfl (dh d 2 (bS ⟨s.al,R,s.bb,di,aa++[⟨y.n,ct,y.l⟩],{s.q with cM:=bC},cO,[]⟩) (rfl) fS (by rw[b8];omega) ((q5 _ _))) (fun gE dZ=>?_);obtain⟨d,aj⟩:=dZ;replace aj:=aj.bp;replace L:=L.ab aj (ah.J cu.symm);replace X:=fun x E=>(X x E).ab aj (az.J f1);replace aX:=aX.ab aj (ah.J cy.symm);replace ac:=ac.aJ aj (ag.J (aq.r dw));have d4:=aj.size;refine⟨.inl rfl,?_⟩;refine cD ?_;refine eM (eL (G.region ?_));refine o.v1 bD ?_;refine o.W (o.nil ?_);refine aP.sub (fG (j+1,di,bx,aa++[⟨y.n,ct,y.l⟩],fun b=>aH b∨b+1=ai) _ ?_ ?_) ⟨rfl,rfl,rfl,rfl,(aD (by omega)),(aD (by omega)),trivial⟩
   ·exact⟨(by omega),d,L,tu X (fun b e=> .inl e) (aX.rd.imp (fun b _ e=> .inr e)),bg.eG (b0.mono (by omega)) aX.le,ay.eG (f1) (cy),ay.eG (dU) (dV.symm),ay.eG (f5) (e0),mB b2 (e1),by unfold cm at b5⊢;rw[List.map_append,b5,List.take_succ_eq_append_getElem b4,List.map_append,←bE];rfl,dW,cu,ac⟩
   ·first|omega|(simp only;omega)|(simp;omega)
  ·
   obtain rfl:j=s.bW.length:=by omega
   rw[List.take_length]at b5;refine G.exit (fL (fH (fE ?_)));refine fB (G.t1 (fun ew=>G.L (fun ey=>?_)));refine o.v1 (Y.ai K.N rfl ca rfl dp) ?_;refine o.v1 (ar K.N.iB dS) ?_;refine o.v1 (ba ao.e cq) ?_;refine o.W (o.nil (ey ?_));refine G.aB (fun _ cE _=>?_)
   refine G.bd (fun(cc:(Nat)×(aM)×(Nat)×(List bA)×(Nat→Prop))=>match cc with|(i,bw,a8,aA,aI)=>[(2,.pointer (some ⟨H1.size,0,none⟩)),(3,.pointer (some ⟨A,0,none⟩)),(42,s.cB.v),(43,.int .i64 (s.el.length:Int)),(44,.int .i64 (i:Int))])
    (fun(i,bw,a8,aA,aI) (H:Heap)=>(i≤s.el.length)∧(Var 47 H A (bS ⟨s.al,R,s.bb,s1,aa,{s.q with cM:=bC},bw,aA⟩))∧(aU a8 68 H bM 33 bw.v aA)∧(∀x∈aA,Rd aI H a1 1 x.v.v x.d)∧(bg aI H.size)∧(ay aI (A+1))∧(ay aI a8)∧(ay aI (H1.size+1))∧(∀c,aI c→I.size≤c)∧(cl aA=cl (s.el.take i))∧(T 0 ae.size a8)∧(af (A+1) a8)∧V (aE [(A+1)]) ae H)
    (fun(i,bw,a8,aA,aI)=>s.el.length-i) (0,cO,0,[],fun _=>False) ⟨rfl,rfl,rfl,rfl,rfl,trivial⟩ ?_ ?_
   ·
    exact⟨(by omega),d,aU.nil cZ gX,(fun x h=>by cases h),(fun b e=>e.elim),(fun b e=>e.elim),(fun b e=>e.elim),(fun b e=>e.elim),(fun c e=>e.elim),rfl,T.refl _ _,af.z,V.refl _ _⟩
   rintro⟨i,bw,a8,aA,aI⟩ aB d5 gN ez eB;obtain⟨hn,d,S,Z,cn,f3,f4,f6,a2,b9,bq,dD,N⟩:=d5;have d_:af (H1.size+1) a8:=af.app (af.z) B.lt bq;have ea:af P a8:=af.app (af.z) or.le bq;have eb:af b3 a8:=af.app (af.z) aF.le bq;have ec:af Q a8:=af.app (af.z) L.le bq;have eg:=ay.app (ay.z) (b0.mono (by omega)) bq;have eh:T 0 I.size a8:=T.L (T.refl 0 _) bq n.size;replace ao:=ao.ab N (az.J cC);replace B:=B.ab N (ah.J cG);replace or:=or.ab N (ah.J bv);replace aF:=aF.ab N (ah.J cK.symm);replace L:=L.ab N (ah.J a4.symm);replace X:=fun x E=>(X x E).ab N (az.J f1);replace n:=n.bl N (ag.J (aq.q cH));have d6:=N.size;have bY:=S.le;have cd:=dD;have dz:=T.refl (A+1) ae.size;have db:=bq;refine G.L (fun e3=>?_);refine o.v1 bG (o.nil (e3 ?_));refine G.t2 (fun fQ bf=>?_);refine aT (fun d7=>?_) (fun d7=>?_)
   ·
    refine G.skip (fQ (G.t1 (fun ee=>G.aB (fun dd _ _=>G.L (fun fR=>?_)))));have b4:i<s.el.length:=by omega
    obtain⟨y,bE⟩:∃q,q=s.el[i]:=⟨_,rfl⟩;have cb:y∈s.el:=by rw[bE];exact List.getElem_mem b4
    have gf:=z5 y cb;have hs:aA.length=i:=by have cN:=congrArg List.length b9;simp only[cl,List.length_map,List.length_take]at cN;omega
    refine o.bR (Y.bJ ao.e (i) rfl cq cf rfl rfl) fun d8 gO=>?_;refine o.v1 (Y.cast (v2:= .agg (bM y).toArray) (aW gO.N hF cf (cZ _)) (by rw[bE])) ?_;refine o.aO (cQ kD) ?_;rintro hv dv ⟨rfl,bP,bj,gP,d9⟩;have gA:dv.size=aB.size+1:=by rw[d9];simp
    have ej:=(ay.new (cB.mono n.size):ay _ (aB.size+1));have dF:af (H1.size+1) (aB.size+1):=af.new B.lt;have dG:af ((A+1)) (aB.size+1):=af.new d.lt;have bV:af a8 (aB.size+1):=af.new S.le;have dH:=(ay.new (cn.mono (by omega)):ay _ (aB.size+1));have dI:T 0 I.size (aB.size+1):=T.new n.size;have dJ:T 0 ae.size (aB.size+1):=T.new N.size;replace ao:=ao.M bj;replace B:=B.M bj;replace d:=d.M bj;replace S:=S.M bj;replace Z:=fun x E=>(Z x E).M bj;replace n:=n.L bj;replace N:=N.bc bj;have gT:=bj.size;refine o.s1 (dy bP (_) (bM y) (gX y) cf (cZ _) ((c0 (cZ _).symm))) fun bX dK=>?_;obtain⟨bP,aN⟩:=dK;replace aN:=aN.bp;replace ao:=ao.ab aN (az.J ej);replace B:=B.ab aN (ah.J dF);replace d:=d.ab aN (ah.J dG);replace S:=S.ab aN (ah.J bV);replace Z:=fun x E=>(Z x E).ab aN (az.J dH);replace n:=n.bl aN (ag.J (aq.q dI));replace N:=N.aJ aN (ag.J (aq.q dJ));have gU:=aN.size;refine o.nil (fR ?_);refine dC (fun t=>V (aE [a8]) bX t) [11] ?_;have M:V (aE [a8]) bX bX:=V.refl _ _;have dL:=T.refl a8 bX.size;refine O.t1 0 rfl (fun t k=>Y.fieldAddr (d.ab k (ah.J cd)).N rfl ca rfl rfl dp (by decide) rfl) M ?_;refine O.t1 1 rfl (fun t k=>Y.fQ (d.ab k (ah.J cd)).N.iB rfl dS rfl) M ?_;refine O.t1 2 rfl (fun t k=>Y.fieldAddr (bP.ab k (ah.J bV.symm)).N rfl eS rfl rfl a_ (by decide) rfl) M ?_;refine O.t1 3 rfl (fun t k=>Y.cast (v2:=bs y.k) (aW ((bP.ab k (ah.J bV.symm)).N.take 32) b_ a_ (by rw[show(bM y).take 32=b7 y.k from eK y];exact bB _)) (b6 (show(bM y).take 32=b7 y.k from eK y))) M ?_;refine O.t1 4 rfl (fun t k=>Y.fieldAddr (bP.ab k (ah.J bV.symm)).N rfl eS rfl rfl da (by decide) rfl) M ?_;refine O.t1 5 rfl (fun t k=>Y.fQ (bP.ab k (ah.J bV.symm)).N.ji rfl eA rfl) M ?_;refine O.aY 6 ?_;refine ch nv (mE y.v.v y.d w0 _ (ao.d y cb).any (by omega)) (fun gQ aK fZ=>?_);obtain⟨b1,an,rfl,aR,a9,bJ⟩:=fZ;have dM:af (H1.size+1) an:=af.app (af.z) B.lt a9;have cv:af ((A+1)) an:=af.app (af.z) d.lt a9;have dc:af a8 an:=af.app (af.z) S.le a9;have dN:T 0 I.size an:=T.L (T.refl 0 _) a9 n.size;have ek:T 0 bX.size an:=T.L (T.refl 0 _) a9 M.size;replace d:=d.M bJ;replace S:=S.M bJ;replace Z:=fun x E=>(Z x E).M bJ;replace N:=N.bc bJ;replace M:=M.bc bJ;have gV:=bJ.size;have gB:=aR.le;refine O.b3 M (ag.cons (aq.r dL) (ag.J (aq.q ek))) ?_;have M:V (aE [a8,an]) aK aK:=V.refl _ _;have e6:=T.refl a8 aK.size;have e7:=T.refl an aK.size;refine O.t1 (v:=gZ ⟨y.k,b1,y.d⟩) 7 rfl (fun t k=>?_) M ?_
    ·exact Y.build (v:=gZ ⟨y.k,b1,y.d⟩) rfl rfl (by intro w;exact oA _ _ _)
    refine O.aY 8 ?_;refine ep rfl (cU _ ([(⟨y.k,b1,y.d⟩:bA)]) iI cZ gX (rfl)) (fun gS bd f_=>?_);obtain⟨gh,bn,gY,fT⟩:=f_;have gb:bd.size=aK.size+1:=by rw[fT];simp
    have e8:af ((A+1)) (aK.size+1):=af.new d.lt;have e_:T 0 aK.size (aK.size+1):=T.new M.size;replace d:=d.M bn;replace S:=S.M bn;replace Z:=fun x E=>(Z x E).M bn;replace aR:=aR.M bn;replace N:=N.bc bn;replace M:=M.bc bn;have g_:=bn.size;refine O.b3 M (ag.cons (aq.r e6) (ag.cons (aq.r e7) (ag.J (aq.q e_)))) ?_;have M:V (aE [a8,an,(aK.size+1)]) bd bd:=V.refl _ _;have de:=T.refl a8 bd.size;have ce:=T.refl an bd.size;have fa:=T.refl (aK.size+1) bd.size;refine O.aY 9 ?_;refine ep rfl (dO S gh.rd iI (by simp;omega) (by simp;omega)) (fun ds dg ga=>?_);obtain⟨bz,S,bp,bb⟩:=ga;replace bp:T a8 bd.size bz:=bp;replace bb:=bb.md;have cz:af ((A+1)) bz:=af.app (cd) d.lt bp;have fc:=ay.app (f4) (cn.mono (by omega)) bp;have dX:af an bz:=af.app (dc.symm) aR.le bp;have ci:T 0 ae.size bz:=T.L (db) bp N.size;have fe:T a8 bd.size bz:=T.L (de) bp M.size;replace d:=d.ab bb (ah.J cd);replace Z:=fun x E=>(Z x E).ab bb (az.J f4);replace aR:=aR.ab bb (ah.J dc.symm);replace N:=N.aJ bb (ag.J (aq.q db));replace M:=M.aJ bb (ag.J (aq.r de));have ha:=bb.size;have bY:=S.le;obtain⟨dj,rfl⟩:∃s:aM,ds=s.v:=⟨cg ds,S.bm.symm⟩;refine O.b3 M (ag.cons (aq.r fe) (ag.cons (aq.r ce) (ag.J (aq.r fa)))) ?_;have M:V (aE [bz,an,(aK.size+1)]) dg dg:=V.refl _ _;refine O.t1 10 rfl (fun t k=>Y.fieldAddr (d.ab k (ah.cons cz (ah.cons cv (ah.J e8)))).N rfl ca rfl rfl dp (by decide) rfl) M ?_;refine O.aY 11 ?_;refine gJ rfl (dh d 73 (bS ⟨s.al,R,s.bb,s1,aa,{s.q with cM:=bC},dj,aA++[⟨y.k,b1,y.d⟩]⟩) (rfl) dp (by rw[b8];omega) ((tC _ _))) (fun gC dP=>?_);obtain⟨d,bt⟩:=dP;replace bt:=bt.bp;replace S:=S.ab bt (ah.J cz.symm);replace Z:=fun x E=>(Z x E).ab bt (az.J f3);replace aR:=aR.ab bt (ah.J cv.symm);replace N:=N.aJ bt (ag.J (aq.r dz));have hc:=bt.size;refine⟨.inl rfl,?_⟩;refine cD ?_;refine dd (ee (G.region ?_));refine o.v1 bD ?_;refine o.W (o.nil ?_);refine aP.sub (ez (i+1,dj,bz,aA++[⟨y.k,b1,y.d⟩],fun b=>aI b∨b+1=an) _ ?_ ?_) ⟨rfl,rfl,rfl,(aD (by omega)),(aD (by omega)),trivial⟩
    ·exact⟨(by omega),d,S,tu Z (fun b e=> .inl e) (aR.rd.imp (fun b _ e=> .inr e)),bg.eG (cn.mono (by omega)) aR.le,ay.eG (f3) (cv),ay.eG (fc) (dX.symm),ay.eG (f6) (dM),mB a2 (dN),by unfold cl at b9⊢;rw[List.map_append,b9,List.take_succ_eq_append_getElem b4,List.map_append,←bE];rfl,ci,cz,N⟩
    ·first|omega|(simp only;omega)|(simp;omega)
   ·
    obtain rfl:i=s.el.length:=by omega
    rw[List.take_length]at b9;refine G.exit (bf (eB (cE ?_)));refine ew (G.L (fun fU=>?_));refine o.v1 (aW d.N fg dx (b8 _)) ?_;refine o.s1 (dy B (_) (bS ⟨s.al,R,s.bb,s1,aa,{s.q with cM:=bC},bw,aA⟩) (iG _) dx (b8 _) ((c0 (b8 _).symm))) fun gF fh=>?_;obtain⟨B,aQ⟩:=fh;replace aQ:=aQ.bp;replace or:=or.ab aQ (ah.J eC.symm);replace aF:=aF.ab aQ (ah.J eF.symm);replace L:=L.ab aQ (ah.J eI.symm);replace X:=fun x E=>(X x E).ab aQ (az.J f5);replace S:=S.ab aQ (ah.J d_.symm);replace Z:=fun x E=>(Z x E).ab aQ (az.J f6);replace n:=n.bl aQ (ag.J (aq.q ft));have hd:=aQ.size;refine o.nil (fU ?_);refine G.ret (gd .ret (.inr rfl) _ _ _ (jA rfl rfl B.N fg dx (b8 _)) ?_);exact⟨⟨s.al,R,s.bb,s1,aa,{s.q with cM:=bC},bw,aA⟩,a8,(fun b=>b+1=P∨b+1=b3∨b+1=Q∨aH b∨aI b),rfl,⟨or.rd.imp (fun b _ e=> .inl e),L.rd.imp (fun b _ e=> .inr (.inr (.inl e))),(fun y hy=>(X y hy).imp (fun b _ e=> .inr (.inr (.inr (.inl e))))),aF.rd.imp (fun b _ e=> .inr (.inl e)),(fun y hy=>(Z y hy).imp (fun b _ e=> .inr (.inr (.inr (.inr e)))))⟩,S,(eh),(fun b e=>by have dk:=or.le;have dq:=aF.le;have dr:=L.le;rcases e with e|e|e|e|e;omega;omega;omega;exact(b0.mono (by omega)) b e;exact(cn.mono (by omega)) b e),(fun c e=>by have dk:=(eD);have dq:=(eG);have dr:=(eJ);unfold T at dk dq dr;rcases e with e|e|e|e|e;omega;omega;omega;exact b2 c e;exact a2 c e),(fun b e U=>by rcases e with e|e|e|e|e;exact(ea) b e U;exact(eb) b e U;exact(ec) b e U;exact(eg) b e U;exact(f4) b e U),by unfold c2.m;simp only[b5,b9];rfl,n⟩
end gx
end Go.Proofs.YtfjmpninmdjcaaaGreatDoor
