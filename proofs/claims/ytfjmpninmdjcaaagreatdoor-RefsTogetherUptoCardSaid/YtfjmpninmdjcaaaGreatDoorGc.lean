/-
  Contracts of functions of the program, and plain laws: put together of several texts.
-/
import Derived.Test.YtfjmpninmdjcaaaGreatDoorGb
import Derived.Test.YtfjmpninmdjcaaaGreatDoorGa
import Derived.Sort.Walk0
import Derived.RangeFuncLeaves
import Derived.RangeFuncRecord
import Derived.RangeFuncSeq
import Derived.Lib.AppendZerosOnto
import Derived.Lib.Overlaps
set_option linter.unusedVariables false
set_option linter.unusedSimpArgs false
set_option linter.unusedSectionVars false
set_option linter.defProp false
set_option maxHeartbeats 8000000
set_option maxRecDepth 20000
namespace Go.Proofs.YtfjmpninmdjcaaaGreatDoor

namespace e7
open E Go.RowKit eM
set_option maxRecDepth 100000 in
theorem de:c3 Tryz.prog 57 5 1 1:=⟨Tryz.underlying57,_,_,rfl,rfl,rfl,rfl,rfl⟩
set_option maxRecDepth 100000 in
theorem lf:c3 Tryz.prog 104 57 1 24:=⟨Tryz.underlying104,_,_,rfl,rfl,rfl,rfl,rfl⟩
theorem mm(v1:Value)(a:List UInt8)(w0:World)(J:Heap)
 (i:bM J a6 1 v1 a) (af:a.length≤140737488355328):
 aG Tryz.prog w0 59 #[v1] J (fun r A=>∃s:aO,∃k:Nat,r=s.v∧(aU k 5 A a6 1 s.v a)∧(U 0 J.size k)∧aq J A):=by
 refine aG.aN [v1] Tryz.func59 ?_;intro Z F;have d:aq J J:=W.refl _ _;have i:=i.b2;obtain⟨p,ae,rfl,_,_,S⟩:=id i.ex;refine G.L (fun K=>?_);refine o.al ?_;refine K (G.t2 (fun L M=>G.L (fun N=>?_)));refine o.aa ?_;refine o.v1 (Y.pr rfl Tryz.underlying57 rfl rfl) (o.nil (N ?_));refine cL (fun q=>?_) (fun q=>?_)
 ·
  obtain rfl:a=[]:=by
   apply Decidable.byContradiction;intro h;obtain⟨ad,R,_⟩:=S h;rw[R]at q;cases q
  refine G.L (fun O=>?_);refine o.al ?_;refine O ?_;refine G.ret (M (F ?_));exact⟨⟨none,0,0⟩,0,rfl,aU.nil et fB,U.refl _ _,d⟩
 ·
  refine G.skip (L (G.L (fun aw=>?_)));refine o.aS (cS _ (([]:List UInt8)) de et fB (rfl)) ?_;rintro v5 B ⟨am,j,aa,P⟩;have ap:B.size=J.size+1:=by rw[P];simp
  have C:U 0 J.size (J.size+1):=U.new d.size;have i:=i.N j;have d:=d.L j;have ab:=j.size;refine o.aa ?_;refine o.aS (eg am i de (by first|omega|(simp;omega)) (by first|omega|(simp;omega))) ?_;rintro H X ⟨x,E,n,ac⟩;have n:U (J.size+1) B.size x:=n;have ac:=ac.md;have Q:U 0 J.size x:=U.L (C) n d.size;have d:=d.bx ac (ah.I (ao.q C));refine o.al ?_;refine aw ?_;refine G.ret (F ?_);obtain⟨T,rfl⟩:∃s:aO,H=s.v:=⟨cm H,E.bm.symm⟩;exact⟨T,x,rfl,by simpa using E,Q,d⟩
def gn(l:List (aO×List UInt8)):List UInt8:=l.flatMap (·.2)
theorem p4{l:List (aO×List UInt8)}{i:Nat}(h:i<l.length):gn (l.take (i+1))=gn (l.take i)++l[i].2:=by
 unfold gn;rw[List.take_succ_eq_append_getElem h,List.flatMap_append];simp
theorem BV(l:List (aO×List UInt8))(i:Nat):(gn (l.take i)).length≤(gn l).length:=by
 have:gn l=gn (l.take i)++gn (l.drop i):=by unfold gn;rw[←List.flatMap_append,List.take_append_drop]
 rw[this,List.length_append];omega
theorem vq{l:List (aO×List UInt8)}{i:Nat}(h:i<l.length):(gn (l.take i)).length+l[i].2.length≤(gn l).length:=by
 have:=BV l (i+1);rw[p4 h,List.length_append]at this;exact this
theorem C7(m:Nat)(w0:World)(J:Heap)
 (hm:m≤1099511627776):
 aG Tryz.prog w0 227 #[.slice none 0 0,.int .i64 (m:Int)] J (fun r q=>∃s:aO,∃k:Nat,r=s.v∧(aU k 5 q a6 1 s.v [])∧(U 0 J.size k)∧aq J q):=by
 refine aG.aN [.slice none 0 0,.int .i64 (m:Int)] Tryz.func227 ?_;intro Q C;have d:aq J J:=W.refl _ _;refine G.L (fun E=>?_);refine o.al ?_;refine E (G.t1 (fun F=>G.L (fun H=>?_)));refine o.aa ?_;refine o.v1 ((bH).fC (by omega)) (o.nil (H ?_));refine dK ?_;refine G.skip (F (G.t1 (fun A=>G.L (fun aw=>?_))));refine o.az 2 ?_;refine o.v1 (Y.vp rfl dj rfl) ?_;refine o.aa ?_;refine o.v1 (Y.cast (v2:= .int .i64 ((0:Nat):Int)) (bf (Rd.nil (fun _=>False) _ a6 1) dj) (rfl)) ?_;refine o.v1 (Y.cast (v2:= .int .i64 ((0:Nat):Int)) fG (rfl)) ?_;refine o.v1 (Y.cast (v2:= .int .i64 (m:Int)) fG (fh (by simp))) ?_;refine o.al ?_;refine aw (G.L (fun am=>?_));refine o.aa ?_;refine o.v1 eX (o.nil (am ?_));refine aW (fun K=>?_) (fun K=>?_)
 ·
  refine G.region ?_;refine o.az 2 ?_;refine o.v1 (Y.vp rfl dj rfl) ?_;refine o.v1 (Y.Gw 0 0 rfl dj cK rfl (.inl ⟨rfl,rfl⟩) (.inr ⟨_,_,_,rfl,rfl,rfl⟩) (by omega) (by omega)) ?_;refine o.aa ?_;have P:aU 0 5 J a6 1 (.slice none 0 0) []:=aU.nil et fB;refine o.aS (Z.z1 (m:=m) P (0:UInt8) rfl de Tryz.underlying3 zt rfl (by decide) rfl rfl (by simp;omega) (by simp;omega)) fun R S ap=>?_;obtain⟨n,ac,j,i⟩:=ap;have j:U 0 J.size n:=j;have i:=i.md;have L:U 0 J.size n:=U.L (U.refl 0 _) j d.size;have d:=d.bx i (ah.cons ao.z ah.nil);have T:=i.size;have ad:=ac.le;refine o.aa ?_;refine o.v1 (Y.cast (v2:= .int .i64 ((0:Nat):Int)) (bf (Rd.nil (fun _=>False) _ a6 1) dj) (rfl)) ?_;refine o.aN (g:=fun v=>v) (Y.Fc ac (0) rfl dj cK rfl rfl (by first|rfl|omega) (by omega)) fun B x=>?_;refine o.al ?_;refine A (G.L (fun M=>?_));refine o.aP 2 ?_;refine M ?_;refine G.ret (C ?_);obtain⟨N,rfl⟩:∃s:aO,B=s.v:=⟨cm B,x.bm.symm⟩;exact⟨N,n,rfl,by simpa using x,L,d⟩
 ·
  refine G.skip (A (G.L (fun O=>?_)));refine o.aP 2 ?_;refine O ?_;refine G.ret (C ?_);exact⟨⟨none,0,0⟩,0,rfl,aU.nil et fB,U.refl _ _,d⟩
theorem vy(v:Value)(l:List (aO×List UInt8))(w0:World)(J:Heap)
 (d:bM J hU 1 v l) (A:∀x∈l,bM J a6 1 x.1.v x.2) (av:(gn l).length≤1099511627776):
 aG Tryz.prog w0 186 #[v] J (fun r X=>∃s:aO,∃k:Nat,r=s.v∧(aU k 5 X a6 1 s.v (gn l))∧(U 0 J.size k)∧aq J X):=by
 refine aG.aN [v] Tryz.func186 ?_;intro bx bq;have n:aq J J:=W.refl _ _;have d:=d.b2;have aw:=d.b5;have A:=fun x E=>(A x E).b2;have am:bk (fun b=>True∧b<J.size) J.size:=fun b h=>h.2;have bP:=d.len;refine G.L (fun aP=>?_);refine o.al ?_;refine aP (G.L (fun aQ=>?_));refine o.al ?_;refine aQ (G.t1 (fun aS=>G.L (fun aT=>?_)));refine o.aa ?_;refine o.v1 (bf d hR) ?_;refine o.aa (o.nil (aT ?_));refine G.aD (fun _ aX _=>?_)
 refine G.bc (fun(i:(Nat))=>[(0,v),(3,.int .i64 ((gn (l.take i)).length:Int)),(9,v),(10,.int .i64 l.length),(11,.int .i64 i)])
  (fun(i:(Nat)) (H:Heap)=>(i≤l.length)∧aq J H)
  (fun(i:(Nat))=>l.length-i) 0 ⟨rfl,rfl,rfl,rfl,rfl,trivial⟩ ?_ ?_
 ·
  exact⟨(by omega),W.refl _ _⟩
 intro i be aZ bw a1 a7;obtain⟨bO,K⟩:=aZ;have d:=d.N K;have A:=fun x E=>(A x E).N K;have n:=n.L K;have bA:=K.size;refine G.L (fun a8=>?_);refine o.v1 bH (o.nil (a8 ?_));refine G.t2 (fun a_ a0=>?_);refine aW (fun cg=>?_) (fun cg=>?_)
 ·
  have O:i<l.length:=by omega
  have bK:=vq O;have bs:=A l[i] (List.getElem_mem O);refine G.skip (a_ (G.t1 (fun a2=>G.aD (fun ap _ _=>G.L (fun bb=>?_)))));refine o.b1 (Y.bU d (i) rfl hR c8 rfl rfl) fun a3 bc=>?_;refine o.v1 (au bc.O eI) ?_;refine o.al ?_;refine bb (G.L (fun bd=>?_));refine o.az 2 ?_;refine o.v1 (bf bs dj) ?_;refine o.v1 (Y.cast (v2:= .int .i64 ((gn (l.take (i+1))).length:Int)) bD (fh (by rw[p4 O,List.length_append];omega))) ?_;refine o.al ?_;refine bd (G.L (fun bg=>?_));refine o.aa ?_;refine o.v1 ((bH).fC (by omega)) (o.nil (bg ?_));refine dK ?_;refine G.skip (ap (a2 (G.region ?_)));refine o.v1 bD ?_;refine o.aa (o.nil ?_);have bN:=p4 O;refine aR.sub (a1 (i+1) _ ?_ ?_) ⟨rfl,(aF (by omega)),rfl,(aF (by omega)),(aF (by omega)),trivial⟩
  ·exact⟨(by omega),K⟩
  ·first|omega|(simp only;omega)|(simp;omega)
 ·
  obtain rfl:i=l.length:=by omega
  refine G.exit (a0 (a7 (aX ?_)));refine aS (G.L (fun bl=>?_));refine o.v1 (Y.cast (v2:= .int .i64 ((gn l).length:Int)) fl (by rw[List.take_length])) ?_;refine aV Bj (C7 (gn l).length w0 _ av) (fun bB S a4=>?_);obtain⟨a5,L,rfl,j,Q,M⟩:=a4;have af:=ax.app (ax.z) (aw.mono n.size) Q;have ag:=ax.app (ax.z) (am.mono n.size) Q;have Z:U 0 J.size L:=U.L (U.refl 0 _) Q n.size;have d:=d.N M;have A:=fun x E=>(A x E).N M;have n:=n.L M;have bi:=M.size;have ae:=j.le;refine o.al ?_;refine bl (G.t1 (fun bm=>G.L (fun bn=>?_)));refine o.aa ?_;refine o.v1 (bf d hR) ?_;refine o.aa (o.nil (bn ?_));refine G.aD (fun _ al _=>?_)
  refine G.bc (fun(bu:(Nat)×(aO)×(Nat))=>match bu with|(q,F,C)=>[(6,F.v),(25,v),(26,.int .i64 l.length),(27,.int .i64 q)])
   (fun(q,F,C) (H:Heap)=>(q≤l.length)∧(aU C 5 H a6 1 F.v (gn (l.take q)))∧(U L S.size C)∧W (aB [L]) S H)
   (fun(q,F,C)=>l.length-q) (0,a5,L) ⟨rfl,rfl,rfl,rfl,trivial⟩ ?_ ?_
  ·
   exact⟨(by omega),by simpa[gn]using j,U.refl _ _,W.refl _ _⟩
  rintro⟨q,F,C⟩ ai a9 bE an ar;obtain⟨bQ,j,ac,B⟩:=a9;have ba:U 0 J.size C:=U.L (Z) ac n.size;have d:=d.ae B (ay.I af);have A:=fun x E=>(A x E).ae B (ay.I ag);have n:=n.bx B (ah.I (ao.q Z));have aD:=B.size;have ae:=j.le;have aa:=ac;refine G.L (fun az=>?_);refine o.v1 bH (o.nil (az ?_));refine G.t2 (fun aC aH=>?_);refine aW (fun bo=>?_) (fun bo=>?_)
  ·
   have T:q<l.length:=by omega
   have bL:=vq T;have bt:=A l[q] (List.getElem_mem T);refine G.skip (aC (G.t1 (fun aI=>G.aD (fun aJ _ _=>G.L (fun aK=>?_)))));refine o.b1 (Y.bU d (q) rfl hR c8 rfl rfl) fun bz aL=>?_;refine o.v1 (au aL.O eI) ?_;refine o.al ?_;refine aK (G.region ?_);refine o.az 2 ?_;refine o.aS (eg j bt de (by first|omega|(simp;omega)) (by first|omega|(simp;omega))) fun ab bF bp=>?_;obtain⟨P,j,R,N⟩:=bp;have R:U C ai.size P:=R;have N:=N.md;have aM:U L S.size P:=U.L (aa) R B.size;have B:=B.aL N (ah.I (ao.r aa));have bJ:=N.size;have ae:=j.le;refine o.al ?_;refine aJ (aI (G.region ?_));refine o.v1 bD ?_;refine o.aa (o.nil ?_);obtain⟨bT,rfl⟩:∃s:aO,ab=s.v:=⟨cm ab,j.bm.symm⟩;refine aR.sub (an (q+1,bT,P) _ ?_ ?_) ⟨rfl,rfl,(aF (by omega)),(aF (by omega)),trivial⟩
   ·exact⟨(by omega),by rw[p4 T];exact j,aM,B⟩
   ·first|omega|(simp only;omega)|(simp;omega)
  ·
   refine G.exit (aH (ar (al ?_)));refine bm (G.L (fun aN=>?_));refine o.aP 2 ?_;refine aN ?_;refine G.ret (bq ?_);obtain rfl:q=l.length:=by omega
   rw[List.take_length]at j;exact⟨F,C,rfl,j,ba,n⟩
abbrev lI:=dQ×aO
abbrev k_(x:lI):List Value:=[.bool x.1.b,x.2.v]
theorem qh(x:lI):(k_ x).length=2:=rfl
theorem qi(x:lI):∀u∈k_ x,u.oneCell'=true:=by intro u hu;simp only[List.mem_cons,List.not_mem_nil,or_false]at hu;rcases hu with rfl|rfl<;>rfl
abbrev n0(x:lI):Value:= .agg (k_ x).toArray
theorem xB(w:dQ)(b:List UInt8)(n:Nat):(w.on b n).length≤b.length+n:=by
 unfold dQ.on;rw[List.length_append,List.length_take];split<;>simp<;>omega
theorem xA(x:lI)(cW:aO)(b:List UInt8)(n:Nat)(w0:World)(J:Heap)
 (ak:bM J a6 1 x.2.v x.1.d) (aA:bM J a6 1 cW.v b) (aC:n≤x.1.d.length) (aQ:b.length+n≤1099511627776):
 aG Tryz.prog w0 160 #[n0 x,cW.v,.int .i64 (n:Int)] J (fun r K=>∃s:aO,∃k:Nat,r=s.v∧(aU k 5 K a6 1 s.v (x.1.on b n))∧(U 0 J.size k)∧aq J K):=by
 refine aG.aN [n0 x,cW.v,.int .i64 (n:Int)] Tryz.func160 ?_;intro az ar;have d:aq J J:=W.refl _ _;have ak:=ak.b2;have aA:=aA.b2;refine G.L (fun af=>?_);refine o.aS cY ?_;rintro v3 q ⟨rfl,j,B,aD,ag⟩;have aN:q.size=J.size+1:=by rw[ag];simp
 have ak:=ak.N B;have aA:=aA.N B;have d:=d.L B;have aH:=B.size;have j:Var 275 q J.size (k_ x):=j;refine o.al ?_;refine af ?_
 refine G.cut (fun(ay:(aO)×(List UInt8))=>match ay with|(s1,i)=>[(1,s1.v),(2,.int .i64 (n:Int)),(3,.pointer (some ⟨J.size,0,none⟩))])
  (fun(s1,i) (H:Heap)=>(bM H a6 1 s1.v i)∧(i=if x.1.b=true then b else[])∧aq q H) (fun _ M _=>?_) ?_
 ·
  have L:aq q q:=W.refl _ _;refine G.L (fun ah=>?_);refine o.v1 (Y.an j.O rfl j3 rfl dz) ?_;refine o.v1 (au j.O ec) ?_;refine o.v1 eG (o.nil (ah ?_));refine cL (fun F=>?_) (fun F=>?_)
  ·
   refine G.region ?_;refine o.al ?_;refine aR.sub (M (⟨none,0,0⟩,[]) _ ?_) ⟨rfl,(aF (by omega)),rfl,trivial⟩;exact⟨Rd.nil _ _ _ _,by rw[if_neg (by simpa using F)],L⟩
  ·
   refine G.skip ?_;refine aR.sub (M (cW,b) _ ?_) ⟨rfl,(aF (by omega)),rfl,trivial⟩;exact⟨aA.any,by rw[if_pos (by simpa using F)],L⟩
 ·
  rintro⟨s1,i⟩ ad X;obtain⟨an,O,A⟩:=X;have ak:=ak.N A;have j:=j.N A;have d:=d.L A;have aI:=A.size;have aP:i.length≤b.length:=by rw[O];split<;>simp
  refine G.L (fun ai=>?_);refine o.aa ?_;refine o.v1 (Y.an j.O rfl j3 rfl c8) ?_;refine o.v1 (au (j.O.drop 1) eI) ?_;refine o.aa ?_;refine o.aN (g:=fun v=>v) (Y.slice ak (0) (n) rfl dj cK rfl (.inl ⟨rfl,rfl⟩) (.inr ⟨_,_,_,rfl,rfl,by first|rfl|omega⟩) (by omega) (by omega)) fun ap C=>?_;obtain⟨E,rfl⟩:∃s:aO,ap=s.v:=⟨cm ap,C.bm.symm⟩;refine o.aS (cS _ ([(s1,i),(E,(x.1.d.take n).drop 0)]) lf nq nr (rfl)) fun al Q R=>?_;obtain⟨Z,ac,aB,aa⟩:=R;have aM:Q.size=ad.size+1:=by rw[aa];simp
  have C:=C.N ac;have d:=d.L ac;have aJ:=ac.size;refine aV va (vy al [(s1,i),(E,(x.1.d.take n).drop 0)] w0 _ Z.rd.any (fun x P=>by simp only[List.mem_cons,List.not_mem_nil,or_false]at P;rcases P with rfl|rfl;exact an.N ac;exact C.any) (by simp[gn];omega)) (fun aK aL S=>?_);obtain⟨T,N,rfl,ab,ae,aw⟩:=S;have am:U 0 J.size N:=U.L (U.refl 0 _) ae d.size;have d:=d.L aw;refine o.al ?_;refine ai ?_;refine G.ret (ar ?_);exact⟨T,N,rfl,by have e:gn [(s1,i),(E,(x.1.d.take n).drop 0)]=x.1.on b n:=(by unfold dQ.on;rw[←O];simp[gn]);rw[←e];exact ab,am,d⟩
end e7

namespace E
section
variable {P : Program} {w0 : World} {n : Nat} {l : bO} {H : Heap} {I : Oper}
theorem Z.ext{f:FuncId}{fn:Func}{e:Array Value→Sem Value}{args:List Operand}{o:Array TypeId}{j:List Value}{k:Value→Heap→Prop}(C:I.op= .call {callee:= .value (.func f),args:=args.toArray,argTypes:=o})(x:P.funcs[f]?=some fn)
 (B:(fn.name== "runtime.NumGoroutine")=false) (aA:fn.body.isNone=true) (aC:Extern.findNext fn=none) (he:Extern.find fn=some e) (F:gH l args=some j) (E:∀w,At w0 H w→∃v ab d,(e j.toArray).run P w= .ok v d∧At w0 ab d∧k v ab):Z P w0 n l H I k:=by
 intro a w A r;have q:a.eval (.func f)= .func (.func f) #[] #[]:=rfl;have V:=A.jH F;have i:=run_callFunc_extern (P:=P) x B aA aC he j.toArray w;obtain⟨v,ab,d,G,J,K⟩:=E w r;rw[G]at i;simp only[Result.andThen]at i;exact⟨v,ab,d,by simp[execOp,C,resolve,Deferred.ofValue,q,invoke,V,i],J,K⟩
theorem Var.cell{e:TypeId}{b:Nat}{cs:List Value}(h:Var e H b cs){w:World}(n:At w0 H w){i:Nat}{c:Value}(av:cs[i]?=some c):w.cell? ⟨b,i,none⟩=some c∧w.frozen? ⟨b,i,none⟩=false∧∃d,w.heap[b]?=some (.cells cs.toArray e d):=by
 obtain⟨d,k,V⟩:=id h.row;have o:=(List.getElem?_eq_some_iff.1 av).1;have j:w.heap[b]?=some (.cells cs.toArray e d):=by rw[n.heap];exact k
 refine⟨by simp[World.cell?,j,av],?_,d,j⟩;obtain⟨r,q⟩:=d;have:=V.2 i (by simpa using o);simp only at this;simp[World.frozen?,j];omega
theorem Z.zG{f:FuncId}{fn:Func}{args:List Operand}{o:Array TypeId}{e:TypeId}{b i:Nat}{cs:List Value}{x y:Int}(h:Var e H b cs)(av:cs[i]?=some (.int .i64 x))(F:I.op= .call {callee:= .value (.func f),args:=args.toArray,argTypes:=o})(C:P.funcs[f]?=some fn)
 (E:(fn.name== "runtime.NumGoroutine")=false) (aA:fn.body.isNone=true) (aC:Extern.findNext fn=none) (he:Extern.find fn=some (Extern.Atomic.update (Op.intArith .add) .i64 true)) (G:gH l args=some [.pointer (some ⟨b,i,none⟩),.int .i64 y]) (K: -9223372036854775808≤x+y∧x+y≤9223372036854775807):
 Z P w0 n l H I (fun r ab=>r= .int .i64 (x+y)∧Var e ab b (cs.set i (.int .i64 (x+y)))∧W (fun c=>c=b) H ab):=by
 refine Z.ext F C E aA aC he G (fun w d=>?_);obtain⟨j,V,A,B⟩:=h.cell d av;have hw:IntKind.i64.wrap (x+y)=x+y:=by rw[IntKind.wrap_i64];omega
 have J:=(List.getElem?_eq_some_iff.1 av).1;refine⟨.int .i64 (x+y),_,w.setRow b (cs.toArray.setIfInBounds i (.int .i64 (x+y))),?_,d.row _ _,rfl,?_,po d _ _⟩
 ·have aj:(store ⟨b,i,none⟩ (.int .i64 (x+y)) .atomic).run P w= .ok () (w.setRow b (cs.toArray.setIfInBounds i (.int .i64 (x+y)))):=by
   rw[Go.run_store P w _ _ _ rfl,j];simp only[V,Bool.false_eq_true,if_false];rw[setCell_eq_setRow w b i cs.toArray e A _ B]
  have aN:Extern.Atomic.update (Op.intArith .add) .i64 true #[.pointer (some ⟨b,i,none⟩),.int .i64 y]=(asAddr (.pointer (some ⟨b,i,none⟩))>>=fun a=>Extern.Atomic.read (.int .i64) a>>=fun k=>asInt k>>=fun p=>asInt (.int .i64 y)>>=fun q=>Op.intArith .add .i64 p q>>=fun new=>store a new .atomic>>=fun _=>pure (if true then new else k)):=rfl;show(Extern.Atomic.update (Op.intArith .add) .i64 true #[.pointer (some ⟨b,i,none⟩),.int .i64 y]).run P w=_;rw[aN];simp[Extern.Atomic.read,asAddr,j,asInt,asIntOf,Op.intArith,hw,aj]
 ·have:=q7 d h.row (c:=cs.toArray.setIfInBounds i (.int .i64 (x+y))) (by simp)
  exact⟨by simpa using this⟩
end
end E

namespace fx
open E Go.RowKit eM e7
inductive fK|out|fs|gf|dir (p:aJ)|now (p:aJ)|mY (p:aJ)|mu (p:aJ)|fp (i:Nat)|l8 (i:Nat)|iT
abbrev ptr(b:Nat):Value:= .pointer (some ⟨b,0,none⟩)
abbrev hM(fb:List Nat)(i:Nat):Value:=ptr (fb.getD i 0)
abbrev la(fb:List Nat)(I:Option Nat):Option Addr:=I.map (fun i=>⟨fb.getD i 0,0,none⟩)
abbrev hB(fb:List Nat)(c:dA):List Value:=[aK c.g,aK c.n,.pointer (la fb c.f)]
theorem qd(fb:List Nat)(c:dA):(hB fb c).length=3:=rfl
theorem qe(fb:List Nat)(c:dA):∀u∈hB fb c,u.oneCell'=true:=by
 intro u hu;simp only[List.mem_cons,List.not_mem_nil,or_false]at hu;rcases hu with rfl|rfl|rfl<;>rfl
theorem Fh{α:Type}{aQ:Nat→Prop}{e:TypeId}{H:Heap}{f g:α→List Value}{sz:Nat}{v:Value}{l:List α}(h:Own aQ e H f sz v l)(av:∀x,(g x).length=sz)(q:∀x,∀u∈g x,u.oneCell'=true)(r:∀x∈l,f x=g x):Own aQ e H g sz v l:=by
 refine⟨av,q,?_⟩;rcases h.ex with h|⟨b,cap,cur,aN,d,i,j,k,n,o⟩
 ·exact .inl h
 ·refine .inr ⟨b,cap,cur,aN,d,i,j,k,n,?_⟩
  rw[o,List.flatMap_def,List.flatMap_def,List.map_congr_left r]
theorem Fe{α:Type}{k:Nat}{e:TypeId}{H:Heap}{f g:α→List Value}{sz:Nat}{v:Value}{l:List α}(h:aU k e H f sz v l)(av:∀x,(g x).length=sz)(d:∀x,∀u∈g x,u.oneCell'=true)(i:∀x∈l,f x=g x):aU k e H g sz v l:=⟨Fh h.own av d i,h.le⟩
theorem xi{κ β:Type}{H:Heap}{a1:κ→Value}{f g:β→Value}{b:Nat}{m:List (κ×β)}(h:c0 H a1 f b m)(n:∀x∈m,f x.2=g x.2):c0 H a1 g b m:=by
 obtain⟨r,es,clock,d,V,i,j,k⟩:=h.fi.ex;exact⟨⟨r,es,clock,d,V,i,j,by rw[k];exact List.map_congr_left (fun x o=>by rw[n x o])⟩⟩
section
variable {ρ ρ' : Nat → fK} {fb : List Nat} {H ab : Heap} {D D' : aE} {p : aJ} {bj bS cW k i b : Nat} {bm eJ fk : aO} {bZ ew : dc} {x : fP} {l : List lI} {S : Nat → Prop}
structure lC (ρ:Nat→fK) (fb:List Nat) (H:Heap) (D:aE) (p:aJ) (bj bS cW k:Nat) (bm:aO) (bZ ew:dc):Prop where
 rd:ρ bj= .dir p
 cJ:Var 173 H bj [.map (some bS),.map (some cW),bm.v]
 hi:ρ bS= .now p
 aC:c0 H aK (hM fb) bS bZ
 rs:ρ cW= .mY p
 aj:c0 H aK (hM fb) cW ew
 gC:∀q,aM bZ q=if ck q=p then aM D.now q else none
 es:∀q,aM ew q=if ck q=p then aM D.stays q else none
 av:aU k 177 H (hB fb) 3 bm.v (D.hA p)
 rc:∀c,c+1=k→ρ c= .mu p
structure iq (ρ:Nat→fK) (H:Heap) (i b:Nat) (x:fP) (eJ bm fk:aO) (k:Nat) (l:List lI):Prop where
 bI:ρ b= .fp i
 cX:Var 186 H b [eJ.v,bm.v,fk.v]
 aC:Rd (fun c=>ρ c= .iT) H a6 1 eJ.v x.now
 aj:Rd (fun c=>ρ c= .iT) H a6 1 bm.v x.stays
 hw:aU k 275 H k_ 2 fk.v l
 lw:l.map (·.1)=x.w
 ak:∀y∈l,Rd (fun c=>ρ c= .iT) H a6 1 y.2.v y.1.d
 iY:∀c,c+1=k→ρ c= .l8 i
def Ext(ρ ρ':Nat→fK):Prop:=∀c,ρ c≠ .out→ρ' c=ρ c
theorem Ext.refl(ρ:Nat→fK):Ext ρ ρ:=fun _ _=>rfl
theorem Ext.of(h:Ext ρ ρ'){c:Nat}{r:fK}(e:ρ c=r)(d:r≠ .out):ρ' c=r:=by rw[h c (by rw[e];exact d)];exact e
theorem kL{α:Type}{f:α→List Value}{sz:Nat}{v:Value}{l:List α}(h:Rd (fun c=>ρ c= .iT) H f sz v l)(i:Ext ρ ρ')(s:W S H ab)(d:∀c,S c→ρ c≠ .iT):Rd (fun c=>ρ' c= .iT) ab f sz v l:=
 (h.up s (fun b _ e aj=>d b aj e)).imp (fun b _ e=>i.of e (by simp))
theorem lC.L(h:lC ρ fb H D p bj bS cW k bm bZ ew)(i:Ext ρ ρ')(s:W S H ab)(d:∀c,S c→ρ c≠ .dir p∧ρ c≠ .now p∧ρ c≠ .mY p∧ρ c≠ .mu p)
 (aC:∀q,ck q=p→aM D'.now q=aM D.now q) (aj:∀q,ck q=p→aM D'.stays q=aM D.stays q) (av:D'.hA p=D.hA p):lC ρ' fb ab D' p bj bS cW k bm bZ ew where
 rd:=i.of h.rd (by simp)
 cJ:=h.cJ.up s (fun e=>(d _ e).1 h.rd)
 hi:=i.of h.hi (by simp)
 aC:=h.aC.up s (fun e=>(d _ e).2.1 h.hi)
 rs:=i.of h.rs (by simp)
 aj:=h.aj.up s (fun e=>(d _ e).2.2.1 h.rs)
 gC:=fun q=>by rw[h.gC];split
               ·rename_i e;rw[aC q e]
               ·rfl
 es:=fun q=>by rw[h.es];split
               ·rename_i e;rw[aj q e]
               ·rfl
 av:=by rw[av];exact h.av.up s (fun b _ e aA=>(d b aA).2.2.2 (h.rc b e))
 rc:=fun c e=>i.of (h.rc c e) (by simp)
theorem iq.L(h:iq ρ H i b x eJ bm fk k l)(j:Ext ρ ρ')(s:W S H ab)(d:∀c,S c→ρ c≠ .fp i∧ρ c≠ .l8 i∧ρ c≠ .iT):iq ρ' ab i b x eJ bm fk k l where
 bI:=j.of h.bI (by simp)
 cX:=h.cX.up s (fun e=>(d _ e).1 h.bI)
 aC:=kL h.aC j s (fun c e=>(d c e).2.2)
 aj:=kL h.aj j s (fun c e=>(d c e).2.2)
 hw:=h.hw.up s (fun b _ e aA=>(d b aA).2.1 (h.iY b e))
 lw:=h.lw
 ak:=fun y hy=>kL (h.ak y hy) j s (fun c e=>(d c e).2.2)
 iY:=fun c e=>j.of (h.iY c e) (by simp)
structure ct where
 ρ:Nat→fK
 fb:List Nat
 bF:Nat
 cy:List (aJ×Nat)
 cP:Nat
structure bg (K:List Nat) (g:ct) (H:Heap) (b:Nat) (D:aE):Prop where
 cV:∀c,c+1∈K↔g.ρ c≠ .out
 lt:∀c,g.ρ c≠ .out→c<H.size
 eE:g.ρ b= .fs
 bE:Var 102 H b [.int .i64 D.cap,.int .i64 D.most,.map (some g.bF),.int .i64 D.ops,.int .i64 g.cP,.bool D.dead]
 ie:D.dead=false→g.cP=D.left
 iB:g.cP≤9223372036854775807
 jj:D.cap≤9223372036854775807
 jn:D.most≤9223372036854775807
 hv:g.ρ g.bF= .gf
 hm:c0 H aK ptr g.bF g.cy
 gf:∀p bj,aM g.cy p=some bj→∃bS cW k bm bZ ew,lC g.ρ g.fb H D p bj bS cW k bm bZ ew
 abs:∀p,aM g.cy p=none→(∀q,ck q=p→aM D.now q=none∧aM D.stays q=none)∧D.hA p=[]
 len:g.fb.length=D.fs.length
 fp:∀i,i<D.fs.length→∃eJ bm fk k l,iq g.ρ H i (g.fb.getD i 0) (bY D.fs i) eJ bm fk k l
 ids:(∀p i,aM D.now p=some i→i<D.fs.length)∧(∀p i,aM D.stays p=some i→i<D.fs.length)∧(∀c∈D.log,∀i,c.f=some i→i<D.fs.length)
 h_:g.cy.length≤D.ops
variable {K ga : List Nat} {g : ct} {ks : List Nat}
theorem bg.aD(h:bg K g H b D):n3 K H.size:=fun k d=>by
 rcases Nat.eq_zero_or_pos k with e|this
 ·omega
 ·have V:=h.lt (k-1) ((h.cV (k-1)).1 (by rw[Nat.sub_add_cancel this];exact d))
  omega
theorem bg.up(h:bg K g H b D)(s:W S H ab)(d:∀c,S c→g.ρ c= .out):bg K g ab b D where
 cV:=h.cV
 lt:=fun c e=>Nat.lt_of_lt_of_le (h.lt c e) s.size
 eE:=h.eE
 bE:=h.bE.up s (fun e=>by have:=d _ e;rw[h.eE]at this;cases this)
 ie:=h.ie
 iB:=h.iB
 jj:=h.jj
 jn:=h.jn
 hv:=h.hv
 hm:=h.hm.up s (fun e=>by have:=d _ e;rw[h.hv]at this;cases this)
 gf:=fun p bj e=>by
  obtain⟨bS,cW,k,bm,bZ,ew,ak⟩:=h.gf p bj e;exact⟨bS,cW,k,bm,bZ,ew,ak.L (Ext.refl _) s (fun c av=>by rw[d c av];simp) (fun _ _=>rfl) (fun _ _=>rfl) rfl⟩
 abs:=h.abs
 len:=h.len
 fp:=fun i n=>by
  obtain⟨eJ,bm,fk,k,l,j⟩:=h.fp i n;exact⟨eJ,bm,fk,k,l,j.L (Ext.refl _) s (fun c av=>by rw[d c av];simp)⟩
 ids:=h.ids
 h_:=h.h_
theorem bg.N(h:bg K g H b D)(s:aq H ab):bg K g ab b D:=h.up s (fun c e=>e.elim)
theorem bg.role(h:bg K g H b D){c:Nat}(av:c+1∉K):g.ρ c= .out:=Classical.byContradiction (fun e=>av ((h.cV c).2 e))
theorem bg.ae(h:bg K g H b D)(s:W (aB ks) H ab)(d:dr K ks):bg K g ab b D:=h.up s (fun c e=>h.role (fun i=>d (c+1) i (c+1) e c rfl rfl))
theorem bg.mem(h:bg K g H b D){c:Nat}{r:fK}(e:g.ρ c=r)(d:r≠ .out):c+1∈K:=(h.cV c).2 (by rw[e];exact d)
theorem bg.mE{r:fK}(h:bg K g H b D)(d:∀c,c+1=k→g.ρ c=r)(i:r≠ .out):gK K k:=fun c e=>h.mem (d c e) i
theorem bg.nD{c:Nat}{r:fK}(h:bg K g H b D)(e:g.ρ c=r)(d:r≠ .out):gK K (c+1):=gK.of (h.mem e d)
theorem bg.ms(h:bg K g H b D)(s:W S H ab)(d:∀c,S c→g.ρ c≠ .out):W (aB K) H ab:=s.weaken (fun c _ e=>(h.cV c).2 (d c e))
theorem bg.ts{d:ct}(h:bg K g H b D)(s:W (aB [b+1]) H ab)(q:d.ρ=g.ρ∧d.fb=g.fb∧d.bF=g.bF∧d.cy=g.cy)
 (E:Var 102 ab b [.int .i64 D.cap,.int .i64 D.most,.map (some g.bF),.int .i64 D'.ops,.int .i64 d.cP,.bool D'.dead]) (A:D'.dead=false→d.cP=D'.left) (B:d.cP≤9223372036854775807)
 (n:D'.cap=D.cap∧D'.most=D.most∧D'.fs=D.fs∧D'.now=D.now∧D'.stays=D.stays∧D'.log=D.log) (C:D.ops≤D'.ops):bg K d ab b D':=by
 obtain⟨r,fb,bF,cy,cP⟩:=d;obtain⟨rfl,rfl,rfl,rfl⟩:=q;obtain⟨cap,most,fs,now,stays,log,ops,left,dead⟩:=D';obtain⟨rfl,rfl,rfl,rfl,rfl,rfl⟩:=n
 have j:∀c,aB [b+1] c→g.ρ c= .fs:=fun c e=>by
  have:c=b:=by simpa[aB]using e
  rw[this];exact h.eE
 exact{
  cV:=h.cV,lt:=fun c e=>Nat.lt_of_lt_of_le (h.lt c e) s.size,eE:=h.eE,bE:=E,ie:=A,iB:=B,jj:=h.jj,jn:=h.jn,hv:=h.hv
  hm:=h.hm.up s (fun e=>by have:=j _ e;rw[h.hv]at this;cases this)
  gf:=fun p bj e=>by
   obtain⟨bS,cW,k,bm,bZ,ew,ak⟩:=h.gf p bj e;exact⟨bS,cW,k,bm,bZ,ew,ak.L (Ext.refl _) s (fun c av=>by rw[j c av];simp) (fun _ _=>rfl) (fun _ _=>rfl) rfl⟩
  abs:=h.abs,len:=h.len
  fp:=fun i x=>by
   obtain⟨eJ,bm,fk,k,l,o⟩:=h.fp i x;exact⟨eJ,bm,fk,k,l,o.L (Ext.refl _) s (fun c av=>by rw[j c av];simp)⟩
  ids:=h.ids,h_:=Nat.le_trans h.h_ C}
theorem bg.tq(h:bg K g H b D)(s:W S H ab)(o:∀c,S c→g.ρ c= .dir p∨g.ρ c= .now p∨g.ρ c= .mY p∨g.ρ c= .mu p∨g.ρ c= .out)(x:Ext g.ρ ρ')(cV:∀c,c+1∈ga↔ρ' c≠ .out)(lt:∀c,ρ' c≠ .out→c<ab.size)
 (B:aM g.cy p=some bj) (ak:∃bS cW k bm bZ ew,lC ρ' g.fb ab D' p bj bS cW k bm bZ ew)
 (F:D'.cap=D.cap∧D'.most=D.most∧D'.fs=D.fs∧D'.ops=D.ops∧D'.left=D.left∧D'.dead=D.dead)
 (aC:∀q,ck q≠p→aM D'.now q=aM D.now q) (aj:∀q,ck q≠p→aM D'.stays q=aM D.stays q) (av:∀n,n≠p→D'.hA n=D.hA n)
 (ids:(∀p i,aM D'.now p=some i→i<D'.fs.length)∧(∀p i,aM D'.stays p=some i→i<D'.fs.length)∧(∀c∈D'.log,∀i,c.f=some i→i<D'.fs.length)):bg ga {g with ρ:=ρ'} ab b D':=by
 obtain⟨cap,most,fs,now,stays,log,ops,left,dead⟩:=D';obtain⟨rfl,rfl,rfl,rfl,rfl,rfl⟩:=F
 exact{
  cV:=cV,lt:=lt,eE:=x.of h.eE (by simp)
  bE:=h.bE.up s (fun e=>by have:=o _ e;rw[h.eE]at this;simp at this)
  ie:=h.ie,iB:=h.iB,jj:=h.jj,jn:=h.jn,hv:=x.of h.hv (by simp)
  hm:=h.hm.up s (fun e=>by have:=o _ e;rw[h.hv]at this;simp at this)
  gf:=fun q A e=>by
   by_cases d:q=p
   ·subst d
    have:A=bj:=Option.some.inj (e.symm.trans B);subst this;exact ak
   ·obtain⟨bS,cW,k,bm,bZ,ew,ak⟩:=h.gf q A e
    refine⟨bS,cW,k,bm,bZ,ew,ak.L x s (fun c av=>?_) (fun r j=>aC r (by rw[j];exact d)) (fun r j=>aj r (by rw[j];exact d)) (av q d)⟩;rcases o c av with e|e|e|e|e<;>(rw[e];simp[Ne.symm d])
  abs:=fun q e=>by
   have d:q≠p:=fun C=>by subst C;rw[B]at e;cases e
   obtain⟨E,V⟩:=h.abs q e;exact⟨fun r j=>by rw[aC r (by rw[j];exact d),aj r (by rw[j];exact d)];exact E r j,by rw[av q d];exact V⟩
  len:=h.len
  fp:=fun i J=>by
   obtain⟨eJ,bm,fk,k,l,G⟩:=h.fp i J;refine⟨eJ,bm,fk,k,l,G.L x s (fun c av=>?_)⟩;rcases o c av with e|e|e|e|e<;>(rw[e];simp)
  ids:=ids,h_:=h.h_}
theorem bg.tr{y:fP}(h:bg K g H b D)(C:i<D.fs.length)(s:W S H ab)(d:∀c,S c→g.ρ c= .fp i∨g.ρ c= .l8 i∨g.ρ c= .out)(n:Ext g.ρ ρ')(cV:∀c,c+1∈ga↔ρ' c≠ .out)(lt:∀c,ρ' c≠ .out→c<ab.size)
 (o:∃eJ bm fk k l,iq ρ' ab i (g.fb.getD i 0) y eJ bm fk k l):bg ga {g with ρ:=ρ'} ab b (D.fq i y):=by
 have r:(D.fq i y).fs.length=D.fs.length:=by simp[aE.fq]
 exact{
  cV:=cV,lt:=lt,eE:=n.of h.eE (by simp)
  bE:=h.bE.up s (fun e=>by have:=d _ e;rw[h.eE]at this;simp at this)
  ie:=h.ie,iB:=h.iB,jj:=h.jj,jn:=h.jn,hv:=n.of h.hv (by simp)
  hm:=h.hm.up s (fun e=>by have:=d _ e;rw[h.hv]at this;simp at this)
  gf:=fun q B e=>by
   obtain⟨bS,cW,k,bm,bZ,ew,ak⟩:=h.gf q B e;refine⟨bS,cW,k,bm,bZ,ew,ak.L n s (fun c av=>?_) (fun _ _=>rfl) (fun _ _=>rfl) rfl⟩;rcases d c av with e|e|e<;>(rw[e];simp)
  abs:=h.abs,len:=by rw[r];exact h.len
  fp:=fun j A=>by
   rw[r]at A;by_cases x:j=i
   ·subst x
    have e:bY (D.fq j y).fs j=y:=by simp[bY,aE.fq,List.getD,C]
    rw[e];exact o
   ·have e:bY (D.fq i y).fs j=bY D.fs j:=by simp[bY,aE.fq,List.getD,List.getElem?_set,Ne.symm x]
    rw[e];obtain⟨eJ,bm,fk,k,l,o⟩:=h.fp j A;refine⟨eJ,bm,fk,k,l,o.L n s (fun c av=>?_)⟩;rcases d c av with e|e|e<;>(rw[e];simp[Ne.symm x])
  ids:=by rw[r];exact h.ids
  h_:=h.h_}
def ft(ρ:Nat→fK)(x:Nat)(r:fK):Nat→fK:=fun c=>if c=x then r else ρ c
theorem nZ{x:Nat}{r:fK}:ft ρ x r x=r:=if_pos rfl
theorem l7{x c:Nat}{r:fK}(h:c≠x):ft ρ x r c=ρ c:=if_neg h
theorem Ext.ft{x:Nat}{r:fK}(h:ρ x= .out):Ext ρ (ft ρ x r):=fun c av=>by
 by_cases e:c=x
 ·subst e;exact absurd h av
 ·exact l7 e
theorem Ext.trans{ρ2:Nat→fK}(h:Ext ρ ρ')(V:Ext ρ' ρ2):Ext ρ ρ2:=fun c av=>by
 have e:=h c av;rw[V c (by rw[e];exact av),e]
theorem nA{x:Nat}{r:fK}(cV:∀c,c+1∈K↔ρ c≠ .out)(d:r≠ .out):∀c,c+1∈(x+1)::K↔ft ρ x r c≠ .out:=fun c=>by
 unfold ft;rw[List.mem_cons];by_cases e:c=x
 ·rw[if_pos e];simp[e,d]
 ·rw[if_neg e,←cV]
  constructor
  ·rintro(h|h)
   ·omega
   ·exact h
  ·exact .inr
theorem nI{x:Nat}{r:fK}(lt:∀c,ρ c≠ .out→c<H.size)(aj:H.size≤ab.size)(d:x<ab.size):∀c,ft ρ x r c≠ .out→c<ab.size:=fun c av=>by
 unfold ft at av;split at av
 ·rename_i e;rw[e];exact d
 ·exact Nat.lt_of_lt_of_le (lt c av) aj
def gl(ρ:Nat→fK)(k:Nat)(r:fK):Nat→fK:=fun c=>if c+1=k then r else ρ c
theorem pA{c:Nat}{r:fK}(h:c+1=k):gl ρ k r c=r:=if_pos h
theorem za{c:Nat}{r:fK}(h:c+1≠k):gl ρ k r c=ρ c:=if_neg h
theorem Ext.gl{r:fK}(h:∀c,c+1=k→ρ c= .out∨ρ c=r):Ext ρ (gl ρ k r):=fun c av=>by
 unfold fx.gl;split
 ·rename_i e;rcases h c e with d|d
  ·exact absurd d av
  ·exact d.symm
 ·rfl
theorem oS{r:fK}(cV:∀c,c+1∈K↔ρ c≠ .out)(d:r≠ .out):∀c,c+1∈k::K↔gl ρ k r c≠ .out:=fun c=>by
 unfold gl;rw[List.mem_cons];by_cases e:c+1=k
 ·rw[if_pos e];simp[e,d]
 ·rw[if_neg e,←cV];simp[e]
theorem o3{r:fK}(lt:∀c,ρ c≠ .out→c<H.size)(aj:H.size≤ab.size)(d:k≤ab.size):∀c,gl ρ k r c≠ .out→c<ab.size:=fun c av=>by
 unfold gl at av;split at av
 ·omega
 ·exact Nat.lt_of_lt_of_le (lt c av) aj
theorem bg.sZ(h:bg K g H b D)(d:ag k K):∀c,c+1=k→g.ρ c= .out:=fun c e=>h.role (fun hm=>d (c+1) hm c e rfl)
theorem bg.xx{a7:Nat}(h:bg K g H b D)(i:U k H.size a7){r:fK}(n:∀c,c+1=k→g.ρ c=r):∀c,c+1=a7→g.ρ c= .out∨g.ρ c=r:=fun c e=>by
 rcases i with d|d|d
 ·omega
 ·exact .inr (n c (by omega))
 ·exact .inl (Classical.byContradiction (fun j=>by have:=h.lt c j;omega))
theorem bg.EP{x:Nat}(h:bg K g H b D)(A:Var 186 H x [.slice none 0 0,.slice none 0 0,.slice none 0 0])(O:ag (x+1) K):
 bg ((x+1)::K) {g with ρ:=ft g.ρ x (.fp D.fs.length),fb:=g.fb++[x]} H b {D with fs:=D.fs++[⟨[],[],[]⟩]}:=by
 have N:g.ρ x= .out:=h.role (fun L=>O (x+1) L x rfl rfl);have he:Ext g.ρ (ft g.ρ x (.fp D.fs.length)):=Ext.ft N;have o:∀i,i<D.fs.length→(g.fb++[x]).getD i 0=g.fb.getD i 0:=fun i F=>by simp[List.getD,List.getElem?_append_left (show i<g.fb.length by rw[h.len];exact F)]
 have P:∀c,(fun _=>False) c→g.ρ c= .out:=fun _ e=>e.elim
 exact{
  cV:=nA h.cV (by simp),lt:=nI h.lt (Nat.le_refl _) A.lt,eE:=he.of h.eE (by simp),bE:=h.bE
  ie:=h.ie,iB:=h.iB,jj:=h.jj,jn:=h.jn,hv:=he.of h.hv (by simp),hm:=h.hm
  gf:=fun q B e=>by
   obtain⟨bS,cW,k,bm,bZ,ew,ak⟩:=h.gf q B e;have n:=ak.L (D':=D) he (W.refl (fun _=>False) H) (fun c av=>av.elim) (fun _ _=>rfl) (fun _ _=>rfl) rfl;refine⟨bS,cW,k,bm,bZ,ew,{n with aC:=xi n.aC (fun y hy=>?_),aj:=xi n.aj (fun y hy=>?_),av:=Fe n.av (qd _) (qe _) (fun c av=>?_)}⟩
   ·have:=h.ids.1 y.1 y.2 (by
     have d:=lV ak.aC.fi.nodup (show(y.1,y.2)∈bZ from hy);rw[ak.gC]at d;split at d
     ·exact d
     ·cases d)
    rw[hM,hM,o _ this]
   ·have:=h.ids.2.1 y.1 y.2 (by
     have d:=lV ak.aj.fi.nodup (show(y.1,y.2)∈ew from hy);rw[ak.es]at d;split at d
     ·exact d
     ·cases d)
    rw[hM,hM,o _ this]
   ·have:=h.ids.2.2 c (List.mem_filter.1 av).1
    unfold hB la
    cases C:c.f with
    |none=>rfl
    |some i=>simp only[Option.map_some];rw[o i (this i C)]
  abs:=h.abs
  len:=by simp[h.len]
  fp:=fun j G=>by
   by_cases r:j<D.fs.length
   ·obtain⟨eJ,bm,fk,k,l,E⟩:=h.fp j r
    have e:bY (D.fs++[⟨[],[],[]⟩]) j=bY D.fs j:=by simp[bY,List.getD,List.getElem?_append_left r]
    rw[o j r];refine⟨eJ,bm,fk,k,l,?_⟩;show iq _ H j _ (bY (D.fs++[⟨[],[],[]⟩]) j) _ _ _ _ _;rw[e];exact E.L he (W.refl (fun _=>False) H) (fun c av=>av.elim)
   ·have J:j=D.fs.length:=by simp at G;omega
    subst J;have e:bY (D.fs++[⟨[],[],[]⟩]) D.fs.length=⟨[],[],[]⟩:=by simp[bY,List.getD]
    have d:(g.fb++[x]).getD D.fs.length 0=x:=by rw[←h.len];simp[List.getD]
    refine⟨⟨none,0,0⟩,⟨none,0,0⟩,⟨none,0,0⟩,0,[],?_⟩;show iq _ H _ ((g.fb++[x]).getD D.fs.length 0) (bY (D.fs++[⟨[],[],[]⟩]) D.fs.length) _ _ _ _ _;rw[e,d];exact{bI:=nZ,cX:=A,aC:=Rd.nil _ _ _ _,aj:=Rd.nil _ _ _ _,hw:=aU.nil qh qi,lw:=rfl,ak:=fun y hy=>(by cases hy),iY:=fun c e=>(by omega)}
  ids:=by
   have M:({D with fs:=D.fs++[⟨[],[],[]⟩]}:aE).fs.length=D.fs.length+1:=by simp
   rw[M];exact⟨fun p i e=>Nat.lt_succ_of_lt (h.ids.1 p i e),fun p i e=>Nat.lt_succ_of_lt (h.ids.2.1 p i e),fun c av i e=>Nat.lt_succ_of_lt (h.ids.2.2 c av i e)⟩
  h_:=h.h_}
theorem bg.EO{bj bS cW:Nat}(h:bg K g H b D)(G:aM g.cy p=none)(J:Var 173 H bj [.map (some bS),.map (some cW),.slice none 0 0])(aC:c0 H aK (hM g.fb) bS ([]:dc))(aj:c0 H aK (hM g.fb) cW ([]:dc))
 (Q:ag (bj+1) K) (R:ag (bS+1) K) (S:ag (cW+1) K) (C:bj≠bS) (E:bj≠cW) (F:bS≠cW) (s:W (aB [g.bF+1]) H ab) (hm:c0 ab aK ptr g.bF (fD g.cy p bj)) (T:g.cy.length+1≤D.ops):
 bg ((bj+1)::(cW+1)::(bS+1)::K) {g with ρ:=ft (ft (ft g.ρ bS (.now p)) cW (.mY p)) bj (.dir p),cy:=fD g.cy p bj} ab b D:=by
 have on:g.ρ bS= .out:=h.role (fun j=>R (bS+1) j bS rfl rfl);have os:g.ρ cW= .out:=h.role (fun j=>S (cW+1) j cW rfl rfl);have L:g.ρ bj= .out:=h.role (fun j=>Q (bj+1) j bj rfl rfl)
 have he:Ext g.ρ (ft (ft (ft g.ρ bS (.now p)) cW (.mY p)) bj (.dir p)):=by
  refine(Ext.ft on).trans ((Ext.ft ?_).trans (Ext.ft ?_))
  ·rw[l7 (Ne.symm F)];exact os
  ·rw[l7 E,l7 C];exact L
 have n:∀c,aB [g.bF+1] c→g.ρ c= .gf:=fun c e=>by
  have:c=g.bF:=by simpa[aB]using e
  rw[this];exact h.hv
 have U:∀c,g.ρ c= .out→c≠g.bF:=fun c e o=>by rw[o,h.hv]at e;cases e
 obtain⟨B,M⟩:=h.abs p G
 exact{
  cV:=nA (nA (nA h.cV (by simp)) (by simp)) (by simp)
  lt:=nI (nI (nI h.lt (Nat.le_refl _) aC.lt) (Nat.le_refl _) aj.lt) s.size (Nat.lt_of_lt_of_le J.lt s.size),eE:=he.of h.eE (by simp)
  bE:=h.bE.up s (fun e=>by have:=n _ e;rw[h.eE]at this;simp at this)
  ie:=h.ie,iB:=h.iB,jj:=h.jj,jn:=h.jn,hv:=he.of h.hv (by simp),hm:=hm
  gf:=fun q N e=>by
   rw[kJ]at e;by_cases d:q=p
   ·rw[if_pos d]at e
    have e:=Option.some.inj e;subst e;subst d;refine⟨bS,cW,0,⟨none,0,0⟩,[],[],?_⟩;have A:∀c,g.ρ c= .out→¬aB [g.bF+1] c:=fun c e o=>by have:=n c o;rw[e]at this;cases this
    exact{rd:=nZ,cJ:=J.up s (A _ L),hi:=by show ft (ft (ft g.ρ bS _) cW _) bj _ bS=_;rw[l7 (Ne.symm C),l7 F,nZ],aC:=aC.up s (A _ on),rs:=by show ft (ft (ft g.ρ bS _) cW _) bj _ cW=_;rw[l7 (Ne.symm E),nZ],aj:=aj.up s (A _ os)
          gC:=fun r=>by
           rw[aM];split
           ·rename_i x;rw[(B r x).1]
           ·rfl
          es:=fun r=>by
           rw[aM];split
           ·rename_i x;rw[(B r x).2]
           ·rfl
          av:=by rw[M];exact aU.nil (qd _) (qe _),rc:=fun c e=>(by omega)}
   ·rw[if_neg d]at e
    obtain⟨bS,cW,k,bm,bZ,ew,ak⟩:=h.gf q N e;exact⟨bS,cW,k,bm,bZ,ew,ak.L he s (fun c av=>by rw[n c av];simp) (fun _ _=>rfl) (fun _ _=>rfl) rfl⟩
  abs:=fun q e=>by
   rw[kJ]at e;by_cases d:q=p
   ·rw[if_pos d]at e;cases e
   ·rw[if_neg d]at e;exact h.abs q e
  len:=h.len
  fp:=fun i P=>by
   obtain⟨eJ,bm,fk,k,l,O⟩:=h.fp i P;exact⟨eJ,bm,fk,k,l,O.L he s (fun c av=>by rw[n c av];simp)⟩
  ids:=h.ids
  h_:=by
   have:(fD g.cy p bj).length=g.cy.length+1:=by simp[fD,G]
   show(fD g.cy p bj).length≤_;omega}
theorem bg.put{c:dA}{B:dc}(h:bg K g H b D)(J:aM g.cy p=some bj)(ak:lC g.ρ g.fb H D p bj bS cW k bm bZ ew)(s:W (aB [bS+1]) H ab)(hm:c0 ab aK (hM g.fb) bS B)(G:∀q,aM B q=c.at q (aM bZ q))
 (F:∀i,c.f=some i→ck c.n=p∧i<D.fs.length) (E:c.g≠[]→ck c.g=p):bg K g ab b {D with now:=c.ap D.now}∧W (aB K) H ab:=by
 have r:∀x,aB [bS+1] x→g.ρ x= .now p:=fun x e=>by
  have:x=bS:=by simpa[aB]using e
  rw[this];exact ak.hi
 have C:∀q I,ck q≠p→c.at q I=I:=fun q I d=>by
  unfold dA.at
  cases o:c.f with
  |none=>
   simp only
   rw[if_neg (fun e=>d (by rw[e.2];exact E e.1))]
  |some i=>
   simp only;rw[if_neg (fun e=>d (by rw[e];exact(F i o).1)),if_neg (fun e=>d (by rw[e.2];exact E e.1))]
 refine⟨?_,h.ms s (fun x e=>by rw[r x e];simp)⟩;have A:∀x,g.ρ x≠ .now p→¬aB [bS+1] x:=fun x L e=>L (r x e);refine h.tq (ρ':=g.ρ) s (fun x e=> .inr (.inl (r x e))) (Ext.refl _) h.cV (fun x e=>Nat.lt_of_lt_of_le (h.lt x e) s.size) J ⟨bS,cW,k,bm,B,ew,?_⟩ ⟨rfl,rfl,rfl,rfl,rfl,rfl⟩ (fun q d=>?_) (fun q d=>rfl) (fun n aC=>rfl) ⟨fun q i e=>?_,h.ids.2.1,h.ids.2.2⟩
 ·exact{rd:=ak.rd,cJ:=ak.cJ.up s (A _ (by rw[ak.rd];simp)),hi:=ak.hi,aC:=hm,rs:=ak.rs,aj:=ak.aj.up s (A _ (by rw[ak.rs];simp))
        gC:=fun q=>by
         show _=if ck q=p then aM (c.ap D.now) q else none;rw[G,ak.gC,qF];split
         ·rfl
         ·rename_i d;exact C q none d
        es:=ak.es,av:=ak.av.up s (fun x _ e=>A x (by rw[ak.rc x e];simp)),rc:=ak.rc}
 ·show aM (c.ap D.now) q=aM D.now q
  rw[qF];exact C q _ d
 ·have e:aM (c.ap D.now) q=some i:=e
  rw[qF]at e;unfold dA.at at e
  cases o:c.f with
  |none=>
   rw[o]at e;simp only at e;split at e
   ·cases e
   ·exact h.ids.1 q i e
  |some j=>
   rw[o]at e;simp only at e;split at e
   ·cases e;exact(F _ o).2
   ·split at e
    ·cases e
    ·exact h.ids.1 q i e
theorem bg.note{c:dA}{a7:Nat}{j:aO}(h:bg K g H b D)(G:aM g.cy p=some bj)(ak:lC g.ρ g.fb H D p bj bS cW k bm bZ ew)(s:W (aB [bj+1,k]) H ab)(L:Var 173 ab bj [.map (some bS),.map (some cW),j.v])(av:aU a7 177 ab (hB g.fb) 3 j.v (D.hA p++[c]))(F:U k H.size a7)
 (r:c.dir=p) (C:∀i,c.f=some i→i<D.fs.length):bg (a7::K) {g with ρ:=gl g.ρ a7 (.mu p)} ab b {D with log:=D.log++[c]}:=by
 have o:∀x,aB [bj+1,k] x→g.ρ x= .dir p∨g.ρ x= .mu p:=fun x e=>by
  have:x+1=bj+1∨x+1=k:=by simpa[aB]using e
  rcases this with e|e
  ·exact .inl (by rw[show x=bj by omega];exact ak.rd)
  ·exact .inr (ak.rc x e)
 have d:Ext g.ρ (gl g.ρ a7 (.mu p)):=Ext.gl (h.xx F ak.rc);have A:∀x,g.ρ x≠ .dir p→g.ρ x≠ .mu p→¬aB [bj+1,k] x:=fun x B V e=>(o x e).elim B V;have E:({D with log:=D.log++[c]}:aE).hA p=D.hA p++[c]:=by simp[aE.hA,r]
 refine h.tq s (fun x e=>(o x e).elim .inl (fun e=> .inr (.inr (.inr (.inl e))))) d (oS h.cV (by simp)) (o3 h.lt s.size av.le) G ⟨bS,cW,a7,j,bZ,ew,?_⟩ ⟨rfl,rfl,rfl,rfl,rfl,rfl⟩ (fun q J=>rfl) (fun q J=>rfl) (fun n aC=>?_) ⟨h.ids.1,h.ids.2.1,fun x M i e=>?_⟩
 ·exact{rd:=d.of ak.rd (by simp),cJ:=L,hi:=d.of ak.hi (by simp),aC:=ak.aC.up s (A _ (by rw[ak.hi];simp) (by rw[ak.hi];simp)),rs:=d.of ak.rs (by simp),aj:=ak.aj.up s (A _ (by rw[ak.rs];simp) (by rw[ak.rs];simp))
        gC:=ak.gC,es:=ak.es,av:=by rw[E];exact av,rc:=fun x e=>pA e}
 ·simp[aE.hA,r,Ne.symm aC]
 ·rcases List.mem_append.1 M with hm|hm
  ·exact h.ids.2.2 x hm i e
  ·rw[List.mem_singleton.1 hm]at e;exact C i e
theorem bg.wo{N:List UInt8}{n:Nat}{q:aO}{bi:Nat}(h:bg K g H b D)(A:i<D.fs.length)(d:iq g.ρ H i (g.fb.getD i 0) (bY D.fs i) eJ bm fk k l)(e:g.fb.getD i 0=bi)(s:W (aB [bi+1]) H ab)(C:Var 186 ab bi [q.v,bm.v,fk.v])(aC:aU n 5 ab a6 1 q.v N)(B:ag n K):
 bg (n::K) {g with ρ:=gl g.ρ n .iT} ab b (D.fq i ⟨N,(bY D.fs i).stays,(bY D.fs i).w⟩):=by
 subst e
 have o:∀x,aB [g.fb.getD i 0+1] x→g.ρ x= .fp i:=fun x e=>by
  have:x=g.fb.getD i 0:=by simpa[aB]using e
  rw[this];exact d.bI
 have j:Ext g.ρ (gl g.ρ n .iT):=Ext.gl (fun c e=> .inl (h.sZ B c e));have r:∀c,aB [g.fb.getD i 0+1] c→g.ρ c≠ .iT:=fun c e=>by rw[o c e];simp
 refine h.tr A s (fun x e=> .inl (o x e)) j (oS h.cV (by simp)) (o3 h.lt s.size aC.le) ⟨q,bm,fk,k,l,?_⟩
 exact{bI:=j.of d.bI (by simp),cX:=C,aC:=aC.rd.imp (fun c _ e=>pA e),aj:=kL d.aj j s r
       hw:=d.hw.up s (fun c _ e av=>by have:=o c av;rw[d.iY c e]at this;cases this),lw:=d.lw,ak:=fun y hy=>kL (d.ak y hy) j s r,iY:=fun c e=>j.of (d.iY c e) (by simp)}
theorem bg.wy{w:dQ}{B C:aO}{j a7 bi:Nat}(h:bg K g H b D)(J:i<D.fs.length)(d:iq g.ρ H i (g.fb.getD i 0) (bY D.fs i) eJ bm fk k l)(e:g.fb.getD i 0=bi)(s:W (aB [bi+1,k]) H ab)(L:Var 186 ab bi [eJ.v,bm.v,C.v])(hw:aU a7 275 ab k_ 2 C.v (l++[(w,B)]))(r:U k H.size a7)
 (ak:aU j 5 ab a6 1 B.v w.d) (F:ag j (a7::K)):
 bg (j::a7::K) {g with ρ:=gl (gl g.ρ a7 (.l8 i)) j .iT} ab b (D.fq i ⟨(bY D.fs i).now,(bY D.fs i).stays,(bY D.fs i).w++[w]⟩):=by
 subst e
 have E:∀x,aB [g.fb.getD i 0+1,k] x→g.ρ x= .fp i∨g.ρ x= .l8 i:=fun x e=>by
  have:x+1=g.fb.getD i 0+1∨x+1=k:=by simpa[aB]using e
  rcases this with e|e
  ·exact .inl (by rw[show x=g.fb.getD i 0 by omega];exact d.bI)
  ·exact .inr (d.iY x e)
 have M:Ext g.ρ (gl g.ρ a7 (.l8 i)):=Ext.gl (h.xx r d.iY)
 have A:∀c,c+1=j→c+1≠a7∧g.ρ c= .out:=fun c e=>by
  have G:c+1≠a7:=fun o=>F a7 List.mem_cons_self c e o;exact⟨G,h.sZ (fun k r=>F k (List.mem_cons_of_mem _ r)) c e⟩
 have N:Ext (gl g.ρ a7 (.l8 i)) (gl (gl g.ρ a7 (.l8 i)) j .iT):=Ext.gl (fun c e=> .inl (by rw[za (A c e).1];exact(A c e).2));have n:=M.trans N;have q:∀c,aB [g.fb.getD i 0+1,k] c→g.ρ c≠ .iT:=fun c e=>by rcases E c e with e|e<;>(rw[e];simp)
 refine h.tr J s (fun x e=>(E x e).elim .inl (fun e=> .inr (.inl e))) n (oS (oS h.cV (by simp)) (by simp)) (o3 (o3 h.lt s.size hw.le) (Nat.le_refl _) ak.le) ⟨eJ,bm,C,a7,l++[(w,B)],?_⟩
 exact{bI:=n.of d.bI (by simp),cX:=L,aC:=kL d.aC n s q,aj:=kL d.aj n s q,hw:=hw,lw:=by rw[List.map_append,d.lw];rfl
       ak:=fun y hy=>by
        rcases List.mem_append.1 hy with hy|hy
        ·exact kL (d.ak y hy) n s q
        ·rw[List.mem_singleton.1 hy];exact ak.rd.imp (fun c _ e=>pA e)
       iY:=fun c e=>by rw[za (fun o=>(A c o).1 e)];exact pA e}
theorem bg.fsync{bi:Nat}(h:bg K g H b D)(o:i<D.fs.length)(d:iq g.ρ H i (g.fb.getD i 0) (bY D.fs i) eJ bm fk k l)(e:g.fb.getD i 0=bi)(s:W (aB [bi+1]) H ab)(q:Var 186 ab bi [eJ.v,eJ.v,.slice none 0 0]):bg K g ab b (D.tG i):=by
 subst e
 have j:∀x,aB [g.fb.getD i 0+1] x→g.ρ x= .fp i:=fun x e=>by
  have:x=g.fb.getD i 0:=by simpa[aB]using e
  rw[this];exact d.bI
 have n:∀c,aB [g.fb.getD i 0+1] c→g.ρ c≠ .iT:=fun c e=>by rw[j c e];simp
 refine h.tr (ρ':=g.ρ) o s (fun x e=> .inl (j x e)) (Ext.refl _) h.cV (fun c e=>Nat.lt_of_lt_of_le (h.lt c e) s.size) ⟨eJ,eJ,⟨none,0,0⟩,0,[],?_⟩;exact{bI:=d.bI,cX:=q,aC:=kL d.aC (Ext.refl _) s n,aj:=kL d.aC (Ext.refl _) s n,hw:=aU.nil qh qi,lw:=rfl,ak:=fun y hy=>(by cases hy),iY:=fun c e=>(by omega)}
theorem iq.ox{d bi:Nat}(h:iq ρ H i d x eJ bm fk k l)(e:d=bi):Var 186 H bi [eJ.v,bm.v,fk.v]:=e▸h.cX
theorem bg.oW{d bi:Nat}(h:bg K g H b D)(j:iq g.ρ H i d x eJ bm fk k l)(e:d=bi):gK K (bi+1):=e▸h.nD j.bI (by simp)
theorem iq.ne{d bi:Nat}(h:iq ρ H i d x eJ bm fk k l)(e:d=bi):af (bi+1) k:=fun c n V=>by
 have j:=h.iY c V;rw[show c=d by omega,h.bI]at j;cases j
theorem bg.vF{s2:Nat}{o:dc}(h:bg K g H b D)(B:e6 D.now)(F:aM g.cy p=some bj)(ak:lC g.ρ g.fb H D p bj bS cW k bm bZ ew)(s:W (aB [bj+1]) H ab)(J:Var 173 ab bj [.map (some bS),.map (some s2),.slice none 0 0])(hm:c0 ab aK (hM g.fb) s2 o)(E:∀q,aM o q=aM bZ q)(C:ag (s2+1) K):
 bg ((s2+1)::K) {g with ρ:=gl g.ρ (s2+1) (.mY p)} ab b (D.mW p):=by
 have r:∀x,aB [bj+1] x→g.ρ x= .dir p:=fun x e=>by
  have:x=bj:=by simpa[aB]using e
  rw[this];exact ak.rd
 have d:Ext g.ρ (gl g.ρ (s2+1) (.mY p)):=Ext.gl (fun c e=> .inl (h.sZ C c e));have G:∀x,g.ρ x≠ .dir p→¬aB [bj+1] x:=fun x d e=>d (r x e);have j:∀q,aM (D.mW p).stays q=if ck q=p then aM D.now q else aM D.stays q:=fun q=>w7 B p q;refine h.tq s (fun x e=> .inl (r x e)) d (oS h.cV (by simp)) (o3 h.lt s.size hm.lt) F ⟨bS,s2,0,⟨none,0,0⟩,bZ,o,?_⟩ ⟨rfl,rfl,rfl,rfl,rfl,rfl⟩ (fun q A=>rfl) (fun q A=>by rw[j,if_neg A]) (fun n aC=>?_) ⟨h.ids.1,fun q i e=>?_,fun c av i e=>h.ids.2.2 c (List.mem_filter.1 av).1 i e⟩
 ·exact{rd:=d.of ak.rd (by simp),cJ:=J,hi:=d.of ak.hi (by simp),aC:=ak.aC.up s (G _ (by rw[ak.hi];simp)),rs:=pA rfl,aj:=hm,gC:=ak.gC
        es:=fun q=>by
         rw[E,ak.gC,j];split<;>rfl
        av:=by
         have:(D.mW p).hA p=[]:=by unfold aE.mW aE.hA;rw[List.filter_filter,List.filter_eq_nil_iff];intro c _;simp
         rw[this];exact aU.nil (qd _) (qe _)
        rc:=fun c e=>(by omega)}
 ·unfold aE.mW aE.hA
  rw[List.filter_filter];refine List.filter_congr (fun c _=>?_);by_cases e:c.dir=n
  ·simp[e,aC]
  ·simp[e]
 ·rw[j]at e
  split at e
  ·exact h.ids.1 q i e
  ·exact h.ids.2.1 q i e
end
end fx

namespace fS
open E Go.RowKit eM e7 fx
def dA.ov(c:dA)(m:dc):dc:=
 let aa:=if c.g=[]then m else eu m c.g
 match c.f with
 |none=>aa
 |some i=>fD aa c.n i
theorem Eh(c:dA)(l:dc)(q:aJ):aM (dA.ov c l) q=c.at q (aM l q):=by
 unfold dA.ov dA.at
 cases c.f with
 |none=>
  simp only;by_cases d:c.g=[]
  ·simp[d]
  ·rw[if_neg d,jm];simp[d]
 |some i=>
  simp only;rw[kJ];by_cases d:c.g=[]
  ·simp[d]
  ·rw[if_neg d,jm];simp[d]
theorem Fv(fb:List Nat)(bS:Nat)(m:dc)(c:dA)(w0:World)(J:Heap)
 (hm:c0 J aK (hM fb) bS m):
 aG Tryz.prog w0 78 #[.map (some bS),.agg (hB fb c).toArray] J (fun r E=>(c0 E aK (hM fb) bS (dA.ov c m))∧W (aB [(bS+1)]) J E):=by
 refine aG.enter (args:=[.map (some bS),.agg (hB fb c).toArray]) Tryz.func78 rfl rfl rfl ?_;intro ae N;have j:W (aB [(bS+1)]) J J:=W.refl _ _;have F:=U.refl (bS+1) J.size;have ar:=hm.lt;refine G.L (fun Q=>?_);refine o.aS cY ?_;rintro v3 k ⟨rfl,d,A,aF,ap⟩;have ay:k.size=J.size+1:=by rw[ap];simp
 have R:af (bS+1) (J.size+1):=af.new hm.lt;have hm:=hm.N A;have j:=j.a8 A;have ai:=A.size;have d:Var 177 k J.size (hB fb c):=d;refine o.nil (Q ?_)
 refine G.cut (fun(aa:(dc))=>[(0,.map (some bS)),(3,.pointer (some ⟨J.size,0,none⟩))])
  (fun(aa:(dc)) (H:Heap)=>(c0 H aK (hM fb) bS aa)∧(aa=if c.g=[]then m else eu m c.g)∧W (aB [(bS+1)]) k H) (fun _ al _=>?_) ?_
 ·
  have q:W (aB [(bS+1)]) k k:=W.refl _ _;have ac:=U.refl (bS+1) k.size;refine G.L (fun T=>?_);refine o.v1 (Y.an d.O rfl py rfl bV) ?_;refine o.v1 (au d.O bR) ?_;refine o.v1 (Y.iZ rfl rfl rfl) (o.nil (T ?_));refine aW (fun B=>?_) (fun B=>?_)
  ·
   refine G.region ?_;refine o.aa ?_;refine o.v1 (Y.an d.O rfl py rfl bV) ?_;refine o.v1 (au d.O bR) ?_;refine o.rq (Z.qb hm gp rfl ri Tryz.underlying9 rfl rfl) cM rfl (fun az aC P=>?_);obtain⟨rfl,hm,ad⟩:=P;have ad:=ad.bB;have q:=q.aL ad (ah.I (ao.r ac));have an:=ad.size;refine o.nil ?_;refine aR.sub (al (eu m c.g) _ ?_) ⟨rfl,rfl,trivial⟩;exact⟨hm,by rw[if_neg (by simpa using B)],q⟩
  ·
   refine G.skip ?_;refine aR.sub (al m _ ?_) ⟨rfl,rfl,trivial⟩;exact⟨hm,by rw[if_pos (by simpa using B)],q⟩
 ·
  intro aa aw O;obtain⟨hm,M,K⟩:=O;have d:=d.ae K (ag.I R.symm);have j:=j.aL K (ah.I (ao.r F));refine G.L (fun X=>?_);refine o.v1 (Y.an d.O rfl py rfl ym) ?_;refine o.v1 (au (d.O.drop 2) uh) ?_;refine o.v1 (Y.qX rfl (by kernel_rfl) (by kernel_rfl) rfl rfl) (o.nil (X ?_));refine cL (fun n=>?_) (fun n=>?_)
  ·
   obtain⟨i,L⟩:∃i,c.f=some i:=by
    cases C:c.f with
    |none=>rw[C]at n;cases n
    |some i=>exact⟨i,rfl⟩
   refine G.region ?_;refine o.aa ?_;refine o.v1 (Y.an d.O rfl py rfl bV) ?_;refine o.v1 (au (d.O.drop 1) bR) ?_;refine o.v1 (Y.an d.O rfl py rfl ym) ?_;refine o.v1 (Y.cast (v2:=hM fb i) (au (d.O.drop 2) uh) (by rw[L];rfl)) ?_;refine o.s1 (S.l0 (i) hm gp rfl ri Tryz.underlying9 rfl rfl rfl) fun aD am=>?_;obtain⟨hm,x⟩:=am;have x:=x.bB;have j:=j.aL x (ah.I (ao.r F));refine o.nil ?_;refine N .normal (.inl rfl) _ _ _ (iG rfl) ?_;exact⟨by rw[dA.ov,←M,L];exact hm,j⟩
  ·
   refine G.skip ?_;refine N .normal (.inl rfl) _ _ _ (iG rfl) ?_
   exact⟨by
    have ab:c.f=none:=by
     cases C:c.f with
     |none=>rfl
     |some i=>rw[C]at n;cases n
    rw[dA.ov,←M,ab];exact hm,j⟩
theorem zK(e:TypeId)(b:Nat)(cs:List Value)(x y:Int)(w0:World)(J:Heap)
 (d:Var e J b cs) (av:cs[3]?=some (.int .i64 x)) (A: -9223372036854775808≤x+y∧x+y≤9223372036854775807):
 aG Tryz.prog w0 225 #[.pointer (some ⟨b,3,none⟩),.int .i64 y] J (fun r k=>r= .int .i64 (x+y)∧(Var e k b (cs.set 3 (.int .i64 (x+y))))∧W (aB [(b+1)]) J k):=by
 refine aG.aN [.pointer (some ⟨b,3,none⟩),.int .i64 y] Tryz.func225 ?_;intro C q;have j:W (aB [(b+1)]) J J:=W.refl _ _;have n:=U.refl (b+1) J.size;refine G.L (fun ac=>?_);refine o.al ?_;refine ac (G.L (fun ad=>?_));refine o.az 2 ?_;refine o.v1 (Y.an (d.O.drop 3) rfl Hk rfl Gj) ?_;refine o.aa ?_;refine o.aS (Z.zG d av rfl Tryz.func259 (by kernel_rfl) (by kernel_rfl) (by kernel_rfl) (by kernel_rfl) rfl A) ?_;rintro v9 B ⟨rfl,d,i⟩;have i:=i.bB;have j:=j.aL i (ah.I (ao.r n));refine o.al ?_;refine ad ?_;refine G.ret (q ?_);exact⟨rfl,d,j⟩
section
variable {w0 : World} {n : Nat} {l : bO} {H : Heap} {I : Oper} {K : List Nat} {g : ct} {b cP : Nat} {D : aE} {x y : Operand} {t : TypeId}
theorem Fm(h:bg K g H b D)(cP:Nat)(j:I.op= .store t x y)(k:aH l x=some (.pointer (some ⟨b,4,none⟩)))(hy:aH l y=some (.int .i64 (cP:Int)))(aj:∀w,(sizeOf t).run Tryz.prog w= .ok 1 w)(i:cP≤9223372036854775807):
 S Tryz.prog w0 n l H I (fun ab=>bg K {g with cP:=cP} ab b {D with left:=cP}∧W (aB K) H ab):=
 (S.tW h.bE 4 _ j k hy rfl aj (by simp) rfl).mono fun ab ⟨d,V⟩=>⟨h.ts V.bB ⟨rfl,rfl,rfl,rfl⟩ d (fun _=>rfl) i ⟨rfl,rfl,rfl,rfl,rfl,rfl⟩ (Nat.le_refl _),h.ms V (fun c e=>by rw[e,h.eE];simp)⟩
theorem xS(h:bg K g H b D)(dd:Bool)(i:dd=false→D.dead=false)(j:I.op= .store t x y)(k:aH l x=some (.pointer (some ⟨b,5,none⟩)))(hy:aH l y=some (.bool dd))(aj:∀w,(sizeOf t).run Tryz.prog w= .ok 1 w):
 S Tryz.prog w0 n l H I (fun ab=>bg K g ab b {D with dead:=dd}∧W (aB K) H ab):=
 (S.tW h.bE 5 _ j k hy rfl aj (by simp) rfl).mono fun ab ⟨d,V⟩=>⟨h.ts V.bB ⟨rfl,rfl,rfl,rfl⟩ d (fun e=>h.ie (i e)) h.iB ⟨rfl,rfl,rfl,rfl,rfl,rfl⟩ (Nat.le_refl _),h.ms V (fun c e=>by rw[e,h.eE];simp)⟩
theorem Fo(h:bg K g H b D)(ak:D.dead=true)(x:Nat):bg K g H b {D with left:=x}:=
 {h with
  ie:=fun e=>(by rw[show({D with left:=x}:aE).dead=D.dead from rfl,ak]at e;cases e)
  gf:=fun p bj e=>(by
   obtain⟨bS,cW,k,bm,bZ,ew,q⟩:=h.gf p bj e;exact⟨bS,cW,k,bm,bZ,ew,{q with gC:=q.gC,es:=q.es,av:=q.av}⟩)}
theorem rQ{dd:Bool}{x:Nat}(j:D.dead=false→cP=D.left)(h:bg K g H b {D with left:=x,dead:=dd})(i:dd=true)(d:D.dead=true∨(D.dead=false∧cP=1∧x=0)):bg K g H b D.begin.2∧ .bool false=Value.bool D.begin.1:=by
 subst i;rcases d with ak|⟨ak,k,V⟩
 ·have e:D.begin=(false,D):=by unfold aE.begin;rw[if_pos ak]
  rw[e];refine⟨?_,rfl⟩;have:=Fo h rfl D.left;obtain⟨cap,most,fs,now,stays,log,ops,left,dead⟩:=D;simp only at ak;subst ak;exact this
 ·have:=j ak
  have e:D.begin=(false,{D with left:=0,dead:=true}):=by unfold aE.begin;rw[if_neg (by simp[ak]),if_pos (by omega)]
  rw[e];subst V;exact⟨h,rfl⟩
theorem m_{dd:Bool}{x:Nat}(h:bg K g H b {D with left:=x,dead:=dd,ops:=D.ops+1})(i:dd=false)(ak:D.dead=false)(d:D.left≠1)(j:x=D.left-1):bg K g H b D.begin.2∧ .bool true=Value.bool D.begin.1:=by
 subst i;subst j;have e:D.begin=(true,{D with left:=D.left-1,ops:=D.ops+1}):=by unfold aE.begin;rw[if_neg (by simp[ak]),if_neg d]
 rw[e];obtain⟨cap,most,fs,now,stays,log,ops,left,dead⟩:=D;simp only at ak;subst ak;exact⟨h,rfl⟩
end
theorem rJ{K:List Nat}{g:ct}{b:Nat}{D:aE}(w0:World)(J:Heap)(h:bg K g J b D)(k:D.ops≤1099511627776):aG Tryz.prog w0 225 #[.pointer (some ⟨b,3,none⟩),.int .i64 1] J (fun r d=>r= .int .i64 ((D.ops:Int)+1)∧bg K g d b {D with ops:=D.ops+1}∧W (aB K) J d):=
 (zK _ b _ (D.ops:Int) 1 w0 J h.bE rfl (by omega)).mono fun r d ⟨j,V,i⟩=>⟨j,h.ts i ⟨rfl,rfl,rfl,rfl⟩ V h.ie h.iB ⟨rfl,rfl,rfl,rfl,rfl,rfl⟩ (Nat.le_succ _),h.ms i (fun c e=>by
  have:c=b:=by simpa[aB]using e
  rw[this,h.eE];simp)⟩
theorem pV(K:List Nat)(g:ct)(b:Nat)(D:aE)(w0:World)(J:Heap)
 (i:bg K g J b D) (O:D.ops≤1099511627776):
 aG Tryz.prog w0 184 #[ptr b] J (fun r P=>∃g2:ct,r= .bool D.begin.1∧(bg K g2 P b D.begin.2)∧(g2.ρ=g.ρ∧g2.fb=g.fb∧g2.bF=g.bF∧g2.cy=g.cy)∧W (aB K) J P):=by
 refine aG.aN [ptr b] Tryz.func184 ?_;intro aJ F;have q:W (aB K) J J:=W.refl _ _;have E:=aT.refl K J.size;have M:=i.aD;have aR:=i.iB;have B:=i.ie;refine G.L (fun U=>?_);refine o.al ?_;refine U (G.t1 (fun aw=>G.L (fun X=>?_)));refine o.az 2 ?_;refine o.v1 (Y.an i.bE.O rfl hb rfl b6) ?_;refine o.v1 (au (i.bE.O.drop 4) cE) ?_;refine o.v1 eX (o.nil (X ?_));refine aW (fun cB=>?_) (fun cB=>?_)
 ·
  refine G.L (fun Z=>?_);refine o.az 2 ?_;refine o.v1 (Y.an i.bE.O rfl hb rfl b6) ?_;refine o.v1 (au (i.bE.O.drop 4) cE) ?_;refine o.v1 (Y.cast (v2:= .int .i64 ((g.cP-1:Nat):Int)) fG (fh (by omega))) ?_;refine o.bG ?_;refine o.v1 (Y.an i.bE.O rfl hb rfl b6) ?_;refine o.s1 (Fm i (g.cP-1) rfl rfl rfl b6 (by omega)) fun aK am=>?_;obtain⟨i,R⟩:=am;have q:=q.aL R (ah.ca (E) (by intro k C;simp[C]));have aL:=R.size;have M:=i.aD;refine o.nil (Z (G.region ?_));refine o.az 3 ?_;refine o.v1 (Y.an i.bE.O rfl hb rfl dz) ?_;refine o.v1 (au (i.bE.O.drop 5) ec) ?_;refine o.aa ?_;refine o.split (d:=20) rfl (fun A=>?_) (fun A=>?_)
  ·
   refine o.az 7 ?_;refine o.v1 (Y.an i.bE.O rfl hb rfl dz) ?_;refine o.s1 (xS i _ (by intro h;first|exact A|cases h) rfl rfl rfl dz) fun al N=>?_;obtain⟨i,ac⟩:=N;have q:=q.aL ac (ah.ca (E) (by intro k C;simp[C]));have aM:=ac.size;have M:=i.aD;refine o.nil (aw (G.t2 (fun aa ab=>G.L (fun ae=>?_))));refine o.az 2 ?_;refine o.v1 (Y.an i.bE.O rfl hb rfl dz) ?_;refine o.v1 (au (i.bE.O.drop 5) ec) (o.nil (ae ?_));refine cL (fun j=>?_) (fun j=>?_)
   ·
    first
    |(simp at j;done)
    |skip
     refine G.L (fun af=>?_);refine o.al ?_;refine af ?_;refine G.ret (ab (F ?_));have n:=rQ B i (by first|rfl|exact j) (by first|exact .inl A|exact .inr ⟨A,by simp at j;omega,by simp at j;omega⟩);exact⟨_,n.2,n.1,⟨rfl,rfl,rfl,rfl⟩,q⟩
   ·
    first
    |(simp at j;done)
    |skip
     refine G.skip (aa (G.L (fun ag=>?_)));refine o.az 2 ?_;refine o.v1 (Y.an i.bE.O rfl hb rfl tn) ?_;refine aV rX (rJ w0 _ i O) (fun Q H L=>?_);obtain⟨rfl,i,ad⟩:=L;have q:=q.aL ad (ah.ca (E) (by intro k C;simp[C]));have aN:=ad.size;refine o.nil (ag (G.L (fun ai=>?_)));refine o.al ?_;refine ai ?_;refine G.ret (F ?_)
     obtain⟨g2,n⟩:∃g2:ct,(bg K g2 H b D.begin.2∧ .bool true=Value.bool D.begin.1)∧(g2.ρ=g.ρ∧g2.fb=g.fb∧g2.bF=g.bF∧g2.cy=g.cy):=by
      first
      |exact⟨_,m_ (x:=g.cP-1) i (by simpa using j) A (by have:=B A;simp at j;omega) (by have:=B A;omega),rfl,rfl,rfl,rfl⟩
      |exact⟨_,m_ (x:=D.left) (dd:=D.dead) i (by simpa using j) (by simpa using j) (by have:=B (by simpa using j);omega) (by have:=B (by simpa using j);omega),rfl,rfl,rfl,rfl⟩
     exact⟨g2,n.1.2,n.1.1,n.2,q⟩
  ·
   refine o.bJ ?_;refine o.ar (Y.nilCheck rfl rfl) ?_;refine o.ar (Y.an i.bE.O rfl hb rfl b6) ?_;refine o.ar (au (i.bE.O.drop 4) cE) ?_;refine o.ar cb ?_;refine o.az 2 ?_;refine o.v1 (Y.an i.bE.O rfl hb rfl dz) ?_;refine o.s1 (xS i _ (by intro h;first|exact A|cases h) rfl rfl rfl dz) fun al N=>?_;obtain⟨i,ac⟩:=N;have q:=q.aL ac (ah.ca (E) (by intro k C;simp[C]));have aO:=ac.size;have M:=i.aD;refine o.nil (aw (G.t2 (fun an ap=>G.L (fun ar=>?_))));refine o.az 2 ?_;refine o.v1 (Y.an i.bE.O rfl hb rfl dz) ?_;refine o.v1 (au (i.bE.O.drop 5) ec) (o.nil (ar ?_));refine cL (fun j=>?_) (fun j=>?_)
   ·
    first
    |(simp at j;done)
    |skip
     refine G.L (fun ay=>?_);refine o.al ?_;refine ay ?_;refine G.ret (ap (F ?_));have n:=rQ B i (by first|rfl|exact j) (by first|exact .inl A|exact .inr ⟨A,by simp at j;omega,by simp at j;omega⟩);exact⟨_,n.2,n.1,⟨rfl,rfl,rfl,rfl⟩,q⟩
   ·
    first
    |(simp at j;done)
    |skip
     refine G.skip (an (G.L (fun az=>?_)));refine o.az 2 ?_;refine o.v1 (Y.an i.bE.O rfl hb rfl tn) ?_;refine aV rX (rJ w0 _ i O) (fun Q H L=>?_);obtain⟨rfl,i,ad⟩:=L;have q:=q.aL ad (ah.ca (E) (by intro k C;simp[C]));have aP:=ad.size;refine o.nil (az (G.L (fun aC=>?_)));refine o.al ?_;refine aC ?_;refine G.ret (F ?_)
     obtain⟨g2,n⟩:∃g2:ct,(bg K g2 H b D.begin.2∧ .bool true=Value.bool D.begin.1)∧(g2.ρ=g.ρ∧g2.fb=g.fb∧g2.bF=g.bF∧g2.cy=g.cy):=by
      first
      |exact⟨_,m_ (x:=g.cP-1) i (by simpa using j) A (by have:=B A;simp at j;omega) (by have:=B A;omega),rfl,rfl,rfl,rfl⟩
      |exact⟨_,m_ (x:=D.left) (dd:=D.dead) i (by simpa using j) (by simpa using j) (by have:=B (by simpa using j);omega) (by have:=B (by simpa using j);omega),rfl,rfl,rfl,rfl⟩
     exact⟨g2,n.1.2,n.1.1,n.2,q⟩
 ·
  refine G.skip (aw (G.t2 (fun aD aF=>G.L (fun aH=>?_))));refine o.az 2 ?_;refine o.v1 (Y.an i.bE.O rfl hb rfl dz) ?_;refine o.v1 (au (i.bE.O.drop 5) ec) (o.nil (aH ?_));refine cL (fun j=>?_) (fun j=>?_)
  ·
   first
   |(simp at j;done)
   |skip
    refine G.L (fun aI=>?_);refine o.al ?_;refine aI ?_;refine G.ret (aF (F ?_));have n:=rQ (x:=D.left) (dd:=D.dead) B i (by simpa using j) (.inl (by simpa using j));exact⟨_,n.2,n.1,⟨rfl,rfl,rfl,rfl⟩,q⟩
  ·
   first
   |(simp at j;done)
   |skip
    refine G.skip (aD (G.L (fun S=>?_)));refine o.az 2 ?_;refine o.v1 (Y.an i.bE.O rfl hb rfl tn) ?_;refine aV rX (rJ w0 _ i O) (fun Q H L=>?_);obtain⟨rfl,i,ad⟩:=L;have q:=q.aL ad (ah.ca (E) (by intro k C;simp[C]));have aQ:=ad.size;refine o.nil (S (G.L (fun T=>?_)));refine o.al ?_;refine T ?_;refine G.ret (F ?_)
    obtain⟨g2,n⟩:∃g2:ct,(bg K g2 H b D.begin.2∧ .bool true=Value.bool D.begin.1)∧(g2.ρ=g.ρ∧g2.fb=g.fb∧g2.bF=g.bF∧g2.cy=g.cy):=by
     first
     |exact⟨_,m_ (x:=g.cP-1) i (by simpa using j) A (by have:=B A;simp at j;omega) (by have:=B A;omega),rfl,rfl,rfl,rfl⟩
     |exact⟨_,m_ (x:=D.left) (dd:=D.dead) i (by simpa using j) (by simpa using j) (by have:=B (by simpa using j);omega) (by have:=B (by simpa using j);omega),rfl,rfl,rfl,rfl⟩
    exact⟨g2,n.1.2,n.1.1,n.2,q⟩
section
open Go.MapKept
variable {P : Program} {w0 : World} {n : Nat} {l : bO} {H : Heap} {I : Oper} {κ β : Type} [DecidableEq κ] {aQ : Nat → Prop} {a1 : κ → Value} {fv : β → Value} {v : Value} {m : List (κ × β)} {d : TypeDesc}
theorem sD{t eW j:TypeId}{x i:Operand}{k:κ}(ad:β→Addr)(h:hn aQ H a1 fv v m)(B:∀b,fv b= .pointer (some (ad b)))(A:kY d a1)(F:I.op= .lookup t x i false)(hm:∀w,(underlying t).run P w= .ok (.map eW j) w)(E:P.underlying eW=some d)(J:∀w,(zeroValue j).run P w= .ok (.pointer none) w)
 (G:aH l x=some v) (C:aH l i=some (a1 k)):Y P w0 n l H I (.pointer ((aM m k).map ad)):=by
 intro a w q r;have o:=yj (ok:=false) (k:=k) h A r hm E J;simp only[Bool.false_eq_true,if_false]at o
 have V:(Instr.lookup t v (a1 k) false).run P w= .ok (.pointer ((aM m k).map ad)) w:=by
  rw[o]
  cases aM m k with
  |none=>rfl
  |some b=>simp[B]
 simp[execOp,F,q.eval G,q.eval C,V]
end
abbrev uv(b:Nat):Addr:=⟨b,0,none⟩
theorem ql(bb:Int)(K:List Nat)(g:ct)(b:Nat)(D:aE)(p:aJ)(w0:World)(J:Heap)
 (aI:dP bb J) (M:bk (fun b=>b=0) J.size) (j:bg K g J b D) (O:p.length≤4294967280):
 aG Tryz.prog w0 168 #[ptr b,aK p] J (fun r P=>r= .tuple #[.pointer (la g.fb (if D.look p=0 then aM D.now p else none)),.int .i64 (D.look p:Int)]∧aq J P):=by
 refine aG.aN [ptr b,aK p] Tryz.func168 ?_;intro an C;have k:aq J J:=W.refl _ _;have az:=j.aD;refine G.L (fun Z=>?_);refine o.aP 2 ?_;refine Z (G.t2 (fun ap aa=>G.L (fun ab=>?_)));refine o.aa ?_;refine aV mq (mH bb p w0 _ aI (M.mono (by omega)) O) ?_;rintro v9 L ⟨rfl,B⟩;have aI:=aI.N B;have j:=j.N B;have k:=k.L B;have ar:=B.size;refine o.v1 eG (o.nil (ab ?_));refine cL (fun A=>?_) (fun A=>?_)
 ·
  refine G.L (fun ae=>?_);refine o.aP 2 ?_;refine ae ?_;refine G.ret (aa (C ?_))
  have n:D.look p=7:=by
   unfold aE.look;rw[if_neg (by simpa using A)]
  exact⟨by rw[n];rfl,k⟩
 ·
  refine G.skip (ap (G.t2 (fun aw af=>G.t1 (fun ag=>?_))));refine dg (fun x=>aq L x) [] ?_;have q:=aq.refl L;refine T.aa 0 rfl q ?_;refine T.bG 1 rfl q ?_;refine T.t1 2 rfl (fun x d=>Y.an (j.bE.O.N d) rfl hb rfl q4) q ?_;refine T.t1 3 rfl (fun x d=>au ((j.bE.O.drop 2).N d) pP) q ?_;refine T.aa 4 rfl q ?_;refine T.aX 5 ?_;refine b7 nh (nj bb p w0 _ aI (M.mono (by omega)) O) (fun ay am ah=>?_);obtain⟨rfl,F⟩:=ah;have j:=j.N F;have k:=k.L F;have R:=q.L F;refine T.cD R ?_;have E:=aq.refl am;refine T.t1 6 rfl (fun x d=>sD uv (j.hm.fi.N d) (fun _=>rfl) gp rfl rj Tryz.underlying9 zp rfl rfl) E ?_;refine T.t1 7 rfl (fun x d=>e5) E ?_;refine cI ?_;have aB:=E;refine ag (G.L (fun ai=>?_));refine o.aa ?_;refine o.v1 (Y.qX rfl (by kernel_rfl) (by kernel_rfl) rfl rfl) (o.nil (ai ?_));refine cL (fun ac=>?_) (fun ac=>?_)
  ·
   obtain⟨bj,N⟩:∃bj,aM g.cy (ck p)=some bj:=by
    cases d:aM g.cy (ck p)with
    |none=>rw[d]at ac;cases ac
    |some bj=>exact⟨bj,rfl⟩
   obtain⟨bS,cW,aC,bm,bZ,ew,ak⟩:=j.gf _ bj N;refine G.L (fun al=>?_);refine o.v1 (Y.cast (v2:=ptr bj) fl (by rw[N];rfl)) ?_;refine o.bG ?_;refine o.v1 (Y.an ak.cJ.O rfl kl rfl mR) ?_;refine o.v1 (Y.an (ak.cJ.O.drop 0) rfl mZ rfl ln) ?_;refine o.v1 (au ((ak.cJ.O.drop 0).drop 0) oq) ?_;refine o.aa ?_;refine o.v1 (Y.cast (v2:= .pointer (la g.fb (aM D.now p))) (sD (fun i=>⟨g.fb.getD i 0,0,none⟩) ak.aC.fi (fun _=>rfl) gp rfl ri Tryz.underlying9 HN rfl rfl) (by rw[ak.gC p,if_pos rfl])) ?_;refine o.al ?_;refine al (G.L (fun Q=>?_));refine o.aa ?_;refine o.v1 (Y.qX rfl (by kernel_rfl) (by kernel_rfl) rfl rfl) (o.nil (Q ?_));refine cL (fun ad=>?_) (fun ad=>?_)
   ·
    refine G.L (fun S=>?_);refine o.aP 3 ?_;refine S ?_;refine G.ret (af (C ?_))
    have n:D.look p=0:=by
     unfold aE.look
     rw[if_pos (by simpa using A),if_pos (by cases d:aM D.now p with
      |none=>rw[d]at ad;cases ad
      |some i=>rfl)]
    exact⟨by rw[n,if_pos rfl];rfl,k⟩
   ·
    refine G.skip (aw (G.L (fun U=>?_)));refine o.aP 2 ?_;refine U ?_;refine G.ret (C ?_)
    have n:D.look p=2:=by
     unfold aE.look;rw[if_pos (by simpa using A),if_neg]
     first
     |(cases d:aM D.now p with
      |none=>simp
      |some i=>rw[d]at ad;cases ad)
     |(have H:aM g.cy (ck p)=none:=(by cases d:aM g.cy (ck p)with
       |none=>rfl
       |some bj=>rw[d]at ac;cases ac)
       rw[((j.abs _ H).1 p rfl).1];simp)
    exact⟨by rw[n];rfl,k⟩
  ·
   refine G.skip (aw (G.L (fun X=>?_)));refine o.aP 2 ?_;refine X ?_;refine G.ret (C ?_)
   have n:D.look p=2:=by
    unfold aE.look;rw[if_pos (by simpa using A),if_neg]
    first
    |(cases d:aM D.now p with
     |none=>simp
     |some i=>rw[d]at ad;cases ad)
    |(have H:aM g.cy (ck p)=none:=(by cases d:aM g.cy (ck p)with
      |none=>rfl
      |some bj=>rw[d]at ac;cases ac)
      rw[((j.abs _ H).1 p rfl).1];simp)
   exact⟨by rw[n];rfl,k⟩
end fS

namespace gm
open E Go.RowKit eM e7 fx fS
section
variable {H : Heap} {b bF : Nat}
theorem bg.new(cap most:Nat)(d:Var 102 H b [.int .i64 cap,.int .i64 most,.map (some bF),.int .i64 0,.int .i64 0,.bool false])(hm:c0 H aK ptr bF ([]:List (aJ×Nat)))(av:cap≤9223372036854775807)(k:most≤9223372036854775807)(n:b≠bF):
 bg [b+1,bF+1] ⟨ft (ft (fun _=> .out) bF .gf) b .fs,[],bF,[],0⟩ H b (aE.empty cap most) where
 cV:=nA (nA (K:=[]) (ρ:=fun _=> .out) (fun c=>by simp) (by simp)) (by simp)
 lt:=nI (nI (H:=H) (fun c h=>absurd rfl h) (Nat.le_refl _) hm.lt) (Nat.le_refl _) d.lt
 eE:=nZ
 bE:=d
 ie:=fun _=>rfl
 iB:=by simp
 jj:=av
 jn:=k
 hv:=by show ft (ft (fun _=> .out) bF .gf) b .fs bF=_;rw[l7 (Ne.symm n),nZ]
 hm:=hm
 gf:=fun p bj e=>(by cases e)
 abs:=fun p _=>⟨fun q _=>⟨rfl,rfl⟩,rfl⟩
 len:=rfl
 fp:=fun i j=>(by simp[aE.empty]at j)
 ids:=⟨fun p i e=>(by cases e),fun p i e=>(by cases e),fun c av=>(by cases av)⟩
 h_:=Nat.le_refl _
end
theorem qN(cap most:Nat)(w0:World)(J:Heap)
 (av:cap≤9223372036854775807) (Q:most≤9223372036854775807):
 aG Tryz.prog w0 12 #[.int .i64 (cap:Int),.int .i64 (most:Int)] J (fun r n=>∃K:List Nat,∃g:ct,∃b:Nat,r= .tuple #[ptr b,.int .i64 0]∧(bg K g n b (aE.empty cap most))∧(aT [] J.size K)∧aq J n):=by
 refine aG.aN [.int .i64 (cap:Int),.int .i64 (most:Int)] Tryz.func12 ?_;intro S R;have d:aq J J:=W.refl _ _;refine G.L (fun C=>?_);refine o.aP 2 ?_;refine C (G.t1 (fun E=>G.L (fun aw=>?_)));refine o.aa ?_;refine o.v1 ((bH).fC (by omega)) ?_;refine o.az 2 ?_;refine o.ar ((bH).fC (by omega)) ?_;refine o.dy ?_;refine o.nil (aw ?_);refine dK ?_;refine G.skip (E (G.L (fun am=>?_)));refine o.az 2 ?_;refine o.aS (Z.nJ aK ptr rfl) fun af ac F=>?_;obtain⟨rfl,i,q,ap,A⟩:=F;have aa:ac.size=J.size+1:=by rw[A];simp
 have H:U 0 J.size (J.size+1):=U.new d.size;have d:=d.L q;have ag:=q.size;have ad:=i.lt;refine o.v1 (Y.build (v:= .agg #[.int .i64 cap,.int .i64 most,.map (some J.size),.int .i64 0,.int .i64 0,.bool false]) rfl rfl (by intro w;kernel_rfl)) ?_;refine o.aS cY fun T x L=>?_;obtain⟨rfl,k,j,ae,B⟩:=L;have ab:x.size=ac.size+1:=by rw[B];simp
 have M:U 0 J.size (ac.size+1):=U.new d.size;have i:=i.N j;have d:=d.L j;have X:=j.size;have k:Var 102 x ac.size ([.int .i64 cap,.int .i64 most,.map (some J.size),.int .i64 0,.int .i64 0,.bool false]):=k;have N:=aT.cons (H) (aT.refl [] _);have O:=aT.cons (M) (N);have P:=bg.new cap most k i av Q (by omega);refine o.aP 2 ?_;refine am ?_;refine G.ret (R ?_);exact⟨_,_,_,rfl,P,O,d⟩
theorem HZ(a m:Int)(w0:World)(J:Heap)
 (aC:a<0∨m<0):
 aG Tryz.prog w0 12 #[.int .i64 a,.int .i64 m] J (fun r q=>r= .tuple #[.pointer none,.int .i64 1]∧aq J q):=by
 refine aG.aN [.int .i64 a,.int .i64 m] Tryz.func12 ?_;intro A n;have k:aq J J:=W.refl _ _;refine G.L (fun ac=>?_);refine o.aP 2 ?_;refine ac (G.t2 (fun _ i=>G.L (fun j=>?_)));refine o.aa ?_;refine o.v1 bH ?_;refine o.aa ?_;refine o.bp (d:=8) rfl (fun g8=>?_) (fun g8=>?_)
 ·
  refine o.az 2 ?_;refine o.v1 (Y.cast (v2:= .bool true) eS (by first|rfl|(congr 1;simp;omega))) (o.nil (j ?_));refine G.h9 rfl ?_;refine G.L (fun ad=>?_);refine o.aP 2 ?_;refine ad ?_;refine G.ret (i (n ?_));exact⟨rfl,k⟩
 ·
  refine o.bJ ?_;refine o.ar bH ?_;refine o.v1 (Y.cast (v2:= .bool true) er (by first|rfl|(congr 1;simp;omega))) (o.nil (j ?_));refine G.h9 rfl ?_;refine G.L (fun x=>?_);refine o.aP 2 ?_;refine x ?_;refine G.ret (i (n ?_));exact⟨rfl,k⟩
theorem x2(bb:Int)(K:List Nat)(g:ct)(b:Nat)(D:aE)(p:aJ)(w0:World)(J:Heap)
 (aI:dP bb J) (ah:bk (fun b=>b=0) J.size) (j:bg K g J b D) (al:p.length≤4294967280) (ai:∀i,(bY D.fs i).now.length≤1099511627776):
 aG Tryz.prog w0 89 #[ptr b,aK p] J (fun r F=>∃s:aO,∃k:Nat,r= .tuple #[s.v,.int .i64 (D.eQ p:Int)]∧(aU k 5 F a6 1 s.v (D.ch p))∧(U 0 J.size k)∧aq J F):=by
 refine aG.aN [ptr b,aK p] Tryz.func89 ?_;intro ar E;have n:aq J J:=W.refl _ _;have ad:=j.aD;refine G.L (fun P=>?_);refine o.aP 2 ?_;refine P (G.t2 (fun Q R=>G.L (fun aw=>?_)));refine o.az 2 ?_;refine o.v1 (Y.an j.bE.O rfl hb rfl dz) ?_;refine o.v1 (au (j.bE.O.drop 5) ec) (o.nil (aw ?_));refine cL (fun ac=>?_) (fun ac=>?_)
 ·
  refine G.L (fun am=>?_);refine o.aP 2 ?_;refine am ?_;refine G.ret (R (E ?_));have d:D.eQ p=11:=by unfold aE.eQ;rw[if_pos ac]
  have x:D.ch p=[]:=by unfold aE.ch;rw[if_neg (by rw[d];omega)]
  exact⟨⟨none,0,0⟩,0,by rw[d];rfl,by rw[x];exact aU.nil et fB,U.refl _ _,n⟩
 ·
  refine G.skip (Q (G.L (fun S=>?_)));refine o.az 2 ?_;refine aV pY (ql bb K g b D p w0 _ aI (ah.mono (by omega)) j al) (fun ay az ap=>?_);obtain⟨rfl,B⟩:=ap;have j:=j.N B;have n:=n.L B;have aB:=B.size;refine o.aa ?_;refine o.v1 cF ?_;refine o.v1 cF ?_;refine o.aP 2 ?_;refine S (G.t2 (fun T X=>G.L (fun Z=>?_)));refine o.aa ?_;refine o.v1 da (o.nil (Z ?_));refine aW (fun aa=>?_) (fun aa=>?_)
  ·
   refine G.L (fun ab=>?_);refine o.aP 3 ?_;refine ab ?_;refine G.ret (X (E ?_));have d:D.eQ p=D.look p:=by unfold aE.eQ;rw[if_neg (by simpa using ac)]
   have x:D.ch p=[]:=by unfold aE.ch;rw[if_neg (by rw[d];omega)]
   exact⟨⟨none,0,0⟩,0,by rw[d];rfl,by rw[x];exact aU.nil et fB,U.refl _ _,n⟩
  ·
   have q:D.look p=0:=by omega
   obtain⟨i,C⟩:∃i,aM D.now p=some i:=by
    cases an:aM D.now p with
    |some i=>exact⟨i,rfl⟩
    |none=>exfalso;unfold aE.look at q;rw[an]at q;by_cases aC:cl p=true<;>simp[aC]at q
   obtain⟨eJ,bm,fk,kw,lw,A⟩:=j.fp i (j.ids.1 p i C);refine G.skip (T (G.L (fun ae=>?_)));refine o.v1 (Y.cast (v2:=hM g.fb i) fl (by rw[if_pos q,C];rfl)) ?_;refine o.bG ?_;refine o.v1 (Y.an A.cX.O rfl ja rfl lo) ?_;refine o.v1 (Y.an (A.cX.O.drop 0) rfl ly rfl c8) ?_;refine o.v1 (au ((A.cX.O.drop 0).drop 0) eI) ?_;refine aV ni (mm _ (bY D.fs i).now w0 _ A.aC.any (by have:=ai i;omega)) (fun aD aF af=>?_);obtain⟨ag,H,rfl,M,N,O⟩:=af;have L:U 0 J.size H:=U.L (U.refl 0 _) N n.size;have n:=n.L O;refine o.aP 2 ?_;refine ae ?_;refine G.ret (E ?_);have d:D.eQ p=0:=by unfold aE.eQ;rw[if_neg (by simpa using ac)];exact q
   have x:D.ch p=(bY D.fs i).now:=by unfold aE.ch aE.c_;rw[if_pos d,C]
   exact⟨ag,H,by rw[d];rfl,by rw[x];exact M,L,n⟩
end gm

namespace gN
open E Go.RowKit eM e7 fx fS gm
def h1(ks dn:List aJ)(w:aJ→Nat):Nat:=((ks.filter (fun k=> !decide (k∈dn))).map w).sum
theorem yc(ks:List aJ)(w:aJ→Nat):h1 ks [] w=(ks.map w).sum:=by
 unfold h1;rw[List.filter_eq_self.2 (fun k _=>by simp)]
theorem yb{ks dn:List aJ}{w:aJ→Nat}(h:∀k∈ks,k∈dn):h1 ks dn w=0:=by
 unfold h1;rw[List.filter_eq_nil_iff.2 (fun k d=>by simp[h k d])];rfl
theorem tl{w:aJ→Nat}{k:aJ}{dn:List aJ}(ak:k∉dn):∀{ks:List aJ},ks.Nodup→k∈ks→h1 ks dn w=w k+h1 ks (dn++[k]) w
 |[],_,h=>by cases h
 |x::ks,aC,h=>by
  rw[List.nodup_cons]at aC;unfold h1;by_cases i:x=k
  ·subst i
   have e:(x::ks).filter (fun q=> !decide (q∈dn++[x]))=ks.filter (fun q=> !decide (q∈dn)):=by
    rw[List.filter_cons_of_neg (by simp)];refine List.filter_congr (fun q n=>?_);have:q≠x:=fun e=>aC.1 (by rw[←e];exact n);simp[this]
   rw[e,List.filter_cons_of_pos (by simp[ak]),List.map_cons,List.sum_cons]
  ·have j:k∈ks:=by
    rcases List.mem_cons.1 h with e|h
    ·exact absurd e.symm i
    ·exact h
   have ih:=tl (w:=w) (dn:=dn) ak aC.2 j;unfold h1 at ih;by_cases d:x∈dn
   ·rw[List.filter_cons_of_neg (by simp[d]),List.filter_cons_of_neg (by simp[d])];exact ih
   ·rw[List.filter_cons_of_pos (by simp[d]),List.filter_cons_of_pos (by simp[d,i]),List.map_cons,List.map_cons,List.sum_cons,List.sum_cons,ih];omega
def kA(D:aE)(d:aJ):Nat:=ij D.fs (D.now.filter (fun x=>ck x.1=d))
theorem G1(ks:List aJ)(aC:ks.Nodup)(d:aJ)(a:Nat):d∈ks→(ks.map (fun k=>if d=k then a else 0)).sum=a:=by
 induction ks with
 |nil=>intro h;cases h
 |cons x ks ih=>
  intro h;rw[List.nodup_cons]at aC;rw[List.map_cons,List.sum_cons];by_cases i:d=x
  ·subst i
   rw[if_pos rfl]
   have:(ks.map (fun k=>if d=k then a else 0)).sum=0:=by
    have:ks.map (fun k=>if d=k then a else 0)=ks.map (fun _=>0):=List.map_congr_left (fun k j=>if_neg (fun e=>aC.1 (by rw[e];exact j)));rw[this];clear this ih aC h
    induction ks with
    |nil=>rfl
    |cons x ks ih=>rw[List.map_cons,List.sum_cons,ih]
   omega
  ·rw[if_neg i,ih aC.2 (by
    rcases List.mem_cons.1 h with e|h
    ·exact absurd e i
    ·exact h)];omega
theorem sum_add(ks:List aJ)(f g:aJ→Nat):(ks.map (fun k=>f k+g k)).sum=(ks.map f).sum+(ks.map g).sum:=by
 induction ks with
 |nil=>rfl
 |cons x ks ih=>simp only[List.map_cons,List.sum_cons,ih];omega
theorem vE(fs:List fP)(ks:List aJ)(aC:ks.Nodup):∀l:dc,(∀x∈l,ck x.1∈ks)→(ks.map (fun d=>ij fs (l.filter (fun x=>ck x.1=d)))).sum=ij fs l
 |[],_=>by
  have:ks.map (fun d=>ij fs (([]:dc).filter (fun x=>ck x.1=d)))=ks.map (fun _=>0):=List.map_congr_left (fun k _=>rfl);rw[this];clear this aC;rename_i bz;clear bz
  induction ks with
  |nil=>rfl
  |cons x ks ih=>rw[List.map_cons,List.sum_cons,ih];rfl
 |x::l,h=>by
  have ih:=vE fs ks aC l (fun y hy=>h y (List.mem_cons_of_mem _ hy))
  have e:ks.map (fun d=>ij fs ((x::l).filter (fun x=>ck x.1=d)))=ks.map (fun d=>(if ck x.1=d then(bY fs x.2).now.length else 0)+ij fs (l.filter (fun x=>ck x.1=d))):=by
   refine List.map_congr_left (fun k _=>?_);by_cases i:ck x.1=k
   ·rw[List.filter_cons_of_pos (by simpa using i),if_pos i];simp[ij]
   ·rw[List.filter_cons_of_neg (by simpa using i),if_neg i];simp
  rw[e,sum_add,G1 ks aC _ _ (h x List.mem_cons_self),ih];simp[ij]
theorem EM{D:aE}{bZ:dc}{d:aJ}(i:e6 D.now)(aC:(bZ.map (·.1)).Nodup)(he:∀q,aM bZ q=if ck q=d then aM D.now q else none):((bZ.map (·.1)).map (fun q=>(D.c_ q).length)).sum=kA D d:=by
 have j:e6 (D.now.filter (fun x=>decide (ck x.1=d))):=i.filter _
 have k:(bZ.map (·.1)).Perm ((D.now.filter (fun x=>decide (ck x.1=d))).map (·.1)):=(List.perm_ext_iff_of_nodup aC j.nodup).2 (fun q=>by
  rw[←gQ,←gQ,he,sI (f:=fun p=>decide (ck p=d))];by_cases h:ck q=d<;>simp[h])
 rw[(k.map _).sum_nat];unfold kA ij;rw[List.map_map];congr 1;refine List.map_congr_left (fun x n=>?_);have:=lV i.nodup (show(x.1,x.2)∈D.now from(List.mem_filter.1 n).1);simp only[Function.comp,aE.c_,this]
theorem Ho{K:List Nat}{g:ct}{H:Heap}{b:Nat}{D:aE}(i:bg K g H b D)(j:e6 D.now):((g.cy.map (·.1)).map (kA D)).sum=D.used:=
 vE D.fs _ i.hm.fi.nodup D.now (fun x n=>by
  have d:=lV j.nodup (show(x.1,x.2)∈D.now from n);rw[←gQ]
  cases k:aM g.cy (ck x.1)with
  |some _=>rfl
  |none=>rw[((i.abs _ k).1 x.1 rfl).1]at d;cases d)
theorem lh{α:Type}[DecidableEq α]:∀{a b:List α},a.Nodup→(∀k∈a,k∈b)→a.length≤b.length
 |[],b,_,_=>Nat.zero_le _
 |x::a,b,aC,aj=>by
  rw[List.nodup_cons]at aC;have h:=lh (b:=b.erase x) aC.2 (fun k d=>(List.mem_erase_of_ne (fun e=>aC.1 (by rw[←e];exact d))).2 (aj k (List.mem_cons_of_mem _ d)));have i:=aj x List.mem_cons_self;rw[List.length_erase_of_mem i]at h;have:=List.length_pos_of_mem i;simp only[List.length_cons];omega
set_option maxHeartbeats 2000000 in
theorem zc(K:List Nat)(g:ct)(b:Nat)(D:aE)(w0:World)(J:Heap)
 (j:bg K g J b D) (aZ:e6 D.now) (cq:D.used≤4611686018427387904):
 aG Tryz.prog w0 226 #[ptr b] J (fun r a8=>r= .int .i64 (D.used:Int)∧aq J a8):=by
 refine aG.aN [ptr b] Tryz.func226 ?_;intro bX bU;have M:aq J J:=W.refl _ _;have b8:=j.aD;refine G.L (fun bp=>?_);refine o.al ?_;refine bp (G.L (fun bq=>?_));refine o.al ?_;refine bq (G.t1 (fun bs=>G.L (fun bt=>?_)));refine o.az 2 ?_;refine o.v1 (Y.an j.bE.O rfl hb rfl q4) ?_;refine o.v1 (au (j.bE.O.drop 2) pP) ?_;have B:=j.hm;have b7:=B.lt;obtain⟨es,bJ,B⟩:=B.raw;refine o.aS (Z.tg B rfl rj rfl) fun b6 X bu=>?_;obtain⟨rfl,it,T,b3,ap⟩:=bu;have b1:X.size=J.size+1:=by rw[ap];simp
 have aP:ag (J.size+1) K:=ag.gG j.aD;have aQ:af (g.bF+1) (J.size+1):=af.new B.lt;have aS:U 0 J.size (J.size+1):=U.new M.size;have j:=j.N T;have B:=B.N T;have M:=M.L T;have ca:=T.size;have b9:=it.lt;refine o.nil (bt (G.aD (fun _ bw _=>?_)))
 refine G.bc (fun(aO:(List aJ)×(Nat))=>match aO with|(A,n)=>[(3,.int .i64 (n:Int)),(12,.pointer (some ⟨J.size,0,none⟩))])
  (fun(A,n) (H:Heap)=>(hG H J.size g.bF aK es bJ A)∧(A.Nodup∧∀k∈A,k∈g.cy.map (·.1))∧(n+h1 (g.cy.map (·.1)) A (kA D)=D.used)∧W (aB [(J.size+1)]) X H)
  (fun(A,n)=>g.cy.length-A.length) ([],0) ⟨rfl,rfl,trivial⟩ ?_ ?_
 ·
  exact⟨it,⟨List.nodup_nil,by simp⟩,by rw[yc,Ho j aZ];omega,W.refl _ _⟩
 rintro⟨A,n⟩ cb bx bW bz a0;obtain⟨it,aa,cu,C⟩:=bx;have j:=j.ae C (dr.cons aP dr.nil);have B:=B.ae C (ag.I aQ);have M:=M.bx C (ah.I (ao.q aS));have cc:=C.size;have bA:=U.refl (J.size+1) X.size;have aD:=lh aa.1 aa.2;rw[List.length_map]at aD;refine G.L (fun cg=>?_);refine o.aS (Z.s0 it B gp.inj rfl rfl) fun bT E a2=>?_;obtain⟨cx,d,bj,cn,rfl,it,bO,bM,O⟩:=a2;have O:=O.bB;have j:=j.ae O (dr.cons aP dr.nil);have B:=B.ae O (ag.I aQ);have M:=M.bx O (ah.I (ao.q aS));have C:=C.aL O (ah.I (ao.r bA));have be:=O.size;refine o.v1 (Y.se rfl rfl) (o.nil (cg ?_));refine G.t2 (fun a3 a4=>?_);refine cL (fun an=>?_) (fun an=>?_)
 ·
  obtain⟨F,S,aL⟩:=bO an;rw[aL]at it;have bQ:=lV B.fi.nodup F;obtain⟨bS,cW,cv,bm,bZ,ew,ak⟩:=j.gf _ bj bQ;have bV:=F;have bR:=S;have cr:h1 (g.cy.map (·.1)) A (kA D)=kA D d+h1 (g.cy.map (·.1)) (A++[d]) (kA D):=tl (w:=kA D) S B.fi.nodup (List.mem_map.2 ⟨_,F,rfl⟩);refine G.skip (a3 (G.aD (fun a5 _ _=>G.L (fun bB=>?_))));refine o.v1 (Y.sd it B gp.inj F rfl rfl) ?_;refine o.v1 cF ?_;refine o.al ?_;refine bB (G.L (fun bD=>?_));refine o.az 2 ?_;refine o.v1 (Y.an ak.cJ.O rfl kl rfl mR) ?_;refine o.v1 (Y.an (ak.cJ.O.drop 0) rfl mZ rfl ln) ?_;refine o.v1 (au ((ak.cJ.O.drop 0).drop 0) oq) ?_;have x:=ak.aC;have aw:=x.lt;obtain⟨bL,bK,x⟩:=x.raw;refine o.aS (Z.tg x rfl ri rfl) fun b5 ar a_=>?_;obtain⟨rfl,N,R,b0,bE⟩:=a_;have b2:ar.size=E.size+1:=by rw[bE];simp
  have aT:ag (E.size+1) K:=ag.gG j.aD;have aV:af (J.size+1) (E.size+1):=af.new it.lt;have aW:af (bS+1) (E.size+1):=af.new x.lt;have aX:U 0 X.size (E.size+1):=U.new C.size;have j:=j.N R;have it:=it.N R;have x:=x.N R;have C:=C.a8 R;have cd:=R.size;have am:=N.lt;refine o.nil (bD (G.aD (fun _ bF _=>?_)))
  refine G.bc (fun(aO:(List aJ)×(Nat))=>match aO with|(dn,m)=>[(3,.int .i64 (m:Int)),(12,.pointer (some ⟨J.size,0,none⟩)),(22,.pointer (some ⟨E.size,0,none⟩))])
   (fun(dn,m) (H:Heap)=>(hG H E.size bS aK bL bK dn)∧(dn.Nodup∧∀k∈dn,k∈bZ.map (·.1))∧(m+h1 (bZ.map (·.1)) dn (fun q=>(D.c_ q).length)+h1 (g.cy.map (·.1)) (A++[d]) (kA D)=D.used)∧W (aB [(E.size+1)]) ar H)
   (fun(dn,m)=>bZ.length-dn.length) ([],n) ⟨rfl,rfl,rfl,trivial⟩ ?_ ?_
  ·
   exact⟨N,⟨List.nodup_nil,by simp⟩,by rw[yc,EM aZ x.fi.nodup ak.gC];omega,W.refl _ _⟩
  rintro⟨dn,m⟩ cf ba bi bH bb;obtain⟨N,ab,ai,L⟩:=ba;have j:=j.ae L (dr.cons aT dr.nil);have it:=it.ae L (ag.I aV);have x:=x.ae L (ag.I aW);have C:=C.aL L (ah.I (ao.q aX));have cj:=L.size;have ac:=U.refl (E.size+1) ar.size;have aD:=lh ab.1 ab.2;rw[List.length_map]at aD;refine G.L (fun bc=>?_);refine o.aS (Z.s0 N x gp.inj rfl rfl) fun ck cl a9=>?_;obtain⟨cy,q,i,cp,rfl,N,bP,bN,ad⟩:=a9;have ad:=ad.bB;have j:=j.ae ad (dr.cons aT dr.nil);have it:=it.ae ad (ag.I aV);have x:=x.ae ad (ag.I aW);have C:=C.aL ad (ah.I (ao.q aX));have L:=L.aL ad (ah.I (ao.r ac));have cm:=ad.size;refine o.v1 (Y.se rfl rfl) (o.nil (bc ?_));refine G.t2 (fun bd bk=>?_);refine cL (fun al=>?_) (fun al=>?_)
  ·
   obtain⟨F,S,aL⟩:=bP al;rw[aL]at N;have Q:=lV x.fi.nodup F;rw[ak.gC]at Q
   have Q:aM D.now q=some i:=by
    split at Q
    ·exact Q
    ·cases Q
   obtain⟨eJ,cz,fk,kw,lw,ae⟩:=j.fp i (j.ids.1 q i Q);have a6:h1 (bZ.map (·.1)) dn (fun q=>(D.c_ q).length)=(D.c_ q).length+h1 (bZ.map (·.1)) (dn++[q]) (fun q=>(D.c_ q).length):=tl (w:=fun q=>(D.c_ q).length) S x.fi.nodup (List.mem_map.2 ⟨_,F,rfl⟩);have a7:D.c_ q=(bY D.fs i).now:=by unfold aE.c_;rw[Q]
   refine G.skip (bd (G.aD (fun bl _ _=>G.L (fun bn=>?_))));refine o.v1 (Y.sd N x gp.inj F rfl rfl) ?_;refine o.v1 cF ?_;refine o.al ?_;refine bn (G.region ?_);refine o.az 3 ?_;refine o.v1 (Y.an ae.cX.O rfl ja rfl lo) ?_;refine o.v1 (Y.an (ae.cX.O.drop 0) rfl ly rfl c8) ?_;refine o.v1 (au ((ae.cX.O.drop 0).drop 0) eI) ?_;refine o.v1 (bf ae.aC dj) ?_;refine o.v1 (Y.cast (v2:= .int .i64 ((m+(D.c_ q).length:Nat):Int)) (Y.uy rfl rfl rfl (by rw[a7]at a6;omega)) (fh (by rw[a7];omega))) ?_;refine o.al ?_;refine bl ?_
   have aI:(dn++[q]).Nodup∧∀k∈dn++[q],k∈bZ.map (·.1):=by
    refine⟨?_,fun k P=>?_⟩
    ·rw[List.nodup_append]
     exact⟨ab.1,by simp,fun a ay b aA e=>by simp only[List.mem_singleton]at aA;subst aA;subst e;exact S ay⟩
    ·rcases List.mem_append.1 P with h|h
     ·exact ab.2 k h
     ·rw[List.mem_singleton.1 h];exact List.mem_map.2 ⟨_,F,rfl⟩
   have aH:=lh aI.1 aI.2;rw[List.length_append,List.length_singleton,List.length_map]at aH;refine aR.sub (bH (dn++[q],m+(D.c_ q).length) _ ?_ ?_) ⟨(aF (by omega)),rfl,rfl,trivial⟩
   ·exact⟨N,aI,by rw[a6,←Nat.add_assoc]at ai;exact ai,L⟩
   ·simp only[List.length_append,List.length_singleton];omega
  ·
   obtain⟨az,_⟩:=bN al;have a1:h1 (bZ.map (·.1)) dn (fun q=>(D.c_ q).length)=0:=yb (fun k P=>by obtain⟨p,aN,rfl⟩:=List.mem_map.1 P;exact az p aN);refine G.exit (bk (bb (bF ?_)));refine a5 ?_
   have aC:(A++[d]).Nodup∧∀k∈A++[d],k∈g.cy.map (·.1):=by
    refine⟨?_,fun k P=>?_⟩
    ·rw[List.nodup_append]
     exact⟨aa.1,by simp,fun a ay b aA e=>by simp only[List.mem_singleton]at aA;subst aA;subst e;exact bR ay⟩
    ·rcases List.mem_append.1 P with h|h
     ·exact aa.2 k h
     ·rw[List.mem_singleton.1 h];exact List.mem_map.2 ⟨_,bV,rfl⟩
   have aH:=lh aC.1 aC.2;rw[List.length_append,List.length_singleton,List.length_map]at aH;refine aR.sub (bz (A++[d],m) _ ?_ ?_) ⟨(aF (by omega)),rfl,trivial⟩
   ·exact⟨it,aC,by rw[a1,Nat.add_zero]at ai;exact ai,C⟩
   ·simp only[List.length_append,List.length_singleton];omega
 ·
  obtain⟨az,_⟩:=bM an;have a1:h1 (g.cy.map (·.1)) A (kA D)=0:=yb (fun k P=>by obtain⟨p,aN,rfl⟩:=List.mem_map.1 P;exact az p aN);refine G.exit (a4 (a0 (bw ?_)));refine bs (G.L (fun bo=>?_));refine o.aP 2 ?_;refine bo ?_;refine G.ret (bU ?_);exact⟨by rw[show n=D.used by omega],M⟩
end gN

namespace gX
open E Go.RowKit eM e7 fx fS gm gN
set_option maxRecDepth 100000 in
theorem wI:c3 Tryz.prog 171 177 3 40:=⟨Tryz.underlying171,_,_,rfl,rfl,rfl,rfl,rfl⟩
theorem sO(K:List Nat)(g:ct)(b:Nat)(D:aE)(p:aJ)(w0:World)(J:Heap)
 (d:bg K g J b D) (aN:g.cy.length+1≤D.ops):
 aG Tryz.prog w0 222 #[ptr b,aK p] J (fun r F=>∃bl:List Nat,∃g2:ct,∃bj:Nat,r=ptr bj∧(bg bl g2 F b D)∧(aT K J.size bl)∧(aM g2.cy p=some bj)∧(g2.fb=g.fb)∧W (aB K) J F):=by
 refine aG.aN [ptr b,aK p] Tryz.func222 ?_;intro aR O;have i:W (aB K) J J:=W.refl _ _;have A:=aT.refl K J.size;have bb:=d.aD;refine G.L (fun P=>?_);refine o.al ?_;refine P (G.seq (fun bl Q _=>G.region ?_));refine o.az 2 ?_;refine o.v1 (Y.an d.bE.O rfl hb rfl q4) ?_;refine o.v1 (au (d.bE.O.drop 2) pP) ?_;refine o.aa ?_;refine o.v1 (sD uv d.hm.fi (fun _=>rfl) gp rfl rj Tryz.underlying9 zp rfl rfl) ?_;refine o.al ?_;refine Q _ _ (G.t1 (fun L=>G.L (fun R=>?_)));refine o.aa ?_;refine o.v1 (Y.peq rfl (by kernel_rfl) (by kernel_rfl) rfl rfl) (o.nil (R ?_));refine cL (fun x=>?_) (fun x=>?_)
 ·
  have aQ:aM g.cy p=none:=by
   cases C:aM g.cy p with
   |none=>rfl
   |some bj=>rw[C]at x;cases x
  refine G.L (fun T=>?_);refine o.aS (Z.nJ aK (hM g.fb) rfl) fun a1 j X=>?_;obtain⟨rfl,aC,B,aV,aD⟩:=X;have bd:j.size=J.size+1:=by rw[aD];simp
  have aa:ag (J.size+1) K:=ag.gG d.aD;have ab:U 0 J.size (J.size+1):=U.new i.size;have d:=d.N B;have i:=i.a8 B;have a6:=B.size;have aw:=aC.lt;refine o.aS (Z.nJ aK (hM g.fb) rfl) fun a7 n ae=>?_;obtain⟨rfl,aj,ac,aW,am⟩:=ae;have bf:n.size=j.size+1:=by rw[am];simp
  have af:ag (j.size+1) K:=ag.gG d.aD;have ai:U 0 J.size (j.size+1):=U.new i.size;have d:=d.N ac;have aC:=aC.N ac;have i:=i.a8 ac;have a8:=ac.size;have bc:=aj.lt;refine o.v1 (Y.build (v:= .agg #[.map (some J.size),.map (some j.size)]) rfl rfl (by intro w;kernel_rfl)) ?_;refine o.v1 (Y.build (v:= .agg #[.map (some J.size),.map (some j.size),.slice none 0 0]) rfl rfl (by intro w;kernel_rfl)) ?_;refine o.aS cY fun a_ M al=>?_;obtain⟨rfl,E,q,aX,ap⟩:=al;have aS:M.size=n.size+1:=by rw[ap];simp
  have an:ag (n.size+1) K:=ag.gG d.aD;have ar:U 0 J.size (n.size+1):=U.new i.size;have d:=d.N q;have aC:=aC.N q;have aj:=aj.N q;have i:=i.a8 q;have ba:=q.size;have E:Var 173 M n.size ([.map (some J.size),.map (some j.size),.slice none 0 0]):=E;refine o.al ?_;refine T (G.region ?_);refine o.az 2 ?_;refine o.v1 (Y.an d.bE.O rfl hb rfl q4) ?_;refine o.v1 (au (d.bE.O.drop 2) pP) ?_;refine o.az 2 ?_;refine o.s1 (S.l0 n.size d.hm gp rfl rj Tryz.underlying9 rfl rfl rfl) fun aZ aF=>?_;obtain⟨aP,ad⟩:=aF;have H:=d.ms ad (fun c e=>by rw[e,d.hv];simp);have i:=i.aL H (ah.ca (A) (by intro k aO;simp[aO]));have a0:=H.size;have aH:=aT.cons (ab) (A);have aI:=aT.cons (ai) (aH);have aL:=aT.cons (ar) (aI);have d:=d.EO aQ E aC aj (an) (aa) (af) (by omega) (by omega) (by omega) ad.bB aP aN;refine o.nil (L (G.L (fun ay=>?_)));refine o.aP 2 ?_;refine ay ?_;refine G.ret (O ?_);exact⟨_,_,_,rfl,d,aL,by show aM (fD g.cy p _) p=_;rw[kJ,if_pos rfl],rfl,i⟩
 ·
  obtain⟨bj,N⟩:∃bj,aM g.cy p=some bj:=by
   cases C:aM g.cy p with
   |none=>rw[C]at x;cases x
   |some bj=>exact⟨bj,rfl⟩
  refine G.skip (L (G.L (fun az=>?_)));refine o.aP 2 ?_;refine az ?_;refine G.ret (O ?_);exact⟨K,g,bj,by rw[N];rfl,d,A,N,rfl,i⟩
set_option maxHeartbeats 2000000 in
theorem vt(K:List Nat)(g:ct)(b:Nat)(D:aE)(p:aJ)(c:dA)(w0:World)(J:Heap)
 (d:bg K g J b D) (bu:g.cy.length+1≤D.ops) (bs:c.dir=p) (ar:∀i,c.f=some i→ck c.n=p∧i<D.fs.length) (bt:c.g≠[]→ck c.g=p) (bV:D.log.length≤1099511627776):
 aG Tryz.prog w0 221 #[ptr b,aK p,.agg (hB g.fb c).toArray] J (fun r ab=>∃bl:List Nat,∃g2:ct,r= .tuple #[]∧(bg bl g2 ab b (D.change c))∧(aT K J.size bl)∧(g2.fb=g.fb)∧W (aB K) J ab):=by
 refine aG.enter (args:=[ptr b,aK p,.agg (hB g.fb c).toArray]) Tryz.func221 rfl rfl rfl ?_;intro bH bw;have n:W (aB K) J J:=W.refl _ _;have aH:=aT.refl K J.size;have aI:=d.aD;refine G.L (fun a8=>?_);refine o.aS cY ?_;rintro v5 az ⟨rfl,q,al,cg,ba⟩;have bP:az.size=J.size+1:=by rw[ba];simp
 have aC:ag (J.size+1) K:=ag.gG d.aD;have d:=d.N al;have n:=n.a8 al;have a2:=al.size;have q:Var 177 az J.size (hB g.fb c):=q;refine o.nil (a8 (G.seq (fun bl bb _=>G.region ?_)));refine o.az 2 ?_;refine aV rW (sO K g b D p w0 _ d bu) (fun v9 bF bB=>?_);have bc:=q.lt;obtain⟨M,g9,bj,rfl,d,am,Z,aD,an⟩:=bB;have aF:ag (J.size+1) M:=ag.ee (aC) bc am;have X:aT K J.size M:=aT.L (aH) am n.size;have q:=q.ae an (aC);have n:=n.aL an (ah.ca (aH) (by intro k F;simp[F]));have a3:=an.size;have aI:=d.aD;rw[←aD]at q;refine o.al ?_;refine bb _ _ (G.t1 (fun bd=>?_));obtain⟨bz,bZ,bX,b3,aP,b0,O⟩:=d.gf _ bj Z;refine G.jq 6 rfl (by kernel_rfl) (fun bJ bq=>?_);refine o.az 2 ?_;refine o.v1 (Y.an O.cJ.O rfl kl rfl mR) ?_;refine o.v1 (Y.an (O.cJ.O.drop 0) rfl mZ rfl ln) ?_;refine o.v1 (au ((O.cJ.O.drop 0).drop 0) oq) ?_;refine o.v1 (a_ q.O ui yn (rfl)) ?_;refine o.nil (bq _ ?_);refine aV BL ((Fv g9.fb bz aP c w0 _ O.aC).mono (fun r ab h=>d.put Z O h.2 h.1 (Eh c aP) (fun i aa=>⟨(ar i aa).1,(ar i aa).2⟩) bt)) (fun a4 ad bf=>?_);obtain⟨d,ai⟩:=bf;have q:=q.ae ai (aF);have n:=n.aL ai (ah.ca (X) (by intro k F;simp[F]));have a5:=ai.size;have aI:=d.aD;refine o.nil (bd ?_);obtain⟨bA,bD,j,bE,bY,b1,E⟩:=d.gf _ bj Z;have bW:(D.hA p).length≤D.log.length:=List.length_filter_le _ _;have A:W (aB [(bj+1),j]) ad ad:=W.refl _ _;have bx:gK M (bj+1):=(d.nD E.rd (by simp));have cJ:=E.cJ;have bT:=cJ.lt;have bk:ao K J.size (bj+1):=ah.at (ah.ca (X) (by intro k F;simp[F])) bx;have bo:=U.refl (bj+1) ad.size;have ay:gK M j:=(d.mE E.rc (by simp));have av:=(show aU j 177 _ (hB g9.fb) 3 bE.v (D.hA p)from E.av);have aw:=av.le;have bp:af (J.size+1) j:=ag.at (aF) ay;have aQ:ao K J.size j:=ah.at (ah.ca (X) (by intro k F;simp[F])) ay;have aL:=U.refl j ad.size;have S:af (bj+1) j:=fun x bU V=>by have aN:=E.rc x V;rw[show x=bj by omega,E.rd]at aN;cases aN
 refine dg (fun R=>W (aB [j]) ad R) [8,9,10] ?_;have ac:W (aB [j]) ad ad:=W.refl _ _;have aR:=U.refl j ad.size;refine T.aa 0 rfl ac ?_;refine T.aa 1 rfl ac ?_;refine T.bG 2 rfl ac ?_;refine T.t1 3 rfl (fun R P=>Y.fieldAddr (cJ.ae P (ag.I S)).O rfl kl rfl rfl mS (by decide) rfl) ac ?_;refine T.t1 4 rfl (fun R P=>au ((cJ.ae P (ag.I S)).O.drop 2) zB) ac ?_;refine T.t1 5 rfl (fun R P=>Y.kH (q.ae P (ag.I bp)).O rfl ui yn (rfl) rfl) ac ?_;refine T.aX 6 ?_;refine ey rfl (cS _ ([c]) wI (qd _) (qe _) (rfl)) (fun bK C bm=>?_);obtain⟨aS,L,bQ,aW⟩:=bm;have bN:C.size=ad.size+1:=by rw[aW];simp
 have aX:U 0 ad.size (ad.size+1):=U.new ac.size;have cJ:=cJ.N L;have av:=av.N L;have n:=n.a8 L;have A:=A.a8 L;have ac:=ac.a8 L;have bL:=L.size;refine T.bZ ac (ah.cons (ao.r aR) (ah.I (ao.q aX))) ?_;have ac:W (aB [j,(ad.size+1)]) C C:=W.refl _ _;have ap:=U.refl j C.size;have aZ:=U.refl (ad.size+1) C.size;refine T.aX 7 ?_;refine ey rfl (eg av aS.rd wI (by first|omega|(simp;omega)) (by first|omega|(simp;omega))) (fun ae bR a0=>?_);obtain⟨Q,av,N,B⟩:=a0;have N:U j C.size Q:=N;have B:=B.md;have a1:af (bj+1) Q:=af.app (S) cJ.lt N;have aM:U j ad.size Q:=U.L (aL) N A.size;have a6:U j C.size Q:=U.L (ap) N ac.size;have cJ:=cJ.ae B (ag.I S);have n:=n.aL B (ah.cons (aQ) ah.nil);have A:=A.aL B (ah.I (ao.r aL));have ac:=ac.aL B (ah.I (ao.r ap));have bM:=B.size;have aw:=av.le;refine T.bZ ac (ah.cons (ao.r a6) (ah.I (ao.r aZ))) ?_;refine T.aX 8 ?_;refine gJ rfl (Y.nilCheck rfl rfl) (.inl rfl) ?_;refine T.aX 9 ?_;refine gJ rfl (Y.an cJ.O rfl kl rfl mS) (.inl rfl) ?_;refine T.aX 10 ?_;refine gW rfl (dL cJ 2 ([.map (some bA),.map (some bD),ae]) (av.rd.pb) mS (by simp) (rfl)) (fun bO bn=>?_);obtain⟨cJ,H⟩:=bn;have H:=H.bB;have av:=av.ae H (ag.I a1.symm);have n:=n.aL H (ah.cons (bk) ah.nil);have A:=A.aL H (ah.I (ao.r bo));have a9:=H.size;refine⟨.inl rfl,?_⟩;refine cI ?_;obtain⟨b2,rfl⟩:∃s:aO,ae=s.v:=⟨cm ae,av.bm.symm⟩;have a7:aT K J.size (Q::M):=(aT.app (X) (ay) (aM) (by omega));have d:=d.note Z E A cJ av (aM) bs (fun i aa=>(ar i aa).2);refine bw .normal (.inl rfl) _ _ _ (iG rfl) ?_;exact⟨_,_,rfl,d,a7,aD,n⟩
end gX

namespace hf
open E Go.RowKit eM e7 fx fS gm gN gX
set_option maxRecDepth 100000 in
theorem qv:c3 Tryz.prog 184 275 2 32:=⟨Tryz.underlying184,_,_,rfl,rfl,rfl,rfl,rfl⟩
structure gw (n:Nat) (D:aE):Prop where
 al:e6 D.now
 kb:e6 D.stays
 us:D.used≤2305843009213693952
 dG:D.log.length≤n
 op:D.ops≤n
 N:∀i,(bY D.fs i).now.length≤n
 pv:∀i,(bY D.fs i).stays.length≤n
 w:∀i,(bY D.fs i).w.length≤n
 wd:∀i,∀y∈(bY D.fs i).w,y.d.length≤n
 nl:D.now.length≤n
 h4:D.stays.length≤n
 ff:D.fs.length≤n
 dy:∀i j,(lj ((bY D.fs i).w.take j) (bY D.fs i).stays).length≤n
 kG:∀c∈D.log,∀i,c.f=some i→ck c.n=c.dir
theorem uK(D:aE):D.begin.2.cap=D.cap∧D.begin.2.most=D.most∧D.begin.2.fs=D.fs∧D.begin.2.now=D.now∧D.begin.2.stays=D.stays∧D.begin.2.log=D.log∧D.begin.2.ops≤D.ops+1:=by
 unfold aE.begin;split
 ·exact⟨rfl,rfl,rfl,rfl,rfl,rfl,Nat.le_succ _⟩
 ·split
  ·exact⟨rfl,rfl,rfl,rfl,rfl,rfl,Nat.le_succ _⟩
  ·exact⟨rfl,rfl,rfl,rfl,rfl,rfl,Nat.le_refl _⟩
theorem pW{D:aE}(h:D.begin.1=true):D.begin.2.ops=D.ops+1∧D.begin.2.dead=false:=by
 unfold aE.begin at h⊢;split at h
 ·cases h
 ·rename_i d
  split at h
  ·cases h
  ·rename_i V
   rw[if_neg d,if_neg V];exact⟨rfl,by simpa using d⟩
theorem gw.mono{n m:Nat}{D:aE}(h:gw n D)(hm:n≤m):gw m D:=⟨h.al,h.kb,h.us,Nat.le_trans h.dG hm,Nat.le_trans h.op hm,fun i=>Nat.le_trans (h.N i) hm,fun i=>Nat.le_trans (h.pv i) hm,fun i=>Nat.le_trans (h.w i) hm,fun i y hy=>Nat.le_trans (h.wd i y hy) hm,Nat.le_trans h.nl hm,Nat.le_trans h.h4 hm,Nat.le_trans h.ff hm,fun i j=>Nat.le_trans (h.dy i j) hm,h.kG⟩
theorem gw.begin{n:Nat}{D:aE}(h:gw n D):gw (n+1) D.begin.2:=by
 obtain⟨aN,o,d,i,j,k,q⟩:=uK D;have h:=h.mono (Nat.le_succ n);exact⟨by rw[i];exact h.al,by rw[j];exact h.kb,by unfold aE.used;rw[d,i];exact h.us,by rw[k];exact h.dG,by have:=gw.op ‹gw n D›;omega,by rw[d];exact h.N,by rw[d];exact h.pv,by rw[d];exact h.w,by rw[d];exact h.wd,by rw[i];exact h.nl,by rw[j];exact h.h4,by rw[d];exact h.ff,by rw[d];exact h.dy,by rw[k];exact h.kG⟩
theorem qA{D:aE}{p:aJ}(h:D.look p=0):cl p=true∧∃i,aM D.now p=some i:=by
 unfold aE.look at h
 cases aC:cl p with
 |false=>rw[aC]at h;simp at h
 |true=>
  rw[aC]at h
  cases d:aM D.now p with
  |none=>rw[d]at h;simp at h
  |some i=>exact⟨rfl,i,rfl⟩
theorem D2{D:aE}{p:aJ}(h:D.look p=2):cl p=true∧aM D.now p=none:=by
 unfold aE.look at h
 cases aC:cl p with
 |false=>rw[aC]at h;simp at h
 |true=>
  rw[aC]at h
  cases d:aM D.now p with
  |none=>exact⟨rfl,rfl⟩
  |some i=>rw[d]at h;simp at h
theorem D3{D:aE}{p:aJ}(h:D.look p=7):cl p=false:=by
 unfold aE.look at h
 cases aC:cl p with
 |false=>rfl
 |true=>
  rw[aC]at h
  cases d:aM D.now p with
  |none=>rw[d]at h;simp at h
  |some i=>rw[d]at h;simp at h
theorem D4(D:aE)(p:aJ):D.look p=0∨D.look p=2∨D.look p=7:=by
 unfold aE.look;split
 ·split
  ·exact .inl rfl
  ·exact .inr (.inl rfl)
 ·exact .inr (.inr rfl)
theorem nQ(w:dQ)(b:List UInt8):(w.on b w.d.length).length=(if w.b=true then b.length else 0)+w.d.length:=by
 unfold dQ.on;rw[List.length_append,List.length_take,Nat.min_self];split<;>rfl
theorem oN{D:aE}{i:Nat}{x:fP}(h:i<D.fs.length):bY (D.fq i x).fs i=x:=by simp[bY,aE.fq,List.getD,h]
theorem si{D:aE}{i:Nat}{x:fP}:(D.fq i x).fs.length=D.fs.length:=by simp[aE.fq]
theorem xY{D:aE}{i:Nat}{x y:fP}:(D.fq i x).fq i y=D.fq i y:=by simp[aE.fq]
theorem DH{D:aE}{p:aJ}{w:dQ}(h:D.begin.1=false):D.lay p w=(11,D.begin.2):=by unfold aE.lay;simp[h]
theorem qz{D:aE}{p:aJ}{w:dQ}(h:D.begin.1=true):D.lay p w=(D.begin.2.hD p w,if D.begin.2.hD p w=0 then D.begin.2.write p w else D.begin.2):=by unfold aE.lay;simp[h]
theorem DF{D:aE}{p:aJ}{w:dQ}(h:cl p=false):D.hD p w=7:=by unfold aE.hD;rw[if_pos h]
theorem sy{D:aE}{p:aJ}{w:dQ}(h:cl p=true)(V:D.most<(w.on (D.c_ p) w.d.length).length):D.hD p w=5:=by unfold aE.hD;rw[if_neg (by simp[h]),if_pos V]
theorem qy{D:aE}{p:aJ}{w:dQ}(h:cl p=true)(V:¬D.most<(w.on (D.c_ p) w.d.length).length)(d:D.cap+(D.c_ p).length<D.used+(w.on (D.c_ p) w.d.length).length):D.hD p w=12:=by unfold aE.hD;rw[if_neg (by simp[h]),if_neg V,if_pos d]
theorem oX{D:aE}{p:aJ}{w:dQ}(h:cl p=true)(V:¬D.most<(w.on (D.c_ p) w.d.length).length)(d:¬D.cap+(D.c_ p).length<D.used+(w.on (D.c_ p) w.d.length).length):D.hD p w=0:=by unfold aE.hD;rw[if_neg (by simp[h]),if_neg V,if_neg d]
theorem tX{D:aE}{p:aJ}{i:Nat}(h:aM D.now p=some i):D.c_ p=(bY D.fs i).now:=by unfold aE.c_;rw[h]
theorem Hu{D:aE}{p:aJ}(h:aM D.now p=none):D.c_ p=[]:=by unfold aE.c_;rw[h]
theorem zn{D:aE}{p:aJ}{i:Nat}{w:dQ}(h:aM D.now p=some i)(d:i<D.fs.length):
 (D.fq i ⟨w.on (D.c_ p) w.d.length,(bY D.fs i).stays,(bY D.fs i).w⟩).fq i ⟨(bY (D.fq i ⟨w.on (D.c_ p) w.d.length,(bY D.fs i).stays,(bY D.fs i).w⟩).fs i).now,(bY (D.fq i ⟨w.on (D.c_ p) w.d.length,(bY D.fs i).stays,(bY D.fs i).w⟩).fs i).stays,(bY (D.fq i ⟨w.on (D.c_ p) w.d.length,(bY D.fs i).stays,(bY D.fs i).w⟩).fs i).w++[w]⟩=D.write p w:=by
 rw[oN d,xY,tX h];unfold aE.write aE.make;rw[h]
def gF(D:aE)(p:aJ):aE:=({D with fs:=D.fs++[⟨[],[],[]⟩]}:aE).change ⟨[],p,some D.fs.length⟩
theorem w_(D:aE)(p:aJ):bY (gF D p).fs D.fs.length=⟨[],[],[]⟩:=by simp[gF,aE.change,bY,List.getD]
theorem xa(D:aE)(p:aJ):D.fs.length<(gF D p).fs.length:=by simp[gF,aE.change]
theorem zm{D:aE}{p:aJ}{w:dQ}(h:aM D.now p=none):
 ((gF D p).fq D.fs.length ⟨w.on (bY (gF D p).fs D.fs.length).now w.d.length,(bY (gF D p).fs D.fs.length).stays,(bY (gF D p).fs D.fs.length).w⟩).fq D.fs.length ⟨(bY ((gF D p).fq D.fs.length ⟨w.on (bY (gF D p).fs D.fs.length).now w.d.length,(bY (gF D p).fs D.fs.length).stays,(bY (gF D p).fs D.fs.length).w⟩).fs D.fs.length).now,(bY ((gF D p).fq D.fs.length ⟨w.on (bY (gF D p).fs D.fs.length).now w.d.length,(bY (gF D p).fs D.fs.length).stays,(bY (gF D p).fs D.fs.length).w⟩).fs D.fs.length).stays,(bY ((gF D p).fq D.fs.length ⟨w.on (bY (gF D p).fs D.fs.length).now w.d.length,(bY (gF D p).fs D.fs.length).stays,(bY (gF D p).fs D.fs.length).w⟩).fs D.fs.length).w++[w]⟩=D.write p w:=by
 rw[oN (xa D p),xY];unfold aE.write aE.make;rw[h];rfl
set_option maxHeartbeats 1000000 in
theorem wT(bb:Int)(K:List Nat)(g:ct)(b:Nat)(D:aE)(p:aJ)(x:lI)(F:Nat→Prop)(w0:World)(J:Heap)
 (d:bg K g J b D) (aI:dP bb J) (c5:bk (fun b=>b=0) J.size) (c6:ay (fun b=>b=0) K) (ak:Rd F J a6 1 x.2.v x.1.d) (eC:bk F J.size) (dp:ay F K) (dx:p.length≤4294967280) (dq:gw 274877906944 D) (gV:x.1.d.length≤274877906944):
 aG Tryz.prog w0 185 #[ptr b,aK p,n0 x] J (fun r cQ=>∃bl:List Nat,∃g2:ct,r= .int .i64 ((D.lay p x.1).1:Int)∧(bg bl g2 cQ b (D.lay p x.1).2)∧(aT K J.size bl)∧W (aB K) J cQ):=by
 refine aG.aN [ptr b,aK p,n0 x] Tryz.func185 ?_;intro gn bd;have n:W (aB K) J J:=W.refl _ _;have aX:=aT.refl K J.size;have bx:=d.aD;have gY:=dq.op;have gX:=d.h_;obtain⟨C,bK⟩:∃C,C=D.begin.2:=⟨_,rfl⟩;have bc:=dq.begin;rw[←bK]at bc;refine G.L (fun bj=>?_);refine o.aS cY ?_;rintro v5 cR ⟨rfl,q,bE,gM,dW⟩;have dd:cR.size=J.size+1:=by rw[dW];simp
 have bT:ag (J.size+1) K:=ag.gG d.aD;have dm:U 0 J.size (J.size+1):=U.new n.size;have d:=d.N bE;have aI:=aI.N bE;have ak:=ak.N bE;have n:=n.a8 bE;have gN:=bE.size;have q:Var 275 cR J.size (k_ x):=q;refine o.al ?_;refine bj (G.seq (fun bl fK gB=>G.L (fun fL=>?_)));refine o.aa ?_;refine aV pZ (pV K g b D w0 _ d (by omega)) (fun gO d0 fM=>?_);obtain⟨g1,rfl,d,fN,bA⟩:=fM;have aI:=aI.ae bA (c6);have ak:=ak.ae bA (dp);have q:=q.ae bA (bT);have n:=n.aL bA (ah.ca (aX) (by intro k an;simp[an]));have d1:=bA.size;rw[←bK]at d;refine o.v1 eG (o.nil (fL ?_));refine cL (fun cg=>?_) (fun cg=>?_)
 ·
  refine G.L (fun fO=>?_);refine o.al ?_;refine fO ?_;refine G.ret (gB .ret nofun _ _ (bd ?_));have dt:=DH (p:=p) (w:=x.1) (show D.begin.1=false by simpa using cg);exact⟨_,_,by rw[dt];rfl,by rw[dt];rw[bK]at d;exact d,aX,n⟩
 ·
  have dw:D.begin.1=true:=by simpa using cg
  have gb:=(pW dw).1;rw[←bK]at gb;have dy:=D4 C p;have ar:=qz (p:=p) (w:=x.1) dw;rw[←bK]at ar;refine G.skip (fK _ _ (G.L (fun fP=>?_)));refine o.az 2 ?_;refine aV pY (ql bb K g1 b C p w0 _ aI (c5.mono (by omega)) d dx) (fun d2 S dl=>?_);obtain⟨rfl,bs⟩:=dl;have d:=d.N bs;have aI:=aI.N bs;have ak:=ak.N bs;have q:=q.N bs;have n:=n.a8 bs;have d3:=bs.size;refine o.aa ?_;refine o.v1 cF ?_;refine o.v1 cF ?_;refine o.aP 2 ?_;refine fP (G.t2 (fun dn fQ=>G.L (fun fR=>?_)));refine o.aa ?_;refine o.v1 cb (o.nil (fR ?_));refine aW (fun e_=>?_) (fun e_=>?_)
  ·
   refine G.L (fun ds=>?_);refine o.aP 2 ?_;refine ds ?_;refine G.ret (fQ (bd ?_));have az:C.hD p x.1=7:=DF (D3 (D:=C) (by omega));exact⟨_,_,by rw[ar,az];rw[show C.look p=7 by omega];rfl,by rw[ar];simp only[az];exact d,aX,n⟩
  ·
   refine G.skip (dn (G.L (fun fS=>?_)));refine o.al ?_;refine fS (G.t1 (fun be=>G.L (fun eu=>?_)));refine o.aa ?_;refine o.v1 (Y.peq rfl (by kernel_rfl) (by kernel_rfl) rfl rfl) (o.nil (eu ?_));refine cL (fun b5=>?_) (fun b5=>?_)
   ·
    have bL:C.look p=2:=by
     rcases dy with h|h|h
     ·obtain⟨_,i,cx⟩:=qA h
      rw[if_pos h,cx]at b5;cases b5
     ·exact h
     ·omega
    obtain⟨bq,aZ⟩:=D2 bL;have aa:=Hu aZ;have g_:(C.c_ p).length=0:=by rw[aa];rfl
    refine G.region ?_;refine o.v1 (Y.build (v:= .agg #[.slice none 0 0,.slice none 0 0,.slice none 0 0]) rfl rfl (by intro w;kernel_rfl)) ?_;refine o.aS cY fun d4 bF fT=>?_;obtain⟨rfl,cX,bt,gR,ev⟩:=fT;have gQ:bF.size=S.size+1:=by rw[ev];simp
    have fU:ag (S.size+1) K:=ag.gG d.aD;have fV:=(ax.new (eC.mono n.size):ax _ (S.size+1));have fW:af (J.size+1) (S.size+1):=af.new q.lt;have fX:U 0 J.size (S.size+1):=U.new n.size;have d:=d.N bt;have aI:=aI.N bt;have ak:=ak.N bt;have q:=q.N bt;have n:=n.a8 bt;have d5:=bt.size;have cX:Var 186 bF S.size ([.slice none 0 0,.slice none 0 0,.slice none 0 0]):=cX;refine o.al ?_;refine be (G.L (fun ew=>?_));refine o.v1 (Y.an q.O rfl j3 rfl c8) ?_;refine o.v1 (au (q.O.drop 1) eI) ?_;refine o.v1 (bf ak dj) ?_;refine o.al ?_;refine ew ?_
    refine G.cut (fun(sz:(Nat))=>[(0,ptr b),(1,aK p),(5,.pointer (some ⟨J.size,0,none⟩)),(7,ptr S.size),(8,.int .i64 (C.look p:Int)),(9,.int .i64 (0)),(10,.int .i64 (sz:Int))])
     (fun(sz:(Nat)) (H:Heap)=>(sz=(x.1.on (C.c_ p) x.1.d.length).length)∧((C.c_ p).length≤274877906945)∧aq bF H) (fun _ c7 _=>?_) ?_
    ·
     have cV:aq bF bF:=W.refl _ _;refine G.L (fun ez=>?_);refine o.v1 (Y.an q.O rfl j3 rfl dz) ?_;refine o.v1 (au q.O ec) (o.nil (ez ?_));refine cL (fun a4=>?_) (fun a4=>?_)
     ·
      refine G.region ?_;refine o.az 2 ?_;refine o.v1 bD ?_;refine o.al ?_;refine aR.sub (c7 ((C.c_ p).length+x.1.d.length) _ ?_) ⟨rfl,rfl,rfl,rfl,(aF (by omega)),(aF (by omega)),(aF (by omega)),trivial⟩;exact⟨by rw[nQ,if_pos a4],by first|(rw[aa];omega)|(rw[aa];simp),cV⟩
     ·
      refine G.skip ?_;refine aR.sub (c7 x.1.d.length _ ?_) ⟨rfl,rfl,rfl,rfl,(aF (by omega)),(aF (by omega)),(aF (by omega)),trivial⟩;exact⟨by rw[nQ,if_neg (by simpa using a4)];omega,by first|(rw[aa];omega)|(rw[aa];simp),cV⟩
    ·
     intro sz bB ca;obtain⟨cz,gi,aC⟩:=ca;have d:=d.N aC;have aI:=aI.N aC;have ak:=ak.N aC;have q:=q.N aC;have cX:=cX.N aC;have n:=n.a8 aC;have d6:=aC.size;have gg:=bc.us;have gf:sz≤274877906945+274877906944:=by rw[cz,nQ];split<;>omega
     refine G.t2 (fun dI c9=>G.aD (fun dJ _ c_=>G.L (fun dK=>?_)));refine o.az 3 ?_;refine o.v1 (Y.an d.bE.O rfl hb rfl b6) ?_;refine o.v1 (au (d.bE.O.drop 1) cE) ?_;refine o.v1 eX ?_;refine o.al ?_;refine dK ?_;refine aW (fun cc=>?_) (fun cc=>?_)
     ·
      refine G.L (fun dM=>?_);refine o.al ?_;refine dM ?_;refine G.ret (c_ (c9 (bd ?_)));have az:C.hD p x.1=5:=sy bq (by omega);exact⟨_,_,by rw[ar,az];rfl,by rw[ar];simp only[az];exact d,aX,n⟩
     ·
      refine G.t1 (fun dN=>?_);refine dg (fun A=>aq bB A) [] ?_;have Z:=aq.refl bB;refine T.aa 0 rfl Z ?_;refine T.aa 2 rfl Z ?_;refine T.aa 4 rfl Z ?_;refine T.aa 6 rfl Z ?_;refine T.bG 7 rfl Z ?_;refine T.t1 8 rfl (fun A j=>Y.an (d.bE.O.N j) rfl hb rfl b6) Z ?_;refine T.t1 9 rfl (fun A j=>au ((d.bE.O.drop 0).N j) cE) Z ?_;refine T.aX 1 ?_;refine b7 vf (zc _ _ b C w0 _ d bc.al (by omega)) (fun fB cj cd=>?_);obtain⟨rfl,am⟩:=cd;have d:=d.N am;have aI:=aI.N am;have ak:=ak.N am;have q:=q.N am;have cX:=cX.N am;have n:=n.a8 am;have d7:=am.size;have b1:=Z.L am;refine T.cD b1 ?_;have aS:=aq.refl cj;refine T.t1 3 rfl (fun A j=>fG) aS ?_;refine T.t1 5 rfl (fun A j=>bD) aS ?_;refine T.t1 10 rfl (fun A j=>eX) aS ?_;refine T.t1 11 rfl (fun A j=>e5) aS ?_;refine cI ?_;have gd:=aS;refine dN ?_;refine aW (fun cf=>?_) (fun cf=>?_)
      ·
       refine G.L (fun dO=>?_);refine o.al ?_;refine dO ?_;refine G.ret (c_ (c9 (bd ?_)));have az:C.hD p x.1=12:=qy bq (by omega) (by omega);exact⟨_,_,by rw[ar,az];rfl,by rw[ar];simp only[az];exact d,aX,n⟩
      ·
       refine G.skip (dJ (dI (G.t1 (fun dQ=>G.L (fun eA=>?_)))));refine o.aa ?_;refine o.v1 cb (o.nil (eA ?_));refine aW (fun cp=>?_) (fun cp=>?_)
       ·
        have fZ:=d.len;refine G.region ?_;refine o.az 2 ?_;refine aV nh (nj bb p w0 _ aI (c5.mono (by omega)) dx) (fun d8 d9 fC=>?_);obtain⟨rfl,bu⟩:=fC;have d:=d.N bu;have ak:=ak.N bu;have q:=q.N bu;have cX:=cX.N bu;have n:=n.a8 bu;have gP:=bu.size;refine o.az 2 ?_;refine o.v1 (Y.cast (v2:= .agg (hB (g1.fb++[S.size]) ⟨[],p,some C.fs.length⟩).toArray) (Y.build (v:= .agg #[aK [],aK p,ptr S.size]) rfl rfl (by intro w;kernel_rfl)) (by simp[hB,la,List.getD,←d.len])) ?_;have fi:=ay.cons (fV) (dp);have da:ag (J.size+1) ((S.size+1)::K):=ag.cons (fW) (bT);have db:=aT.cons (fX) (aX);have d:=d.EP cX (fU);have bx:=d.aD;refine aV ve (vt ((S.size+1)::K) {g1 with ρ:=ft g1.ρ S.size (.fp C.fs.length),fb:=g1.fb++[S.size]} b {C with fs:=C.fs++[⟨[],[],[]⟩]} (ck p) ⟨[],p,some C.fs.length⟩ w0 _ d (by show g1.cy.length+1≤C.ops;rw[fN.2.2.2];omega) (by simp[dA.dir]) (fun i cx=>by cases cx;exact⟨rfl,by simp⟩) (fun h=>absurd rfl h) (by have:=bc.dG;show C.log.length≤_;omega)) (fun gS fD fE=>?_);have fj:=q.lt;obtain⟨aQ,cq,rfl,d,cW,ce,bN⟩:=fE;have a5:ag (J.size+1) aQ:=ag.ee (da) fj cW;have dc:aT K J.size aQ:=aT.L (db) cW n.size;have ak:=ak.ae bN (fi);have q:=q.ae bN (da);have n:=n.aL bN (ah.ca (db) (by intro k an;simp[an]));have gT:=bN.size;have bx:=d.aD;obtain⟨i,bz⟩:∃i,i=C.fs.length:=⟨_,rfl⟩;have aP:i<(gF C p).fs.length:=by rw[bz];exact xa C p
        have fY:cq.fb.getD i 0=S.size:=by rw[ce,bz];simp[List.getD,←fZ]
        obtain⟨bi,ai,a8⟩:∃bi,cq.fb.getD i 0=bi∧ptr S.size=ptr bi:=⟨_,fY,rfl⟩;have cy:(bY (gF C p).fs i).now=C.c_ p:=by rw[bz,w_,aa]
        have cA:(bY (gF C p).fs i).w.length≤274877906945:=by rw[bz,w_];simp
        have d:bg aQ cq fD b (gF C p):=d;refine o.nil (dQ (G.L (fun fk=>?_)));refine o.v1 (Y.an q.O rfl j3 rfl c8) ?_;refine o.v1 (au (q.O.drop 1) eI) ?_;refine aV ni (mm _ x.1.d w0 _ ak.any (by omega)) (fun fF fH cr=>?_);obtain⟨bm,R,rfl,E,bn,a7⟩:=cr;have de:ag R aQ:=ag.lM (ag.jd) d.aD bn;have dR:af (J.size+1) R:=af.app (af.z) q.lt bn;have ci:U 0 J.size R:=U.L (U.refl 0 _) bn n.size;have d:=d.N a7;have q:=q.N a7;have n:=n.a8 a7;have gU:=a7.size;have dG:=E.le;refine o.v1 (Y.an q.O rfl j3 rfl c8) ?_;refine o.s1 (dL q 1 ([.bool x.1.b,bm.v]) (rfl) c8 (by simp) (rfl)) fun X b2=>?_;obtain⟨q,aD⟩:=b2;have aD:=aD.bB;have d:=d.ae aD (dr.cons a5 dr.nil);have E:=E.ae aD (ag.I dR.symm);have n:=n.aL aD (ah.I (ao.q dm));have gp:=aD.size;refine o.nil (fk (G.t1 (fun fm=>?_)));obtain⟨cH,cK,cP,gj,gk,ba⟩:=d.fp i aP;have N:W (aB [(bi+1)]) X X:=W.refl _ _;have cC:gK aQ (bi+1):=(d.oW ba ai);have B:=ba.ox ai;have bW:=B.lt;have fo:af (J.size+1) (bi+1):=ag.at (a5) cC;have fp:af R (bi+1):=ag.at (de) cC;have fq:ao K J.size (bi+1):=ah.at (ah.ca (dc) (by intro k an;simp[an])) cC;have fr:=U.refl (bi+1) X.size;refine dg (fun A=>aq X A) [11,12,13,14] ?_;have M:aq X X:=W.refl _ _;refine T.t1 0 rfl (fun A j=>Y.cast (v2:=ptr bi) fl (a8)) M ?_;refine T.t1 1 rfl (fun A j=>a_ (q.O.N j) pM q2 (rfl)) M ?_;refine T.t1 2 rfl (fun A j=>Y.cast (v2:=ptr bi) fl (a8)) M ?_;refine T.bG 3 rfl M ?_;refine T.t1 4 rfl (fun A j=>Y.an (B.O.N j) rfl ja rfl lo) M ?_;refine T.t1 5 rfl (fun A j=>Y.an (B.O.N j) rfl ly rfl c8) M ?_;refine T.t1 6 rfl (fun A j=>au (B.O.N j) eI) M ?_;refine T.t1 7 rfl (fun A j=>Y.an (q.O.N j) rfl j3 rfl c8) M ?_;refine T.t1 8 rfl (fun A j=>au ((q.O.drop 1).N j) eI) M ?_;refine T.t1 9 rfl (fun A j=>bf (E.rd.N j) dj) M ?_;refine T.aX 10 ?_;refine b7 u5 (xA (x.1,bm) cH _ x.1.d.length w0 _ E.rd.any ba.aC.any (Nat.le_refl _) (by rw[cy];omega)) (fun fI co cu=>?_);obtain⟨cv,Q,rfl,a1,aH,ae⟩:=cu;have fu:af (J.size+1) Q:=af.app (af.z) q.lt aH;have cs:af R Q:=af.app (af.z) E.le aH;have fw:af (bi+1) Q:=af.app (af.z) B.lt aH;have bw:U 0 J.size Q:=U.L (U.refl 0 _) aH n.size;have cZ:U 0 X.size Q:=U.L (U.refl 0 _) aH N.size;have fx:U 0 X.size Q:=U.L (U.refl 0 _) aH M.size;have q:=q.N ae;have E:=E.N ae;have B:=B.N ae;have n:=n.a8 ae;have N:=N.a8 ae;have M:=M.L ae;have gr:=ae.size;have dH:=a1.le;refine⟨.inr M,T.narrow (SH2:=fun A=>W (aB [Q]) co A) (fun A j=>(W.aL (ks:=[]) (M.kI []) j (ah.I (ao.q fx))).nil) ?_⟩;refine T.aX 11 ?_;refine gJ rfl (Y.nilCheck rfl rfl) (.inl rfl) ?_;refine T.aX 12 ?_;refine gJ rfl (Y.an B.O rfl ja rfl lo) (.inl rfl) ?_;refine T.aX 13 ?_;refine gJ rfl (Y.an B.O rfl ly rfl c8) (.inl rfl) ?_;refine T.aX 14 ?_;refine gW rfl (dL B 0 ([cv.v,cK.v,cP.v]) (rfl) c8 (by simp) (rfl)) (fun P bX=>?_);obtain⟨B,ac⟩:=bX;have ac:=ac.bB;have q:=q.ae ac (ag.I fo);have E:=E.ae ac (ag.I fp);have a1:=a1.ae ac (ag.I fw.symm);have n:=n.aL ac (ah.cons (fq) ah.nil);have N:=N.aL ac (ah.I (ao.r fr));have gu:=ac.size;refine⟨.inl rfl,?_⟩;refine cI ?_;have fy:ag (J.size+1) (Q::aQ):=(ag.cons (fu) (a5));have bU:ag R (Q::aQ):=(ag.cons (cs) (de));have bV:aT K J.size (Q::aQ):=(aT.cons (bw) (dc));have d:=d.wo aP ba ai N B a1 (ag.qQ d.aD (cZ));have bx:=d.aD;refine fm (G.t1 (fun fz=>?_));have bp:=aP;rw[←si]at bp;obtain⟨cJ,cO,gm,O,cG,al⟩:=d.fp i bp;have f_:cG.length≤274877906945:=by have bJ:=congrArg List.length al.lw;rw[List.length_map,oN aP]at bJ;rw[bJ];exact cA
        have N:W (aB [(bi+1),O]) P P:=W.refl _ _;have dC:gK (Q::aQ) (bi+1):=(d.oW al ai);have B:=al.ox ai;have bW:=B.lt;have fA:af R (bi+1):=ag.at (bU) dC;have eP:ao K J.size (bi+1):=ah.at (ah.ca (bV) (by intro k an;simp[an])) dC;have eR:=U.refl (bi+1) P.size;have bR:gK (Q::aQ) O:=(d.mE al.iY (by simp));have hw:=al.hw;have bZ:=hw.le;have eS:af (J.size+1) O:=ag.at (fy) bR;have br:af R O:=ag.at (bU) bR;have eT:ao K J.size O:=ah.at (ah.ca (bV) (by intro k an;simp[an])) bR;have df:=U.refl O P.size;have bO:af (bi+1) O:=al.ne ai;refine dg (fun A=>W (aB [O]) P A) [8,9,10] ?_;have L:W (aB [O]) P P:=W.refl _ _;have eU:=U.refl O P.size;refine T.t1 0 rfl (fun A j=>Y.cast (v2:=ptr bi) fl (a8)) L ?_;refine T.t1 1 rfl (fun A j=>Y.cast (v2:=ptr bi) fl (a8)) L ?_;refine T.bG 2 rfl L ?_;refine T.t1 3 rfl (fun A j=>Y.fieldAddr (B.ae j (ag.I bO)).O rfl ja rfl rfl l1 (by decide) rfl) L ?_;refine T.t1 4 rfl (fun A j=>au ((B.ae j (ag.I bO)).O.drop 2) uj) L ?_;refine T.t1 5 rfl (fun A j=>Y.kH (q.ae j (ag.I eS)).O rfl pM q2 (rfl) rfl) L ?_;refine T.aX 6 ?_;refine ey rfl (cS _ ([(x.1,bm)]) qv qh qi (rfl)) (fun fJ ab cl=>?_);obtain⟨a9,ap,eV,b9⟩:=cl;have eD:ab.size=P.size+1:=by rw[b9];simp
        have eW:U 0 P.size (P.size+1):=U.new L.size;have E:=E.N ap;have B:=B.N ap;have hw:=hw.N ap;have n:=n.a8 ap;have N:=N.a8 ap;have L:=L.a8 ap;have gv:=ap.size;refine T.bZ L (ah.cons (ao.r eU) (ah.I (ao.q eW))) ?_;have L:W (aB [O,(P.size+1)]) ab ab:=W.refl _ _;have dh:=U.refl O ab.size;have eY:=U.refl (P.size+1) ab.size;refine T.aX 7 ?_;refine ey rfl (eg hw a9.rd qv (by first|omega|(simp;omega)) (by first|omega|(simp;omega))) (fun bo eZ cn=>?_);obtain⟨aN,hw,aL,aw⟩:=cn;have aL:U O ab.size aN:=aL;have aw:=aw.md;have e0:af R aN:=af.app (br) E.le aL;have e1:af (bi+1) aN:=af.app (bO) B.lt aL;have bv:U O P.size aN:=U.L (df) aL N.size;have e2:U O ab.size aN:=U.L (dh) aL L.size;have E:=E.ae aw (ag.I br);have B:=B.ae aw (ag.I bO);have n:=n.aL aw (ah.cons (eT) ah.nil);have N:=N.aL aw (ah.I (ao.r df));have L:=L.aL aw (ah.I (ao.r dh));have gx:=aw.size;have bZ:=hw.le;refine T.bZ L (ah.cons (ao.r e2) (ah.I (ao.r eY))) ?_;refine T.aX 8 ?_;refine gJ rfl (Y.nilCheck rfl rfl) (.inl rfl) ?_;refine T.aX 9 ?_;refine gJ rfl (Y.an B.O rfl ja rfl l1) (.inl rfl) ?_;refine T.aX 10 ?_;refine gW rfl (dL B 2 ([cJ.v,cO.v,bo]) (hw.rd.pb) l1 (by simp) (rfl)) (fun eB b0=>?_);obtain⟨B,ad⟩:=b0;have ad:=ad.bB;have E:=E.ae ad (ag.I fA);have hw:=hw.ae ad (ag.I e1.symm);have n:=n.aL ad (ah.cons (eP) ah.nil);have N:=N.aL ad (ah.I (ao.r eR));have gy:=ad.size;refine⟨.inl rfl,?_⟩;refine cI ?_;obtain⟨gl,rfl⟩:∃s:aO,bo=s.v:=⟨cm bo,hw.bm.symm⟩;have e3:aT K J.size (R::(aN::(Q::aQ))):=(aT.cons (ci) ((aT.app (bV) (bR) (bv) (by omega))));have d:=d.wy bp al ai N B hw (bv) E (ag.cons (e0) (bU));have bx:=d.aD;refine fz (G.L (fun e4=>?_));refine o.al ?_;refine e4 ?_;refine G.ret (bd ?_);have bH:C.hD p x.1=0:=oX bq (by omega) (by omega);exact⟨_,_,by rw[ar,bH];rfl,by rw[ar];simp only[bH,if_true];first|(rw[←zn aZ aP];rw[←aa]at d;exact d)|(rw[←zm aZ];subst bz;exact d),e3,n⟩
       ·
        exfalso;omega
   ·
    have bL:C.look p=0:=by
     rcases dy with h|h|h
     ·exact h
     ·rw[if_neg (by omega)]at b5;cases b5
     ·omega
    obtain⟨bq,i,aZ⟩:=qA bL;have aP:=d.ids.1 p i aZ;have aa:=tX aZ;obtain⟨bi,ai,a8⟩:∃bi,g1.fb.getD i 0=bi∧ .pointer (la g1.fb (if C.look p=0 then aM C.now p else none))=ptr bi:=⟨_,rfl,by rw[if_pos bL,aZ];rfl⟩;have cy:=aa.symm;have ga:=bc.N i;have ha:(C.c_ p).length≤274877906945:=by rw[aa];exact ga
    have cA:=bc.w i;obtain⟨hf,hg,hh,hc,hd,bP⟩:=d.fp i aP;refine G.region ?_;refine o.v1 (Y.cast (v2:=hM g1.fb i) fl (by rw[if_pos bL,aZ];rfl)) ?_;refine o.bG ?_;refine o.v1 (Y.an bP.cX.O rfl ja rfl lo) ?_;refine o.v1 (Y.an (bP.cX.O.drop 0) rfl ly rfl c8) ?_;refine o.v1 (au ((bP.cX.O.drop 0).drop 0) eI) ?_;refine o.v1 (Y.cast (v2:= .int .i64 ((C.c_ p).length:Int)) (bf bP.aC dj) (by rw[aa])) ?_;refine o.al ?_;refine be (G.L (fun e6=>?_));refine o.v1 (Y.an q.O rfl j3 rfl c8) ?_;refine o.v1 (au (q.O.drop 1) eI) ?_;refine o.v1 (bf ak dj) ?_;refine o.al ?_;refine e6 ?_
    refine G.cut (fun(sz:(Nat))=>[(0,ptr b),(1,aK p),(5,.pointer (some ⟨J.size,0,none⟩)),(7,.pointer (la g1.fb (if C.look p=0 then aM C.now p else none))),(8,.int .i64 (C.look p:Int)),(9,.int .i64 ((C.c_ p).length:Int)),(10,.int .i64 (sz:Int))])
     (fun(sz:(Nat)) (H:Heap)=>(sz=(x.1.on (C.c_ p) x.1.d.length).length)∧((C.c_ p).length≤274877906945)∧aq S H) (fun _ di _=>?_) ?_
    ·
     have c0:aq S S:=W.refl _ _;refine G.L (fun e7=>?_);refine o.v1 (Y.an q.O rfl j3 rfl dz) ?_;refine o.v1 (au q.O ec) (o.nil (e7 ?_));refine cL (fun a4=>?_) (fun a4=>?_)
     ·
      refine G.region ?_;refine o.az 2 ?_;refine o.v1 bD ?_;refine o.al ?_;refine aR.sub (di ((C.c_ p).length+x.1.d.length) _ ?_) ⟨rfl,rfl,rfl,rfl,(aF (by omega)),(aF (by omega)),(aF (by omega)),trivial⟩;exact⟨by rw[nQ,if_pos a4],by first|(rw[aa];omega)|(rw[aa];simp),c0⟩
     ·
      refine G.skip ?_;refine aR.sub (di x.1.d.length _ ?_) ⟨rfl,rfl,rfl,rfl,(aF (by omega)),(aF (by omega)),(aF (by omega)),trivial⟩;exact⟨by rw[nQ,if_neg (by simpa using a4)];omega,by first|(rw[aa];omega)|(rw[aa];simp),c0⟩
    ·
     intro sz bB ca;obtain⟨cz,gi,aC⟩:=ca;have d:=d.N aC;have ak:=ak.N aC;have q:=q.N aC;have n:=n.a8 aC;have gz:=aC.size;have gg:=bc.us;have gf:sz≤274877906945+274877906944:=by rw[cz,nQ];split<;>omega
     refine G.t2 (fun e8 dk=>G.aD (fun e9 _ c2=>G.L (fun fa=>?_)));refine o.az 3 ?_;refine o.v1 (Y.an d.bE.O rfl hb rfl b6) ?_;refine o.v1 (au (d.bE.O.drop 1) cE) ?_;refine o.v1 eX ?_;refine o.al ?_;refine fa ?_;refine aW (fun cc=>?_) (fun cc=>?_)
     ·
      refine G.L (fun fc=>?_);refine o.al ?_;refine fc ?_;refine G.ret (c2 (dk (bd ?_)));have az:C.hD p x.1=5:=sy bq (by omega);exact⟨_,_,by rw[ar,az];rfl,by rw[ar];simp only[az];exact d,aX,n⟩
     ·
      refine G.t1 (fun fe=>?_);refine dg (fun A=>aq bB A) [] ?_;have Z:=aq.refl bB;refine T.aa 0 rfl Z ?_;refine T.aa 2 rfl Z ?_;refine T.aa 4 rfl Z ?_;refine T.aa 6 rfl Z ?_;refine T.bG 7 rfl Z ?_;refine T.t1 8 rfl (fun A j=>Y.an (d.bE.O.N j) rfl hb rfl b6) Z ?_;refine T.t1 9 rfl (fun A j=>au ((d.bE.O.drop 0).N j) cE) Z ?_;refine T.aX 1 ?_;refine b7 vf (zc _ _ b C w0 _ d bc.al (by omega)) (fun fB cj cd=>?_);obtain⟨rfl,am⟩:=cd;have d:=d.N am;have ak:=ak.N am;have q:=q.N am;have n:=n.a8 am;have gA:=am.size;have b1:=Z.L am;refine T.cD b1 ?_;have aS:=aq.refl cj;refine T.t1 3 rfl (fun A j=>fG) aS ?_;refine T.t1 5 rfl (fun A j=>bD) aS ?_;refine T.t1 10 rfl (fun A j=>eX) aS ?_;refine T.t1 11 rfl (fun A j=>e5) aS ?_;refine cI ?_;have gd:=aS;refine fe ?_;refine aW (fun cf=>?_) (fun cf=>?_)
      ·
       refine G.L (fun ff=>?_);refine o.al ?_;refine ff ?_;refine G.ret (c2 (dk (bd ?_)));have az:C.hD p x.1=12:=qy bq (by omega) (by omega);exact⟨_,_,by rw[ar,az];rfl,by rw[ar];simp only[az];exact d,aX,n⟩
      ·
       refine G.skip (e9 (e8 (G.t1 (fun fg=>G.L (fun fh=>?_)))));refine o.aa ?_;refine o.v1 cb (o.nil (fh ?_));refine aW (fun cp=>?_) (fun cp=>?_)
       ·
        exfalso;omega
       ·
        refine G.skip (fg (G.L (fun eE=>?_)));refine o.v1 (Y.an q.O rfl j3 rfl c8) ?_;refine o.v1 (au (q.O.drop 1) eI) ?_;refine aV ni (mm _ x.1.d w0 _ ak.any (by omega)) (fun fF fH cr=>?_);obtain⟨bm,R,rfl,E,bn,a7⟩:=cr;have c3:ag R K:=ag.lM (ag.jd) d.aD bn;have eF:af (J.size+1) R:=af.app (af.z) q.lt bn;have eH:U 0 J.size R:=U.L (U.refl 0 _) bn n.size;have d:=d.N a7;have q:=q.N a7;have n:=n.a8 a7;have gC:=a7.size;have dG:=E.le;refine o.v1 (Y.an q.O rfl j3 rfl c8) ?_;refine o.s1 (dL q 1 ([.bool x.1.b,bm.v]) (rfl) c8 (by simp) (rfl)) fun X b2=>?_;obtain⟨q,aD⟩:=b2;have aD:=aD.bB;have d:=d.ae aD (dr.cons bT dr.nil);have E:=E.ae aD (ag.I eF.symm);have n:=n.aL aD (ah.I (ao.q dm));have gD:=aD.size;refine o.nil (eE (G.t1 (fun du=>?_)));obtain⟨cH,cK,cP,gj,gk,ba⟩:=d.fp i aP;have N:W (aB [(bi+1)]) X X:=W.refl _ _;have cD:gK K (bi+1):=(d.oW ba ai);have B:=ba.ox ai;have bW:=B.lt;have eJ:af (J.size+1) (bi+1):=ag.at (bT) cD;have eK:af R (bi+1):=ag.at (c3) cD;have eL:ao K J.size (bi+1):=ah.at (ah.ca (aX) (by intro k an;simp[an])) cD;have cB:=U.refl (bi+1) X.size;refine dg (fun A=>aq X A) [11,12,13,14] ?_;have M:aq X X:=W.refl _ _;refine T.t1 0 rfl (fun A j=>Y.cast (v2:=ptr bi) fl (a8)) M ?_;refine T.t1 1 rfl (fun A j=>a_ (q.O.N j) pM q2 (rfl)) M ?_;refine T.t1 2 rfl (fun A j=>Y.cast (v2:=ptr bi) fl (a8)) M ?_;refine T.bG 3 rfl M ?_;refine T.t1 4 rfl (fun A j=>Y.an (B.O.N j) rfl ja rfl lo) M ?_;refine T.t1 5 rfl (fun A j=>Y.an (B.O.N j) rfl ly rfl c8) M ?_;refine T.t1 6 rfl (fun A j=>au (B.O.N j) eI) M ?_;refine T.t1 7 rfl (fun A j=>Y.an (q.O.N j) rfl j3 rfl c8) M ?_;refine T.t1 8 rfl (fun A j=>au ((q.O.drop 1).N j) eI) M ?_;refine T.t1 9 rfl (fun A j=>bf (E.rd.N j) dj) M ?_;refine T.aX 10 ?_;refine b7 u5 (xA (x.1,bm) cH _ x.1.d.length w0 _ E.rd.any ba.aC.any (Nat.le_refl _) (by rw[cy];omega)) (fun fI co cu=>?_);obtain⟨cv,Q,rfl,a1,aH,ae⟩:=cu;have dS:af (J.size+1) Q:=af.app (af.z) q.lt aH;have dT:af R Q:=af.app (af.z) E.le aH;have dU:af (bi+1) Q:=af.app (af.z) B.lt aH;have dV:U 0 J.size Q:=U.L (U.refl 0 _) aH n.size;have dX:U 0 X.size Q:=U.L (U.refl 0 _) aH N.size;have dY:U 0 X.size Q:=U.L (U.refl 0 _) aH M.size;have q:=q.N ae;have E:=E.N ae;have B:=B.N ae;have n:=n.a8 ae;have N:=N.a8 ae;have M:=M.L ae;have gE:=ae.size;have dH:=a1.le;refine⟨.inr M,T.narrow (SH2:=fun A=>W (aB [Q]) co A) (fun A j=>(W.aL (ks:=[]) (M.kI []) j (ah.I (ao.q dY))).nil) ?_⟩;refine T.aX 11 ?_;refine gJ rfl (Y.nilCheck rfl rfl) (.inl rfl) ?_;refine T.aX 12 ?_;refine gJ rfl (Y.an B.O rfl ja rfl lo) (.inl rfl) ?_;refine T.aX 13 ?_;refine gJ rfl (Y.an B.O rfl ly rfl c8) (.inl rfl) ?_;refine T.aX 14 ?_;refine gW rfl (dL B 0 ([cv.v,cK.v,cP.v]) (rfl) c8 (by simp) (rfl)) (fun P bX=>?_);obtain⟨B,ac⟩:=bX;have ac:=ac.bB;have q:=q.ae ac (ag.I eJ);have E:=E.ae ac (ag.I eK);have a1:=a1.ae ac (ag.I dU.symm);have n:=n.aL ac (ah.cons (eL) ah.nil);have N:=N.aL ac (ah.I (ao.r cB));have gG:=ac.size;refine⟨.inl rfl,?_⟩;refine cI ?_;have dZ:ag (J.size+1) (Q::K):=(ag.cons (dS) (bT));have b3:ag R (Q::K):=(ag.cons (dT) (c3));have b8:aT K J.size (Q::K):=(aT.cons (dV) (aX));have d:=d.wo aP ba ai N B a1 (ag.qQ d.aD (dX));have bx:=d.aD;refine du (G.t1 (fun eM=>?_));have bp:=aP;rw[←si]at bp;obtain⟨cJ,cO,gm,O,cG,al⟩:=d.fp i bp;have f_:cG.length≤274877906945:=by have bJ:=congrArg List.length al.lw;rw[List.length_map,oN aP]at bJ;rw[bJ];exact cA
        have N:W (aB [(bi+1),O]) P P:=W.refl _ _;have dB:gK (Q::K) (bi+1):=(d.oW al ai);have B:=al.ox ai;have bW:=B.lt;have ea:af R (bi+1):=ag.at (b3) dB;have ed:ao K J.size (bi+1):=ah.at (ah.ca (b8) (by intro k an;simp[an])) dB;have ee:=U.refl (bi+1) P.size;have bQ:gK (Q::K) O:=(d.mE al.iY (by simp));have hw:=al.hw;have bZ:=hw.le;have ef:af (J.size+1) O:=ag.at (dZ) bQ;have c1:af R O:=ag.at (b3) bQ;have eh:ao K J.size O:=ah.at (ah.ca (b8) (by intro k an;simp[an])) bQ;have a0:=U.refl O P.size;have bM:af (bi+1) O:=al.ne ai;refine dg (fun A=>W (aB [O]) P A) [8,9,10] ?_;have L:W (aB [O]) P P:=W.refl _ _;have ei:=U.refl O P.size;refine T.t1 0 rfl (fun A j=>Y.cast (v2:=ptr bi) fl (a8)) L ?_;refine T.t1 1 rfl (fun A j=>Y.cast (v2:=ptr bi) fl (a8)) L ?_;refine T.bG 2 rfl L ?_;refine T.t1 3 rfl (fun A j=>Y.fieldAddr (B.ae j (ag.I bM)).O rfl ja rfl rfl l1 (by decide) rfl) L ?_;refine T.t1 4 rfl (fun A j=>au ((B.ae j (ag.I bM)).O.drop 2) uj) L ?_;refine T.t1 5 rfl (fun A j=>Y.kH (q.ae j (ag.I ef)).O rfl pM q2 (rfl) rfl) L ?_;refine T.aX 6 ?_;refine ey rfl (cS _ ([(x.1,bm)]) qv qh qi (rfl)) (fun fJ ab cl=>?_);obtain⟨a9,ap,eV,b9⟩:=cl;have eD:ab.size=P.size+1:=by rw[b9];simp
        have ej:U 0 P.size (P.size+1):=U.new L.size;have E:=E.N ap;have B:=B.N ap;have hw:=hw.N ap;have n:=n.a8 ap;have N:=N.a8 ap;have L:=L.a8 ap;have gH:=ap.size;refine T.bZ L (ah.cons (ao.r ei) (ah.I (ao.q ej))) ?_;have L:W (aB [O,(P.size+1)]) ab ab:=W.refl _ _;have a2:=U.refl O ab.size;have ek:=U.refl (P.size+1) ab.size;refine T.aX 7 ?_;refine ey rfl (eg hw a9.rd qv (by first|omega|(simp;omega)) (by first|omega|(simp;omega))) (fun bo eZ cn=>?_);obtain⟨aN,hw,aL,aw⟩:=cn;have aL:U O ab.size aN:=aL;have aw:=aw.md;have eo:af R aN:=af.app (c1) E.le aL;have ep:af (bi+1) aN:=af.app (bM) B.lt aL;have a3:U O P.size aN:=U.L (a0) aL N.size;have er:U O ab.size aN:=U.L (a2) aL L.size;have E:=E.ae aw (ag.I c1);have B:=B.ae aw (ag.I bM);have n:=n.aL aw (ah.cons (eh) ah.nil);have N:=N.aL aw (ah.I (ao.r a0));have L:=L.aL aw (ah.I (ao.r a2));have gI:=aw.size;have bZ:=hw.le;refine T.bZ L (ah.cons (ao.r er) (ah.I (ao.r ek))) ?_;refine T.aX 8 ?_;refine gJ rfl (Y.nilCheck rfl rfl) (.inl rfl) ?_;refine T.aX 9 ?_;refine gJ rfl (Y.an B.O rfl ja rfl l1) (.inl rfl) ?_;refine T.aX 10 ?_;refine gW rfl (dL B 2 ([cJ.v,cO.v,bo]) (hw.rd.pb) l1 (by simp) (rfl)) (fun eB b0=>?_);obtain⟨B,ad⟩:=b0;have ad:=ad.bB;have E:=E.ae ad (ag.I ea);have hw:=hw.ae ad (ag.I ep.symm);have n:=n.aL ad (ah.cons (ed) ah.nil);have N:=N.aL ad (ah.I (ao.r ee));have gL:=ad.size;refine⟨.inl rfl,?_⟩;refine cI ?_;obtain⟨gl,rfl⟩:∃s:aO,bo=s.v:=⟨cm bo,hw.bm.symm⟩;have et:aT K J.size (R::(aN::(Q::K))):=(aT.cons (eH) ((aT.app (b8) (bQ) (a3) (by omega))));have d:=d.wy bp al ai N B hw (a3) E (ag.cons (eo) (b3));have bx:=d.aD;refine eM (G.L (fun eN=>?_));refine o.al ?_;refine eN ?_;refine G.ret (bd ?_);have bH:C.hD p x.1=0:=oX bq (by omega) (by omega);exact⟨_,_,by rw[ar,bH];rfl,by rw[ar];simp only[bH,if_true];first|(rw[←zn aZ aP];rw[←aa]at d;exact d)|(rw[←zm aZ];subst bz;exact d),et,n⟩
end hf

namespace ho
open E Go.RowKit eM e7 fx fS gm gN gX hf
theorem G4{D:aE}{p:aJ}(h:D.begin.1=false):D.sync p=(11,D.begin.2):=by unfold aE.sync;simp[h]
theorem tH{D:aE}{p:aJ}(h:D.begin.1=true):D.sync p=(D.begin.2.look p,if D.begin.2.look p=0 then D.begin.2.tG ((aM D.begin.2.now p).getD 0)else D.begin.2):=by unfold aE.sync;simp[h]
theorem FP{D:aE}{p q:aJ}(h:D.begin.1=false):D.rename p q=(11,D.begin.2):=by unfold aE.rename;simp[h]
theorem x5{D:aE}{p q:aJ}(h:D.begin.1=true):D.rename p q=(D.begin.2.jX p q,if D.begin.2.jX p q=0∧p≠q then D.begin.2.change ⟨p,q,some ((aM D.begin.2.now p).getD 0)⟩else D.begin.2):=by unfold aE.rename;simp[h]
theorem x3{D:aE}{p q:aJ}(h:cl p=false∨cl q=false):D.jX p q=7:=by unfold aE.jX;rw[if_pos h]
theorem FO{D:aE}{p q:aJ}(h:cl p=true)(V:cl q=true)(d:ck p≠ck q):D.jX p q=13:=by unfold aE.jX;rw[if_neg (by simp[h,V]),if_pos d]
theorem x4{D:aE}{p q:aJ}(h:cl p=true)(V:cl q=true)(d:ck p=ck q):D.jX p q=D.look p:=by unfold aE.jX;rw[if_neg (by simp[h,V]),if_neg (by simpa using d)]
theorem Gn{D:aE}{p:aJ}(h:D.begin.1=false):D.h5 p=(11,D.begin.2):=by unfold aE.h5;simp[h]
theorem yr{D:aE}{p:aJ}(h:D.begin.1=true):D.h5 p=(iQ p,if iQ p=0 then D.begin.2.mW p else D.begin.2):=by unfold aE.h5;simp[h]
theorem xp{p:aJ}(h:cl p=true):p≠[]:=((sY p).1 h).1
theorem w3{κ β:Type}{a1:κ→Value}{fv:β→Value}(bF:Nat)(m:List (κ×β))(w0:World)(J:Heap)(h:c0 J a1 fv bF m):aG Tryz.prog w0 79 #[.map (some bF)] J (fun r j=>∃d:Nat,r= .map (some d)∧c0 j a1 fv d m∧U 0 J.size (d+1)∧aq J j):=by
 intro w i;obtain⟨r,es,clock,q,V,k,n,o⟩:=h.fi.ex;obtain rfl:=V;have aA:w.heap[r]?=some (.map es clock):=by rw[i.heap];exact k
 refine(AnyW.maps_Clone Tryz.mclone79 r es clock w aA).mono ?_;rintro e x ⟨rfl,rfl⟩;refine⟨_,J.push (.map es clock),rfl,i.alloc _,J.size,by rw[i.heap],⟨⟨J.size,es,clock,rfl,rfl,by simp,n,o⟩⟩,.inr (.inr (by omega)),aq.pu _ _⟩
set_option maxHeartbeats 2000000 in
theorem rm(bb:Int)(K:List Nat)(g:ct)(b:Nat)(D:aE)(p:aJ)(i:aO)(d:List UInt8)(F:Nat→Prop)(w0:World)(J:Heap)
 (j:bg K g J b D) (aI:dP bb J) (N:bk (fun b=>b=0) J.size) (c6:ay (fun b=>b=0) K) (ak:Rd F J a6 1 i.v d) (M:bk F J.size) (O:ay F K) (S:p.length≤4294967280) (P:gw 274877906944 D) (Q:d.length≤274877906944):
 aG Tryz.prog w0 170 #[ptr b,aK p,i.v] J (fun r q=>∃bl:List Nat,∃g2:ct,r= .int .i64 ((D.lay p ⟨false,d⟩).1:Int)∧(bg bl g2 q b (D.lay p ⟨false,d⟩).2)∧(aT K J.size bl)∧W (aB K) J q):=by
 refine aG.aN [ptr b,aK p,i.v] Tryz.func170 ?_;intro U T;have n:W (aB K) J J:=W.refl _ _;have x:=aT.refl K J.size;have ac:=j.aD;refine G.L (fun B=>?_);refine o.al ?_;refine B (G.seq (fun bl C _=>G.region ?_));refine o.az 3 ?_;refine o.v1 (Y.build (v:=n0 (⟨false,d⟩,i)) rfl rfl (by intro w;kernel_rfl)) ?_;refine aV u_ (wT bb K g b D p (⟨false,d⟩,i) F w0 _ j aI (N.mono (by omega)) c6 ak (M.mono (by omega)) O S P Q) (fun X Z E=>?_);obtain⟨H,aw,rfl,j,A,ad⟩:=E;have L:aT K J.size H:=aT.L (x) A n.size;have n:=n.aL ad (ah.ca (x) (by intro k R;simp[R]));refine o.al ?_;refine C _ _ ?_;refine G.ret (T ?_);exact⟨_,_,rfl,j,L,n⟩
set_option maxHeartbeats 2000000 in
theorem uA(bb:Int)(K:List Nat)(g:ct)(b:Nat)(D:aE)(p:aJ)(i:aO)(d:List UInt8)(F:Nat→Prop)(w0:World)(J:Heap)
 (j:bg K g J b D) (aI:dP bb J) (N:bk (fun b=>b=0) J.size) (c6:ay (fun b=>b=0) K) (ak:Rd F J a6 1 i.v d) (M:bk F J.size) (O:ay F K) (S:p.length≤4294967280) (P:gw 274877906944 D) (Q:d.length≤274877906944):
 aG Tryz.prog w0 110 #[ptr b,aK p,i.v] J (fun r q=>∃bl:List Nat,∃g2:ct,r= .int .i64 ((D.lay p ⟨true,d⟩).1:Int)∧(bg bl g2 q b (D.lay p ⟨true,d⟩).2)∧(aT K J.size bl)∧W (aB K) J q):=by
 refine aG.aN [ptr b,aK p,i.v] Tryz.func110 ?_;intro U T;have n:W (aB K) J J:=W.refl _ _;have x:=aT.refl K J.size;have ac:=j.aD;refine G.L (fun B=>?_);refine o.al ?_;refine B (G.seq (fun bl C _=>G.region ?_));refine o.az 3 ?_;refine o.v1 (Y.build (v:=n0 (⟨true,d⟩,i)) rfl rfl (by intro w;kernel_rfl)) ?_;refine aV u_ (wT bb K g b D p (⟨true,d⟩,i) F w0 _ j aI (N.mono (by omega)) c6 ak (M.mono (by omega)) O S P Q) (fun X Z E=>?_);obtain⟨H,aw,rfl,j,A,ad⟩:=E;have L:aT K J.size H:=aT.L (x) A n.size;have n:=n.aL ad (ah.ca (x) (by intro k R;simp[R]));refine o.al ?_;refine C _ _ ?_;refine G.ret (T ?_);exact⟨_,_,rfl,j,L,n⟩
set_option maxHeartbeats 2000000 in
theorem yP(bb:Int)(K:List Nat)(g:ct)(b:Nat)(D:aE)(p:aJ)(w0:World)(J:Heap)
 (d:bg K g J b D) (aI:dP bb J) (aQ:bk (fun b=>b=0) J.size) (c6:ay (fun b=>b=0) K) (aS:p.length≤4294967280) (ab:gw 274877906944 D):
 aG Tryz.prog w0 107 #[ptr b,aK p] J (fun r X=>∃bl:List Nat,∃g2:ct,r= .int .i64 ((D.sync p).1:Int)∧(bg bl g2 X b (D.sync p).2)∧(aT K J.size bl)∧W (aB K) J X):=by
 refine aG.aN [ptr b,aK p] Tryz.func107 ?_;intro a6 T;have j:W (aB K) J J:=W.refl _ _;have x:=aT.refl K J.size;have bc:=d.aD;have bn:=ab.op;have bf:=d.h_;obtain⟨q,A⟩:∃q,q=D.begin.2:=⟨_,rfl⟩;have aR:=ab.begin;rw[←A]at aR;refine G.L (fun ap=>?_);refine o.al ?_;refine ap (G.seq (fun bl aC aD=>G.L (fun aF=>?_)));refine o.aa ?_;refine aV pZ (pV K g b D w0 _ d (by omega)) ?_;rintro bs a1 ⟨g1,rfl,d,a7,H⟩;have aI:=aI.ae H (c6);have j:=j.aL H (ah.ca (x) (by intro k Q;simp[Q]));have a8:=H.size;rw[←A]at d;refine o.v1 eG (o.nil (aF ?_));refine cL (fun M=>?_) (fun M=>?_)
 ·
  refine G.L (fun aH=>?_);refine o.al ?_;refine aH ?_;refine G.ret (aD .ret nofun _ _ (T ?_));have ae:=G4 (p:=p) (show D.begin.1=false by simpa using M);exact⟨_,_,by rw[ae];rfl,by rw[ae];rw[A]at d;exact d,x,j⟩
 ·
  have af:D.begin.1=true:=by simpa using M
  have aX:=(pW af).1;rw[←A]at aX;have B:=tH (p:=p) af;rw[←A]at B;refine G.skip (aC _ _ (G.L (fun aL=>?_)));refine o.az 2 ?_;refine aV pY (ql bb K g1 b q p w0 _ aI (aQ.mono (by omega)) d aS) (fun a_ L aN=>?_);obtain⟨rfl,ad⟩:=aN;have d:=d.N ad;have j:=j.a8 ad;have ba:=ad.size;refine o.aa ?_;refine o.v1 cF ?_;refine o.v1 cF ?_;refine o.aP 2 ?_;refine aL (G.t1 (fun Z=>G.L (fun aO=>?_)));refine o.aa ?_;refine o.v1 cb (o.nil (aO ?_));refine aW (fun aP=>?_) (fun aP=>?_)
  ·
   have R:q.look p=0:=by omega
   obtain⟨bm,i,S⟩:=qA R;have ag:=d.ids.1 p i S;obtain⟨bi,N,O⟩:∃bi,g1.fb.getD i 0=bi∧ .pointer (la g1.fb (if q.look p=0 then aM q.now p else none))=ptr bi:=⟨_,rfl,by rw[if_pos R,S];rfl⟩;obtain⟨F,bq,aZ,bo,bp,P⟩:=d.fp i ag;have C:W (aB [(bi+1)]) L L:=W.refl _ _;have nD:gK K (bi+1):=(d.oW P N);have n:=P.ox N;have aa:ao K J.size (bi+1):=ah.at (ah.ca (x) (by intro k Q;simp[Q])) nD;have aw:=U.refl (bi+1) L.size;refine G.region ?_;refine o.v1 (Y.cast (v2:=ptr bi) fl (O)) ?_;refine o.v1 (Y.cast (v2:=ptr bi) fl (O)) ?_;refine o.v1 (Y.cast (v2:=ptr bi) fl (O)) ?_;refine o.bG ?_;refine o.v1 (Y.an n.O rfl ja rfl lo) ?_;refine o.v1 (Y.an n.O rfl ly rfl c8) ?_;refine o.v1 (au n.O eI) ?_;refine o.bG ?_;refine o.v1 (Y.an n.O rfl ja rfl lo) ?_;refine o.v1 (Y.an n.O rfl ly rfl c8) ?_;refine o.s1 (dL n 1 ([F.v,F.v,aZ.v]) (rfl) c8 (by simp) (rfl)) fun am ar=>?_;obtain⟨n,E⟩:=ar;have E:=E.bB;have j:=j.aL E (ah.cons (aa) ah.nil);have C:=C.aL E (ah.I (ao.r aw));refine o.bG ?_;refine o.v1 (Y.an n.O rfl ja rfl l1) ?_;refine o.s1 (dL n 2 ([F.v,F.v,.slice none 0 0]) (rfl) l1 (by simp) (rfl)) fun bd az=>?_;obtain⟨n,ac⟩:=az;have ac:=ac.bB;have j:=j.aL ac (ah.cons (aa) ah.nil);have C:=C.aL ac (ah.I (ao.r aw));refine o.nil ?_;have ai:aT K J.size K:=x;have d:=d.fsync ag P N C n;refine Z (G.L (fun al=>?_));refine o.aP 2 ?_;refine al ?_;refine G.ret (T ?_);exact⟨_,_,by rw[B];rfl,by rw[B];simp only[R,if_true,S,Option.getD_some];exact d,ai,j⟩
  ·
   refine G.skip (Z (G.L (fun an=>?_)));refine o.aP 2 ?_;refine an ?_;refine G.ret (T ?_);exact⟨_,_,by rw[B];rfl,by rw[B];rw[if_neg (by omega)];exact d,x,j⟩
set_option maxHeartbeats 2000000 in
theorem FQ(bb:Int)(K:List Nat)(g:ct)(b:Nat)(D:aE)(p q:aJ)(w0:World)(J:Heap)
 (n:bg K g J b D) (aI:dP bb J) (H:bk (fun b=>b=0) J.size) (c6:ay (fun b=>b=0) K) (T:p.length≤4294967280) (aL:q.length≤4294967280) (az:gw 274877906944 D):
 aG Tryz.prog w0 174 #[ptr b,aK p,aK q] J (fun r ar=>∃bl:List Nat,∃g2:ct,r= .int .i64 ((D.rename p q).1:Int)∧(bg bl g2 ar b (D.rename p q).2)∧(aT K J.size bl)∧W (aB K) J ar):=by
 refine aG.aN [ptr b,aK p,aK q] Tryz.func174 ?_;intro bJ F;have x:W (aB K) J J:=W.refl _ _;have C:=aT.refl K J.size;have ap:=n.aD;have b2:=az.op;have b1:=n.h_;obtain⟨B,O⟩:∃B,B=D.begin.2:=⟨_,rfl⟩;have aC:=az.begin;rw[←O]at aC;refine G.L (fun aR=>?_);refine o.al ?_;refine aR (G.seq (fun bl aS aX=>G.L (fun aZ=>?_)));refine o.aa ?_;refine aV pZ (pV K g b D w0 _ n (by omega)) (fun a0 a2 a1=>?_);obtain⟨g1,rfl,n,a6,U⟩:=a1;have aI:=aI.ae U (c6);have x:=x.aL U (ah.ca (C) (by intro k ai;simp[ai]));have a3:=U.size;rw[←O]at n;refine o.v1 eG (o.nil (aZ ?_));refine cL (fun aa=>?_) (fun aa=>?_)
 ·
  refine G.L (fun a7=>?_);refine o.al ?_;refine a7 ?_;refine G.ret (aX .ret nofun _ _ (F ?_));have aD:=FP (p:=p) (q:=q) (show D.begin.1=false by simpa using aa);exact⟨_,_,by rw[aD];rfl,by rw[aD];rw[O]at n;exact n,C,x⟩
 ·
  have aH:D.begin.1=true:=by simpa using aa
  have bH:=(pW aH).1;rw[←O]at bH;have A:=x5 (p:=p) (q:=q) aH;rw[←O]at A;refine G.skip (aS _ _ (G.t2 (fun a8 ab=>G.aD (fun a_ _ ae=>G.L (fun au=>?_)))));refine o.aa ?_;refine aV mq (mH bb p w0 _ aI (H.mono (by omega)) T) (fun a4 a5 ba=>?_);obtain⟨rfl,P⟩:=ba;have n:=n.N P;have aI:=aI.N P;have x:=x.a8 P;have bK:=P.size;refine o.v1 eG ?_;refine o.aa ?_;refine o.split (d:=16) rfl (fun M=>?_) (fun M=>?_)
  ·
   refine o.aP 5 ?_;refine au ?_;refine G.h9 rfl ?_;refine G.L (fun bc=>?_);refine o.al ?_;refine bc ?_;refine G.ret (ae (ab (F ?_)));have E:=x3 (D:=B) (p:=p) (q:=q) (by first|exact .inl (by simpa using M)|exact .inr (by simpa using N));exact⟨_,_,by rw[A,E];rfl,by rw[A,E];exact n,C,x⟩
  ·
   refine o.bJ ?_;refine o.call rfl mq rfl bo rfl rfl (mH bb q w0 _ aI (H.mono (by omega)) aL) (fun bL bM bd=>?_);obtain⟨rfl,ac⟩:=bd;have n:=n.N ac;have aI:=aI.N ac;have x:=x.a8 ac;have a9:=ac.size;refine o.ar eG ?_;refine o.aP 2 ?_;refine au ?_;refine cL (fun N=>?_) (fun N=>?_)
   ·
    refine G.L (fun bf=>?_);refine o.al ?_;refine bf ?_;refine G.ret (ae (ab (F ?_)));have E:=x3 (D:=B) (p:=p) (q:=q) (by first|exact .inl (by simpa using M)|exact .inr (by simpa using N));exact⟨_,_,by rw[A,E];rfl,by rw[A,E];exact n,C,x⟩
   ·
    refine G.L (fun bw=>?_);refine o.aa ?_;refine aV nh (nj bb p w0 _ aI (H.mono (by omega)) T) (fun bO bP bm=>?_);obtain⟨rfl,ad⟩:=bm;have n:=n.N ad;have aI:=aI.N ad;have x:=x.a8 ad;have bQ:=ad.size;refine o.aa ?_;refine aV nh (nj bb q w0 _ aI (H.mono (by omega)) aL) (fun bR bT bn=>?_);obtain⟨rfl,Q⟩:=bn;have n:=n.N Q;have aI:=aI.N Q;have x:=x.a8 Q;have be:=Q.size;refine o.v1 (Y.iZ rfl rfl rfl) ?_;refine o.al ?_;refine bw ?_;refine aW (fun af=>?_) (fun af=>?_)
    ·
     refine G.L (fun bx=>?_);refine o.al ?_;refine bx ?_;refine G.ret (ae (ab (F ?_)));have E:=FO (D:=B) (p:=p) (q:=q) (by simpa using M) (by simpa using N) (by simpa using af);exact⟨_,_,by rw[A,E];rfl,by rw[A,E];exact n,C,x⟩
    ·
     have aF:ck p=ck q:=by simpa using af
     have bD:cl p=true:=by simpa using M
     have bE:cl q=true:=by simpa using N
     have L:=x4 (D:=B) bD bE aF;refine G.skip (a_ (a8 (G.L (fun bz=>?_))));refine o.az 2 ?_;refine aV pY (ql bb K g1 b B p w0 _ aI (H.mono (by omega)) n T) (fun b5 bU bp=>?_);obtain⟨rfl,R⟩:=bp;have n:=n.N R;have aI:=aI.N R;have x:=x.a8 R;have bV:=R.size;refine o.aa ?_;refine o.v1 cF ?_;refine o.v1 cF ?_;refine o.aP 2 ?_;refine bz (G.t1 (fun X=>G.L (fun aw=>?_)));refine o.aa ?_;refine o.v1 cb ?_;refine o.aa ?_;refine o.bp (d:=35) rfl (fun ag=>?_) (fun ag=>?_)
     ·
      refine o.az 2 ?_;refine o.ar (Y.iZ rfl rfl rfl) ?_;refine o.O ?_;refine o.nil (aw ?_);refine aW (fun S=>?_) (fun S=>?_)
      ·
       have al:B.look p=0:=by omega
       obtain⟨bF,i,an⟩:=qA al;have bA:=n.ids.1 p i an;refine G.region ?_;refine o.az 2 ?_;refine aV nh (nj bb p w0 _ aI (H.mono (by omega)) T) (fun bi bW bq=>?_);obtain⟨rfl,Z⟩:=bq;have n:=n.N Z;have x:=x.a8 Z;have bX:=Z.size;refine o.az 3 ?_;refine o.v1 (Y.cast (v2:= .agg (hB g1.fb ⟨p,q,some i⟩).toArray) (Y.build (v:= .agg #[aK p,aK q,.pointer (la g1.fb (if B.look p=0 then aM B.now p else none))]) rfl rfl (by intro w;kernel_rfl)) (by rw[if_pos al,an])) ?_;refine aV ve (vt K g1 b B (ck p) ⟨p,q,some i⟩ w0 _ n (by rw[a6.2.2.2];omega) (by simp[dA.dir,xp bF]) (fun j bB=>by cases bB;exact⟨aF.symm,bA⟩) (fun h=>rfl) (by have:=aC.dG;omega)) (fun bY bZ bs=>?_);obtain⟨bt,b0,rfl,n,am,bN,aN⟩:=bs;have bu:aT K J.size bt:=aT.L (C) am x.size;have x:=x.aL aN (ah.ca (C) (by intro k ai;simp[ai]));refine o.nil (X (G.L (fun aO=>?_)));refine o.aP 2 ?_;refine aO ?_;refine G.ret (F ?_);exact⟨_,_,by rw[A,L];rfl,by rw[A,L];rw[if_pos ⟨al,by simpa using S⟩,an];exact n,bu,x⟩
      ·
       refine G.skip (X (G.L (fun aP=>?_)));refine o.aP 2 ?_;refine aP ?_;refine G.ret (F ?_);exact⟨_,_,by rw[A,L];rfl,by rw[A,L];rw[if_neg (fun h=>by first|exact ag (by omega)|exact h.2 (by simpa using S))];exact n,C,x⟩
     ·
      refine o.az 4 ?_;refine o.nil (aw ?_);refine dK ?_;refine G.skip (X (G.L (fun aQ=>?_)));refine o.aP 2 ?_;refine aQ ?_;refine G.ret (F ?_);exact⟨_,_,by rw[A,L];rfl,by rw[A,L];rw[if_neg (fun h=>by first|exact ag (by omega)|exact h.2 (by simpa using S))];exact n,C,x⟩
set_option maxHeartbeats 2000000 in
theorem G3(bb:Int)(K:List Nat)(g:ct)(b:Nat)(D:aE)(p:aJ)(w0:World)(J:Heap)
 (j:bg K g J b D) (aI:dP bb J) (bD:bk (fun b=>b=0) J.size) (c6:ay (fun b=>b=0) K) (bE:p.length≤4294967280) (aX:gw 274877906944 D):
 aG Tryz.prog w0 176 #[ptr b,aK p] J (fun r aD=>∃bl:List Nat,∃g2:ct,r= .int .i64 ((D.h5 p).1:Int)∧(bg bl g2 aD b (D.h5 p).2)∧(aT K J.size bl)∧W (aB K) J aD):=by
 refine aG.aN [ptr b,aK p] Tryz.func176 ?_;intro bO T;have i:W (aB K) J J:=W.refl _ _;have H:=aT.refl K J.size;have bR:=j.aD;have bV:=aX.op;have bU:=j.h_;obtain⟨R,P⟩:∃R,R=D.begin.2:=⟨_,rfl⟩;have ar:=aX.begin;rw[←P]at ar;refine G.L (fun bt=>?_);refine o.al ?_;refine bt (G.seq (fun bl bu bw=>G.L (fun bx=>?_)));refine o.aa ?_;refine aV pZ (pV K g b D w0 _ j (by omega)) ?_;rintro bW bN ⟨g1,rfl,j,aF,al⟩;have aI:=aI.ae al (c6);have i:=i.aL al (ah.ca (H) (by intro k E;simp[E]));have bP:=al.size;rw[←P]at j;refine o.v1 eG (o.nil (bx ?_));refine cL (fun an=>?_) (fun an=>?_)
 ·
  refine G.L (fun bz=>?_);refine o.al ?_;refine bz ?_;refine G.ret (bw .ret nofun _ _ (T ?_));have aZ:=Gn (p:=p) (show D.begin.1=false by simpa using an);exact⟨_,_,by rw[aZ];rfl,by rw[aZ];rw[P]at j;exact j,H,i⟩
 ·
  have a1:D.begin.1=true:=by simpa using an
  have bF:=(pW a1).1;rw[←P]at bF;have M:=yr (p:=p) a1;rw[←P]at M;refine G.skip (bu _ _ (G.t2 (fun aH bA=>G.L (fun aL=>?_))));refine o.aa ?_;refine o.v1 (Y.iZ rfl rfl rfl) ?_;refine o.aa ?_;refine o.bp (d:=11) rfl (fun S=>?_) (fun S=>?_)
  ·
   refine o.bJ ?_;refine o.call rfl mq rfl bo rfl rfl (mH bb p w0 _ aI (bD.mono (by omega)) bE) (fun a9 bQ a0=>?_);obtain⟨rfl,ai⟩:=a0;have j:=j.N ai;have i:=i.a8 ai;have bT:=ai.size;refine o.ar eG ?_;refine o.O ?_;refine o.nil (aL ?_);refine cL (fun O=>?_) (fun O=>?_)
   ·
    refine G.L (fun cg=>?_);refine o.al ?_;refine cg ?_;refine G.ret (bA (T ?_));have F:iQ p=7:=by unfold iQ;rw[if_pos ⟨S,by simpa using O⟩]
    exact⟨_,_,by rw[M,F];rfl,by rw[M,F];exact j,H,i⟩
   ·
    refine G.skip (aH (G.L (fun a2=>?_)));refine o.az 2 ?_;refine aV rW (sO K g1 b R p w0 _ j (by rw[aF.2.2.2];omega)) (fun a3 B X=>?_);obtain⟨aw,a4,bj,rfl,j,aa,Q,a8,am⟩:=X;have aM:aT K J.size aw:=aT.L (H) aa i.size;have i:=i.aL am (ah.ca (H) (by intro k E;simp[E]));refine o.al ?_;refine a2 (G.t1 (fun a5=>?_));obtain⟨N,bL,bH,aC,az,bM,C⟩:=j.gf _ bj Q;have n:W (aB [(bj+1)]) B B:=W.refl _ _;have bK:gK aw (bj+1):=(j.nD C.rd (by simp));have cJ:=C.cJ;have aN:ao K J.size (bj+1):=ah.at (ah.ca (aM) (by intro k E;simp[E])) bK;have aO:=U.refl (bj+1) B.size;refine G.region ?_;refine o.az 4 ?_;refine o.v1 (Y.an cJ.O rfl kl rfl mR) ?_;refine o.v1 (Y.an cJ.O rfl mZ rfl ln) ?_;refine o.v1 (au cJ.O oq) ?_;refine aV vm (w3 N az w0 _ C.aC) (fun a6 a7 Z=>?_);obtain⟨q,rfl,A,ad,L⟩:=Z;have aP:af (bj+1) (q+1):=af.app (af.z) cJ.lt ad;have a_:U 0 J.size (q+1):=U.L (U.refl 0 _) ad i.size;have ba:U 0 B.size (q+1):=U.L (U.refl 0 _) ad n.size;have cJ:=cJ.N L;have i:=i.a8 L;have n:=n.a8 L;refine o.bG ?_;refine o.v1 (Y.an cJ.O rfl kl rfl mR) ?_;refine o.v1 (Y.an cJ.O rfl mZ rfl ln) ?_;refine o.s1 (dL cJ 1 ([.map (some N),.map (some q),aC.v]) (rfl) ln (by simp) (rfl)) fun ap ab=>?_;obtain⟨cJ,x⟩:=ab;have x:=x.bB;have A:=A.ae x (ag.I aP.symm);have i:=i.aL x (ah.cons (aN) ah.nil);have n:=n.aL x (ah.I (ao.r aO));refine o.bG ?_;refine o.v1 (Y.an cJ.O rfl kl rfl mS) ?_;refine o.s1 (dL cJ 2 ([.map (some N),.map (some q),.slice none 0 0]) (rfl) mS (by simp) (rfl)) fun bB ae=>?_;obtain⟨cJ,ac⟩:=ae;have ac:=ac.bB;have A:=A.ae ac (ag.I aP.symm);have i:=i.aL ac (ah.cons (aN) ah.nil);have n:=n.aL ac (ah.I (ao.r aO));refine o.nil ?_;have bc:aT K J.size ((q+1)::aw):=(aT.cons (a_) (aM));have j:=j.vF ar.al Q C n cJ A (fun _=>rfl) (ag.qQ j.aD (ba));refine a5 (G.L (fun bd=>?_));refine o.al ?_;refine bd ?_;refine G.ret (T ?_);have F:iQ p=0:=by unfold iQ;rw[if_neg (fun h=>by first|exact absurd h.1 S|(rw[h.2]at O;cases O))]
    exact⟨_,_,by rw[M,F];rfl,by rw[M,F];exact j,bc,i⟩
  ·
   refine o.az 4 ?_;refine o.nil (aL ?_);refine dK ?_;refine G.skip (aH (G.L (fun bf=>?_)));refine o.az 2 ?_;refine aV rW (sO K g1 b R p w0 _ j (by rw[aF.2.2.2];omega)) (fun a3 B X=>?_);obtain⟨aw,a4,bj,rfl,j,aa,Q,a8,am⟩:=X;have aQ:aT K J.size aw:=aT.L (H) aa i.size;have i:=i.aL am (ah.ca (H) (by intro k E;simp[E]));refine o.al ?_;refine bf (G.t1 (fun bm=>?_));obtain⟨N,bL,bH,aC,az,bM,C⟩:=j.gf _ bj Q;have n:W (aB [(bj+1)]) B B:=W.refl _ _;have bJ:gK aw (bj+1):=(j.nD C.rd (by simp));have cJ:=C.cJ;have aR:ao K J.size (bj+1):=ah.at (ah.ca (aQ) (by intro k E;simp[E])) bJ;have aS:=U.refl (bj+1) B.size;refine G.region ?_;refine o.az 4 ?_;refine o.v1 (Y.an cJ.O rfl kl rfl mR) ?_;refine o.v1 (Y.an cJ.O rfl mZ rfl ln) ?_;refine o.v1 (au cJ.O oq) ?_;refine aV vm (w3 N az w0 _ C.aC) (fun a6 a7 Z=>?_);obtain⟨q,rfl,A,ad,L⟩:=Z;have aW:af (bj+1) (q+1):=af.app (af.z) cJ.lt ad;have bn:U 0 J.size (q+1):=U.L (U.refl 0 _) ad i.size;have bp:U 0 B.size (q+1):=U.L (U.refl 0 _) ad n.size;have cJ:=cJ.N L;have i:=i.a8 L;have n:=n.a8 L;refine o.bG ?_;refine o.v1 (Y.an cJ.O rfl kl rfl mR) ?_;refine o.v1 (Y.an cJ.O rfl mZ rfl ln) ?_;refine o.s1 (dL cJ 1 ([.map (some N),.map (some q),aC.v]) (rfl) ln (by simp) (rfl)) fun ap ab=>?_;obtain⟨cJ,x⟩:=ab;have x:=x.bB;have A:=A.ae x (ag.I aW.symm);have i:=i.aL x (ah.cons (aR) ah.nil);have n:=n.aL x (ah.I (ao.r aS));refine o.bG ?_;refine o.v1 (Y.an cJ.O rfl kl rfl mS) ?_;refine o.s1 (dL cJ 2 ([.map (some N),.map (some q),.slice none 0 0]) (rfl) mS (by simp) (rfl)) fun bB ae=>?_;obtain⟨cJ,ac⟩:=ae;have ac:=ac.bB;have A:=A.ae ac (ag.I aW.symm);have i:=i.aL ac (ah.cons (aR) ah.nil);have n:=n.aL ac (ah.I (ao.r aS));refine o.nil ?_;have bq:aT K J.size ((q+1)::aw):=(aT.cons (bn) (aQ));have j:=j.vF ar.al Q C n cJ A (fun _=>rfl) (ag.qQ j.aD (bp));refine bm (G.L (fun bs=>?_));refine o.al ?_;refine bs ?_;refine G.ret (T ?_);have F:iQ p=0:=by unfold iQ;rw[if_neg (fun h=>by first|exact absurd h.1 S|(rw[h.2]at O;cases O))]
   exact⟨_,_,by rw[M,F];rfl,by rw[M,F];exact j,bq,i⟩
end ho

namespace kq
open E Go.RowKit eM e7 fx fS gm gN gX hf ho
open Go.Sort Go.Shelf
theorem rR(a b:aJ):blt a b↔a<b:=by unfold blt;rw[bytesLess_eq,decide_eq_true_iff]
theorem ET{a b:aJ}(h:a≤b):¬blt b a:=by rw[rR];exact List.not_lt.2 h
theorem GB{l m:List aJ}(aC:l.Nodup)(h:m=l.mergeSort (fun x y=>decide (x≤y))):jB m∧m.Perm l:=by
 subst h;have j:=List.mergeSort_perm l (fun x y=>decide (x≤y))
 have aj:(l.mergeSort (fun x y=>decide (x≤y))).Pairwise (fun x y=>decide (x≤y)=true):=List.pairwise_mergeSort (le:=fun x y:List UInt8=>decide (x≤y)) (fun a b c d V=>by
  simp only[decide_eq_true_eq]at*;exact List.le_trans d V) (fun a b=>by
  simp only[Bool.or_eq_true,decide_eq_true_eq];exact List.le_total a b) l
 have i:(l.mergeSort (fun x y=>decide (x≤y))).Nodup:=j.nodup_iff.2 aC;refine⟨?_,j⟩;unfold jB;rw[List.nodup_iff_pairwise_ne]at i;refine(aj.and i).imp (fun{x y} h=>?_);obtain⟨d,V⟩:=h;refine Classical.byContradiction (fun k=>V (mo k ?_));simp only[decide_eq_true_eq]at d;exact ET d
theorem sj:∀l:List aJ,l.flatMap fy=l.map aK
 |[]=>rfl
 |x::l=>by rw[List.flatMap_cons,sj l];rfl
theorem Fu(d:Array aJ)(cur:Array Value)(h:d.size≤cur.size):(putCells encStr 0 d cur).size=cur.size∧(putCells encStr 0 d cur).toList.take d.size=d.toList.flatMap fy:=by
 refine⟨by simp[putCells],?_⟩;rw[sj];apply List.ext_getElem?;intro i;rw[List.getElem?_take];split
 ·rename_i j
  rw[Array.getElem?_toList,List.getElem?_map,Array.getElem?_toList,Array.getElem?_eq_getElem (by simp[putCells];omega),Array.getElem?_eq_getElem j];simp only[putCells,Array.getElem_mapIdx,Nat.zero_le,Nat.zero_add,true_and,Nat.sub_zero];rw[if_pos j,getElem!_pos d i j];rfl
 ·rw[List.getElem?_map,Array.getElem?_toList,Array.getElem?_eq_none (by omega)];rfl
theorem Gz(k:Nat)(v:Value)(l:List aJ)(w0:World)(H:Heap)(h:aU k 9 H fy 1 v l)(Z:l.length<4611686018427387904):
 aG Tryz.prog w0 134 #[v] H (fun r E=>∃P:List aJ,∃a7:Nat,r= .tuple #[]∧aU a7 9 E fy 1 v P∧U k H.size a7∧(P=l.mergeSort (fun x y=>decide (x≤y)))∧W (aB [k]) H E):=by
 intro w i;rcases h.own.ex with⟨A,ab⟩|⟨d,cap,cur,A,M,N,Q,V,F,R⟩
 ·subst A ab
  exact(Any.slices_Sort_string_none Tryz.lays190 none 0 w).mono (fun e ae ⟨he,hw⟩=>⟨_,H,he,by rw[hw];exact i,[],k,rfl,h,U.refl _ _,by simp,W.refl _ _⟩)
 ·obtain⟨B,bz,O⟩:=id N
  have C:w.heap[d]?=some (.cells cur 9 B):=by rw[i.heap];exact bz
  have hle:l.length≤cur.size:=by rw[F];omega
  have T:Holds encStr w d 0 l.toArray:=by
   intro j L;have Y:j<l.length:=by simpa using L
   have av:cur[j]?=some (aK l[j]):=by
    have:(cur.toList.take (l.length*1))[j]?=(l.flatMap fy)[j]?:=by rw[R]
    rw[List.getElem?_take,if_pos (by omega),Array.getElem?_toList,sj]at this;rw[this,List.getElem?_map,List.getElem?_eq_getElem Y];rfl
   refine⟨?_,?_⟩
   ·simp only[World.cell?,C,Nat.zero_add,Option.isSome_none,Bool.false_eq_true,if_false,id_eq]
    rw[av,getElem!_pos l.toArray j L];rfl
   ·have:=O.2 j (by omega)
    simp only[World.frozen?,C,Nat.zero_add]
    simpa using this
  have K:d<w.heap.size:=by rw[i.heap];exact N.lt
  have J:=Any.slices_Sort_string Tryz.lays190 d 0 cap l w T K Z;rw[←A]at J;refine J.mono ?_;rintro gC ae ⟨he,n,os,rfl⟩;have ak:(l.mergeSort fun x y=>decide (x≤y)).length=l.length:=List.length_mergeSort l;obtain⟨G,S⟩:=Fu (l.mergeSort fun x y=>decide (x≤y)).toArray cur (by simp;exact hle);have o:(grow (putRow encStr (Sort.ahead w n) d 0 (l.mergeSort fun x y=>decide (x≤y)).toArray) os).heap=w.heap.modify d (onCells (putCells encStr 0 (l.mergeSort fun x y=>decide (x≤y)).toArray))++os:=rfl
  have X:(grow (putRow encStr (Sort.ahead w n) d 0 (l.mergeSort fun x y=>decide (x≤y)).toArray) os).heap[d]?=some (.cells (putCells encStr 0 (l.mergeSort fun x y=>decide (x≤y)).toArray cur) 9 B):=by
   rw[o,Array.getElem?_append_left (by simpa using K),Array.getElem?_modify,if_pos rfl,C];rfl
  refine⟨_,(grow (putRow encStr (Sort.ahead w n) d 0 (l.mergeSort fun x y=>decide (x≤y)).toArray) os).heap,he,⟨rfl,i.os,i.tape,i.output,Nat.le_trans i.e_ (Nat.le_add_right _ _)⟩,_,k,rfl,⟨⟨mx,ns,.inr ⟨d,cap,_,by rw[ak];exact A,M,⟨B,X,by rw[G];exact O⟩,by rw[ak];exact Q,V,by rw[G];exact F,?_⟩⟩,?_⟩,U.refl _ _,rfl,?_,?_⟩
  ·simpa using S
  ·rw[o]
   have:=h.le;simp[i.heap];omega
  ·rw[o];simp[i.heap]
  ·intro b aA aC
   have aa:d≠b:=fun q=>aC (by unfold aB;rw[←q];simp[M]);rw[o,Array.getElem?_append_left (by simp[i.heap,aA]),Array.getElem?_modify,if_neg aa,i.heap]
end kq

namespace k0
open E Go.RowKit eM e7 fx fS gm gN gX hf ho kq
set_option maxRecDepth 100000 in
theorem oV:c3 Tryz.prog 69 9 1 16:=⟨Tryz.underlying69,_,_,rfl,rfl,rfl,rfl,rfl⟩
def nV:Code→Code
 | .seq _ (.seq (.seq _ (.block _ c)) _)=>c
 |_=> .skip
def rP:Code→Code
 | .rangeFunc _ _ c _=>c
 |_=> .skip
def rS:Code→Code
 | .rangeFunc _ _ _ c=>c
 |_=> .skip
structure rr (r:Loop) (bA:Nat):Prop where
 st:r.state= .ready
 xT:r.pending=none
 eP:r.params= #[7]
 A:r.assign=rP (nV (Tryz.f196.body.getD .skip))
 B:r.body=rS (nV (Tryz.f196.body.getD .skip))
 oQ:Fr Tryz.f196.ntmps [(2,.pointer (some ⟨bA,0,none⟩))] {tmps:=r.tmps,defers:=[]}
theorem zS(r:Loop)(bA bc k:Nat)(Y:Value)(O:List aJ)(x:aJ)(w0:World)(H:Heap)(o:rr r bA)(C:hd H bc r)(i:Var 69 H bA [Y])(n:aU k 9 H fy 1 Y O)(d1:af (bc+1) (bA+1))(d2:af (bc+1) k)(d3:af (bA+1) k)(hlen:O.length≤1099511627776):
 om Tryz.prog w0 bc [aK x] H (fun aw A=>∃Z:Value,∃X:Nat,aw= .bool true∧hd A bc r∧Var 69 A bA [Z]∧aU X 9 A fy 1 Z (O++[x])∧U k H.size X∧W (aB [bc+1,bA+1,k]) H A):=by
 have al:=o.oQ.put (d:=7) rfl (aK x);refine om.of C o.st o.xT o.eP (o.A.trans rfl) (o.B.trans rfl) al ?_;have R:bc≠bA:=d1.ne;have aD:=C.lt;have az:=i.lt;have aF:=n.le;have hm:=W.refl (aB [bc+1,bA+1,k]) H;refine eT.v e5 (by intro c e;cases e) cM rfl rfl ?_;refine eT.nil (fun a w Q J=>⟨rfl,_,H,Q,J,C,?_⟩);have M:W (fun c=>c=bc) H (H.setIfInBounds bc (.loop {r with state:= .busy})):=kf _;have j:hd (H.setIfInBounds bc (.loop {r with state:= .busy})) bc {r with state:= .busy}:=⟨by simp[C.lt]⟩;obtain⟨B,ai⟩:∃B,B=H.setIfInBounds bc (.loop {r with state:= .busy}):=⟨_,rfl⟩;rw[←ai]at M j⊢;have N:=M.bB;have hm:=hm.aL N (ah.cons (ao.root (by simp)) ah.nil);have i:=i.ae N (ag.cons (af.of (Ne.symm R)) ag.nil);have n:=n.ae N (ag.I d2.symm);have aM:=M.size;refine eT.v (au i.O uq) (by intro c e;cases e) cM rfl rfl ?_;refine eT.v fl (by intro c e;cases e) cM rfl rfl ?_;refine eT.z (cS _ ([x]) oV mx ns rfl) (by intro c e;cases e) cM rfl rfl ?_;rintro v10 P ⟨ar,E,aN,ae⟩;have aH:P.size=B.size+1:=by rw[ae];simp
 have hm:=hm.a8 E;have j:=j.N E;have i:=i.N E;have n:=n.N E;have aC:af k (B.size+1):=af.new (by omega);have aG:=n.le;refine eT.z (eg n ar.rd oV (by simp;omega) (by simp;omega)) (by intro c e;cases e) cM rfl rfl ?_;rintro v11 ay ⟨F,G,q,S⟩;have q:U k P.size F:=q;have K:=S.md;have hm:=hm.aL K (ah.cons (ao.root (by simp)) ah.nil);have j:=j.ae K (ag.I d2);have i:=i.ae K (ag.I d3);have aI:=S.size;have ab:af (bA+1) F:=af.app d3 (by omega) q;have dl:af (bc+1) F:=af.app d2 (by omega) q;obtain⟨aP,an⟩:∃s:aO,v11=s.v:=⟨cm v11,G.bm.symm⟩;refine eT.s (dL i 0 ([v11]) (by rw[an];rfl) Gl (by simp) rfl) (by intro c e;cases e) cM rfl ?_;rintro aa ⟨i,T⟩;have L:=T.bB;have hm:=hm.aL L (ah.cons (ao.root (by simp)) ah.nil);have j:=j.ae L (ag.I d1);have G:=G.ae L (ag.I ab.symm);have aL:=T.size;refine eT.nil (fun a w Q J=>⟨rfl,aa,J,j,v11,F,rfl,?_,?_,?_,?_,?_⟩)
 ·exact⟨by simp[j.lt]⟩
 ·exact i.ae (W.bB (kf (r:=bc) _)) (ag.cons (af.of (Ne.symm R)) ag.nil)
 ·exact G.ae (W.bB (kf (r:=bc) _)) (ag.I dl.symm)
 ·unfold U at q⊢;omega
 ·exact hm.aL (W.bB (kf (r:=bc) _)) (ah.cons (ao.root (by simp)) ah.nil)
theorem Fr.start{n:Nat}{args:List Value}(i:args.length≤n):Fr n (lN args 0) {tmps:=args.toArray++Array.replicate (n-args.toArray.size) undef,defers:=[]}:=by
 refine⟨rfl,?_,?_⟩
 ·simp;omega
 ·intro t v e
  obtain⟨_,V⟩:=rN args 0 t v e;simp only[Nat.sub_zero]at V;simp only;have d:=(List.getElem?_eq_some_iff.1 V).1;rw[Array.getElem?_append_left (by simpa using d)]
  simpa using V
theorem ua.v{P:Program}{w0:World}{Q:Exit→Act→World→Prop}{n:Nat}{l:bO}{H:Heap}{ops:Array Oper}{rest:List Oper}{I:Oper}{ds:List Deferred}{v:Value}{d:Nat}(hy:Y P w0 n l H I v)(o:∀c,I.op≠ .defer c)(hw:cT ops l I)(ak:I.dst=some d)(aC:Nat.blt d n=true)
 (h:∀a w,Fr n ((d,v)::l) a→At w0 H w→wpListIn (l_ none) 0 P ops Q rest {a with defers:=ds} w):∀a w,Fr n l a→At w0 H w→wpListIn (l_ none) 0 P ops Q (I::rest) {a with defers:=ds} w:=by
 intro a w i j;have k:=i.put aC v;rw[←ak]at k;unfold wpListIn;rw[if_pos (hw n a i)];refine⟨fun _ _=>trivial,?_⟩;rw[Oper.semAt_eq _ _ _ o];show Oper.uponIn _ _ _ _ _ _ _ ((execOp a.eval I).run P w);rw[hy a w i j,Oper.uponIn_value];have V:=h _ w k j;have e:({a with defers:=ds}:Act).put I.dst v={(a.put I.dst v)with defers:=ds}:=by rw[ak];rfl
 rw[e];exact V
end k0

namespace pF
open E Go.RowKit eM e7 fx fS gm gN gX hf ho kq k0
theorem DB(Q:Loop)(bc bA K bF D d:Nat)(aa:Value)(fv:cw→Value)(M:List (aJ×cw))(w0:World)(J:Heap)
 (aH:Var 130 J K [.map (some bF)]) (q:c0 J aK fv bF M) (bw:iM J D) (n:hd J bc Q) (j:Var 69 J bA [aa]) (i:aU d 9 J fy 1 aa []) (bL:rr Q bA) (cc:M.length≤1099511627776) (bp:af (bc+1) (bA+1)) (bq:af (bc+1) (d)) (bo:af (bA+1) (d)) (b9:af (K+1) (bc+1)) (b8:af (K+1) (bA+1)) (ca:af (K+1) (d)) (bt:af (bF+1) (bc+1)) (bs:af (bF+1) (bA+1)) (bu:af (bF+1) (d)) (b6:af (D+1) (bc+1)) (b5:af (D+1) (bA+1)) (b7:af (D+1) (d)):
 aG Tryz.prog w0 135 #[.func (.yield bc) #[] #[],.pointer (some ⟨K,0,none⟩)] J (fun r R=>∃aM:Value,∃aL:Nat,∃out:List aJ,r= .tuple #[]∧(hd R bc Q)∧(Var 69 R bA [aM])∧(aU aL 9 R fy 1 aM out)∧(U d J.size aL)∧(out.Nodup∧∀k,k∈out↔k∈M.map (·.1))∧W (aB [(bc+1),(bA+1),d]) J R):=by
 refine aG.enter (args:=[.func (.yield bc) #[] #[],.pointer (some ⟨K,0,none⟩)]) Tryz.func135 rfl rfl rfl ?_;intro bQ bM;have C:W (aB [(bc+1),(bA+1),d]) J J:=W.refl _ _;have b1:=aH.lt;have b0:=q.lt;have b2:=bw.lt;have bg:=U.refl (bc+1) J.size;have bV:=n.lt;have bk:=U.refl (bA+1) J.size;have bW:=j.lt;have an:=U.refl d J.size;have ar:=i.le;refine G.L (fun aX=>?_);refine o.v1 (au aH.O zA) ?_;obtain⟨es,bn,q⟩:=q.raw;refine o.aS (Z.tg q rfl kT rfl) ?_;rintro v5 E ⟨rfl,it,F,a4,aZ⟩;have bY:E.size=J.size+1:=by rw[aZ];simp
 have ab:af (bF+1) (J.size+1):=af.new q.lt;have ae:af (bc+1) (J.size+1):=af.new n.lt;have ai:af (bA+1) (J.size+1):=af.new j.lt;have a1:af d (J.size+1):=af.new i.le;have al:U 0 J.size (J.size+1):=U.new C.size;have q:=q.N F;have n:=n.N F;have j:=j.N F;have i:=i.N F;have C:=C.a8 F;have a5:=F.size;have bX:=it.lt;refine o.nil (aX (G.aD (fun _ a6 _=>?_)))
 refine G.bc (fun(bN:(List aJ)×(Value)×(Nat))=>match bN with|(dn,N,A)=>[(0,.func (.yield bc) #[] #[]),(5,.pointer (some ⟨J.size,0,none⟩))])
  (fun(dn,N,A) (H:Heap)=>(hG H J.size bF aK es bn dn)∧(hd H bc Q)∧(Var 69 H bA [N])∧(aU A 9 H fy 1 N dn)∧(dn.Nodup∧∀k∈dn,k∈M.map (·.1))∧(U d E.size A)∧(af (J.size+1) A)∧(af (bc+1) A)∧(af (bA+1) A)∧W (aB [(J.size+1),(bc+1),(bA+1),d]) E H)
  (fun(dn,N,A)=>M.length-dn.length) ([],aa,d) ⟨rfl,rfl,trivial⟩ ?_ ?_
 ·
  exact⟨it,n,j,i,⟨List.nodup_nil,by simp⟩,U.refl _ _,a1.symm,bq,bo,W.refl _ _⟩
 rintro⟨dn,N,A⟩ bR a7 n9 a8 a_;obtain⟨it,n,j,i,L,ay,bl,bm,aw,B⟩:=a7;have aN:U d J.size A:=U.L (an) ay C.size;have q:=q.ae B (ag.cons ab (ag.cons bt (ag.cons bs (ag.I bu))));have C:=C.aL B (ah.cons (ao.q al) (ah.cons (ao.r bg) (ah.cons (ao.r bk) (ah.I (ao.r an)))));have bT:=B.size;have ar:=i.le;have ap:=bl;have az:=bm;have aC:=aw;have ac:=U.refl (J.size+1) E.size;have ad:=U.refl (bc+1) E.size;have bf:=U.refl (bA+1) E.size;have aD:=ay;have bE:=lh L.1 L.2;rw[List.length_map]at bE;refine G.L (fun ba=>?_);refine o.aS (Z.s0 it q gp.inj rfl rfl) ?_;rintro v6 bP ⟨cd,x,y,cb,rfl,it,bz,bx,am⟩;have am:=am.bB;have q:=q.ae am (ag.I ab);have i:=i.ae am (ag.I ap.symm);have n:=n.ae am (ag.I ae);have j:=j.ae am (ag.I ai);have C:=C.aL am (ah.I (ao.q al));have B:=B.aL am (ah.I (ao.r ac));have bU:=am.size;refine o.v1 (Y.se rfl rfl) (o.nil (ba ?_));refine G.t2 (fun bb bd=>?_);refine cL (fun cB=>?_) (fun cB=>?_)
 ·
  obtain⟨aI,bJ,aF⟩:=bz cB;rw[aF]at it;refine G.skip (bb (G.aD (fun a0 _ _=>G.L (fun cg=>?_))));refine o.v1 (Y.sd it q gp.inj aI rfl rfl) ?_;refine o.v1 cF ?_;refine o.al ?_;refine cg (G.t1 (fun a2=>?_));refine G.FL ?_;refine eT.v fl (by intro c e;cases e) cM rfl rfl ?_;refine eT.v fl (by intro c e;cases e) cM rfl rfl ?_;refine eT.round rfl rfl rfl cM rfl rfl (zS Q bA bc _ _ dn x w0 _ bL n j i (bp) (az) (aC) (by omega)) (fun a9 bZ a3=>?_);have aO:=it.lt;have aP:=n.lt;have aQ:=j.lt;obtain⟨bO,P,rfl,n,j,i,S,T⟩:=a3;have aS:af (J.size+1) P:=af.app (ap) aO S;have aT:af (bc+1) P:=af.app (az) aP S;have aV:af (bA+1) P:=af.app (aC) aQ S;have aW:U d E.size P:=U.L (aD) S B.size;have it:=it.ae T (ag.cons ae.symm (ag.cons ai.symm (ag.I ap)));have B:=B.aL T (ah.cons (ao.r ad) (ah.cons (ao.r bf) (ah.I (ao.r aD))));have b3:=T.size;have ar:=i.le;refine eT.v eG (by intro c e;cases e) cM rfl rfl ?_;refine eT.nil ?_;refine a2 ?_;refine dK ?_;refine G.skip (a0 ?_)
  have X:(dn++[x]).Nodup∧∀k∈dn++[x],k∈M.map (·.1):=by
   refine⟨?_,fun k O=>?_⟩
   ·rw[List.nodup_append]
    exact⟨L.1,by simp,fun a bB b aA e=>by simp only[List.mem_singleton]at aA;subst aA;subst e;exact bJ bB⟩
   ·rcases List.mem_append.1 O with O|O
    ·exact L.2 k O
    ·rw[List.mem_singleton.1 O];exact List.mem_map.2 ⟨_,aI,rfl⟩
  have bH:=lh X.1 X.2;rw[List.length_append,List.length_map,List.length_singleton]at bH;refine aR.sub (a8 (dn++[x],bO,P) _ ?_ ?_) ⟨rfl,rfl,trivial⟩
  ·exact⟨it,n,j,i,X,aW,aS,aT,aV,B⟩
  ·simp only[List.length_append,List.length_singleton];omega
 ·
  obtain⟨bD,aF⟩:=bx cB;refine G.exit (bd (a_ (a6 ?_)));refine bM .normal (.inl rfl) _ _ _ (iG rfl) ?_;exact⟨N,A,dn,rfl,n,j,i,aN,⟨L.1,fun k=>⟨L.2 k,fun h=>by obtain⟨p,bK,rfl⟩:=List.mem_map.1 h;exact bD p bK⟩⟩,C⟩
theorem zZ(i bF:Nat)(fv:cw→Value)(T:List (aJ×cw))(w0:World)(J:Heap)(C:Var 130 J i [.map (some bF)])(B:c0 J aK fv bF T)(bn:T.length≤1099511627776):
 aG Tryz.prog w0 196 #[.slice none 0 0,.func (.func 135) #[] #[.pointer (some ⟨i,0,none⟩)]] J (fun r aH=>∃s:aO,∃k:Nat,∃out:List aJ,r=s.v∧(aU k 9 aH fy 1 s.v out)∧(U 0 J.size k)∧(out.Nodup∧∀k,k∈out↔k∈T.map (·.1))∧aq J aH):=by
 intro w ba;refine callsIn_wide.1 (callsIn_of_wp_marks (n:=0) Tryz.func196 rfl trivial ?_);have bc:=Fr.start (n:=Tryz.f196.ntmps) (args:=[.slice none 0 0,.func (.func 135) #[] #[.pointer (some ⟨i,0,none⟩)]]) (Nat.le_of_ble_eq_true rfl);refine wpIn_seq (wpIn_wide.2 ?_);refine(G.region (w0:=w0) (H:=J) (n:=Tryz.f196.ntmps) (l:=lN [.slice none 0 0,.func (.func 135) #[] #[.pointer (some ⟨i,0,none⟩)]] 0) ?_) _ w bc ba;refine o.aS (Z.nc rfl rfl rfl) ?_;rintro v2 H1 ⟨rfl,ae,aD,bH,a8⟩;have bA:H1.size=J.size+1:=by rw[a8];simp
 have bz:=C.lt;have bx:=B.lt;have C:=C.N aD;have B:=B.N aD;refine o.cg ?_;refine o.nil (fun cg ar bd bb=>?_);show(Code.seq _ _).wpIn Fence.wide 0 _ _ cg ar;refine wpIn_seq (wpIn_seq (wpIn_wide.2 ?_));refine(G.region (w0:=w0) (H:=H1) ?_) cg ar bd bb;refine o.aa ?_;refine o.nil (fun a2 d K aN=>?_);show(Code.block _ _).wpIn Fence.wide 0 _ _ a2 d;refine wpIn_block (wpIn_rangeFunc (fun fn _=>?_));obtain⟨rc,aS⟩:∃rc:Loop,rc={state:= .ready,pending:=none,fn,tmps:=a2.tmps,params:= #[7],assign:=rP (nV (Tryz.f196.body.getD .skip)),body:=rS (nV (Tryz.f196.body.getD .skip)),defers:=d.heap.size}:=⟨_,rfl⟩
 have aW:(Instr.enterLoop fn a2.tmps #[7] (rP (nV (Tryz.f196.body.getD .skip))) (rS (nV (Tryz.f196.body.getD .skip))) none).run Tryz.prog d= .ok (d.heap.size+1,[{target:= .collected d.heap.size,args:= #[]}]) ((d.alloc (.deferred (some []))).alloc (.loop rc)):=by
  rw[aS];exact run_enterLoop_outer fn a2.tmps #[7] _ _
 have an:At w0 ((H1.push (.deferred (some []))).push (.loop rc)) ((d.alloc (.deferred (some []))).alloc (.loop rc)):=(aN.alloc _).alloc _;obtain⟨M,bq⟩:∃M,M=(d.alloc (.deferred (some []))).alloc (.loop rc):=⟨_,rfl⟩;rw[←bq]at aW an;obtain⟨j,F⟩:∃j,j=(H1.push (.deferred (some []))).push (.loop rc):=⟨_,rfl⟩;rw[←F]at an;have bB:j.size=H1.size+2:=by rw[F];simp
 have L:d.heap.size=H1.size:=by rw[aN.heap]
 have O:aq H1 j:=by rw[F];exact(aq.pu _ _).L (aq.pu _ _)
 have C:=C.N O;have B:=B.N O;have ae:=ae.N O;have aM:iM j H1.size:=⟨by rw[F,Array.getElem?_push,if_neg (by simp)];exact Array.getElem?_push_size⟩
 have bg:hd j (H1.size+1) rc:=⟨by
  have aL:=Array.getElem?_push_size (xs:=H1.push (.deferred (some []))) (x:=Obj.loop rc);rw[Array.size_push,←F]at aL;exact aL⟩
 have az:rr rc J.size:=by
  subst aS;exact⟨rfl,rfl,rfl,rfl,rfl,⟨rfl,K.size,fun t v e=>(K.sub (l':=[(2,.pointer (some ⟨J.size,0,none⟩))]) ⟨rfl,trivial⟩).get t v e⟩⟩
 have bs:∀w,(callFunc 135 #[.func (.yield (H1.size+1)) #[] #[],.pointer (some ⟨i,0,none⟩)]).run Tryz.prog w= .ok (.enter 135 #[.func (.yield (H1.size+1)) #[] #[],.pointer (some ⟨i,0,none⟩)]) w:=fun w=>enters_of Tryz.func135 (by kernel_rfl) rfl _ w;refine⟨d.heap.size+1,[{target:= .collected d.heap.size,args:= #[]}],M,{target:= .fn (.func 135) #[.pointer (some ⟨i,0,none⟩)],args:= #[.func (.yield (H1.size+1)) #[] #[]]},M,135,#[.func (.yield (H1.size+1)) #[] #[],.pointer (some ⟨i,0,none⟩)],M,aW,?_,fun _ _=>trivial,?_,fun h=>(by cases h),?_⟩
 ·have a1:=K.get 6 (.func (.func 135) #[] #[.pointer (some ⟨i,0,none⟩)]) rfl
  rw[L];simp[resolve,rangeCall,Deferred.ofValue,Act.eval,a1]
 ·exact bs _
 refine callsIn_wide.2 ((DB rc (H1.size+1) J.size i bF H1.size 0 (.slice none 0 0) fv T w0 j C B aM bg ae (aU.nil mx ns) az bn ko af.z af.z ko ko af.z ko ko af.z ko ko af.z _ an).mono ?_);rintro e aF ⟨bJ,E,rfl,aw,Y,a7,out,rfl,bk,ai,X,aR,bo,aC⟩;have al:iM E H1.size:=aM.ae aC (ag.cons ko (ag.cons ko (ag.I af.z)));have bl:aF.heap[d.heap.size+1]?=some (.loop rc):=by rw[aw.heap,L];exact bk.at_
 have aT:rc.pending=none:=az.xT;have aQ:=run_endLoop (P:=Tryz.prog) bl (by rw[az.st];simp);rw[aT]at aQ;refine⟨none,_,aQ,?_⟩;have Q:W (fun c=>c=H1.size+1) E (E.setIfInBounds (H1.size+1) (.loop {rc with state:= .exhausted})):=kf _
 have N:At w0 (E.setIfInBounds (H1.size+1) (.loop {rc with state:= .exhausted})) (aF.putObj (d.heap.size+1) (.loop {rc with state:= .exhausted})):=by
  unfold World.putObj;rw[aw.heap,L];exact aw.set
 rw[aT]at Q N;obtain⟨aa,aX⟩:∃aa,aa=aF.putObj (d.heap.size+1) (.loop {rc with state:= .exhausted,pending:=none}):=⟨_,rfl⟩;obtain⟨A,a_⟩:∃A,A=E.setIfInBounds (H1.size+1) (.loop {rc with state:= .exhausted,pending:=none}):=⟨_,rfl⟩;rw[←aX]at N;rw[←a_]at Q N;rw[←aX];have bD:=aC.size;have bE:=Q.size;have R:=Q.bB;have aI:∀c,c+1≤j.size→af a7 (c+1):=fun c av q bw V=>by unfold U at aR;omega
 have ai:=ai.ae R (ag.cons ko ag.nil);have X:=X.ae R (ag.cons (aI _ (by omega)) ag.nil);have al:=al.ae R (ag.cons ko ag.nil)
 have bm:W (aB []) J A:=by
  have bt:=((W.refl (S:=aB []) J).a8 aD).a8 O;have bu:=bt.aL aC (ah.cons (ao.new (by omega)) (ah.cons (ao.new (Nat.le_refl _)) (ah.cons ao.z ah.nil)));exact bu.aL R (ah.cons (ao.new (by omega)) ah.nil)
 show(Code.seq _ _).wpIn Fence.wide 0 _ _ _ aa;refine wpIn_seq (wpIn_region_lit ?_);refine ua.v (w0:=w0) (H:=A) (au ai.O uq) (by intro c e;cases e) cM rfl rfl ?_ a2 aa K N;refine ua.v (w0:=w0) (H:=A) e5 (by intro c e;cases e) cM rfl rfl ?_;intro aZ ab bf ay;show Code.ret.wpIn Fence.wide 0 _ _ _ ab;refine wpIn_ret ?_;show LeavesInM Fence.wide 0 _ _ aZ.tmps _ ([{target:= .collected d.heap.size,args:= #[]}]++a2.defers) .returning ab;rw[K.defers,List.append_nil];have a6:ab.heap[d.heap.size]?=some (.deferred (some [])):=by rw[ay.heap,L];exact al.at_
 refine⟨by simp,.inl ⟨_,_,rfl,run_takeDeferred (P:=Tryz.prog) a6,?_⟩⟩;have bp:W (fun c=>c=H1.size) A (A.setIfInBounds H1.size (.deferred none)):=kf _
 have aP:At w0 (A.setIfInBounds H1.size (.deferred none)) (ab.putObj d.heap.size (.deferred none)):=by
  unfold World.putObj;rw[ay.heap,L];exact ay.set
 have aV:=bp.bB;obtain⟨s,aj⟩:∃s:aO,Y=s.v:=⟨cm Y,X.bm.symm⟩;refine⟨Y,x6 rfl rfl _ _ bf aP,Y,_,rfl,aP,s,a7,out,aj,?_,?_,bo,?_⟩
 ·rw[←aj];exact X.ae aV (ag.cons (aI _ (by omega)) ag.nil)
 ·unfold U at aR⊢;omega
 ·exact(bm.aL aV (ah.cons (ao.new (by omega)) ah.nil)).nil
theorem vx(d bF:Nat)(fv:cw→Value)(j:List (aJ×cw))(w0:World)(J:Heap)
 (L:Var 130 J d [.map (some bF)]) (K:c0 J aK fv bF j) (E:j.length≤1099511627776):
 aG Tryz.prog w0 133 #[.func (.func 135) #[] #[.pointer (some ⟨d,0,none⟩)]] J (fun r n=>∃s:aO,∃k:Nat,∃out:List aJ,r=s.v∧(aU k 9 n fy 1 s.v out)∧(U 0 J.size k)∧(out.Nodup∧∀k,k∈out↔k∈j.map (·.1))∧aq J n):=by
 refine aG.aN [.func (.func 135) #[] #[.pointer (some ⟨d,0,none⟩)]] Tryz.func133 ?_;intro P H;have i:aq J J:=W.refl _ _;refine G.L (fun x=>?_);refine o.al ?_;refine x (G.L (fun A=>?_));refine o.aa ?_;refine aV Bd (zZ d bF fv j w0 _ L K E) ?_;rintro v4 O ⟨N,q,M,rfl,ac,ad,F,B⟩;have C:U 0 J.size q:=U.L (U.refl 0 _) ad i.size;have i:=i.L B;refine o.al ?_;refine A ?_;refine G.ret (H ?_);exact⟨N,q,M,rfl,ac,C,F,i⟩
theorem wN(bF:Nat)(w0:World)(J:Heap)
 :
 aG Tryz.prog w0 58 #[.map (some bF)] J (fun r k=>∃d:Nat,r= .func (.func 135) #[] #[.pointer (some ⟨d,0,none⟩)]∧(Var 130 k d [.map (some bF)])∧(U 0 J.size (d+1))∧aq J k):=by
 refine aG.aN [.map (some bF)] Tryz.func58 ?_;intro A x;have i:aq J J:=W.refl _ _;refine G.L (fun n=>?_);refine o.aS (Z.nc rfl rfl (rfl)) ?_;rintro v1 H1 ⟨rfl,j,q,ad,B⟩;have i:=i.L q;have j:Var 130 H1 J.size ([.map (some bF)]):=j;refine o.al ?_;refine n (G.L (fun ac=>?_));refine o.v1 (Y.makeFunc rfl rfl) ?_;refine o.al ?_;refine ac ?_;refine G.ret (x ?_);exact⟨_,rfl,j,U.new (Nat.le_refl _),i⟩
theorem GA(i bF:Nat)(fv:cw→Value)(n:List (aJ×cw))(w0:World)(J:Heap)
 (C:Var 130 J i [.map (some bF)]) (B:c0 J aK fv bF n) (P:n.length≤1099511627776):
 aG Tryz.prog w0 57 #[.func (.func 135) #[] #[.pointer (some ⟨i,0,none⟩)]] J (fun r x=>∃s:aO,∃k:Nat,∃out:List aJ,r=s.v∧(aU k 9 x fy 1 s.v out)∧(U 0 J.size k)∧(jB out∧∀k,k∈out↔k∈n.map (·.1))∧aq J x):=by
 refine aG.aN [.func (.func 135) #[] #[.pointer (some ⟨i,0,none⟩)]] Tryz.func57 ?_;intro af X;have d:aq J J:=W.refl _ _;have ai:=C.lt;have ag:=B.lt;refine G.L (fun F=>?_);refine o.al ?_;refine F (G.L (fun H=>?_));refine o.aa ?_;refine aV u3 (vx i bF fv n w0 _ C B P) ?_;rintro v5 ab ⟨aa,E,Z,rfl,q,K,j,ad⟩;have A:U 0 J.size E:=U.L (U.refl 0 _) K d.size;have d:=d.L ad;have al:=ad.size;have ac:=q.le;have Q:=lh j.1 (fun k O=>(j.2 k).1 O);rw[List.length_map]at Q;refine o.al ?_;refine H (G.L (fun L=>?_));refine o.aa ?_;refine aV AX (Gz E _ Z w0 _ q (by omega)) ?_;rintro an ae ⟨Y,a7,rfl,q,M,T,N⟩;have aw:U 0 J.size a7:=U.L (A) M d.size;have d:=d.bx N (ah.I (ao.q A));refine o.nil (L (G.L (fun am=>?_)));refine o.aP 2 ?_;refine am ?_;refine G.ret (X ?_);obtain⟨R,S⟩:=GB j.1 T;exact⟨aa,a7,Y,rfl,q,aw,⟨R,fun k=>by rw[S.mem_iff,j.2]⟩,d⟩
end pF

namespace fQ
open E Go.RowKit eY fm fw fA ez eZ e0 fI fJ pF
set_option maxRecDepth 100000 in
theorem jN:c3 Tryz.prog 244 35 1 8:=⟨Tryz.underlying244,_,_,rfl,rfl,rfl,rfl,rfl⟩
theorem xl:∀{ml:List bn} {l:dh} {q:aJ},dt l→(∀x∈ml,x.n≠q)→aM (ml.foldl dH l) q=aM l q
 |[],_,_,_,_=>rfl
 |x::ml,l,q,h,aC=>by
  rw[List.foldl_cons,xl (qs h x) (fun y hy=>aC y (List.mem_cons_of_mem _ hy)),o7 h,if_neg (fun e=>aC x List.mem_cons_self e.symm)]
theorem sR:∀{ml:List bn} {l:dh} {m:bn},dt l→(ml.map (·.n)).Nodup→m∈ml→aM (ml.foldl dH l) m.n=if m.w=bq then none else some m.w
 |x::ml,l,m,h,aC,hm=>by
  rw[List.map_cons,List.nodup_cons]at aC;rw[List.foldl_cons];rcases List.mem_cons.1 hm with rfl|hm
  ·rw[xl (qs h m) (fun y hy e=>aC.1 (by rw[←e];exact List.mem_map_of_mem hy)),o7 h,if_pos rfl]
  ·exact sR (qs h x) aC.2 hm
theorem ED{l:dh}{pre r:List bn}{m:bn}(h:fW l pre (m::r)=0):fV l pre m=0∧fW l (pre++[m]) r=0:=by
 rw[fW]at h;by_cases d:fV l pre m≠0
 ·rw[if_pos d]at h;exact absurd h d
 ·rw[if_neg d]at h;exact⟨by simpa using d,h⟩
theorem Eu{l:dh}{pre:List bn}{m:bn}(h:fV l pre m=0):m.n∉pre.map (·.n):=by
 intro V;unfold fV at h;by_cases d:cU m.n≠0
 ·rw[if_pos d]at h;cases h
 ·rw[if_neg d,if_pos V]at h;cases h
theorem sU:∀{ml:List bn} {l:dh} {pre:List bn},fW l pre ml=0→(ml.map (·.n)).Nodup∧∀m∈ml,m.n∉pre.map (·.n)
 |[],_,_,_=>⟨List.nodup_nil,fun m h=>by cases h⟩
 |x::ml,l,pre,h=>by
  obtain⟨i,V⟩:=ED h;obtain⟨j,d⟩:=sU V;refine⟨?_,fun m hm=>?_⟩
  ·rw[List.map_cons,List.nodup_cons]
   refine⟨fun n=>?_,j⟩;obtain⟨y,hy,e⟩:=List.mem_map.1 n;exact d y hy (by rw[e];simp)
  ·rcases List.mem_cons.1 hm with rfl|hm
   ·exact Eu i
   ·intro k;exact d m hm (by rw[List.map_append];exact List.mem_append_left _ k)
theorem CZ{u m:dh}{n:aJ}{out:List aJ}(hm:∀q,aM m q=aM u q)(o:∀k,k∈out↔k∈(eu m n).map (·.1)):out.any (iP n)=(u.map (·.1)).any (fun x=>decide (x≠n)&&iP n x)∧n∉out:=by
 have e:∀k,k∈out↔k∈u.map (·.1)∧k≠n:=by
  intro k;rw[o,←gQ,jm,←gQ];by_cases d:k=n
  ·simp[d]
  ·rw[if_neg d,hm];simp[d]
 refine⟨?_,fun h=>((e n).1 h).2 rfl⟩;rw[Bool.eq_iff_iff,List.any_eq_true,List.any_eq_true];constructor
 ·rintro⟨x,i,h⟩
  obtain⟨j,V⟩:=(e x).1 i;exact⟨x,j,by simp[V,h]⟩
 ·rintro⟨x,i,h⟩
  rw[Bool.and_eq_true,decide_eq_true_eq]at h;exact⟨x,(e x).2 ⟨i,h.1⟩,h.2⟩
theorem y_{l:dh}{ml:List bn}(i:∀x∈l,x.1.length≤60)(h:fW l [] ml=0):∀x∈ml.foldl dH l,x.1.length≤60:=by
 intro x d;rcases qK d with d|⟨m,hm,e,_⟩
 ·exact i x d
 ·rw[e];exact((mv m.n).1 (nN h m hm)).1
theorem wi{u:dh}{ml:List bn}(h:∀m∈ml,hC u m=false):nx u ml=0:=by
 unfold nx;rw[if_neg];rw[List.any_eq_true];rintro⟨m,hm,e⟩;rw[h m hm]at e;cases e
theorem wh{u:dh}{ml:List bn}{m:bn}(hm:m∈ml)(h:hC u m=true):nx u ml=13:=by
 unfold nx;rw[if_pos (List.any_eq_true.2 ⟨m,hm,h⟩)]
theorem mi{α:Type}{l:List α}{p:α→Prop}{i:Nat}(h:∀x∈l.take i,p x)(j:i<l.length)(V:p l[i]):∀x∈l.take (i+1),p x:=by
 intro x d;rw[List.take_succ_eq_append_getElem j]at d;rcases List.mem_append.1 d with d|d
 ·exact h x d
 ·rw[List.mem_singleton.1 d];exact V
theorem Ep(x:bn)(k:Nat)(m:bn)(w0:World)(J:Heap)
 (d:Var 52 J k (db m)):
 aG Tryz.prog w0 131 #[kK x,.pointer (some ⟨k,0,none⟩)] J (fun r j=>r= .bool (decide (x.n=m.n))∧aq J j):=by
 refine aG.aN [kK x,.pointer (some ⟨k,0,none⟩)] Tryz.func131 ?_;intro C B;have n:aq J J:=W.refl _ _;refine G.L (fun A=>?_);refine o.aS cY ?_;rintro v2 j ⟨rfl,i,q,ad,E⟩;have d:=d.N q;have n:=n.L q;have i:Var 52 j J.size (db x):=i;refine o.al ?_;refine A (G.L (fun ac=>?_));refine o.v1 (Y.an i.O rfl cv rfl bV) ?_;refine o.v1 (au i.O bR) ?_;refine o.v1 (Y.an d.O rfl cv rfl bV) ?_;refine o.v1 (au d.O bR) ?_;refine o.v1 (Y.lr rfl rfl rfl) ?_;refine o.al ?_;refine ac ?_;refine G.ret (B ?_);exact⟨rfl,n⟩
theorem Dl(v cX:Value)(l:List bn)(p:bn→Bool)(w0:World)(J:Heap)
 (d:bM J db 66 v l) (ai:∀(x:bn) (ab:Heap),aq J ab→x∈l→gx Tryz.prog w0 cX [kK x] ab (fun r q=>r= .bool (p x)∧aq ab q)):
 aG Tryz.prog w0 193 #[v,cX] J (fun r q=>∃n:Int,r= .int .i64 n∧((0≤n↔l.any p=true)∧ -1≤n∧n≤9223372036854775807)∧aq J q):=by
 refine aG.aN [v,cX] Tryz.func193 ?_;intro an F;have i:aq J J:=W.refl _ _;have d:=d.b2;have aH:=d.len;refine G.L (fun R=>?_);refine o.al ?_;refine R (G.t2 (fun aw am=>G.L (fun S=>?_)));refine o.aa ?_;refine o.v1 (bf d c9) ?_;refine o.aa (o.nil (S ?_));refine G.aD (fun _ ap T=>?_)
 refine G.bc (fun(j:(Nat))=>[(0,v),(1,cX),(7,.int .i64 l.length),(8,.int .i64 j)])
  (fun(j:(Nat)) (H:Heap)=>(j≤l.length)∧((l.take j).any p=false)∧aq J H)
  (fun(j:(Nat))=>l.length-j) 0 ⟨rfl,rfl,rfl,rfl,trivial⟩ ?_ ?_
 ·
  exact⟨(by omega),rfl,W.refl _ _⟩
 intro j au U al X E;obtain⟨aD,C,k⟩:=U;have d:=d.N k;have i:=i.L k;have ay:=k.size;refine G.L (fun Z=>?_);refine o.v1 bH (o.nil (Z ?_));refine G.t2 (fun aa ae=>?_);refine aW (fun ah=>?_) (fun ah=>?_)
 ·
  refine G.skip (aa (G.t2 (fun af ag=>G.aD (fun K _ L=>G.L (fun ac=>?_)))));refine o.aP 2 ?_;refine ac (G.L (fun N=>?_));refine o.az 3 ?_;refine o.b1 (Y.bU d (j) rfl c9 dp rfl rfl) fun ar O=>?_;refine o.v1 (a_ O.O ji dp (fc _)) ?_;refine o.mr rfl rfl rfl cM rfl rfl (ai l[j] _ i (List.getElem_mem (by omega))) (fun az aB M=>?_);obtain⟨rfl,A⟩:=M;have i:=i.L A;have k:=k.L A;have aC:=A.size;refine o.nil (N ?_);refine cL (fun B=>?_) (fun B=>?_)
  ·
   refine G.L (fun P=>?_);refine o.aP 2 ?_;refine P ?_;refine G.ret (L (ag (E (T (am (F ?_))))));exact⟨j,rfl,⟨⟨fun _=>mj (j:=j) (by omega) (by simpa using B),fun _=>by omega⟩,by omega,by omega⟩,i⟩
  ·
   refine G.skip (K (af (G.region ?_)));refine o.v1 bD ?_;refine o.aa (o.nil ?_);refine aR.sub (X (j+1) _ ?_ ?_) ⟨rfl,rfl,(aF (by omega)),(aF (by omega)),trivial⟩
   ·exact⟨(by omega),ou C (by omega) (by simpa using B),k⟩
   ·first|omega|(simp only;omega)|(simp;omega)
 ·
  refine G.exit (ae (E (ap ?_)));refine aw (G.L (fun Q=>?_));refine o.al ?_;refine Q ?_;refine G.ret (F ?_);exact⟨-1,rfl,⟨⟨fun h=>by omega,fun h=>by rw[List.take_of_length_le (by omega),h]at C;cases C⟩,by omega,by omega⟩,i⟩
theorem Ce(v cX:Value)(l:List bn)(p:bn→Bool)(w0:World)(J:Heap)
 (d:bM J db 66 v l) (B:∀(x:bn) (ab:Heap),aq J ab→x∈l→gx Tryz.prog w0 cX [kK x] ab (fun r i=>r= .bool (p x)∧aq ab i)):
 aG Tryz.prog w0 130 #[v,cX] J (fun r i=>r= .bool (l.any p)∧aq J i):=by
 refine aG.aN [v,cX] Tryz.func130 ?_;intro F C;have j:aq J J:=W.refl _ _;have d:=d.b2;have H:=d.len;refine G.L (fun q=>?_);refine o.al ?_;refine q (G.L (fun A=>?_));refine o.az 2 ?_;refine aV Bb (Dl _ cX l p w0 _ d.any B) ?_;rintro K E ⟨n7,rfl,n,ac⟩;have j:=j.L ac;refine o.v1 dq ?_;refine o.al ?_;refine A ?_;refine G.ret (C ?_);exact⟨by cases k:l.any p with|true=>(rw[decide_eq_true (n.1.2 k)])|false=>(rw[decide_eq_false (fun h=>by rw[n.1.1 h]at k;cases k)]),j⟩
theorem Em(s:c1)(v:Value)(ml:List bn)(F:Nat→Prop)(bb:Int)(w0:World)(J:Heap)
 (aI:dP bb J) (a6:bk (fun b=>b=0) J.size) (aj:fo F J s) (dU:bk F J.size) (hm:bM J db 66 v ml) (d_:dt (bh s.aY)) (fE:∀x∈(bh s.aY),x.1.length≤60) (cr:∀m∈ml,m.n.length≤140737488355328):
 aG Tryz.prog w0 49 #[eR s,v] J (fun r ba=>r= .int .i64 (e3 (bh s.aY) ml)∧aq J ba):=by
 refine aG.aN [eR s,v] Tryz.func49 ?_;intro fK bB;have k:aq J J:=W.refl _ _;have hm:=hm.b2;have b2:=hm.b5;have hg:=hm.len;refine G.L (fun eC=>?_);refine o.aS cY ?_;rintro v2 ba ⟨rfl,bY,aT,gm,eD⟩;have fU:ba.size=J.size+1:=by rw[eD];simp
 have aI:=aI.N aT;have aj:=aj.N aT;have hm:=hm.N aT;have k:=k.L aT;have gn:=aT.size;have bY:Var 47 ba J.size (b3 s):=bY;refine o.al ?_;refine eC (G.L (fun eE=>?_));refine o.v1 (a_ bY.O gY ev (cO _)) ?_;refine aV vj (yS s F w0 _ aj (dU.mono (by omega))) (fun gr cm eF=>?_);obtain⟨bF,rfl,n,bJ,bm⟩:=eF;have bO:=ax.app (ax.z) (a6.mono k.size) bJ;have cs:=ax.app (ax.z) (b2.mono k.size) bJ;have bx:U 0 J.size (bF+1):=U.L (U.refl 0 _) bJ k.size;have aI:=aI.N bm;have hm:=hm.N bm;have k:=k.L bm;have gu:=bm.size;have fM:=n.le;have cu:=w9 s.aY d_.nodup;refine o.al ?_;refine eE (G.t2 (fun eH eI=>G.L (fun eJ=>?_)));refine o.aa ?_;refine o.v1 (bf hm c9) ?_;refine o.aa (o.nil (eJ ?_));refine G.aD (fun _ eK eL=>?_)
 refine G.bc (fun(j:(Nat))=>[(1,v),(5,.map (some bF)),(16,v),(17,.int .i64 (ml.length:Int)),(18,.int .i64 (j:Int))])
  (fun(j:(Nat)) (H:Heap)=>(j≤ml.length)∧(∀i (h:i<j),∀V:i<ml.length,fV (bh s.aY) (ml.take i) ml[i]=0)∧aq cm H)
  (fun(j:(Nat))=>ml.length-j) 0 ⟨rfl,rfl,rfl,rfl,rfl,trivial⟩ ?_ ?_
 ·
  exact⟨(by omega),(fun i h=>by omega),W.refl _ _⟩
 intro j P eM fJ eN cp;obtain⟨hc,bP,E⟩:=eM;have aI:=aI.N E;have hm:=hm.N E;have n:=n.N E;have k:=k.L E;have gv:=E.size;refine G.L (fun eP=>?_);refine o.v1 bH (o.nil (eP ?_));refine G.t2 (fun eS eT=>?_);refine aW (fun ei=>?_) (fun ei=>?_)
 ·
  refine G.skip (eS (G.t2 (fun ej ek=>G.aD (fun dY _ br=>G.L (fun dZ=>?_)))));refine o.aa ?_;have Q:j<ml.length:=by omega
  obtain⟨y,M⟩:∃q,q=ml[j]:=⟨_,rfl⟩;have an:y∈ml:=by rw[M];exact List.getElem_mem Q
  have hi:=cr y an;refine o.b1 (Y.bU hm (j) rfl c9 dp rfl rfl) fun du ea=>?_;refine o.v1 (Y.cast (v2:= .agg (db y).toArray) (a_ ea.O ji dp (fc _)) (by rw[M])) ?_;refine o.aS (dk l9) ?_;rintro hj cx ⟨rfl,N,ar,gw,eo⟩;have fN:cx.size=P.size+1:=by rw[eo];simp
  have ec:=(ax.new (a6.mono k.size):ax _ (P.size+1));have bv:=(ax.new (b2.mono k.size):ax _ (P.size+1));have ee:af (bF+1) (P.size+1):=af.new n.le;have eg:U 0 J.size (P.size+1):=U.new k.size;have c_:U 0 cm.size (P.size+1):=U.new E.size;have aI:=aI.N ar;have hm:=hm.N ar;have n:=n.N ar;have k:=k.L ar;have E:=E.L ar;have gy:=ar.size;refine o.cg ?_;refine o.s1 (eh N (_) (db y) (kC y) dp (fc _) ((dJ (fc _).symm))) fun ca dc=>?_;obtain⟨N,X⟩:=dc;have X:=X.bB;have aI:=aI.ae X (ay.I ec);have hm:=hm.ae X (ay.I bv);have n:=n.ae X (ag.I ee);have k:=k.bx X (ah.I (ao.q eg));have E:=E.bx X (ah.I (ao.q c_));have gz:=X.size;refine o.nil (dZ (G.t1 (fun de=>?_)));refine dg (fun L=>aq ca L) [] ?_;have K:=aq.refl ca;refine T.t1 0 rfl (fun L A=>Y.an (N.O.N A) rfl cv rfl bV) K ?_;refine T.t1 1 rfl (fun L A=>au (N.O.N A) bR) K ?_;refine T.aa 3 rfl K ?_;refine T.aa 4 rfl K ?_;refine T.e (g:=fun v=>v) 5 (by kernel_rfl) rfl (by kernel_rfl) (by kernel_rfl) (by kernel_rfl) (Y.slice hm (0) (j) rfl c9 dp rfl (.inl ⟨rfl,rfl⟩) (.inr ⟨_,_,_,rfl,rfl,by first|rfl|omega⟩) (by omega) (by omega)) cM rfl rfl K (fun gA bE=>?_);rw[List.drop_zero]at bE;refine T.t1 6 rfl (fun L A=>Y.makeFunc rfl rfl) K ?_;refine T.aa 10 rfl K ?_;refine T.t1 11 rfl (fun L A=>Y.an (N.O.N A) rfl cv rfl bV) K ?_;refine T.t1 12 rfl (fun L A=>au (N.O.N A) bR) K ?_;refine T.t1 13 rfl (fun L A=>Y.cast (v2:=bs (gd (bh s.aY) y.n)) (Y.lookup (z0:=bq) (n.N A).fi gp rfl kT Tryz.underlying9 m0 rfl rfl) (by rw[gd,←cu])) K ?_;refine T.t1 14 rfl (fun L A=>Y.an (N.O.N A) rfl cv rfl bd) K ?_;refine T.t1 15 rfl (fun L A=>Y.cast (v2:=bs y.I) (a_ (((N.O.drop 1).N A).take 32) cj bd (by rw[hs];exact bC _)) (cn (hs _))) K ?_;refine T.t1 16 rfl (fun L A=>Y.ka rfl Tryz.eqGuardType26 (fun w=>gR 9998 Tryz.underlying26 Tryz.underlying5 cK ed ((gd (bh s.aY) y.n).2) (y.I.2) w) rfl rfl) K ?_;refine T.t1 18 rfl (fun L A=>Y.an (N.O.N A) rfl cv rfl bd) K ?_;refine T.t1 19 rfl (fun L A=>Y.cast (v2:=bs y.w) (a_ (((N.O.drop 33).N A).take 32) cj bd (by rw[fe];exact bC _)) (cn (fe _))) K ?_;refine T.t1 20 rfl (fun L A=>Y.an (N.O.N A) rfl cv rfl bd) K ?_;refine T.t1 21 rfl (fun L A=>Y.cast (v2:=bs y.I) (a_ (((N.O.drop 1).N A).take 32) cj bd (by rw[hs];exact bC _)) (cn (hs _))) K ?_;refine T.t1 22 rfl (fun L A=>Y.kt rfl Tryz.eqGuardType26 (fun w=>gR 9998 Tryz.underlying26 Tryz.underlying5 cK ed (y.w.2) (y.I.2) w) rfl rfl) K ?_;refine T.aX 2 ?_;refine b7 p3 (p7 y.n bb w0 _ aI (a6.mono (by omega)) (by omega)) (fun gC bw ep=>?_);obtain⟨rfl,aJ⟩:=ep;have N:=N.N aJ;have bE:=bE.N aJ;have k:=k.L aJ;have E:=E.L aJ;have d0:=aJ.size;have cz:=K.L aJ;refine T.cD cz ?_;have cA:=aq.refl bw;refine T.aX 7 ?_;refine b7 AU (Ce _ _ (ml.take j) (fun x=>decide (x.n=y.n)) w0 _ bE.any (fun x ab aC _=>gx.of (caps:=[.pointer (some ⟨P.size,0,none⟩)]) AV (Ep x _ y w0 ab (N.N aC)))) (fun d1 cZ cB=>?_);obtain⟨rfl,bp⟩:=cB;have k:=k.L bp;have E:=E.L bp;have d2:=bp.size;have cC:=cA.L bp;refine T.cD cC ?_;have b5:=aq.refl cZ;refine T.t1 8 rfl (fun L A=>eG) b5 ?_;refine T.aX 9 ?_;refine b7 hp (tj (!((ml.take j).any (fun x=>decide (x.n=y.n)))) 18 w0 _) (fun d3 fa er=>?_);obtain⟨rfl,bt⟩:=er;have k:=k.L bt;have E:=E.L bt;have d4:=bt.size;have cD:=b5.L bt;refine T.cD cD ?_;have cE:=aq.refl fa;refine T.aX 17 ?_;refine dM.call rfl rfl hp rfl cM rfl rfl (hP (decide (gd (bh s.aY) y.n=y.I)) 21 (decide_eq_decide.2 ⟨fun h=>Subtype.ext h,fun h=>by rw[h]⟩) w0 _) (fun d5 ff et=>?_);obtain⟨rfl,bu⟩:=et;have k:=k.L bu;have E:=E.L bu;have cq:=bu.size;have cG:=cE.L bu;refine T.cD cG ?_;have cH:=aq.refl ff;refine T.aX 23 ?_;refine dM.call rfl rfl hp rfl cM rfl rfl (hP (decide (¬y.w=y.I)) 26 (decide_eq_decide.2 ⟨fun h e=>h (by rw[e]),fun h e=>h (Subtype.ext e)⟩) w0 _) (fun d6 cc eU=>?_);obtain⟨rfl,bc⟩:=eU;have k:=k.L bc;have E:=E.L bc;have gE:=bc.size;have cJ:=cH.L bc;refine T.cD cJ ?_;have cL:=aq.refl cc;refine T.aX 24 ?_;refine ey rfl (cS _ ([cU y.n,c7 (!((ml.take j).any (fun x=>decide (x.n=y.n)))) 18,c7 (decide (gd (bh s.aY) y.n=y.I)) 21,c7 (decide (¬y.w=y.I)) 26]) jN kc kd (rfl)) (fun d7 cd bj=>?_);obtain⟨df,bg,dW,dh⟩:=bj;have fY:cd.size=cc.size+1:=by rw[dh];simp
  have k:=k.L bg;have E:=E.L bg;have dd:=bg.size;have a0:=cL.L bg;refine T.cD a0 ?_;have a2:=aq.refl cd;refine T.aX 25 ?_;refine b7 kx (kM _ [cU y.n,c7 (!((ml.take j).any (fun x=>decide (x.n=y.n)))) 18,c7 (decide (gd (bh s.aY) y.n=y.I)) 21,c7 (decide (¬y.w=y.I)) 26] w0 _ df.rd.any) (fun d8 ew fm=>?_);obtain⟨rfl,bl⟩:=fm;have k:=k.L bl;have E:=E.L bl;have gB:=bl.size;rw[Et];have a3:=a2.L bl;refine T.cD a3 ?_;have b6:=aq.refl ew;refine T.t1 26 rfl (fun L A=>e5) b6 ?_;refine cI ?_;have fG:=b6;refine de (G.L (fun di=>?_));refine o.aa ?_;refine o.v1 da (o.nil (di ?_));refine aW (fun bz=>?_) (fun bz=>?_)
  ·
   refine G.L (fun dj=>?_);refine o.aP 2 ?_;refine dj ?_;refine G.ret (br (ek (cp (eL (eI (bB ?_))))));exact⟨by have A:=sS (ml:=ml) (l:=(bh s.aY)) (pre:=[]) (j:=j) Q (fun i h=>by rw[List.nil_append];exact bP i h (by omega)) (by rw[List.nil_append,←M];exact bz);rw[List.nil_append,←M]at A;rw[e3,if_pos (by rw[A];exact bz),A],k⟩
  ·
   refine G.skip (dY (ej (G.region ?_)));refine o.v1 bD ?_;refine o.aa (o.nil ?_);refine aR.sub (eN (j+1) _ ?_ ?_) ⟨rfl,rfl,rfl,(aF (by omega)),(aF (by omega)),trivial⟩
   ·exact⟨(by omega),(fun i h V=>by rcases Nat.lt_or_ge i j with ae|ae;exact bP i ae V;obtain rfl:i=j:=(by omega);rw[←M];simpa using bz),E⟩
   ·first|omega|(simp only;omega)|(simp;omega)
 ·
  obtain rfl:j=ml.length:=by omega
  have aQ:fW (bh s.aY) [] ml=0:=sT (fun i bU=>by rw[List.nil_append];exact bP i bU bU);have fH:=y_ fE aQ;have fC:=(sU aQ).1;refine G.exit (eT (cp (eK ?_)));refine eH (G.t1 (fun dm=>G.L (fun dq=>?_)));refine o.aa ?_;refine o.v1 (bf hm c9) ?_;refine o.aa (o.nil (dq ?_));refine G.aD (fun _ dr _=>?_)
  refine G.bc (fun(bX:(Nat)×(List (List UInt8×cw)))=>match bX with|(i,ai)=>[(1,v),(5,.map (some bF)),(53,v),(54,.int .i64 (ml.length:Int)),(55,.int .i64 (i:Int))])
   (fun(i,ai) (H:Heap)=>(i≤ml.length)∧(c0 H aK bs bF ai)∧(∀q,aM ai q=aM ((ml.take i).foldl dH (bh s.aY)) q)∧W (aB [(bF+1)]) P H)
   (fun(i,ai)=>ml.length-i) (0,lx s.aY) ⟨rfl,rfl,rfl,rfl,rfl,trivial⟩ ?_ ?_
  ·
   exact⟨(by omega),n,cu,W.refl _ _⟩
  rintro⟨i,ai⟩ az fp d9 dw dx;obtain⟨bU,n,A,O⟩:=fp;have aI:=aI.ae O (ay.I bO);have hm:=hm.ae O (ay.I cs);have k:=k.bx O (ah.I (ao.q bx));have gF:=O.size;have aw:=U.refl (bF+1) P.size;refine G.L (fun dy=>?_);refine o.v1 bH (o.nil (dy ?_));refine G.t2 (fun dz dA=>?_);refine aW (fun fq=>?_) (fun fq=>?_)
  ·
   refine G.skip (dz (G.t1 (fun dB=>G.aD (fun dC _ _=>G.L (fun dG=>?_)))));have Q:i<ml.length:=by omega
   obtain⟨y,M⟩:∃q,q=ml[i]:=⟨_,rfl⟩;have an:y∈ml:=by rw[M];exact List.getElem_mem Q
   refine o.b1 (Y.bU hm (i) rfl c9 dp rfl rfl) fun gG dI=>?_;refine o.v1 (Y.cast (v2:= .agg (db y).toArray) (a_ dI.O ji dp (fc _)) (by rw[M])) ?_;refine o.aS (dk l9) fun gD fr dl=>?_;obtain⟨rfl,bZ,bK,cy,dK⟩:=dl;have fO:fr.size=az.size+1:=by rw[dK];simp
   have dL:af (bF+1) (az.size+1):=af.new n.le;have dN:U 0 P.size (az.size+1):=U.new O.size;have n:=n.N bK;have O:=O.a8 bK;have dn:=bK.size;refine o.s1 (eh bZ (_) (db y) (kC y) dp (fc _) ((dJ (fc _).symm))) fun fP a4=>?_;obtain⟨bZ,aX⟩:=a4;have aX:=aX.bB;have n:=n.ae aX (ag.I dL);have O:=O.aL aX (ah.I (ao.q dN));have gH:=aX.size;refine o.nil (dG (G.region ?_));refine o.aa ?_;refine o.v1 (a_ bZ.O ji dp (fc _)) ?_;refine aV vk (xh bF ai y w0 _ n) (fun gL gM fu=>?_);obtain⟨rfl,n,a5⟩:=fu;have O:=O.aL a5 (ah.I (ao.r aw));have e_:=a5.size;refine o.nil (dC (dB (G.region ?_)));refine o.v1 bD ?_;refine o.aa (o.nil ?_);refine aR.sub (dw (i+1,jT ai y) _ ?_ ?_) ⟨rfl,rfl,rfl,(aF (by omega)),(aF (by omega)),trivial⟩
   ·exact⟨(by omega),n,(fun q=>by rw[lQ Q,←M,sM,o7 (kE d_),A]),O⟩
   ·first|omega|(simp only;omega)|(simp;omega)
  ·
   obtain rfl:i=ml.length:=by omega
   rw[List.take_length]at A;have hh:=sK n.fi.nodup (kE d_).nodup A;refine G.exit (dA (dx (dr ?_)));refine dm (G.t2 (fun dO dQ=>G.L (fun cQ=>?_)));refine o.aa ?_;refine o.v1 (Y.xb n.fi rfl kT rfl) ?_;refine o.v1 eX (o.nil (cQ ?_));refine aW (fun ds=>?_) (fun ds=>?_)
   ·
    refine G.L (fun cR=>?_);refine o.al ?_;refine cR ?_;refine G.ret (dQ (bB ?_));exact⟨by rw[e3,if_neg (by rw[aQ];decide),if_pos (by omega)],k⟩
   ·
    have g_:(ml.foldl dH (bh s.aY)).length≤200:=by omega
    refine G.skip (dO (G.t2 (fun cV cW=>G.L (fun cX=>?_))));refine o.aa ?_;refine o.v1 (bf hm c9) ?_;refine o.aa (o.nil (cX ?_));refine G.aD (fun _ c2 c3=>?_)
    refine G.bc (fun(bX:(Nat)×(List (List UInt8×cw)))=>match bX with|(i3,R)=>[(5,.map (some bF)),(66,v),(67,.int .i64 (ml.length:Int)),(68,.int .i64 (i3:Int))])
     (fun(i3,R) (H:Heap)=>(i3≤ml.length)∧(c0 H aK bs bF R)∧(∀q,aM R q=aM (ml.foldl dH (bh s.aY)) q)∧(∀m∈ml.take i3,hC (ml.foldl dH (bh s.aY)) m=false)∧W (aB [(bF+1)]) az H)
     (fun(i3,R)=>ml.length-i3) (0,ai) ⟨rfl,rfl,rfl,rfl,trivial⟩ ?_ ?_
    ·
     exact⟨(by omega),n,A,(fun m h=>by simp at h),W.refl _ _⟩
    rintro⟨i3,R⟩ aS fw gN bL b0;obtain⟨hb,n,aH,ae,B⟩:=fw;have aI:=aI.ae B (ay.I bO);have hm:=hm.ae B (ay.I cs);have k:=k.bx B (ah.I (ao.q bx));have gI:=B.size;have cb:=U.refl (bF+1) az.size;refine G.L (fun c5=>?_);refine o.v1 bH (o.nil (c5 ?_));refine G.t2 (fun c6 c8=>?_);refine aW (fun fx=>?_) (fun fx=>?_)
    ·
     refine G.skip (c6 (G.t2 (fun bN dS=>G.aD (fun eV b1 eW=>G.L (fun eY=>?_)))));have Q:i3<ml.length:=by omega
     obtain⟨y,M⟩:∃q,q=ml[i3]:=⟨_,rfl⟩;have an:y∈ml:=by rw[M];exact List.getElem_mem Q
     refine o.b1 (Y.bU hm (i3) rfl c9 dp rfl rfl) fun gJ eZ=>?_;refine o.v1 (Y.cast (v2:= .agg (db y).toArray) (a_ eZ.O ji dp (fc _)) (by rw[M])) ?_;refine o.aS (dk l9) fun gO fy fz=>?_;obtain⟨rfl,C,a1,gK,ce⟩:=fz;have fQ:fy.size=aS.size+1:=by rw[ce];simp
     have e0:=(ax.new (a6.mono k.size):ax _ (aS.size+1));have a9:af (bF+1) (aS.size+1):=af.new n.le;have e1:U 0 J.size (aS.size+1):=U.new k.size;have dR:U 0 az.size (aS.size+1):=U.new B.size;have aI:=aI.N a1;have n:=n.N a1;have k:=k.L a1;have B:=B.a8 a1;have fZ:=a1.size;refine o.s1 (eh C (_) (db y) (kC y) dp (fc _) ((dJ (fc _).symm))) fun fR cP=>?_;obtain⟨C,ac⟩:=cP;have ac:=ac.bB;have aI:=aI.ae ac (ay.I e0);have n:=n.ae ac (ag.I a9);have k:=k.bx ac (ah.I (ao.q e1));have B:=B.aL ac (ah.I (ao.q dR));have f_:=ac.size;refine o.nil (eY (G.t2 (fun ci cf=>G.L (fun cg=>?_))));refine o.v1 (Y.an C.O rfl cv rfl bd) ?_;refine o.v1 (Y.cast (v2:=bs y.I) (a_ ((C.O.drop 1).take 32) cj bd (by rw[hs];exact bC _)) (cn (hs _))) ?_;refine aV ky (kN y.I w0 _) (fun gP gS fg=>?_);obtain⟨rfl,ap⟩:=fg;have aI:=aI.N ap;have n:=n.N ap;have C:=C.N ap;have k:=k.L ap;have B:=B.a8 ap;have ga:=ap.size;refine o.v1 (Y.iE rfl rfl) ?_;refine o.aa ?_;refine o.bp (d:=76) rfl (fun cl=>?_) (fun cl=>?_)
     ·
      refine o.az 4 ?_;refine o.nil (cg ?_);refine G.h9 rfl ?_;refine G.exit (cf (b1 ?_));refine bN (G.region ?_);refine o.v1 bD ?_;refine o.aa (o.nil ?_);refine aR.sub (bL (i3+1,R) _ ?_ ?_) ⟨rfl,rfl,(aF (by omega)),(aF (by omega)),trivial⟩
      ·exact⟨(by omega),n,aH,mi ae Q (by rw[←M];unfold hC;rw[decide_eq_false (by first|exact a8|(intro h;simp_all))];rfl),B⟩
      ·first|omega|(simp only;omega)|(simp;omega)
     ·
      refine o.ar (Y.an C.O rfl cv rfl bd) ?_;refine o.ar (Y.cast (v2:=bs y.w) (a_ ((C.O.drop 33).take 32) cj bd (by rw[fe];exact bC _)) (cn (fe _))) ?_;refine o.call rfl ky rfl bo rfl rfl (kN y.w w0 _) (fun gT gU fh=>?_);obtain⟨rfl,aL⟩:=fh;have aI:=aI.N aL;have n:=n.N aL;have C:=C.N aL;have k:=k.L aL;have B:=B.a8 aL;have gb:=aL.size;refine o.dy ?_;refine o.nil (cg ?_);refine aW (fun fi=>?_) (fun fi=>?_)
      ·
       have a8:¬(y.I=bq∧y.w≠bq):=by first|(intro h;simp_all)
       refine G.exit (cf (b1 ?_));refine bN (G.region ?_);refine o.v1 bD ?_;refine o.aa (o.nil ?_);refine aR.sub (bL (i3+1,R) _ ?_ ?_) ⟨rfl,rfl,(aF (by omega)),(aF (by omega)),trivial⟩
       ·exact⟨(by omega),n,aH,mi ae Q (by rw[←M];unfold hC;rw[decide_eq_false (by first|exact a8|(intro h;simp_all))];rfl),B⟩
       ·first|omega|(simp only;omega)|(simp;omega)
      ·
       have a8:y.I=bq∧y.w≠bq:=by first|exact⟨by simpa using cl,by assumption⟩|(constructor<;>simp_all)
       refine G.skip (ci (G.L (fun e2=>?_)));refine o.aa ?_;refine o.v1 (Y.an C.O rfl cv rfl bV) ?_;refine o.v1 (au C.O bR) ?_;refine o.rq (Z.qb n gp rfl kT Tryz.underlying9 rfl rfl) cM rfl (fun fS b8 dT=>?_);obtain⟨rfl,n,al⟩:=dT;have al:=al.bB;have aI:=aI.ae al (ay.I bO);have C:=C.ae al (ag.I a9.symm);have k:=k.bx al (ah.I (ao.q bx));have B:=B.aL al (ah.I (ao.r cb));have gf:=al.size;refine o.nil (e2 (G.t1 (fun e4=>?_)));refine dg (fun L=>aq b8 L) [] ?_;have K:=aq.refl b8;refine T.t1 0 rfl (fun L A=>Y.an (C.O.N A) rfl cv rfl bV) K ?_;refine T.t1 1 rfl (fun L A=>au (C.O.N A) bR) K ?_;refine T.aa 2 rfl K ?_;refine T.aX 3 ?_;refine b7 vl (wN bF w0 _) (fun gV ez fj=>?_);obtain⟨ef,rfl,aP,hd,am⟩:=fj;have aI:=aI.N am;have n:=n.N am;have C:=C.N am;have k:=k.L am;have B:=B.a8 am;have gg:=am.size;have fX:=aP.le;have bT:=K.L am;refine T.cD bT ?_;have be:=aq.refl ez;refine T.aX 4 ?_;have hf:=sK n.fi.nodup (show((eu (ml.foldl dH (bh s.aY)) y.n).map (·.1)).Nodup from(sm (kE d_) _).nodup) (fun q=>by rw[jm,jm,aH]);have ha:(eu (ml.foldl dH (bh s.aY)) y.n).length≤(ml.foldl dH (bh s.aY)).length:=List.length_filter_le _ _;refine b7 u3 (vx ef bF bs (eu R y.n) w0 _ aP n (by omega)) (fun gW eA fk=>?_);obtain⟨gX,el,bW,rfl,ck,gi,ct,aa⟩:=fk;have aI:=aI.N aa;have n:=n.N aa;have C:=C.N aa;have aP:=aP.N aa;have k:=k.L aa;have B:=B.a8 aa;have gj:=aa.size;have fL:=ck.le;obtain⟨fA,fB⟩:=CZ aH ct.2;have fI:=nN aQ y an;have bQ:iy y.n bW=if hC (ml.foldl dH (bh s.aY)) y=true then 13 else 0:=by rw[wj fI fB,fA];unfold hC;rw[decide_eq_true a8,Bool.true_and]
       have fF:∀x∈bW,x.length≤140737488355328:=fun x aP=>by
        have a7:=(ct.2 x).1 aP;rw[←gQ,jm]at a7;split at a7
        ·cases a7
        ·rw[aH,gQ]at a7
         obtain⟨z,cq,rfl⟩:=List.mem_map.1 a7;have:=fH z cq;omega
       have bi:=be.L aa;refine T.cD bi ?_;have dV:=aq.refl eA;refine T.aX 5 ?_;refine b7 AW (C0 y.n _ bW bb w0 _ aI (a6.mono (by omega)) ck.rd.any (cr y an) fF) (fun em eB fl=>?_);obtain⟨rfl,aN⟩:=fl;have n:=n.N aN;have C:=C.N aN;have k:=k.L aN;have B:=B.a8 aN;have gk:=aN.size;have aD:=dV.L aN;refine T.cD aD ?_;have b9:=aq.refl eB;refine T.t1 6 rfl (fun L A=>e5) b9 ?_;refine cI ?_;have fG:=b9;refine e4 (G.L (fun e6=>?_));refine o.aa ?_;refine o.v1 (Y.an C.O rfl cv rfl bV) ?_;refine o.v1 (au C.O bR) ?_;refine o.v1 (Y.an C.O rfl cv rfl bd) ?_;refine o.v1 (Y.cast (v2:=bs y.w) (a_ ((C.O.drop 33).take 32) cj bd (by rw[fe];exact bC _)) (cn (fe _))) ?_;refine o.s1 (S.l0 (y.w) n gp rfl kT Tryz.underlying9 rfl rfl rfl) fun fT dX=>?_;obtain⟨n,aZ⟩:=dX;have aZ:=aZ.bB;have k:=k.bx aZ (ah.I (ao.q bx));have B:=B.aL aZ (ah.I (ao.r cb));have gl:=aZ.size;refine o.nil (e6 (G.L (fun e7=>?_)));refine o.aa ?_;refine o.v1 da (o.nil (e7 ?_));refine aW (fun co=>?_) (fun co=>?_)
       ·
        refine G.L (fun e8=>?_);refine o.aP 2 ?_;refine e8 ?_;refine G.ret (eW (dS (b0 (c3 (cW (bB ?_))))));exact⟨by have aO:hC (ml.foldl dH (bh s.aY)) y=true:=(by cases aO:hC (ml.foldl dH (bh s.aY)) y with|true=>rfl|false=>exact absurd (by rw[bQ,aO];rfl) co);rw[e3,if_neg (by rw[aQ];decide),if_neg (by omega),wh an aO,bQ,if_pos aO],k⟩
       ·
        refine G.skip (eV (bN (G.region ?_)));refine o.v1 bD ?_;refine o.aa (o.nil ?_);refine aR.sub (bL (i3+1,fD (eu R y.n) y.n y.w) _ ?_ ?_) ⟨rfl,rfl,(aF (by omega)),(aF (by omega)),trivial⟩
        ·exact⟨(by omega),n,(fun q=>by
          rw[kJ,jm];by_cases bA:q=y.n
          ·rw[if_pos bA,bA,sR d_ fC an,if_neg a8.2]
          ·rw[if_neg bA,if_neg bA,aH]),mi ae Q (by rw[←M];cases aO:hC (ml.foldl dH (bh s.aY)) y with|false=>rfl|true=>exact absurd (by rw[bQ,aO];decide) co),B⟩
        ·first|omega|(simp only;omega)|(simp;omega)
    ·
     refine G.exit (c8 (b0 (c2 ?_)));refine cV (G.L (fun e9=>?_));refine o.al ?_;refine e9 ?_;refine G.ret (bB ?_);exact⟨by obtain rfl:i3=ml.length:=(by omega);rw[List.take_length]at ae;rw[e3,if_neg (by rw[aQ];decide),if_neg (by omega),wi ae],k⟩
end fQ

namespace gb
open E Go.RowKit eY fm fw fA ez eZ e0 fI fJ pF fQ
set_option maxRecDepth 100000 in
theorem jN:c3 Tryz.prog 244 35 1 8:=⟨Tryz.underlying244,_,_,rfl,rfl,rfl,rfl,rfl⟩
theorem wM{l:List bu}{m:List (cw×Int)}{P:cw→Prop}{j:Nat}{n:Int}(h:∀k,(aM m k).isSome=true↔P k∨∃x∈l.take j,x.k=k)(q:j<l.length):∀k,(aM (fD m l[j].k n) k).isSome=true↔P k∨∃x∈l.take (j+1),x.k=k:=by
 intro k;rw[kJ,List.take_succ_eq_append_getElem q];by_cases i:k=l[j].k
 ·rw[if_pos i]
  exact⟨fun _=> .inr ⟨l[j],List.mem_append_right _ (List.mem_singleton.2 rfl),i.symm⟩,fun _=>rfl⟩
 ·rw[if_neg i,h]
  constructor
  ·rintro(o|⟨x,d,e⟩)
   ·exact .inl o
   ·exact .inr ⟨x,List.mem_append_left _ d,e⟩
  ·rintro(o|⟨x,d,e⟩)
   ·exact .inl o
   ·rcases List.mem_append.1 d with d|d
    ·exact .inr ⟨x,d,e⟩
    ·rw[List.mem_singleton.1 d]at e;exact absurd e.symm i
def eN(a b:Int):Int:=if a≠0 then a else b
theorem qn(a b:Int):hL [a,b]=eN a b:=by
 unfold eN;by_cases h:a≠0
 ·simp[hL,h]
 ·have h:a=0:=by simpa using h
  subst h;by_cases V:b=0<;>simp[hL,V]
theorem sk(a b c:Int):eN (eN a b) c=eN a (eN b c):=by
 unfold eN;by_cases h:a≠0
 ·rw[if_pos h,if_pos h,if_pos h]
 ·rw[if_neg h,if_neg h]
theorem vu(s:dZ)(t:bP):dD s t=eN (eN (eN (eN (ef t) (fg t)) (e3 s.bI t.ml)) (gi t)) (hX s.g_ t.el):=by
 rw[sk,sk,sk];rfl
theorem ss{t:bP}{a:Int}(d:t.bz=true)(V:t.ak≠[]):some (Value.int .i64 (eN a (cU t.ak)))=some (Value.int .i64 (eN a (fg t))):=by unfold fg;rw[if_pos ⟨d,V⟩]
theorem wx(a:Int):eN a 0=a:=by unfold eN;by_cases h:a≠0<;>simp_all
theorem nB{t:bP}{a:Int}(h:t.bz=false∨t.ak=[]):some (Value.int .i64 a)=some (Value.int .i64 (eN a (fg t))):=by
 unfold fg;rw[if_neg,wx];rintro⟨d,V⟩;rcases h with h|h
 ·rw[h]at d;cases d
 ·exact V h
theorem yE{t:bP}{a:Int}(d:t.aj=true):some (Value.int .i64 (eN a (if t.q.k≠0 then gI t.q else 0)))=some (Value.int .i64 (eN a (gi t))):=by unfold gi;simp[d]
theorem yD{t:bP}{a:Int}(d:t.aj=false):some (Value.int .i64 a)=some (Value.int .i64 (eN a (gi t))):=by unfold gi;simp[d,wx]
theorem qP(t:bP):c7 (decide (ef t=0)) 1=ef t:=by
 unfold c7 ef;split<;>simp_all
theorem jU{t:bP}(h:t.bz=true∨t.aj=true∨0<t.ml.length∨0<t.el.length):true=decide (ef t=0):=by
 refine(decide_eq_true ?_).symm;unfold ef;rw[if_neg];rintro⟨d,V,i,j⟩;rw[d,V,i,j]at h;simp at h
theorem qO{t:bP}(i:t.bz=false)(V:t.aj=false)(d:¬0<t.ml.length):decide ((t.el.length:Int)>0)=decide (ef t=0):=by
 unfold ef;have d:t.ml=[]:=List.length_eq_zero_iff.1 (by omega)
 cases j:t.el with
 |nil=>simp[i,V,d]
 |cons a l=>simp[i,V,d]
theorem yZ:∀{l:List fL},gT l=0→∀t∈l,1≤t.d∧t.d≤3
 |[],_,t,h=>by cases h
 |a::l,h,t,d=>by
  rw[gT]at h;by_cases e:hj a≠0
  ·rw[if_pos e]at h;exact absurd h e
  ·rw[if_neg e]at h
   rcases List.mem_cons.1 d with rfl|d
   ·apply Decidable.byContradiction
    intro i;unfold hj at e;rw[if_pos i]at e;exact e (by decide)
   ·exact yZ h t d
theorem vP{x:c5}(h:gI x=0):n6 x∧(x.k=1∨x.k=2):=by
 unfold gI at h;split at h
 ·cases h
 rename_i d;split at h
 ·cases h
 rename_i V;split at h
 ·cases h
 rename_i i;split at h
 ·cases h
 rename_i q;have j:hK x=true:=by cases e:hK x with|true=>rfl|false=>exact absurd e i
 obtain⟨_,_,a3,a4,a5,o,_⟩:=of_decide_eq_true j;have aA:=((mv x.br).1 (by simpa using V)).1;have k:x.k=1∨x.k=2:=Decidable.not_not.1 d;exact⟨⟨by omega,by omega,by omega,by omega,by omega,fun t n=>by have:=yZ h t n;omega⟩,k⟩
structure lG (t:bP):Prop where
 ml:t.ml.length≤65535
 el:t.el.length≤65535
 EF:∀m∈t.ml,m.y.length≤65535
 iW:∀m∈t.ml,m.n.length≤140737488355328
 ak:t.ak.length≤140737488355328
 br:t.q.br.length≤140737488355328
 ba:t.q.ba.length≤1048576
 lT:(e2 t).length≤1048576
theorem sc{s:dZ}{t:bP}(h:lG t)(c:dD s t=0):kX t:=by
 have c:=oH c;refine⟨h.ml,h.el,fun bz=>?_,fun m hm=>⟨?_,h.EF m hm⟩,fun m hm=>?_,fun aj=>?_,fun aj i=>?_⟩
 ·have d:=c.ak
  unfold fg at d;by_cases V:t.ak=[]
  ·rw[V];simp
  ·rw[if_pos ⟨bz,V⟩]at d
   have:=((mv t.ak).1 d).1;omega
 ·have:=((mv m.n).1 (nN c.cN m hm)).1;omega
 ·have d:=o5 c.g_ m hm
  unfold gE at d;split at d
  ·cases d
  ·split at d
   ·cases d
   ·omega
 ·have d:=c.jZ
  unfold gi at d;by_cases V:t.q.k=0
  ·omega
  ·rw[if_pos ⟨aj,V⟩]at d
   have:=(vP d).2;omega
 ·have d:=c.jZ
  unfold gi at d;rw[if_pos ⟨aj,i⟩]at d;exact(vP d).1
theorem Ec(s:c1)(v:Value)(el:List bu)(F:Nat→Prop)(w0:World)(J:Heap)
 (aj:fo F J s) (cP:bk F J.size) (he:bM J bQ 33 v el) (ak:∀y∈el,bM J a6 1 y.v.v y.d) (d_:dt (cq s.el)):
 aG Tryz.prog w0 51 #[eR s,v] J (fun r A=>r= .int .i64 (hX (cq s.el) el)∧aq J A):=by
 refine aG.aN [eR s,v] Tryz.func51 ?_;intro df bg;have d:aq J J:=W.refl _ _;have he:=he.b2;have b5:=he.b5;have ak:=fun y K=>(ak y K).b2;have aT:bk (fun b=>True∧b<J.size) J.size:=fun b h=>h.2;have ej:=he.len;have er:=aj.e.len;refine G.L (fun cf=>?_);refine o.aS cY ?_;rintro v2 A ⟨rfl,ae,an,dU,cg⟩;have dy:A.size=J.size+1:=by rw[cg];simp
 have aj:=aj.N an;have he:=he.N an;have ak:=fun y K=>(ak y K).N an;have d:=d.L an;have dV:=an.size;have ae:Var 47 A J.size (b3 s):=ae;refine o.al ?_;refine cf (G.L (fun ck=>?_));refine o.aS (Z.nJ bs (Value.int .i64) rfl) fun dW aC cl=>?_;obtain⟨rfl,az,Q,dz,bL⟩:=cl;have dG:aC.size=A.size+1:=by rw[bL];simp
 have cm:=(ax.new (cP.mono d.size):ax _ (A.size+1));have bv:=(ax.new (b5.mono d.size):ax _ (A.size+1));have a8:=(ax.new (aT.mono d.size):ax _ (A.size+1));have ba:U 0 J.size (A.size+1):=U.new d.size;have aj:=aj.N Q;have he:=he.N Q;have ak:=fun y K=>(ak y K).N Q;have ae:=ae.N Q;have d:=d.L Q;have dX:=Q.size;have dh:=az.lt;refine o.al ?_;refine ck (G.t1 (fun cp=>G.L (fun ct=>?_)));refine o.v1 (Y.an ae.O rfl cH rfl dT) ?_;refine o.v1 (au ae.O.i_ eA) ?_;refine o.v1 (bf aj.e cA) ?_;refine o.aa (o.nil (ct ?_));refine G.aD (fun _ cu _=>?_)
 refine G.bc (fun(aP:(Nat)×(List (cw×Int)))=>match aP with|(j,aa)=>[(1,v),(5,.map (some A.size)),(13,s.b9.v),(14,.int .i64 (s.el.length:Int)),(15,.int .i64 (j:Int))])
  (fun(j,aa) (H:Heap)=>(j≤s.el.length)∧(c0 H bs (Value.int .i64) A.size aa)∧(∀k,(aM aa k).isSome=true↔False∨∃x∈s.el.take j,x.k=k)∧W (aB [(A.size+1)]) aC H)
  (fun(j,aa)=>s.el.length-j) (0,[]) ⟨rfl,rfl,rfl,rfl,rfl,trivial⟩ ?_ ?_
 ·
  exact⟨(by omega),az,(fun k=>by simp[aM]),W.refl _ _⟩
 rintro⟨j,aa⟩ ab cv de cx cy;obtain⟨eo,az,aO,E⟩:=cv;have aj:=aj.ae E (ay.I cm);have he:=he.ae E (ay.I bv);have ak:=fun y K=>(ak y K).ae E (ay.I a8);have d:=d.bx E (ah.I (ao.q ba));have dY:=E.size;have b1:=U.refl (A.size+1) aC.size;refine G.L (fun cz=>?_);refine o.v1 bH (o.nil (cz ?_));refine G.t2 (fun cB cC=>?_);refine aW (fun cD=>?_) (fun cD=>?_)
 ·
  refine G.skip (cB (G.t1 (fun cE=>G.aD (fun bN _ _=>G.L (fun bO=>?_)))));refine o.aa ?_;have N:j<s.el.length:=by omega
  obtain⟨y,L⟩:∃q,q=s.el[j]:=⟨_,rfl⟩;have bc:y∈s.el:=by rw[L];exact List.getElem_mem N
  refine o.b1 (Y.bU aj.e (j) rfl cA cr rfl rfl) fun dA bP=>?_;refine o.v1 (Y.cast (v2:= .agg (bQ y).toArray) (a_ bP.O iu cr (di _)) (by rw[L])) ?_;refine o.aS (dk lz) ?_;rintro et bl ⟨rfl,aL,aN,co,cG⟩;have dB:bl.size=ab.size+1:=by rw[cG];simp
  have bR:af (A.size+1) (ab.size+1):=af.new az.lt;have bU:U 0 aC.size (ab.size+1):=U.new E.size;have az:=az.N aN;have E:=E.a8 aN;have dZ:=aN.size;refine o.cg ?_;refine o.s1 (eh aL (_) (bQ y) (hr y) cr (di _) ((dJ (di _).symm))) fun dC bV=>?_;obtain⟨aL,al⟩:=bV;have al:=al.bB;have az:=az.ae al (ag.I bR);have E:=E.aL al (ah.I (ao.q bU));have ea:=al.size;refine o.nil (bO (G.region ?_));refine o.aa ?_;refine o.v1 (Y.an aL.O rfl fr rfl bd) ?_;refine o.v1 (Y.cast (v2:=bs y.k) (a_ (aL.O.take 32) cj bd (by rw[show(bQ y).take 32=bX y.k from fa y];exact bC _)) (cn (show(bQ y).take 32=bX y.k from fa y))) ?_;refine o.aa ?_;refine o.s1 (S.xX ((j:Int)) az wL rfl tT rfl rfl rfl) fun dm bW=>?_;obtain⟨az,aJ⟩:=bW;have aJ:=aJ.bB;have E:=E.aL aJ (ah.I (ao.r b1));have ec:=aJ.size;refine o.nil (bN (cE (G.region ?_)));refine o.v1 bD ?_;refine o.aa (o.nil ?_);refine aR.sub (cx (j+1,fD aa y.k (j:Int)) _ ?_ ?_) ⟨rfl,rfl,rfl,(aF (by omega)),(aF (by omega)),trivial⟩
  ·exact⟨(by omega),az,(by rw[L];exact wM aO N),E⟩
  ·first|omega|(simp only;omega)|(simp;omega)
 ·
  obtain rfl:j=s.el.length:=by omega
  rw[List.take_length]at aO;refine G.exit (cC (cy (cu ?_)));refine cp (G.t2 (fun bY bZ=>G.L (fun a0=>?_)));refine o.aa ?_;refine o.v1 (bf he cA) ?_;refine o.aa (o.nil (a0 ?_));refine G.aD (fun _ a2 a3=>?_)
  refine G.bc (fun(aP:(Nat)×(List (cw×Int)))=>match aP with|(i,P)=>[(5,.map (some A.size)),(25,v),(26,.int .i64 (el.length:Int)),(27,.int .i64 (i:Int))])
   (fun(i,P) (H:Heap)=>(i≤el.length)∧(c0 H bs (Value.int .i64) A.size P)∧(∀k,(aM P k).isSome=true↔(∃x∈s.el,x.k=k)∨∃x∈el.take i,x.k=k)∧(∀x∈el.take i,gE x=0)∧W (aB [(A.size+1)]) ab H)
   (fun(i,P)=>el.length-i) (0,aa) ⟨rfl,rfl,rfl,rfl,trivial⟩ ?_ ?_
  ·
   exact⟨(by omega),az,(fun k=>by rw[aO];simp),(fun x h=>by simp at h),W.refl _ _⟩
  rintro⟨i,P⟩ ar b6 cs a4 aZ;obtain⟨ek,az,a5,aK,n⟩:=b6;have he:=he.ae n (ay.I bv);have ak:=fun y K=>(ak y K).ae n (ay.I a8);have d:=d.bx n (ah.I (ao.q ba));have ed:=n.size;have b2:=U.refl (A.size+1) ab.size;refine G.L (fun bn=>?_);refine o.v1 bH (o.nil (bn ?_));refine G.t2 (fun bo bp=>?_);refine aW (fun b8=>?_) (fun b8=>?_)
  ·
   refine G.skip (bo (G.t2 (fun a9 b0=>G.aD (fun cK _ cL=>G.L (fun cO=>?_)))));refine o.aa ?_;have N:i<el.length:=by omega
   obtain⟨y,L⟩:∃q,q=el[i]:=⟨_,rfl⟩;have bc:y∈el:=by rw[L];exact List.getElem_mem N
   refine o.b1 (Y.bU he (i) rfl cA cr rfl rfl) fun dp bT=>?_;refine o.v1 (Y.cast (v2:= .agg (bQ y).toArray) (a_ bT.O iu cr (di _)) (by rw[L])) ?_;refine o.aS (dk lz) ?_;rintro v9 bm ⟨rfl,B,ai,bw,b9⟩;have dq:bm.size=ar.size+1:=by rw[b9];simp
   have be:=(ax.new (aT.mono d.size):ax _ (ar.size+1));have cQ:af (A.size+1) (ar.size+1):=af.new az.lt;have cR:U 0 J.size (ar.size+1):=U.new d.size;have bi:U 0 ab.size (ar.size+1):=U.new n.size;have ak:=fun y K=>(ak y K).N ai;have az:=az.N ai;have d:=d.L ai;have n:=n.a8 ai;have cZ:=ai.size;refine o.cg ?_;refine o.s1 (eh B (_) (bQ y) (hr y) cr (di _) ((dJ (di _).symm))) fun aQ cV=>?_;obtain⟨B,ac⟩:=cV;have ac:=ac.bB;have ak:=fun y K=>(ak y K).ae ac (ay.I be);have az:=az.ae ac (ag.I cQ);have d:=d.bx ac (ah.I (ao.q cR));have n:=n.aL ac (ah.I (ao.q bi));have ee:=ac.size;refine o.nil (cO (G.t2 (fun aD cW=>G.t1 (fun cX=>?_))));refine dg (fun M=>aq aQ M) [] ?_;have O:=aq.refl aQ;refine T.t1 0 rfl (fun M C=>Y.an (B.O.N C) rfl fr rfl bd) O ?_;refine T.t1 1 rfl (fun M C=>Y.cast (v2:=bs y.k) (a_ ((B.O.N C).take 32) cj bd (by rw[show(bQ y).take 32=bX y.k from fa y];exact bC _)) (cn (show(bQ y).take 32=bX y.k from fa y))) O ?_;refine T.t1 5 rfl (fun M C=>Y.an (B.O.N C) rfl fr rfl c8) O ?_;refine T.t1 6 rfl (fun M C=>au (B.O.jR.N C) eI) O ?_;refine T.t1 7 rfl (fun M C=>bf ((ak y bc).N C) dj) O ?_;refine T.t1 8 rfl (fun M C=>eF) O ?_;refine T.aX 2 ?_;refine b7 ky (kN y.k w0 _) (fun ef c9 ca=>?_);obtain⟨rfl,R⟩:=ca;have az:=az.N R;have B:=B.N R;have d:=d.L R;have n:=n.a8 R;have dr:=R.size;have bt:=O.L R;refine T.cD bt ?_;have aV:=aq.refl c9;refine T.t1 3 rfl (fun M C=>Y.iE rfl rfl) aV ?_;refine T.aX 4 ?_;refine b7 hp (hP (decide (¬y.k=bq)) 1 rfl w0 _) (fun eg cc cb=>?_);obtain⟨rfl,aw⟩:=cb;have az:=az.N aw;have B:=B.N aw;have d:=d.L aw;have n:=n.a8 aw;have du:=aw.size;have bx:=aV.L aw;refine T.cD bx ?_;have bz:=aq.refl cc;refine T.aX 9 ?_;refine dM.call rfl rfl hp rfl cM rfl rfl (hP (decide (y.d.length≤65536)) 5 (by first|(exact(decide_eq_true (by omega)).symm)|(exact(decide_eq_false (by omega)).symm)|(exact decide_eq_decide.2 (by omega))) w0 _) (fun ei a1 cJ=>?_);obtain⟨rfl,am⟩:=cJ;have az:=az.N am;have B:=B.N am;have d:=d.L am;have n:=n.a8 am;have dN:=am.size;have bA:=bz.L am;refine T.cD bA ?_;have bB:=aq.refl a1;refine T.aX 10 ?_;refine ey rfl (cS _ ([c7 (decide (¬y.k=bq)) 1,c7 (decide (y.d.length≤65536)) 5]) jN kc kd (rfl)) (fun dH a7 c_=>?_);obtain⟨c2,X,dO,c3⟩:=c_;have dw:a7.size=a1.size+1:=by rw[c3];simp
   have az:=az.N X;have B:=B.N X;have d:=d.L X;have n:=n.a8 X;have dP:=X.size;have bE:=bB.L X;refine T.cD bE ?_;have bF:=aq.refl a7;refine T.aX 11 ?_;refine b7 kx (kM _ [c7 (decide (¬y.k=bq)) 1,c7 (decide (y.d.length≤65536)) 5] w0 _ c2.rd.any) (fun dI cd ce=>?_);obtain⟨rfl,ap⟩:=ce;have az:=az.N ap;have B:=B.N ap;have d:=d.L ap;have n:=n.a8 ap;have dQ:=ap.size;rw[D_];have bJ:=bF.L ap;refine T.cD bJ ?_;have aX:=aq.refl cd;refine T.t1 12 rfl (fun M C=>e5) aX ?_;refine cI ?_;have ep:=aX;refine cX (G.L (fun br=>?_));refine o.aa ?_;refine o.v1 da (o.nil (br ?_));refine aW (fun aH=>?_) (fun aH=>?_)
   ·
    refine G.L (fun c5=>?_);refine o.aP 2 ?_;refine c5 ?_;refine G.ret (cW (cL (b0 (aZ (a3 (bZ (bg ?_)))))));exact⟨by have C:=sG (l:=el) (j:=i) N aK (by rw[←L];exact aH);rw[←L]at C;rw[hX,if_pos (by rw[C];exact aH),C],d⟩
   ·
    refine G.skip (aD (G.region ?_));refine o.aa ?_;refine o.v1 (Y.an B.O rfl fr rfl bd) ?_;refine o.v1 (Y.cast (v2:=bs y.k) (a_ (B.O.take 32) cj bd (by rw[show(bQ y).take 32=bX y.k from fa y];exact bC _)) (cn (show(bQ y).take 32=bX y.k from fa y))) ?_;refine o.aa ?_;refine o.s1 (S.xX ((i:Int)) az wL rfl tT rfl rfl rfl) fun dx bK=>?_;obtain⟨az,aI⟩:=bK;have aI:=aI.bB;have n:=n.aL aI (ah.I (ao.r b2));have dS:=aI.size;refine o.nil (cK (a9 (G.region ?_)));refine o.v1 bD ?_;refine o.aa (o.nil ?_);refine aR.sub (a4 (i+1,fD P y.k (i:Int)) _ ?_ ?_) ⟨rfl,rfl,(aF (by omega)),(aF (by omega)),trivial⟩
    ·exact⟨(by omega),az,(by rw[L];exact wM a5 N),mi aK N (by rw[←L];simpa using aH),n⟩
    ·first|omega|(simp only;omega)|(simp;omega)
  ·
   obtain rfl:i=el.length:=by omega
   rw[List.take_length]at a5 aK;have dc:=sH aK;have db:=DA (s:=s.el) (el:=el) d_ az.fi.nodup (fun k=>by rw[←gQ,a5]);refine G.exit (bp (aZ (a2 ?_)));refine bY (G.L (fun c6=>?_));refine o.aa ?_;refine o.v1 (Y.xb az.fi rfl tT rfl) ?_;refine o.v1 eF ?_;refine o.call rfl hp rfl cM rfl rfl (hP (decide (P.length≤500)) 4 (decide_eq_decide.2 (by omega)) w0 _) (fun dK dL dR=>?_);obtain⟨rfl,aS⟩:=dR;have d:=d.L aS;have ci:=aS.size;refine o.al ?_;refine c6 ?_;refine G.ret (bg ?_);exact⟨by rw[hX,if_neg (by rw[dc];decide),db];unfold c7;by_cases bb:(gA (cq s.el) el).length≤500;rw[if_pos (decide_eq_true bb),if_neg (by omega)];rw[if_neg (by simpa using bb),if_pos (by omega)],d⟩
theorem p5(s:c1)(t:bP)(F aQ:Nat→Prop)(bb:Int)(w0:World)(J:Heap)
 (aI:dP bb J) (an:bk (fun b=>b=0) J.size) (aj:fo F J s) (aJ:bk F J.size) (k:eU aQ J t) (bN:bk aQ J.size) (ok:s.m.Ok) (T:lG t):
 aG Tryz.prog w0 23 #[eR s,ep t] J (fun r A=>r= .int .i64 (dD s.m t)∧aq J A):=by
 refine aG.aN [eR s,ep t] Tryz.func23 ?_;intro b7 aK;have j:aq J J:=W.refl _ _;have dg:=k.m.len;have de:=k.e.len;have aS:=T.ak;have z2:=T.br;refine G.L (fun a9=>?_);refine o.aS cY ?_;rintro v2 A ⟨rfl,q,S,cd,bl⟩;have cG:A.size=J.size+1:=by rw[bl];simp
 have aI:=aI.N S;have aj:=aj.N S;have k:=k.N S;have j:=j.L S;have cf:=S.size;have q:Var 47 A J.size (b3 s):=q;refine o.aS cY ?_;rintro v3 R ⟨rfl,i,Q,cg,bM⟩;have cH:R.size=A.size+1:=by rw[bM];simp
 have aI:=aI.N Q;have aj:=aj.N Q;have k:=k.N Q;have q:=q.N Q;have j:=j.L Q;have cj:=Q.size;have i:Var 32 R A.size (dB t):=i;refine o.al ?_;refine a9 ?_
 refine G.cut (fun(_:Unit)=>[(2,.pointer (some ⟨J.size,0,none⟩)),(3,.pointer (some ⟨A.size,0,none⟩)),(5,.int .i64 (ef t))])
  (fun(_:Unit) (H:Heap)=>(True)∧aq R H) (fun _ U _=>?_) ?_
 ·
  have ad:aq R R:=W.refl _ _;refine G.region ?_;refine o.v1 (Y.an i.O rfl bt rfl dz) ?_;refine o.v1 (au i.O ec) ?_;refine o.aa ?_;refine o.split (d:=9) rfl (fun g9=>?_) (fun g9=>?_)
  ·
   refine o.az 15 ?_;refine o.call rfl hp rfl cM rfl rfl (hP (decide (ef t=0)) 1 (by first|exact jU (.inl (by assumption))|exact jU (.inr (.inl (by assumption)))|exact jU (.inr (.inr (.inl (by omega))))|exact qO (by simp_all) (by simp_all) (by omega)) w0 _) (fun aa ab N=>?_);obtain⟨rfl,x⟩:=N;have ad:=ad.L x;have ck:=x.size;rw[qP];refine o.al ?_;refine aR.sub (U () _ ?_) ⟨rfl,rfl,(aF (by omega)),trivial⟩;exact⟨trivial,ad⟩
  ·
   refine o.ar (Y.an i.O rfl bt rfl dz) ?_;refine o.ar (au (i.O.drop 3) ec) ?_;refine o.az 2 ?_;refine o.split (d:=13) rfl (fun bT=>?_) (fun bT=>?_)
   ·
    refine o.az 11 ?_;refine o.call rfl hp rfl cM rfl rfl (hP (decide (ef t=0)) 1 (by first|exact jU (.inl (by assumption))|exact jU (.inr (.inl (by assumption)))|exact jU (.inr (.inr (.inl (by omega))))|exact qO (by simp_all) (by simp_all) (by omega)) w0 _) (fun aa ab N=>?_);obtain⟨rfl,x⟩:=N;have ad:=ad.L x;have cl:=x.size;rw[qP];refine o.al ?_;refine aR.sub (U () _ ?_) ⟨rfl,rfl,(aF (by omega)),trivial⟩;exact⟨trivial,ad⟩
   ·
    refine o.ar (Y.an i.O rfl bt rfl dO) ?_;refine o.ar (au (i.O.drop 2) dV) ?_;refine o.ar (bf k.m c9) ?_;refine o.ar eX ?_;refine o.az 2 ?_;refine o.bp (d:=19) rfl (fun be=>?_) (fun be=>?_)
    ·
     refine o.az 5 ?_;refine o.call rfl hp rfl cM rfl rfl (hP (decide (ef t=0)) 1 (by first|exact jU (.inl (by assumption))|exact jU (.inr (.inl (by assumption)))|exact jU (.inr (.inr (.inl (by omega))))|exact qO (by simp_all) (by simp_all) (by omega)) w0 _) (fun aa ab N=>?_);obtain⟨rfl,x⟩:=N;have ad:=ad.L x;have cm:=x.size;rw[qP];refine o.al ?_;refine aR.sub (U () _ ?_) ⟨rfl,rfl,(aF (by omega)),trivial⟩;exact⟨trivial,ad⟩
    ·
     refine o.ar (Y.an i.O rfl bt rfl dT) ?_;refine o.ar (au i.O.gU eA) ?_;refine o.ar (bf k.e cA) ?_;refine o.ar eX ?_;refine o.dy ?_;refine o.call rfl hp rfl cM rfl rfl (hP (decide (ef t=0)) 1 (by first|exact jU (.inl (by assumption))|exact jU (.inr (.inl (by assumption)))|exact jU (.inr (.inr (.inl (by omega))))|exact qO (by simp_all) (by simp_all) (by omega)) w0 _) (fun aa ab N=>?_);obtain⟨rfl,x⟩:=N;have ad:=ad.L x;have cp:=x.size;rw[qP];refine o.al ?_;refine aR.sub (U () _ ?_) ⟨rfl,rfl,(aF (by omega)),trivial⟩;exact⟨trivial,ad⟩
 ·
  intro _ ag bm;obtain⟨aL,ac⟩:=bm;have aI:=aI.N ac;have aj:=aj.N ac;have k:=k.N ac;have q:=q.N ac;have i:=i.N ac;have j:=j.L ac;have cq:=ac.size
  refine G.cut (fun(_:Unit)=>[(2,.pointer (some ⟨J.size,0,none⟩)),(3,.pointer (some ⟨A.size,0,none⟩)),(5,.int .i64 (eN (ef t) (fg t)))])
   (fun(_:Unit) (H:Heap)=>(True)∧aq ag H) (fun _ ae _=>?_) ?_
  ·
   have B:aq ag ag:=W.refl _ _;refine G.L (fun a0=>?_);refine o.v1 (Y.an i.O rfl bt rfl dz) ?_;refine o.v1 (au i.O ec) ?_;refine o.aa ?_;refine o.split (d:=28) rfl (fun b5=>?_) (fun b5=>?_)
   ·
    refine o.ar (Y.an i.O rfl bt rfl bV) ?_;refine o.ar (au (i.O.drop 1) bR) ?_;refine o.ar (Y.iZ rfl rfl rfl) ?_;refine o.O ?_;refine o.nil (a0 ?_);refine aW (fun O=>?_) (fun O=>?_)
    ·
     refine G.region ?_;refine o.aa ?_;refine o.v1 (Y.an i.O rfl bt rfl bV) ?_;refine o.v1 (au (i.O.drop 1) bR) ?_;refine aV p3 (p7 t.ak bb w0 _ aI (an.mono j.size) (by omega)) (fun cE bO bQ=>?_);obtain⟨rfl,az⟩:=bQ;have B:=B.L az;have cR:=az.size;refine o.aS (cS _ ([(ef t),(cU t.ak)]) jN kc kd (rfl)) fun cV bi bU=>?_;obtain⟨aN,aB,aD,aO⟩:=bU;have a2:bi.size=bO.size+1:=by rw[aO];simp
     have B:=B.L aB;have cW:=aB.size;refine aV kx (kM _ [(ef t),(cU t.ak)] w0 _ aN.rd.any) (fun cX ce bW=>?_);obtain⟨rfl,aC⟩:=bW;have B:=B.L aC;have cI:=aC.size;rw[qn];refine o.al ?_;refine aR.sub (ae () _ ?_) ⟨rfl,rfl,(by first|(have n:t.ak≠[]:=(by simpa using O);exact ss (by assumption) n)|(have n:t.ak=[]:=(by simpa using O);exact nB (.inr n))|(have n:t.bz=false:=(by simp_all);exact nB (.inl n))),trivial⟩;exact⟨trivial,B⟩
    ·
     refine G.skip ?_;refine aR.sub (ae () _ ?_) ⟨rfl,rfl,(by first|(have n:t.ak≠[]:=(by simpa using O);exact ss (by assumption) n)|(have n:t.ak=[]:=(by simpa using O);exact nB (.inr n))|(have n:t.bz=false:=(by simp_all);exact nB (.inl n))),trivial⟩;exact⟨trivial,B⟩
   ·
    refine o.az 4 ?_;refine o.nil (a0 ?_);refine dK ?_;refine G.skip ?_;refine aR.sub (ae () _ ?_) ⟨rfl,rfl,(by first|(have n:t.ak≠[]:=(by simpa using O);exact ss (by assumption) n)|(have n:t.ak=[]:=(by simpa using O);exact nB (.inr n))|(have n:t.bz=false:=(by simp_all);exact nB (.inl n))),trivial⟩;exact⟨trivial,B⟩
  ·
   intro _ b9 aw;obtain⟨aL,E⟩:=aw;have aI:=aI.N E;have aj:=aj.N E;have k:=k.N E;have q:=q.N E;have i:=i.N E;have j:=j.L E;have cJ:=E.size;refine G.L (fun bX=>?_);refine o.aa ?_;refine o.v1 (a_ q.O gY ev (cO _)) ?_;refine o.v1 (Y.an i.O rfl bt rfl dO) ?_;refine o.v1 (au (i.O.drop 2) dV) ?_;refine aV BB (Em s t.cN.v t.ml F bb w0 _ aI (an.mono j.size) aj (aJ.mono j.size) k.m.any ok.fY ok.aY T.iW) (fun cZ bY bZ=>?_);obtain⟨rfl,K⟩:=bZ;have aI:=aI.N K;have aj:=aj.N K;have k:=k.N K;have q:=q.N K;have i:=i.N K;have j:=j.L K;have cK:=K.size;refine o.aS (cS _ ([(eN (ef t) (fg t)),(e3 s.m.bI t.ml)]) jN kc kd (rfl)) fun c0 b0 b1=>?_;obtain⟨aP,L,bv,aT⟩:=b1;have a3:b0.size=bY.size+1:=by rw[aT];simp
   have aI:=aI.N L;have aj:=aj.N L;have k:=k.N L;have q:=q.N L;have i:=i.N L;have j:=j.L L;have cP:=L.size;refine aV kx (kM _ [(eN (ef t) (fg t)),(e3 s.m.bI t.ml)] w0 _ aP.rd.any) (fun dR af b2=>?_);obtain⟨rfl,M⟩:=b2;have aI:=aI.N M;have aj:=aj.N M;have k:=k.N M;have q:=q.N M;have i:=i.N M;have j:=j.L M;have cQ:=M.size;rw[qn];refine o.al ?_;refine bX ?_
   refine G.cut (fun(_:Unit)=>[(2,.pointer (some ⟨J.size,0,none⟩)),(3,.pointer (some ⟨A.size,0,none⟩)),(5,.int .i64 (eN (eN (eN (ef t) (fg t)) (e3 s.m.bI t.ml)) (gi t)))])
    (fun(_:Unit) (H:Heap)=>(True)∧aq af H) (fun _ a4 _=>?_) ?_
   ·
    have C:aq af af:=W.refl _ _;refine G.L (fun bo=>?_);refine o.v1 (Y.an i.O rfl bt rfl dz) ?_;refine o.v1 (au (i.O.drop 3) ec) (o.nil (bo ?_));refine cL (fun bp=>?_) (fun bp=>?_)
    ·
     refine G.region ?_;refine o.aa ?_;refine o.v1 (Y.an i.O rfl bt rfl dY) ?_;refine o.v1 (Y.cast (v2:=gu t.q) (a_ ((i.O.drop 4).take 70) j9 dY (by rw[jK];exact fz _)) (cn (jK t))) ?_;refine aV BC (Gs t.q bb w0 _ aI (an.mono j.size) k.q.any (by omega)) (fun ci bq bs=>?_);obtain⟨rfl,ah⟩:=bs;have aj:=aj.N ah;have C:=C.L ah;have cr:=ah.size;refine o.aS (cS _ ([(eN (eN (ef t) (fg t)) (e3 s.m.bI t.ml)),(if t.q.k≠0 then gI t.q else 0)]) jN kc kd (rfl)) fun c2 bu bx=>?_;obtain⟨aX,ai,ct,aZ⟩:=bx;have a5:bu.size=bq.size+1:=by rw[aZ];simp
     have aj:=aj.N ai;have C:=C.L ai;have cu:=ai.size;refine aV kx (kM _ [(eN (eN (ef t) (fg t)) (e3 s.m.bI t.ml)),(if t.q.k≠0 then gI t.q else 0)] w0 _ aX.rd.any) (fun c3 c5 bz=>?_);obtain⟨rfl,al⟩:=bz;have aj:=aj.N al;have C:=C.L al;have cv:=al.size;rw[qn];refine o.al ?_;refine aR.sub (a4 () _ ?_) ⟨rfl,rfl,(by first|(have n:t.aj=true:=(by assumption);exact yE n)|(have n:t.aj=false:=(by simp_all);exact yD n)),trivial⟩;exact⟨trivial,C⟩
    ·
     refine G.skip ?_;refine aR.sub (a4 () _ ?_) ⟨rfl,rfl,(by first|(have n:t.aj=true:=(by assumption);exact yE n)|(have n:t.aj=false:=(by simp_all);exact yD n)),trivial⟩;exact⟨trivial,C⟩
   ·
    intro _ ca am;obtain⟨aL,P⟩:=am;have aj:=aj.N P;have k:=k.N P;have q:=q.N P;have i:=i.N P;have j:=j.L P;have cx:=P.size;refine G.t2 (fun bA bB=>G.L (fun bD=>?_));refine o.aa ?_;refine o.v1 (a_ q.O gY ev (cO _)) ?_;refine o.v1 (Y.an i.O rfl bt rfl dT) ?_;refine o.v1 (au i.O.gU eA) ?_;refine aV BD (Ec s t.b9.v t.el F w0 _ aj (aJ.mono j.size) k.e.any (fun y hy=>(k.d y hy).any) ok.sE) (fun c6 bE bF=>?_);obtain⟨rfl,ap⟩:=bF;have k:=k.N ap;have i:=i.N ap;have j:=j.L ap;have cy:=ap.size;refine o.aS (cS _ ([(eN (eN (eN (ef t) (fg t)) (e3 s.m.bI t.ml)) (gi t)),(hX s.m.g_ t.el)]) jN kc kd (rfl)) fun c7 bH bJ=>?_;obtain⟨a1,X,cz,a6⟩:=bJ;have b8:bH.size=bE.size+1:=by rw[a6];simp
    have k:=k.N X;have i:=i.N X;have j:=j.L X;have cB:=X.size;refine aV kx (kM _ [(eN (eN (eN (ef t) (fg t)) (e3 s.m.bI t.ml)) (gi t)),(hX s.m.g_ t.el)] w0 _ a1.rd.any) (fun co c8 bK=>?_);obtain⟨rfl,Z⟩:=bK;have k:=k.N Z;have i:=i.N Z;have j:=j.L Z;have cC:=Z.size;rw[qn];refine o.al ?_;refine bD (G.L (fun a8=>?_));refine o.aa ?_;refine o.v1 da (o.nil (a8 ?_));refine aW (fun ar=>?_) (fun ar=>?_)
    ·
     refine G.L (fun ba=>?_);refine o.aP 2 ?_;refine ba ?_;refine G.ret (bB (aK ?_));exact⟨by rw[vu],j⟩
    ·
     have ay:dD s.m t=0:=by rw[vu];simpa using ar
     have b6:=sc T ay;have df:=T.lT;refine G.skip (bA (G.L (fun bc=>?_)));refine o.v1 (a_ i.O gz fj (dX _)) ?_;refine aV vh (vN t aQ w0 _ k (bN.mono j.size) b6) (fun c_ db bL=>?_);obtain⟨s2,a7,rfl,aM,cs,aH⟩:=bL;have j:=j.L aH;have cD:=aH.size;have cc:=aM.le;refine o.aa ?_;refine o.v1 cF ?_;refine o.v1 cF ?_;refine o.aP 2 ?_;refine bc (G.L (fun bd=>?_));refine o.aa ?_;refine o.v1 ((cb).gD (rfl)) ?_;refine o.az 2 ?_;refine o.ar (bf aM.rd dj) ?_;refine o.ar ((eF).gD (by omega)) ?_;refine o.O ?_;refine aV hp (tj true 5 w0 _) (fun dc bw bn=>?_);obtain⟨rfl,bg⟩:=bn;have j:=j.L bg;refine o.al ?_;refine bd ?_;refine G.ret (aK ?_);exact⟨by rw[ay];rfl,j⟩
end gb

namespace eL
open E Go.RowKit eY fm fw fA ez eZ e0 fI fJ fQ gb
set_option maxRecDepth 100000 in
theorem oT:c3 Tryz.prog 27 129 33 40:=⟨Tryz.underlying27,_,_,rfl,rfl,rfl,rfl,rfl⟩
set_option maxRecDepth 100000 in
theorem jO:c3 Tryz.prog 44 71 33 48:=⟨Tryz.underlying44,_,_,rfl,rfl,rfl,rfl,rfl⟩
set_option maxRecDepth 100000 in
theorem de:c3 Tryz.prog 57 5 1 1:=⟨Tryz.underlying57,_,_,rfl,rfl,rfl,rfl,rfl⟩
set_option maxRecDepth 100000 in
theorem nC:c3 Tryz.prog 60 64 65 80:=⟨Tryz.underlying60,_,_,rfl,rfl,rfl,rfl,rfl⟩
theorem oA{k:cw}(s:aO)(d:List UInt8)(w:World):(Instr.build 68 #[(0,bs k),(1,s.v)]).run Tryz.prog w= .ok (jS ⟨k,s,d⟩) w:=by
 obtain⟨k,i⟩:=k;simp only[jS,bQ,bX,bs];obtain⟨j,n,H,T,X,Y,Z,aa,ab,ae,o,q,r,x,A,B,C,E,F,G,J,K,L,M,N,O,P,Q,R,S,U,W,rfl⟩:=nF i
 kernel_rfl
theorem rT{i:cw}(n:List UInt8)(w:World):(Instr.build 71 #[(0,aK n),(1,bs i)]).run Tryz.prog w= .ok (.agg (dE ⟨n,i⟩).toArray) w:=by
 obtain⟨k,d⟩:=i;simp only[dE,bX,bs];obtain⟨j,o,J,U,Y,Z,aa,ab,ae,af,q,r,x,A,B,C,E,F,G,H,K,L,M,N,O,P,Q,R,S,T,W,X,rfl⟩:=nF d
 kernel_rfl
theorem Ay{I i:cw}(n:List UInt8)(w:World):(Instr.build 64 #[(0,bs I),(1,bs i),(2,aK n)]).run Tryz.prog w= .ok (.agg (eB ⟨I,i,n⟩).toArray) w:=by
 obtain⟨k,d⟩:=I;obtain⟨l,j⟩:=i;simp only[eB,bX,bs];obtain⟨o,q,K,W,Z,aa,ab,ae,af,ag,r,x,A,B,C,E,F,G,H,J,L,M,N,O,P,Q,R,S,T,U,X,Y,rfl⟩:=nF d;obtain⟨ah,ai,aF,du,aT,aV,aW,cB,aX,aZ,al,an,ar,au,aw,ay,az,aB,aC,aD,aG,aH,aI,aJ,aL,aM,aN,aO,aP,aQ,aR,aS,rfl⟩:=nF j
 kernel_rfl
theorem uT{h:List UInt8}{r:aO}{l:List cx}{q:c5}(w:World):(Instr.build 47 #[(0,aK h),(1,r.v),(3,gu q)]).run Tryz.prog w= .ok (eR ⟨h,r,l,dw,[],q,dw,[]⟩) w:=by
 obtain⟨k,br,⟨cc,i⟩,⟨bw,d⟩,cf,ba,dn,md,st⟩:=q;simp only[gu,b3,eC,bX];obtain⟨j,n,K,W,Z,aa,ab,ae,af,ag,o,x,A,B,C,E,F,G,H,J,L,M,N,O,P,Q,R,S,T,U,X,Y,rfl⟩:=nF i;obtain⟨ah,ai,aF,du,aV,aW,aX,cB,aZ,a1,al,an,ar,au,aw,ay,az,aB,aC,aD,aG,aH,aI,aJ,aL,aM,aN,aP,aQ,aR,aS,aT,rfl⟩:=nF d
 kernel_rfl
section
variable {x : c1}
theorem GS(h:List UInt8):(b3 x).set 0 (aK h)=b3 {x with ak:=h}:=rfl
theorem yI(s:aO)(l:List cx):(b3 x).set 1 s.v=b3 {x with fN:=s,aY:=l}:=rfl
theorem tE(s:aO)(l:List ir):(b3 x).set 2 s.v=b3 {x with cP:=s,b4:=l}:=rfl
theorem oL:b3 x=(aK x.ak::x.fN.v::x.cP.v::(.int .i64 x.q.k::aK x.q.br::(bX x.q.cc++bX x.q.bw)))++(iR x.q++[x.b9.v]):=by
 simp[b3,eC,iR]
theorem oM:(aK x.ak::x.fN.v::x.cP.v::(.int .i64 x.q.k::aK x.q.br::(bX x.q.cc++bX x.q.bw)):List Value).length=69:=by simp[bC]
theorem yJ(j:Nat)(v:Value):(b3 x).set (69+j) v=(b3 x).take 69++(iR x.q++[x.b9.v]).set j v:=by
 rw[oL,List.set_append,if_neg (by rw[oM];omega),oM,List.take_left' oM];congr 2;omega
theorem yK:(b3 x).take 69=aK x.ak::x.fN.v::x.cP.v::(.int .i64 x.q.k::aK x.q.br::(bX x.q.cc++bX x.q.bw)):=by rw[oL];exact List.take_left' oM
theorem yL(s:aO)(l:List fL):(b3 x).set 69 s.v=b3 {x with q:={x.q with cf:=s,ba:=l}}:=by
 rw[yJ 0,yK]
 conv=>rhs;rw[oL]
 rfl
theorem yG(s:aO)(l:List bu):(b3 x).set 73 s.v=b3 {x with b9:=s,el:=l}:=by
 rw[yJ 4,yK]
 conv=>rhs;rw[oL]
 rfl
theorem yH(q:c5):dU (b3 x) 3 (eC q)=b3 {x with q:=q}:=by
 unfold dU;rw[fz];show[aK x.ak,x.fN.v,x.cP.v]++eC q++(b3 x).drop 73=_;rw[v7];simp[b3]
end
section
variable {H : Heap} {ad : Addr} {x : c1}
theorem _root_.Go.Proofs.YtfjmpninmdjcaaaGreatDoor.E.b8.GO(h:b8 H ad (b3 x)):b8 H ((ad.add 3).add 66) (iR x.q++[x.b9.v]):=by
 have d:=h.drop 69;have e:(b3 x).drop 69=iR x.q++[x.b9.v]:=by rw[oL];exact List.drop_left' oM
 rw[e]at d;rwa[show ad.add 69=(ad.add 3).add 66 from by cases ad;rfl]at d
theorem _root_.Go.Proofs.YtfjmpninmdjcaaaGreatDoor.E.b8.Hf{x:bP}(h:b8 H ad (dB x)):b8 H ((ad.add 4).add 66) (iR x.q++[x.b9.v]):=by
 have d:=h.drop 70
 have e:(dB x).drop 70=iR x.q++[x.b9.v]:=by
  have i:dB x=(.bool x.bz::aK x.ak::x.cN.v:: .bool x.aj::(.int .i64 x.q.k::aK x.q.br::(bX x.q.cc++bX x.q.bw)))++(iR x.q++[x.b9.v]):=by simp[dB,eC,iR]
  rw[i];exact List.drop_left' (by simp[bC])
 rw[e]at d;rwa[show ad.add 70=(ad.add 4).add 66 from by cases ad;rfl]at d
end
structure iN (F:Nat→Prop) (H:Heap) (s:c1):Prop where
 r:Rd F H dE 33 s.fN.v s.aY
 g:Rd F H ia 2 s.cP.v s.b4
 n:∀y∈s.b4,Rd F H eB 65 y.v.v y.l
 q:Rd F H dF 33 s.q.cf.v s.q.ba
 d:∀y∈s.el,Rd F H a6 1 y.v.v y.d
section
variable {F aQ : Nat → Prop} {H ab : Heap} {s : c1} {ks : List Nat} {h : Nat}
theorem iN.N(x:iN F H s)(w:aq H ab):iN F ab s:=⟨x.r.N w,x.g.N w,fun y hy=>(x.n y hy).N w,x.q.N w,fun y hy=>(x.d y hy).N w⟩
theorem iN.ae(x:iN F H s)(w:W (aB ks) H ab)(d:ay F ks):iN F ab s:=⟨x.r.ae w d,x.g.ae w d,fun y hy=>(x.n y hy).ae w d,x.q.ae w d,fun y hy=>(x.d y hy).ae w d⟩
theorem iN.imp(x:iN F H s)(d:∀b,b<H.size→F b→aQ b):iN aQ H s:=⟨x.r.imp d,x.g.imp d,fun y hy=>(x.n y hy).imp d,x.q.imp d,fun y hy=>(x.d y hy).imp d⟩
theorem iN.st(x:iN F H s)(h:Rd F H bQ 33 s.b9.v s.el):fo F H s:=⟨x.r,x.g,x.n,x.q,h,x.d⟩
end
theorem ax.dx{aQ:Nat→Prop}{d k:Nat}(h:ax aQ k)(i:af k d):ax (fun b=>aQ b∨b+1=d) k:=by
 rintro b (e|e) V
 ·exact h b e V
 ·exact i b V e
theorem bk.dx{aQ:Nat→Prop}{n d:Nat}(h:bk aQ n)(i:d≤n):bk (fun b=>aQ b∨b+1=d) n:=by
 rintro b (e|e)
 ·exact h b e
 ·omega
theorem lK{aQ:Nat→Prop}{h d:Nat}(a:∀c,aQ c→h≤c)(n:U 0 h d):∀c,aQ c∨c+1=d→h≤c:=by
 rintro c (e|e)
 ·exact a c e
 ·unfold U at n;omega
theorem tw{α β:Type}{f:β→List Value}{sz:Nat}{v:α→Value}{r:α→List β}{aQ d:Nat→Prop}{H:Heap}{l:List α}{x:α}(h:∀y∈l,Rd aQ H f sz (v y) (r y))(i:∀b,aQ b→d b)(j:Rd d H f sz (v x) (r x)):∀y∈l++[x],Rd d H f sz (v y) (r y):=by
 intro y hy;rcases List.mem_append.1 hy with hy|hy
 ·exact(h y hy).imp (fun b _ e=>i b e)
 ·rw[List.mem_singleton]at hy;rw[hy];exact j
theorem wS{l:List c4}{q:Nat}(h:q=l.length-100):l.drop q=jP l:=by subst h;rfl
theorem FZ{s:c1}(h:s.m.Ok):s.aY.length≤200:=by have:=h.hi;simpa[c1.m,bh]using this
theorem DQ{s:c1}(h:s.m.Ok):s.b4.length≤200:=by
 have d:=h.hi;have V:=congrArg List.length h.cG;rw[List.length_map,List.length_map]at V;rw[←V]at d
 simpa[c1.m,dv]using d
theorem Cy{s:c1}(h:s.m.Ok):s.el.length≤500:=by have:=h.iW;simpa[c1.m,cq]using this
theorem DW{s:c1}(h:s.m.Ok):∀y∈s.b4,y.l.length≤100:=fun y hy=>h.b4 (y.n,y.l) (List.mem_map.2 ⟨y,hy,rfl⟩)
theorem D9{s:c1}(h:s.m.Ok):∀y∈s.el,y.d.length≤65536:=fun y hy=>h.md (y.k.1,y.d) (List.mem_map.2 ⟨y,hy,rfl⟩)
theorem G8{s:c1}(h:s.m.Ok):s.q.ba.length≤100:=h.iK
theorem x1(v1:Value)(a:List cx)(w0:World)(J:Heap)
 (i:bM J dE 33 v1 a) (af:a.length≤1073741824):
 aG Tryz.prog w0 113 #[v1] J (fun r A=>∃s:aO,∃k:Nat,r=s.v∧(aU k 71 A dE 33 s.v a)∧(U 0 J.size k)∧aq J A):=by
 refine aG.aN [v1] Tryz.func113 ?_;intro Z F;have d:aq J J:=W.refl _ _;have i:=i.b2;obtain⟨p,ae,rfl,_,_,S⟩:=id i.ex;refine G.L (fun K=>?_);refine o.al ?_;refine K (G.t2 (fun L M=>G.L (fun N=>?_)));refine o.aa ?_;refine o.v1 (Y.pr rfl Tryz.underlying44 rfl rfl) (o.nil (N ?_));refine cL (fun q=>?_) (fun q=>?_)
 ·
  obtain rfl:a=[]:=by
   apply Decidable.byContradiction;intro h;obtain⟨ad,R,_⟩:=S h;rw[R]at q;cases q
  refine G.L (fun O=>?_);refine o.al ?_;refine O ?_;refine G.ret (M (F ?_));exact⟨⟨none,0,0⟩,0,rfl,aU.nil ib k9,U.refl _ _,d⟩
 ·
  refine G.skip (L (G.L (fun aw=>?_)));refine o.aS (cS _ (([]:List cx)) jO ib k9 (rfl)) ?_;rintro v5 B ⟨am,j,aa,P⟩;have ap:B.size=J.size+1:=by rw[P];simp
  have C:U 0 J.size (J.size+1):=U.new d.size;have i:=i.N j;have d:=d.L j;have ab:=j.size;refine o.aa ?_;refine o.aS (eg am i jO (by first|omega|(simp;omega)) (by first|omega|(simp;omega))) ?_;rintro H X ⟨x,E,n,ac⟩;have n:U (J.size+1) B.size x:=n;have ac:=ac.md;have Q:U 0 J.size x:=U.L (C) n d.size;have d:=d.bx ac (ah.I (ao.q C));refine o.al ?_;refine aw ?_;refine G.ret (F ?_);obtain⟨T,rfl⟩:∃s:aO,H=s.v:=⟨cm H,E.bm.symm⟩;exact⟨T,x,rfl,by simpa using E,Q,d⟩
theorem oZ(v1:Value)(a:List c4)(w0:World)(J:Heap)
 (i:bM J eB 65 v1 a) (af:a.length≤1073741824):
 aG Tryz.prog w0 114 #[v1] J (fun r A=>∃s:aO,∃k:Nat,r=s.v∧(aU k 64 A eB 65 s.v a)∧(U 0 J.size k)∧aq J A):=by
 refine aG.aN [v1] Tryz.func114 ?_;intro Z F;have d:aq J J:=W.refl _ _;have i:=i.b2;obtain⟨p,ae,rfl,_,_,S⟩:=id i.ex;refine G.L (fun K=>?_);refine o.al ?_;refine K (G.t2 (fun L M=>G.L (fun N=>?_)));refine o.aa ?_;refine o.v1 (Y.pr rfl Tryz.underlying60 rfl rfl) (o.nil (N ?_));refine cL (fun q=>?_) (fun q=>?_)
 ·
  obtain rfl:a=[]:=by
   apply Decidable.byContradiction;intro h;obtain⟨ad,R,_⟩:=S h;rw[R]at q;cases q
  refine G.L (fun O=>?_);refine o.al ?_;refine O ?_;refine G.ret (M (F ?_));exact⟨⟨none,0,0⟩,0,rfl,aU.nil np qf,U.refl _ _,d⟩
 ·
  refine G.skip (L (G.L (fun aw=>?_)));refine o.aS (cS _ (([]:List c4)) nC np qf (rfl)) ?_;rintro v5 B ⟨am,j,aa,P⟩;have ap:B.size=J.size+1:=by rw[P];simp
  have C:U 0 J.size (J.size+1):=U.new d.size;have i:=i.N j;have d:=d.L j;have ab:=j.size;refine o.aa ?_;refine o.aS (eg am i nC (by first|omega|(simp;omega)) (by first|omega|(simp;omega))) ?_;rintro H X ⟨x,E,n,ac⟩;have n:U (J.size+1) B.size x:=n;have ac:=ac.md;have Q:U 0 J.size x:=U.L (C) n d.size;have d:=d.bx ac (ah.I (ao.q C));refine o.al ?_;refine aw ?_;refine G.ret (F ?_);obtain⟨T,rfl⟩:∃s:aO,H=s.v:=⟨cm H,E.bm.symm⟩;exact⟨T,x,rfl,by simpa using E,Q,d⟩
theorem yU(v1:Value)(a:List fL)(w0:World)(J:Heap)
 (i:bM J dF 33 v1 a) (af:a.length≤1073741824):
 aG Tryz.prog w0 52 #[v1] J (fun r A=>∃s:aO,∃k:Nat,r=s.v∧(aU k 129 A dF 33 s.v a)∧(U 0 J.size k)∧aq J A):=by
 refine aG.aN [v1] Tryz.func52 ?_;intro Z F;have d:aq J J:=W.refl _ _;have i:=i.b2;obtain⟨p,ae,rfl,_,_,S⟩:=id i.ex;refine G.L (fun K=>?_);refine o.al ?_;refine K (G.t2 (fun L M=>G.L (fun N=>?_)));refine o.aa ?_;refine o.v1 (Y.pr rfl Tryz.underlying27 rfl rfl) (o.nil (N ?_));refine cL (fun q=>?_) (fun q=>?_)
 ·
  obtain rfl:a=[]:=by
   apply Decidable.byContradiction;intro h;obtain⟨ad,R,_⟩:=S h;rw[R]at q;cases q
  refine G.L (fun O=>?_);refine o.al ?_;refine O ?_;refine G.ret (M (F ?_));exact⟨⟨none,0,0⟩,0,rfl,aU.nil ix nu,U.refl _ _,d⟩
 ·
  refine G.skip (L (G.L (fun aw=>?_)));refine o.aS (cS _ (([]:List fL)) oT ix nu (rfl)) ?_;rintro v5 B ⟨am,j,aa,P⟩;have ap:B.size=J.size+1:=by rw[P];simp
  have C:U 0 J.size (J.size+1):=U.new d.size;have i:=i.N j;have d:=d.L j;have ab:=j.size;refine o.aa ?_;refine o.aS (eg am i oT (by first|omega|(simp;omega)) (by first|omega|(simp;omega))) ?_;rintro H X ⟨x,E,n,ac⟩;have n:U (J.size+1) B.size x:=n;have ac:=ac.md;have Q:U 0 J.size x:=U.L (C) n d.size;have d:=d.bx ac (ah.I (ao.q C));refine o.al ?_;refine aw ?_;refine G.ret (F ?_);obtain⟨T,rfl⟩:∃s:aO,H=s.v:=⟨cm H,E.bm.symm⟩;exact⟨T,x,rfl,by simpa using E,Q,d⟩
theorem mm(v1:Value)(a:List UInt8)(w0:World)(J:Heap)
 (i:bM J a6 1 v1 a) (af:a.length≤140737488355328):
 aG Tryz.prog w0 59 #[v1] J (fun r A=>∃s:aO,∃k:Nat,r=s.v∧(aU k 5 A a6 1 s.v a)∧(U 0 J.size k)∧aq J A):=by
 refine aG.aN [v1] Tryz.func59 ?_;intro Z F;have d:aq J J:=W.refl _ _;have i:=i.b2;obtain⟨p,ae,rfl,_,_,S⟩:=id i.ex;refine G.L (fun K=>?_);refine o.al ?_;refine K (G.t2 (fun L M=>G.L (fun N=>?_)));refine o.aa ?_;refine o.v1 (Y.pr rfl Tryz.underlying57 rfl rfl) (o.nil (N ?_));refine cL (fun q=>?_) (fun q=>?_)
 ·
  obtain rfl:a=[]:=by
   apply Decidable.byContradiction;intro h;obtain⟨ad,R,_⟩:=S h;rw[R]at q;cases q
  refine G.L (fun O=>?_);refine o.al ?_;refine O ?_;refine G.ret (M (F ?_));exact⟨⟨none,0,0⟩,0,rfl,aU.nil et fB,U.refl _ _,d⟩
 ·
  refine G.skip (L (G.L (fun aw=>?_)));refine o.aS (cS _ (([]:List UInt8)) de et fB (rfl)) ?_;rintro v5 B ⟨am,j,aa,P⟩;have ap:B.size=J.size+1:=by rw[P];simp
  have C:U 0 J.size (J.size+1):=U.new d.size;have i:=i.N j;have d:=d.L j;have ab:=j.size;refine o.aa ?_;refine o.aS (eg am i de (by first|omega|(simp;omega)) (by first|omega|(simp;omega))) ?_;rintro H X ⟨x,E,n,ac⟩;have n:U (J.size+1) B.size x:=n;have ac:=ac.md;have Q:U 0 J.size x:=U.L (C) n d.size;have d:=d.bx ac (ah.I (ao.q C));refine o.al ?_;refine aw ?_;refine G.ret (F ?_);obtain⟨T,rfl⟩:∃s:aO,H=s.v:=⟨cm H,E.bm.symm⟩;exact⟨T,x,rfl,by simpa using E,Q,d⟩
theorem DZ(v:Value)(l:List c4)(m:bn)(w0:World)(J:Heap)
 (M:bM J eB 65 v l) (bx:l.length≤1000):
 aG Tryz.prog w0 56 #[v,kK m] J (fun r aD=>∃s:aO,∃k:Nat,r=s.v∧(aU k 64 aD eB 65 s.v (jP (l++[⟨m.I,m.w,m.y⟩])))∧(U 0 J.size k)∧aq J aD):=by
 refine aG.aN [v,kK m] Tryz.func56 ?_;intro bq aI;have n:aq J J:=W.refl _ _;have M:=M.b2;refine G.L (fun aT=>?_);refine o.aS cY ?_;rintro v3 E ⟨rfl,N,ag,bw,aW⟩;have bu:E.size=J.size+1:=by rw[aW];simp
 have M:=M.N ag;have n:=n.L ag;have a0:=ag.size;have N:Var 52 E J.size (db m):=N;refine o.al ?_;refine aT (G.t1 (fun aF=>?_));refine dg (fun B=>aq E B) [] ?_;have d:aq E E:=W.refl _ _;refine T.aa 0 rfl d ?_;refine T.t1 2 rfl (fun B x=>Y.an (N.O.N x) rfl cv rfl bd) d ?_;refine T.t1 3 rfl (fun B x=>Y.cast (v2:=bs m.I) (a_ (((N.O.drop 1).N x).take 32) cj bd (by rw[hs];exact bC _)) (cn (hs _))) d ?_;refine T.t1 4 rfl (fun B x=>Y.an (N.O.N x) rfl cv rfl bd) d ?_;refine T.t1 5 rfl (fun B x=>Y.cast (v2:=bs m.w) (a_ (((N.O.drop 33).N x).take 32) cj bd (by rw[fe];exact bC _)) (cn (fe _))) d ?_;refine T.t1 6 rfl (fun B x=>Y.an (N.O.N x) rfl cv rfl bV) d ?_;refine T.t1 7 rfl (fun B x=>au (N.O.nL.N x) bR) d ?_;refine T.t1 8 rfl (fun B x=>Y.build (v:= .agg (eB ⟨m.I,m.w,m.y⟩).toArray) rfl rfl (by intro w;exact Ay _ _)) d ?_;refine T.two (i:=1) (j:=9) (by kernel_rfl) ?_ ?_
 ·
  refine b7 oC (oZ v l w0 _ M.any (by omega)) ?_;rintro v6 A ⟨bp,C,rfl,F,am,L⟩;have aX:U 0 J.size C:=U.L (U.refl 0 _) am n.size;have aZ:U 0 E.size C:=U.L (U.refl 0 _) am d.size;have n:=n.L L;have d:=d.L L;have cg:=L.size;have ad:=F.le;refine⟨.inr d,T.narrow (SH2:=fun B=>W (aB [C]) A B) (fun B x=>(W.aL (ks:=[]) (d.kI []) x (ah.I (ao.q aZ))).nil) ?_⟩;have d:W (aB [C]) A A:=W.refl _ _;have a1:=U.refl C A.size;refine T.aX 9 ?_;refine ey rfl (cS _ ([(⟨m.I,m.w,m.y⟩:c4)]) nC np qf (rfl)) (fun a6 H ai=>?_);obtain⟨S,ac,bk,ae⟩:=ai;have bg:H.size=A.size+1:=by rw[ae];simp
  have bl:U 0 A.size (A.size+1):=U.new d.size;have F:=F.N ac;have n:=n.L ac;have d:=d.a8 ac;have a2:=ac.size;refine T.bZ d (ah.cons (ao.r a1) (ah.I (ao.q bl))) ?_;have d:W (aB [C,(A.size+1)]) H H:=W.refl _ _;have ap:=U.refl C H.size;have bm:=U.refl (A.size+1) H.size;refine T.aX 10 ?_;refine ey rfl (eg F S.rd nC (by simp;omega) (by simp;omega)) (fun a7 Q al=>?_);obtain⟨P,F,O,K⟩:=al;have O:U C H.size P:=O;have K:=K.md;have aJ:U C H.size P:=U.L (ap) O d.size;have n:=n.bx K (ah.I (ao.q aX));have d:=d.aL K (ah.I (ao.r ap));have a3:=K.size;have ad:=F.le;refine T.bZ d (ah.cons (ao.r aJ) (ah.I (ao.r bm))) ?_;have d:W (aB [P,(A.size+1)]) Q Q:=W.refl _ _;refine T.t1 11 rfl (fun B x=>e5) d ?_;refine cI ?_;refine aF (G.L (fun a8=>?_));refine o.az 2 ?_;refine o.v1 (bf F.rd km) ?_;have bo:(l++[(⟨m.I,m.w,m.y⟩:c4)]).length=l.length+1:=by simp
  obtain⟨q,x⟩:∃q,q=(l++[(⟨m.I,m.w,m.y⟩:c4)]).length-100:=⟨_,rfl⟩;have az:=wS x;refine o.v1 fG ?_;refine o.v1 (Y.cast (v2:= .int .i64 (q:Int)) (Y.sF rfl rfl rfl) (fh (by omega))) ?_;refine o.aN (g:=fun v=>v) (Y.slice F.rd (q) ((l++[(⟨m.I,m.w,m.y⟩:c4)]).length) rfl km mT rfl (.inr ⟨_,_,_,rfl,rfl,by first|rfl|omega⟩) (.inl ⟨rfl,rfl⟩) (by omega) (by omega)) fun Z X=>?_;rw[List.take_length,az]at X;have an:(jP (l++[(⟨m.I,m.w,m.y⟩:c4)])).length≤1073741824:=by have:=qx (l++[(⟨m.I,m.w,m.y⟩:c4)]);omega
  have ar:=X.any;have ay:=oZ Z _ w0 _ ar an;refine aV oC (ay) (fun ba bb aa=>?_);obtain⟨ab,R,rfl,aC,af,aw⟩:=aa;have aK:U 0 J.size R:=U.L (U.refl 0 _) af n.size;have n:=n.L aw;refine o.al ?_;refine a8 ?_;refine G.ret (aI ?_);exact⟨ab,R,rfl,aC,aK,n⟩
 ·
  refine ey rfl (cS _ ([(⟨m.I,m.w,m.y⟩:c4)]) nC np qf (rfl)) (fun a6 H ai=>?_);obtain⟨S,ac,bk,ae⟩:=ai;have bg:H.size=E.size+1:=by rw[ae];simp
  have aL:U 0 E.size (E.size+1):=U.new d.size;have M:=M.N ac;have n:=n.L ac;have d:=d.L ac;have a4:=ac.size;refine⟨.inr d,T.narrow (SH2:=fun B=>W (aB [(E.size+1)]) H B) (fun B x=>(W.aL (ks:=[]) (d.kI []) x (ah.I (ao.q aL))).nil) ?_⟩;have d:W (aB [(E.size+1)]) H H:=W.refl _ _;have aM:=U.refl (E.size+1) H.size;refine T.aX 1 ?_;refine b7 oC (oZ v l w0 _ M.any (by omega)) ?_;rintro v6 A ⟨bp,C,rfl,F,am,L⟩;have aN:U 0 J.size C:=U.L (U.refl 0 _) am n.size;have aP:U 0 H.size C:=U.L (U.refl 0 _) am d.size;have S:=S.N L;have n:=n.L L;have d:=d.a8 L;have a5:=L.size;have ad:=F.le;refine T.bZ d (ah.cons (ao.r aM) (ah.I (ao.q aP))) ?_;have d:W (aB [(E.size+1),C]) A A:=W.refl _ _;have aQ:=U.refl (E.size+1) A.size;have aH:=U.refl C A.size;refine T.aX 10 ?_;refine ey rfl (eg F S.rd nC (by simp;omega) (by simp;omega)) (fun a7 Q al=>?_);obtain⟨P,F,O,K⟩:=al;have O:U C A.size P:=O;have K:=K.md;have aR:U C A.size P:=U.L (aH) O d.size;have n:=n.bx K (ah.I (ao.q aN));have d:=d.aL K (ah.I (ao.r aH));have bt:=K.size;have ad:=F.le;refine T.bZ d (ah.cons (ao.r aQ) (ah.I (ao.r aR))) ?_;have d:W (aB [(E.size+1),P]) Q Q:=W.refl _ _;refine T.t1 11 rfl (fun B x=>e5) d ?_;refine cI ?_;refine aF (G.L (fun bc=>?_));refine o.az 2 ?_;refine o.v1 (bf F.rd km) ?_;have bo:(l++[(⟨m.I,m.w,m.y⟩:c4)]).length=l.length+1:=by simp
  obtain⟨q,x⟩:∃q,q=(l++[(⟨m.I,m.w,m.y⟩:c4)]).length-100:=⟨_,rfl⟩;have az:=wS x;refine o.v1 fG ?_;refine o.v1 (Y.cast (v2:= .int .i64 (q:Int)) (Y.sF rfl rfl rfl) (fh (by omega))) ?_;refine o.aN (g:=fun v=>v) (Y.slice F.rd (q) ((l++[(⟨m.I,m.w,m.y⟩:c4)]).length) rfl km mT rfl (.inr ⟨_,_,_,rfl,rfl,by first|rfl|omega⟩) (.inl ⟨rfl,rfl⟩) (by omega) (by omega)) fun Z X=>?_;rw[List.take_length,az]at X;have an:(jP (l++[(⟨m.I,m.w,m.y⟩:c4)])).length≤1073741824:=by have:=qx (l++[(⟨m.I,m.w,m.y⟩:c4)]);omega
  have ar:=X.any;have ay:=oZ Z _ w0 _ ar an;refine aV oC (ay) (fun ba bb aa=>?_);obtain⟨ab,R,rfl,aC,af,aw⟩:=aa;have aS:U 0 J.size R:=U.L (U.refl 0 _) af n.size;have n:=n.L aw;refine o.al ?_;refine bc ?_;refine G.ret (aI ?_);exact⟨ab,R,rfl,aC,aS,n⟩
end eL
end Go.Proofs.YtfjmpninmdjcaaaGreatDoor
