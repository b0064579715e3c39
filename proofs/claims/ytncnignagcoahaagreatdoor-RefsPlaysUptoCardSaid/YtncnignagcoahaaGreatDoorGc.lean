/-
  Contracts of functions of the program, and plain laws: put together of several texts.
-/
import Derived.Test.YtncnignagcoahaaGreatDoorGb
import Derived.Sort.Walk0
set_option linter.unusedVariables false
set_option linter.unusedSimpArgs false
set_option linter.unusedSectionVars false
set_option linter.defProp false
set_option maxHeartbeats 8000000
set_option maxRecDepth 100000
namespace Go.Proofs.YtncnignagcoahaaGreatDoor.E
open Go.RowKit Go.Proofs.Tryz
variable{n:Nat}{H V:Heap}{F:Nat->Prop}{aP:Type}{vq24z:Int}{vq33z:List Nat}
def ta{v1:Value}(a:List UInt8){w0:World}(A:b_ H a7 1 v1 a)(W:a.length<=140737488355328):
 a8 prog w0 70 #[v1] H (fun r C=>∃s:ay,∃k:Nat,r=s.v/\aS k 5 C a7 1 s.v a/\U 0 H.size k/\an H C):=by
 refine G.bN func70 o fun n=>?_;have A:=A.cD;obtain⟨p,V,rfl,_,_,P⟩:=id A.ex;refine G.ae 2 o (M.zm o underlying93 o o)<|G.ci o ?_ ?_<;>intro F;obtain rfl:a=[]:=by
  apply hB;intro h;obtain⟨ad,O,_⟩:=P h;rw[O]at F;cases F
 exact G.rt o ⟨⟨none,0,0⟩,0,o,aS.nil eM fy,U.refl _ _,n⟩;refine G.aR o (Z.cV<|c5 _ (([]:List UInt8)) dv eM fy) ?_;rintro v5 S ⟨L,aH,_⟩;have E:=U.new n.size;obtain⟨A,n,_⟩:=bG aH A n;refine G.aR o (dd L A dv gm gm) ?_;rintro K T ⟨Q,ac,am,B⟩;have B:=B.md;have N:=U.al E am n.size;have n:=n.gK B (ag.J (ah.q E));refine G.rt o ?_;obtain⟨R,rfl⟩:∃s:ay,K=s.v:=⟨ck K,ac.a6.symm⟩;exact⟨R,Q,o,by simpa using ac,N,n⟩
def jg(l:List (ay×List UInt8)):List UInt8:=l.flatMap (·.2)
def xA{l:List (ay×List UInt8)}{i:Nat}(h:i<l.length):jg (l.take (i+1))=jg (l.take i)++l[i].2:=by
 unfold jg;rw[fc h,j5];simp
def NX(l:List (ay×List UInt8))(i:Nat):(jg (l.take i)).length<=(jg l).length:=by
 have:jg l=jg (l.take i)++jg (l.drop i):=by unfold jg;rw[<-j5,hY]
 rw[this,b2];omega
def Fv{l:List (ay×List UInt8)}{i:Nat}(h:i<l.length):(jg (l.take i)).length+l[i].2.length<=(jg l).length:=by
 have:=NX l (i+1);rw[xA h,b2]at this;exact this
def Pz{m:Nat}(w0:World)(hm:m<=1099511627776):
 a8 prog w0 215 #[.slice none 0 0,.int .i64 (m:Int)] H (fun r B=>∃s:ay,∃k:Nat,r=s.v/\aS k 5 B a7 1 s.v []/\U 0 H.size k/\an H B):=by
 refine G.bN func215 o fun n=>G.ae 2 o ((M.lss o o o).hp I) (G.dP o<|G.ae 2 o (M.Fu o c_ o)<|G.O o (M.cast (v2:= .int .i64 ((0:Nat):Int)) (bz (Rd.nil (fun _=>False) _ a7 1) c_) o)<|G.O o (M.cast (v2:= .int .i64 ((0:Nat):Int)) eA o)<|G.O o (M.cast (v2:= .int .i64 (m:Int)) eA<|di a_)<|G.ip o (fun am=>?_) fun am=>?_);refine G.ae 2 o (M.Fu o c_ o)<|G.ae 0 o (M.TF 0 0 o c_ db o (.inl ⟨o,o⟩) (.inr ⟨_,_,_,o,o,o⟩) I I) ?_;have N:aS 0 5 H a7 1 (.slice none 0 0) []:=aS.nil eM fy;refine G.aR o (Z.z6 (m:=m) N (0:UInt8) o dv underlying3 zL o aO o o bU bU) ?_;rintro bt O ⟨K,C,F,A⟩;have A:=A.md;have ap:=U.al (U.refl 0 _) F n.size;have n:=n.gK A (ag.cons ah.z ag.nil);have P:=A.size;have ac:=C.le;refine G.O o (M.cast (v2:= .int .i64 ((0:Nat):Int)) (bz (Rd.nil (fun _=>False) _ a7 1) c_) o)<|G.hj (g:=fun v=>v) o (M.RG C (0) o c_ db o o hd I) fun E ad=>G.rt o ?_;obtain⟨L,rfl⟩:∃s:ay,E=s.v:=⟨ck E,ad.a6.symm⟩;exact⟨L,K,o,by simpa using ad,ap,n⟩;exact G.rt o ⟨⟨none,0,0⟩,0,o,aS.nil eM fy,U.refl _ _,n⟩
def FG{v:Value}{l:List (ay×List UInt8)}{w0:World}(n:b_ V iu 1 v l)(B:∀x∈l,b_ V a7 1 x.1.v x.2)(aj:(jg l).length<=1099511627776):
 a8 prog w0 170 #[v] V (fun r Q=>∃s:ay,∃k:Nat,r=s.v/\aS k 5 Q a7 1 s.v (jg l)/\U 0 V.size k/\an V Q):=by
 refine G.bN func170 o fun A=>?_;have n:=n.cD;have aA:=n.c7;have B:=fun x av=>(B x av).cD;have aB:bk (fun b=>True/\b<V.size) V.size:=fun b h=>h.2;have aP:=n.len;refine G.O o (bz n je) ?_
 refine G.bd o (fun(i:Nat)=>[(0,v),(3,.int .i64 ((jg<|l.take i).length:Int)),(9,v),(10,.int .i64 l.length),(11,.int .i64 i)])
  (fun(i:Nat) (H:Heap)=>(i<=l.length)/\an V H)
  (fun(i:Nat)=>l.length-i) 0 ⟨I,W.refl _ _⟩ ?_
 rintro i bb ⟨aO,ae⟩ aH ax;obtain⟨n,B,A,_⟩:=cg ae n B A;refine G.ip o ?_ ?_<;>intro a0;have K:i<l.length:=by omega
 have aL:=Fv K;refine G.pp o (M.cw n i o je cZ o o) fun a2 am=>G.O o (aY am.T eI)<|G.O o (bz (B l[i] (cS K)) c_)<|G.O o (M.cast (v2:= .int .i64 ((jg (l.take (i+1))).length:Int)) bB<|di (by rw[xA K,b2];omega))<|G.ae 2 o ((M.lss o o o).hp I)<|G.dP o<|G.O o bB ?_;have aN:=xA K;exact G.aQ o<|ax (i+1) _ ⟨I,ae⟩;obtain rfl:i=l.length:=by omega
 refine G.ae 0 o (M.cast (v2:= .int .i64 ((jg l).length:Int)) gh (by rw[eQ]))<|G.aC o M7 (Pz w0 aj) ?_;rintro aJ R ⟨a3,O,rfl,ac,L,aC⟩;have a4:=aw.app aw.z (aA.mono A.size) L;have a5:=aw.app aw.z (aB.mono A.size) L;have S:=U.al (U.refl 0 _) L A.size;obtain⟨n,B,A,_⟩:=cg aC n B A;have Z:=ac.le;refine G.O o (bz n je) ?_
 refine G.bd o (fun(aG:Nat×ay×Nat)=>match aG with|(q,E,C)=>[(6,E.v),(25,v),(26,.int .i64 l.length),(27,.int .i64 q)])
  (fun(q,E,C) (H:Heap)=>(q<=l.length)/\aS C 5 H a7 1 E.v (jg (l.take q))/\U O R.size C/\W (aq [O]) R H)
  (fun(q,E,C)=>l.length-q) (0,a3,O) ⟨I,by simpa[jg]using ac,U.refl _ _,W.refl _ _⟩ ?_
 rintro⟨q,E,C⟩ dB ⟨aQ,ac,aa,F⟩ be aE;have ag:=U.al S aa A.size;obtain⟨n,B,A,_⟩:=dg F n a4 B a5 A S;have Z:=ac.le;have T:=aa;refine G.ip o ?_ ?_<;>intro aI;have P:q<l.length:=by omega
 have aM:=Fv P;refine G.pp o (M.cw n q o je cZ o o) fun a9 ai=>G.O o (aY ai.T eI)<|G.aR o (dd ac (B l[q] (cS P)) dv gm gm) ?_;rintro X aK ⟨az,ac,ak,N⟩;have N:=N.md;have al:=U.al T ak F.size;obtain⟨F,_⟩:=cz N F (ah.r T);have Z:=ac.le;refine G.O o bB ?_;obtain⟨aF,rfl⟩:∃s:ay,X=s.v:=⟨ck X,ac.a6.symm⟩;exact G.aQ o<|aE (q+1,aF,az) _ ⟨I,by rw[xA P];exact ac,al,F⟩;refine G.rt o ?_;obtain rfl:q=l.length:=by omega
 rw[eQ]at ac;exact⟨E,C,o,ac,ag,A⟩
abbrev kr:=cn×ay
abbrev m7(x:kr):List Value:=[.bool x.1.b,x.2.v]
def mb(x:kr):(m7 x).length=2:=rfl
def sg(x:kr):∀u∈m7 x,u.oneCell'=true:=by intro u hu;simp only[dI,kN,or_false]at hu;rcases hu with rfl|rfl<;>rfl
abbrev uI(x:kr):Value:= .agg (m7 x).toArray
def yT(w:cn)(b:List UInt8)(n:Nat):(w.on b n).length<=b.length+n:=by
 unfold cn.on;rw[b2,eC];split<;>simp<;>omega
def uf{x:kr}{sb:ay}{b:List UInt8}(n:Nat){w0:World}(ab:b_ V a7 1 x.2.v x.1.d)(hb:b_ V a7 1 sb.v b)(ar:n<=x.1.d.length)(aw:b.length+n<=1099511627776):
 a8 prog w0 96 #[uI x,sb.v,.int .i64 (n:Int)] V (fun r F=>∃s:ay,∃k:Nat,r=s.v/\aS k 5 F a7 1 s.v (x.1.on b n)/\U 0 V.size k/\an V F):=by
 refine G.bN func96 o fun A=>?_;have ab:=ab.cD;have hb:=hb.cD;refine G.aR o Z.bv ?_;rintro v3 C ⟨rfl,B,ap,_⟩;obtain⟨ab,hb,A,_⟩:=cg ap ab hb A;have B:Var 220 C V.size (m7 x):=B
 refine G.bw 0 o (fun(ag:ay×(List UInt8))=>match ag with|(s1,bX)=>[(1,s1.v),(2,.int .i64 (n:Int)),(3,.pointer (some ⟨V.size,0,none⟩))])
  (fun(s1,bX) (H:Heap)=>(b_ H a7 1 s1.v bX)/\(bX=if x.1.b=true then b else[])/\an C H) (fun _ aH=>?_) ?_
 have ac:an C C:=W.refl _ _;refine G.aG o B.T mU c8 eW o o<|G.O o e7<|G.ci o ?_ ?_<;>intro L;exact G.aQ o<|aH (⟨none,0,0⟩,[]) _ ⟨Rd.nil _ _ _ _,by rw[au (by simpa using L)],ac⟩;exact G.aQ o<|aH (sb,b) _ ⟨hb.any,by rw[aD (by simpa using L)],ac⟩;rintro⟨s1,bX⟩ ah P;obtain⟨ae,M,O⟩:=P;obtain⟨ab,B,A,_⟩:=cg O ab B A;have av:bX.length<=b.length:=by rw[M];split<;>simp
 refine G.aG o B.T mU cZ eI o o<|G.hj (g:=fun v=>v) o (iG ab (0) n c_ db (.inl ⟨o,o⟩) (.inr ⟨_,_,_,o,o,by first|rfl|omega⟩)) fun am E=>?_;obtain⟨K,rfl⟩:∃s:ay,am=s.v:=⟨ck am,E.a6.symm⟩;refine G.aR o (Z.cV<|c5 _ ([(s1,bX),(K,(x.1.d.take n).drop 0)]) pJ k_ la) ?_;rintro ai ak ⟨Q,ad,_⟩;obtain⟨E,A,_⟩:=bG ad E A;refine G.aC o ET (FG Q.rd.any (fun x N=>by simp only[dI,kN,or_false]at N;rcases N with rfl|rfl;exact ae.aL ad;exact E.any) (by simp[jg];omega)) ?_;rintro al aq ⟨bt,aa,rfl,R,S,T⟩;have X:=U.al (U.refl 0 _) S A.size;have A:=A.al T;exact G.rt o ⟨bt,aa,o,by have e:jg [(s1,bX),(K,(x.1.d.take n).drop 0)]=x.1.on b n:=(by unfold cn.on;rw[<-M];simp[jg]);rw[<-e];exact R,X,A⟩
def DQ(x:kr){w0:World}(ab:b_ H a7 1 x.2.v x.1.d)(C:x.1.d.length<=1099511627776):
 a8 prog w0 94 #[uI x] H (fun r n=>r= .int .i64 (x.1.ways:Int)/\an H n):=by
 refine G.bN func94 o fun k=>?_;have ab:=ab.cD;refine G.aR o (Z.bT<|m7 x) ?_;rintro v1 H1 ⟨rfl,B,A,_⟩;obtain⟨ab,k,_⟩:=bG A ab k;exact G.aG o B.T mU cZ eI o o<|G.O o (bz ab c_)<|G.O o (M.cast (v2:= .int .i64 ((2*x.1.d.length:Nat):Int)) lB<|di I)<|G.O o (M.cast (v2:= .int .i64 (x.1.ways:Int)) (M.qF o o o)<|di (by unfold cn.ways;omega))<|G.rt o ⟨o,k⟩
def RW(x:kr){sb:ay}{b:List UInt8}(n:Nat){w0:World}(ab:b_ H a7 1 x.2.v x.1.d)(hb:b_ H a7 1 sb.v b)(hw:n<x.1.ways)(aB:b.length+x.1.d.length<=1099511627776):
 a8 prog w0 95 #[uI x,sb.v,.int .i64 (n:Int)] H (fun r Q=>∃s:ay,∃k:Nat,r=s.v/\aS k 5 Q a7 1 s.v (x.1.part b n)/\U 0 H.size k/\an H Q):=by
 refine G.bN func95 o fun A=>?_;have ab:=ab.cD;have hb:=hb.cD;have al:n<1\/n<2*x.1.d.length:=by unfold cn.ways at hw;omega
 refine G.aR o (Z.bT<|m7 x) ?_;rintro v3 ai ⟨rfl,F,ah,_⟩;obtain⟨ab,hb,A,_⟩:=cg ah ab hb A;refine G.aG o F.T mU cZ eI o o<|G.O o (bz ab c_)<|G.sp 5 14 o ?_ ?_<;>intro aA;refine G.it o<|G.O o (bu F.T m0 lq o)<|G.O o bB<|G.O o (M.cast (v2:= .int .i64 ((min (n+1) x.1.d.length:Nat):Int)) (M.B8 o o o)<|di I)<|G.aC o tm (uf (min (n+1) x.1.d.length) ab.any hb.any I I) ?_;rintro T V ⟨O,P,rfl,C,K,L⟩;have W:=U.al (U.refl 0 _) K A.size;obtain⟨A,_⟩:=cv L A;have ac:=C.le;exact G.rt o ⟨O,P,o,by have E:x.1.part b n=x.1.on b (min (n+1) x.1.d.length):=(by unfold cn.part;rw[aD (by first|exact .inl I|exact .inr I)]);rw[E];exact C,W,A⟩;refine G.ip o ?_ ?_<;>intro ak;refine G.O o (bu F.T m0 lq o)<|G.O o bB<|G.O o (M.cast (v2:= .int .i64 ((min (n+1) x.1.d.length:Nat):Int)) (M.B8 o o o)<|di I)<|G.aC o tm (uf (min (n+1) x.1.d.length) ab.any hb.any I I) ?_;rintro T V ⟨O,P,rfl,C,K,L⟩;have ae:=U.al (U.refl 0 _) K A.size;obtain⟨A,_⟩:=cv L A;have ac:=C.le;exact G.rt o ⟨O,P,o,by have E:x.1.part b n=x.1.on b (min (n+1) x.1.d.length):=(by unfold cn.part;rw[aD (by first|exact .inl I|exact .inr I)]);rw[E];exact C,ae,A⟩;refine G.O o (M.cast (v2:= .int .i64 ((n-x.1.d.length:Nat):Int)) eA<|di I)<|G.O o (bu F.T m0 lq o)<|G.aC o tm (uf (n-x.1.d.length) ab.any hb.any I I) ?_;rintro aq av ⟨aw,ax,rfl,B,aH,am⟩;have R:=U.al (U.refl 0 _) aH A.size;obtain⟨A,_⟩:=cv am A;have ad:=B.le;have aC:=yT x.1 b (n-x.1.d.length);refine G.O o (M.cast (v2:= .int .i64 ((x.1.d.length-(n-x.1.d.length):Nat):Int)) eA<|di I)<|G.aR o (Z.z6 (m:=x.1.d.length-(n-x.1.d.length)) B (0:UInt8) o dv underlying3 zL o aO o o gm gm) ?_;rintro S az ⟨X,B,ag,N⟩;have N:=N.md;have ap:=U.al R ag A.size;obtain⟨A,_⟩:=cz N A R;have ad:=B.le;refine G.rt o ?_;obtain⟨aa,rfl⟩:∃s:ay,S=s.v:=⟨ck S,B.a6.symm⟩;exact⟨aa,X,o,by have E:x.1.part b n=x.1.on b (n-x.1.d.length)++List.replicate (x.1.d.length-(n-x.1.d.length)) 0:=(by unfold cn.part;rw[au I]);rw[E];exact B,ap,A⟩
def Z.ext{P:Program}{w0:World}{l:az}{J:Oper}{f:FuncId}{fn:Func}{e:Array Value->Sem Value}{args:List Operand}{A:Array TypeId}{vs:List Value}{R:Value->Heap->Prop}(M:J.op= .call {callee:= .value (.func f),args:=args.toArray,argTypes:=A})(F:P.funcs[f]?=some fn)(L:(fn.name== "runtime.NumGoroutine")=false)(hb:fn.body.isNone=true)(ar:Extern.findNext fn=none)(he:Extern.find fn=some e)(N:jb l args=some vs)(af:∀w,At w0 H w->∃v aa k,(e vs.toArray).run P w= .ok v k/\At w0 aa k/\R v aa):Z P w0 n l H J R:=by
 intro a w K E;have B:a.eval (.func f)= .func (.func f) #[] #[]:=rfl;have C:=K.oM N;have r:=run_callFunc_extern (P:=P) F L hb ar he vs.toArray w;obtain⟨v,aa,k,O,Q,S⟩:=af w E;rw[O]at r;simp only[Result.andThen]at r;exact⟨v,aa,k,by simp[execOp,M,resolve,Deferred.ofValue,B,invoke,C,r],Q,S⟩
def Var.cell{w0:World}{e:TypeId}{b:Nat}{cs:List Value}(h:Var e H b cs){w:World}(A:At w0 H w){i:Nat}{c:Value}(aj:cs[i]?=some c):w.cell? ⟨b,i,none⟩=some c/\w.frozen? ⟨b,i,none⟩=false/\∃fz,w.heap[b]?=some (.cells cs.toArray e fz):=by
 obtain⟨fz,n,r⟩:=id h.row;have B:=(List.getElem?_eq_some_iff.1 aj).1;have k:w.heap[b]?=some (.cells cs.toArray e fz):=by rw[A.heap];exact n
 refine⟨by simp[World.cell?,k,aj],?_,fz,k⟩;obtain⟨E,C⟩:=fz;have:=r.2 i (by simpa using B);simp only at this;simp[World.frozen?,k];omega
def Z.Lp{P:Program}{w0:World}{l:az}{J:Oper}{f:FuncId}{fn:Func}{args:List Operand}{C:Array TypeId}{e:TypeId}{b i:Nat}{cs:List Value}{x y:Int}(h:Var e H b cs)(aj:cs[i]?=some (.int .i64 x))(M:J.op= .call {callee:= .value (.func f),args:=args.toArray,argTypes:=C})(K:P.funcs[f]?=some fn)(L:(fn.name== "runtime.NumGoroutine")=false)(hb:fn.body.isNone=true)(ar:Extern.findNext fn=none)(he:Extern.find fn=some (Extern.Atomic.update (Op.intArith .add) .i64 true))(N:jb l args=some [.pointer (some ⟨b,i,none⟩),.int .i64 y])(Q: -9223372036854775808<=x+y/\x+y<=9223372036854775807):
 Z P w0 n l H J (fun r aa=>r= .int .i64 (x+y)/\Var e aa b (cs.set i (.int .i64 (x+y)))/\W (fun c=>c=b) H aa):=by
 refine Z.ext M K L hb ar he N fun w k=>?_;obtain⟨A,E,fz,F⟩:=h.cell k aj;have hw:IntKind.i64.wrap (x+y)=x+y:=by rw[IntKind.wrap_i64];omega
 have O:=(List.getElem?_eq_some_iff.1 aj).1;refine⟨.int .i64 (x+y),_,w.setRow b (cs.toArray.setIfInBounds i (.int .i64 (x+y))),?_,k.row _ _,o,?_,wJ k⟩;have Y:(store ⟨b,i,none⟩ (.int .i64 (x+y)) .atomic).run P w= .ok () (w.setRow b (cs.toArray.setIfInBounds i (.int .i64 (x+y)))):=by
  rw[Go.run_store P w _ _ _ o,A];simp only[E,nb,if_false];rw[setCell_eq_setRow w b i cs.toArray e fz _ F]
 have bc:Extern.Atomic.update (Op.intArith .add) .i64 true #[.pointer (some ⟨b,i,none⟩),.int .i64 y]=(asAddr (.pointer (some ⟨b,i,none⟩))>>=fun a=>Extern.Atomic.read (.int .i64) a>>=fun B=>asInt B>>=fun p=>asInt (.int .i64 y)>>=fun q=>Op.intArith .add .i64 p q>>=fun new=>store a new .atomic>>=fun _=>pure (if true then new else B)):=rfl;show(Extern.Atomic.update (Op.intArith .add) .i64 true #[.pointer (some ⟨b,i,none⟩),.int .i64 y]).run P w=_;rw[bc];simp[Extern.Atomic.read,asAddr,A,asInt,asIntOf,Op.intArith,hw,Y];have:=zl k h.row (c:=cs.toArray.setIfInBounds i (.int .i64 (x+y))) a_;exact⟨by simpa using this⟩
inductive gD|out|fs|eZ|dir (p:av)|now (p:av)|rQ (p:av)|lK (p:av)|dE (i:Nat)|k2 (i:Nat)|du
abbrev ptr(b:Nat):Value:= .pointer (some ⟨b,0,none⟩)
abbrev fX(fb:List Nat)(i:Nat):Value:=ptr (fb.getD i 0)
abbrev lQ(fb:List Nat)(J:Option Nat):Option Addr:=J.map (fun i=>⟨fb.getD i 0,0,none⟩)
abbrev k9(fb:List Nat)(c:dy):List Value:=[aJ c.g,aJ c.n,.pointer (lQ fb c.f)]
def qm(c:dy):(k9 vq33z c).length=3:=rfl
def tq(c:dy):∀u∈k9 vq33z c,u.oneCell'=true:=by
 intro u hu;simp only[dI,kN,or_false]at hu;rcases hu with rfl|rfl|rfl<;>rfl
def RL{e:TypeId}{f g:aP->List Value}{v:Value}{l:List aP}(h:Own F e H f n v l)(aj:∀x,(g x).length=n)(K:∀x,∀u∈g x,u.oneCell'=true)(L:∀x∈l,f x=g x):Own F e H g n v l:=by
 refine⟨aj,K,?_⟩;rcases h.ex with h|⟨b,cap,cur,bc,k,r,A,B,C,E⟩;exact .inl h;refine .inr ⟨b,cap,cur,bc,k,r,A,B,C,?_⟩;rw[E,yb,yb,oW L]
def RH{k:Nat}{e:TypeId}{f g:aP->List Value}{v:Value}{l:List aP}(h:aS k e H f n v l)(aj:∀x,(g x).length=n)(r:∀x,∀u∈g x,u.oneCell'=true)(A:∀x∈l,f x=g x):aS k e H g n v l:=⟨RL h.own aj r A,h.le⟩
def H_{β:Type}{a1:aP->Value}{f g:β->Value}{b:Nat}{m:List (aP×β)}(h:dA H a1 f b m)(E:∀x∈m,f x.2=g x.2):dA H a1 g b m:=by
 obtain⟨r,es,clock,k,n,A,B,C⟩:=h.fQ.ex;exact⟨⟨r,es,clock,k,n,A,B,by rw[C];exact oW fun x F=>by rw[E x F]⟩⟩
section
variable {ρ ρ' : Nat -> gD} {fb : List Nat} {H aa : Heap} {D D' : ao} {p : av} {bh c6 sb k i b : Nat} {a6 b3 dr : ay} {aN gB : ca} {x : fg} {l : List kr} {S : Nat -> Prop}
structure p_ (ρ:Nat->gD) (fb:List Nat) (H:Heap) (D:ao) (p:av) (bh c6 sb k:Nat) (a6:ay) (aN gB:ca):Prop where
 rd:ρ bh= .dir p
 bS:Var 120 H bh [.map (some c6),.map (some sb),a6.v]
 jl:ρ c6= .now p
 ar:dA H aJ (fX fb) c6 aN
 rs:ρ sb= .rQ p
 Y:dA H aJ (fX fb) sb gB
 gq:∀q,ax aN q=if bI q=p then ax D.now q else none
 es:∀q,ax gB q=if bI q=p then ax D.stays q else none
 aj:aS k 124 H (k9 fb) 3 a6.v (D.c0 p)
 rc:∀c,c+1=k->ρ c= .lK p
structure l3 (ρ:Nat->gD) (H:Heap) (i b:Nat) (x:fg) (b3 a6 dr:ay) (k:Nat) (l:List kr):Prop where
 cC:ρ b= .dE i
 eL:Var 133 H b [b3.v,a6.v,dr.v]
 ar:Rd (fun c=>ρ c= .du) H a7 1 b3.v x.now
 Y:Rd (fun c=>ρ c= .du) H a7 1 a6.v x.stays
 hw:aS k 220 H m7 2 dr.v l
 lw:l.map (·.1)=x.w
 ab:∀y∈l,Rd (fun c=>ρ c= .du) H a7 1 y.2.v y.1.d
 hl:∀c,c+1=k->ρ c= .k2 i
def Ext(ρ ρ':Nat->gD):Prop:=∀c,ρ c≠ .out->ρ' c=ρ c
def Ext.refl(ρ:Nat->gD):Ext ρ ρ:=fun _ _=>rfl
def Ext.of(h:Ext ρ ρ'){c:Nat}{r:gD}(e:ρ c=r)(af:r≠ .out):ρ' c=r:=by rw[h c (by rw[e];exact af)];exact e
def gX{α:Type}{f:α->List Value}{sz:Nat}{v:Value}{l:List α}(h:Rd (fun c=>ρ c= .du) H f sz v l)(n:Ext ρ ρ')(s:W S H aa)(k:∀c,S c->ρ c≠ .du):Rd (fun c=>ρ' c= .du) aa f sz v l:=
 (h.up s (fun b _ e Y=>k b Y e)).imp (fun b _ e=>n.of e a_)
def p_.al(h:p_ ρ fb H D p bh c6 sb k a6 aN gB)(r:Ext ρ ρ')(s:W S H aa)(n:∀c,S c->ρ c≠ .dir p/\ρ c≠ .now p/\ρ c≠ .rQ p/\ρ c≠ .lK p)
 (ar:∀q,bI q=p->ax D'.now q=ax D.now q)(Y:∀q,bI q=p->ax D'.stays q=ax D.stays q)(aj:D'.c0 p=D.c0 p):p_ ρ' fb aa D' p bh c6 sb k a6 aN gB where
 rd:=r.of h.rd a_
 bS:=h.bS.up s (fun e=>(n _ e).1 h.rd)
 jl:=r.of h.jl a_
 ar:=h.ar.up s (fun e=>(n _ e).2.1 h.jl)
 rs:=r.of h.rs a_
 Y:=h.Y.up s (fun e=>(n _ e).2.2.1 h.rs)
 gq:=fun q=>by rw[h.gq];split
               rename_i e;rw[ar q e];rfl
 es:=fun q=>by rw[h.es];split
               rename_i e;rw[Y q e];rfl
 aj:=by rw[aj];exact h.aj.up s fun b _ e hb=>(n b hb).2.2.2 (h.rc b e)
 rc:=fun c e=>r.of (h.rc c e) a_
def l3.al(h:l3 ρ H i b x b3 a6 dr k l)(r:Ext ρ ρ')(s:W S H aa)(n:∀c,S c->ρ c≠ .dE i/\ρ c≠ .k2 i/\ρ c≠ .du):l3 ρ' aa i b x b3 a6 dr k l where
 cC:=r.of h.cC a_
 eL:=h.eL.up s (fun e=>(n _ e).1 h.cC)
 ar:=gX h.ar r s (fun c e=>(n c e).2.2)
 Y:=gX h.Y r s (fun c e=>(n c e).2.2)
 hw:=h.hw.up s (fun b _ e hb=>(n b hb).2.1 (h.hl b e))
 lw:=h.lw
 ab:=fun y hy=>gX (h.ab y hy) r s (fun c e=>(n c e).2.2)
 hl:=fun c e=>r.of (h.hl c e) a_
structure da where
 ρ:Nat->gD
 fb:List Nat
 cW:Nat
 bj:List (av×Nat)
 c1:Nat
structure bH (K:List Nat) (g:da) (H:Heap) (b:Nat) (D:ao):Prop where
 dz:∀c,c+1∈K↔g.ρ c≠ .out
 lt:∀c,g.ρ c≠ .out->c<H.size
 eJ:g.ρ b= .fs
 cr:Var 83 H b [.int .i64 D.cap,.int .i64 D.en,.map (some g.cW),.int .i64 D.ops,.int .i64 g.c1,.bool D.dead]
 mh:D.dead=false->g.c1=D.left
 h7:g.c1<=9223372036854775807
 jB:D.cap<=9223372036854775807
 jD:D.en<=9223372036854775807
 kC:g.ρ g.cW= .eZ
 hm:dA H aJ ptr g.cW g.bj
 eZ:∀p bh,ax g.bj p=some bh->∃c6 sb k a6 aN gB,p_ g.ρ g.fb H D p bh c6 sb k a6 aN gB
 abs:∀p,ax g.bj p=none->(∀q,bI q=p->ax D.now q=none/\ax D.stays q=none)/\D.c0 p=[]
 len:g.fb.length=D.fs.length
 dE:∀i,i<D.fs.length->∃b3 a6 dr k l,l3 g.ρ H i (g.fb.getD i 0) (aM D.fs i) b3 a6 dr k l
 ids:(∀p i,ax D.now p=some i->i<D.fs.length)/\(∀p i,ax D.stays p=some i->i<D.fs.length)/\(∀c∈D.log,∀i,c.f=some i->i<D.fs.length)
 lM:g.bj.length<=D.ops
variable {K jw : List Nat} {g : da} {ks : List Nat}
def bH.aT(h:bH K g H b D):pj K H.size:=fun k n=>by
 rcases qu k with e|this;omega;have r:=h.lt (k-1) ((h.dz (k-1)).1 (by rw[BB this];exact n));omega
def bH.up(h:bH K g H b D)(s:W S H aa)(n:∀c,S c->g.ρ c= .out):bH K g aa b D where
 dz:=h.dz
 lt:=fun c e=>jT (h.lt c e) s.size
 eJ:=h.eJ
 cr:=h.cr.up s (fun e=>by have:=n _ e;rw[h.eJ]at this;cases this)
 mh:=h.mh
 h7:=h.h7
 jB:=h.jB
 jD:=h.jD
 kC:=h.kC
 hm:=h.hm.up s (fun e=>by have:=n _ e;rw[h.kC]at this;cases this)
 eZ:=fun p bh e=>by
  obtain⟨c6,sb,k,a6,aN,gB,ab⟩:=h.eZ p bh e;exact⟨c6,sb,k,a6,aN,gB,ab.al (Ext.refl _) s (fun c aj=>by rw[n c aj];simp) (fun _ _=>rfl) (fun _ _=>rfl) o⟩
 abs:=h.abs
 len:=h.len
 dE:=fun i A=>by
  obtain⟨b3,a6,dr,k,l,r⟩:=h.dE i A;exact⟨b3,a6,dr,k,l,r.al (Ext.refl _) s (fun c aj=>by rw[n c aj];simp)⟩
 ids:=h.ids
 lM:=h.lM
def bH.aL(h:bH K g H b D)(s:an H aa):bH K g aa b D:=h.up s (fun c e=>e.elim)
def bH.role(h:bH K g H b D){c:Nat}(aj:c+1∉K):g.ρ c= .out:=kQ (fun e=>aj ((h.dz c).2 e))
def bH.aA(h:bH K g H b D)(s:W (aq ks) H aa)(d:cF K ks):bH K g aa b D:=h.up s (fun c e=>h.role (fun k=>d (c+1) k (c+1) e c o o))
instance:cO (bH K g H b D) H aa (bH K g aa b D):=⟨fun s h=>h.aL s⟩
instance:cP (bH K g H b D) H aa (bH K g aa b D) (uQ K):=⟨fun s h d=>h.aA s (cF.cons d cF.nil)⟩
def bH.mem(h:bH K g H b D){c:Nat}{r:gD}(e:g.ρ c=r)(af:r≠ .out):c+1∈K:=(h.dz c).2 (by rw[e];exact af)
def bH.mg{r:gD}(h:bH K g H b D)(n:∀c,c+1=k->g.ρ c=r)(af:r≠ .out):gN K k:=fun c e=>h.mem (n c e) af
def bH.lg{c:Nat}{r:gD}(h:bH K g H b D)(e:g.ρ c=r)(af:r≠ .out):gN K (c+1):=gN.of (h.mem e af)
def bH.ms(h:bH K g H b D)(s:W S H aa)(k:∀c,S c->g.ρ c≠ .out):W (aq K) H aa:=s.weaken (fun c _ e=>(h.dz c).2 (k c e))
def bH.rN{n:da}(h:bH K g H b D)(s:W (aq [b+1]) H aa)(E:n.ρ=g.ρ/\n.fb=g.fb/\n.cW=g.cW/\n.bj=g.bj)
 (O:Var 83 aa b [.int .i64 D.cap,.int .i64 D.en,.map (some g.cW),.int .i64 D'.ops,.int .i64 n.c1,.bool D'.dead])(L:D'.dead=false->n.c1=D'.left)(M:n.c1<=9223372036854775807)
 (B:D'.cap=D.cap/\D'.en=D.en/\D'.fs=D.fs/\D'.now=D.now/\D'.stays=D.stays/\D'.log=D.log)(N:D.ops<=D'.ops):bH K n aa b D':=by
 obtain⟨r,fb,cW,bj,c1⟩:=n;obtain⟨rfl,rfl,rfl,rfl⟩:=E;obtain⟨cap,en,fs,now,stays,log,ops,left,dead⟩:=D';obtain⟨rfl,rfl,rfl,rfl,rfl,rfl⟩:=B;have A:∀c,aq [b+1] c->g.ρ c= .fs:=fun c e=>by
  have:c=b:=by simpa[aq]using e
  rw[this];exact h.eJ
 exact{
  dz:=h.dz,lt:=fun c e=>jT (h.lt c e) s.size,eJ:=h.eJ,cr:=O,mh:=L,h7:=M,jB:=h.jB,jD:=h.jD,kC:=h.kC
  hm:=h.hm.up s (fun e=>by have:=A _ e;rw[h.kC]at this;cases this)
  eZ:=fun p bh e=>by
   obtain⟨c6,sb,k,a6,aN,gB,ab⟩:=h.eZ p bh e;exact⟨c6,sb,k,a6,aN,gB,ab.al (Ext.refl _) s (fun c aj=>by rw[A c aj];simp) (fun _ _=>rfl) (fun _ _=>rfl) o⟩
  abs:=h.abs,len:=h.len
  dE:=fun i F=>by
   obtain⟨b3,a6,dr,k,l,C⟩:=h.dE i F;exact⟨b3,a6,dr,k,l,C.al (Ext.refl _) s (fun c aj=>by rw[A c aj];simp)⟩
  ids:=h.ids,lM:=ev h.lM N}
def bH.rL(h:bH K g H b D)(s:W S H aa)(B:∀c,S c->g.ρ c= .dir p\/g.ρ c= .now p\/g.ρ c= .rQ p\/g.ρ c= .lK p\/g.ρ c= .out)(C:Ext g.ρ ρ')(dz:∀c,c+1∈jw↔ρ' c≠ .out)(lt:∀c,ρ' c≠ .out->c<aa.size)
 (F:ax g.bj p=some bh)(ab:∃c6 sb k a6 aN gB,p_ ρ' g.fb aa D' p bh c6 sb k a6 aN gB)
 (O:D'.cap=D.cap/\D'.en=D.en/\D'.fs=D.fs/\D'.ops=D.ops/\D'.left=D.left/\D'.dead=D.dead)
 (ar:∀q,bI q≠p->ax D'.now q=ax D.now q)(Y:∀q,bI q≠p->ax D'.stays q=ax D.stays q)(aj:∀n,n≠p->D'.c0 n=D.c0 n)
 (ids:(∀p i,ax D'.now p=some i->i<D'.fs.length)/\(∀p i,ax D'.stays p=some i->i<D'.fs.length)/\(∀c∈D'.log,∀i,c.f=some i->i<D'.fs.length)):bH jw {g with ρ:=ρ'} aa b D':=by
 obtain⟨cap,en,fs,now,stays,log,ops,left,dead⟩:=D';obtain⟨rfl,rfl,rfl,rfl,rfl,rfl⟩:=O
 exact{
  dz:=dz,lt:=lt,eJ:=C.of h.eJ a_
  cr:=h.cr.up s (fun e=>by have:=B _ e;rw[h.eJ]at this;simp at this)
  mh:=h.mh,h7:=h.h7,jB:=h.jB,jD:=h.jD,kC:=C.of h.kC a_
  hm:=h.hm.up s (fun e=>by have:=B _ e;rw[h.kC]at this;simp at this)
  eZ:=fun q E e=>by
   by_cases A:q=p;subst A;have:E=bh:=mG (e.symm.trans F);subst this;exact ab;obtain⟨c6,sb,k,a6,aN,gB,ab⟩:=h.eZ q E e;refine⟨c6,sb,k,a6,aN,gB,ab.al C s (fun c aj=>?_) (fun r af=>ar r (by rw[af];exact A)) (fun r af=>Y r (by rw[af];exact A)) (aj q A)⟩;rcases B c aj with e|e|e|e|e<;>(rw[e];simp[ku A])
  abs:=fun q e=>by
   have A:q≠p:=fun L=>by subst L;rw[F]at e;cases e
   obtain⟨M,N⟩:=h.abs q e;exact⟨fun r af=>by rw[ar r (by rw[af];exact A),Y r (by rw[af];exact A)];exact M r af,by rw[aj q A];exact N⟩
  len:=h.len
  dE:=fun i Q=>by
   obtain⟨b3,a6,dr,k,l,P⟩:=h.dE i Q;refine⟨b3,a6,dr,k,l,P.al C s (fun c aj=>?_)⟩;rcases B c aj with e|e|e|e|e<;>(rw[e];simp)
  ids:=ids,lM:=h.lM}
def bH.rM{y:fg}(h:bH K g H b D)(L:i<D.fs.length)(s:W S H aa)(n:∀c,S c->g.ρ c= .dE i\/g.ρ c= .k2 i\/g.ρ c= .out)(r:Ext g.ρ ρ')(dz:∀c,c+1∈jw↔ρ' c≠ .out)(lt:∀c,ρ' c≠ .out->c<aa.size)
 (A:∃b3 a6 dr k l,l3 ρ' aa i (g.fb.getD i 0) y b3 a6 dr k l):bH jw {g with ρ:=ρ'} aa b (D.fk i y):=by
 have B:(D.fk i y).fs.length=D.fs.length:=by simp[ao.fk]
 exact{
  dz:=dz,lt:=lt,eJ:=r.of h.eJ a_
  cr:=h.cr.up s (fun e=>by have:=n _ e;rw[h.eJ]at this;simp at this)
  mh:=h.mh,h7:=h.h7,jB:=h.jB,jD:=h.jD,kC:=r.of h.kC a_
  hm:=h.hm.up s (fun e=>by have:=n _ e;rw[h.kC]at this;simp at this)
  eZ:=fun q F e=>by
   obtain⟨c6,sb,k,a6,aN,gB,ab⟩:=h.eZ q F e;refine⟨c6,sb,k,a6,aN,gB,ab.al r s (fun c aj=>?_) (fun _ _=>rfl) (fun _ _=>rfl) o⟩;rcases n c aj with e|e|e<;>(rw[e];simp)
  abs:=h.abs,len:=by rw[B];exact h.len
  dE:=fun j E=>by
   rw[B]at E;by_cases C:j=i;subst C;have e:aM (D.fk j y).fs j=y:=by simp[aM,ao.fk,List.getD,L]
   rw[e];exact A;have e:aM (D.fk i y).fs j=aM D.fs j:=by simp[aM,ao.fk,List.getD,List.getElem?_set,ku C]
   rw[e];obtain⟨b3,a6,dr,k,l,A⟩:=h.dE j E;refine⟨b3,a6,dr,k,l,A.al r s (fun c aj=>?_)⟩;rcases n c aj with e|e|e<;>(rw[e];simp[ku C])
  ids:=by rw[B];exact h.ids
  lM:=h.lM}
def gC(ρ:Nat->gD)(x:Nat)(r:gD):Nat->gD:=fun c=>if c=x then r else ρ c
def qX{x:Nat}{r:gD}:gC ρ x r x=r:=aD o
def qW{x c:Nat}{r:gD}(h:c≠x):gC ρ x r c=ρ c:=au h
def Ext.gC{x:Nat}{r:gD}(h:ρ x= .out):Ext ρ (gC ρ x r):=fun c aj=>by
 by_cases e:c=x;subst e;exact absurd h aj;exact qW e
def Ext.trans{ρ2:Nat->gD}(h:Ext ρ ρ')(k:Ext ρ' ρ2):Ext ρ ρ2:=fun c aj=>by
 have e:=h c aj;rw[k c (by rw[e];exact aj),e]
def qp{x:Nat}{r:gD}(dz:∀c,c+1∈K↔ρ c≠ .out)(af:r≠ .out):∀c,c+1∈(x+1)::K↔gC ρ x r c≠ .out:=fun c=>by
 unfold gC;rw[dI];by_cases e:c=x;rw[aD e];simp[e,af];rw[au e,<-dz];constructor;rintro(h|h);omega;exact h;exact .inr
def qE{x:Nat}{r:gD}(lt:∀c,ρ c≠ .out->c<H.size)(Y:H.size<=aa.size)(k:x<aa.size):∀c,gC ρ x r c≠ .out->c<aa.size:=fun c aj=>by
 unfold gC at aj;split at aj;rename_i e;rw[e];exact k;exact jT (lt c aj) Y
def eg(ρ:Nat->gD)(k:Nat)(r:gD):Nat->gD:=fun c=>if c+1=k then r else ρ c
def lv{c:Nat}{r:gD}(h:c+1=k):eg ρ k r c=r:=aD h
def uH{c:Nat}{r:gD}(h:c+1≠k):eg ρ k r c=ρ c:=au h
def Ext.eg{r:gD}(h:∀c,c+1=k->ρ c= .out\/ρ c=r):Ext ρ (eg ρ k r):=fun c aj=>by
 unfold E.eg;split;rename_i e;rcases h c e with n|n;exact absurd n aj;exact n.symm;rfl
def m8{r:gD}(dz:∀c,c+1∈K↔ρ c≠ .out)(af:r≠ .out):∀c,c+1∈k::K↔eg ρ k r c≠ .out:=fun c=>by
 unfold eg;rw[dI];by_cases e:c+1=k;rw[aD e];simp[e,af];rw[au e,<-dz];simp[e]
def nd{r:gD}(lt:∀c,ρ c≠ .out->c<H.size)(Y:H.size<=aa.size)(n:k<=aa.size):∀c,eg ρ k r c≠ .out->c<aa.size:=fun c aj=>by
 unfold eg at aj;split at aj;omega;exact jT (lt c aj) Y
def bH.pS(h:bH K g H b D)(n:ak k K):∀c,c+1=k->g.ρ c= .out:=fun c e=>h.role (fun hm=>n (c+1) hm c e o)
def bH.wm{A:Nat}(h:bH K g H b D)(B:U k H.size A){r:gD}(af:∀c,c+1=k->g.ρ c=r):∀c,c+1=A->g.ρ c= .out\/g.ρ c=r:=fun c e=>by
 rcases B with n|n|n;omega;exact .inr (af c I);exact .inl (kQ fun C=>by have:=h.lt c C;omega)
def bH.Cr{x:Nat}(h:bH K g H b D)(C:Var 133 H x [.slice none 0 0,.slice none 0 0,.slice none 0 0])(S:ak (x+1) K):
 bH ((x+1)::K) {g with ρ:=gC g.ρ x (.dE D.fs.length),fb:=g.fb++[x]} H b {D with fs:=D.fs++[⟨[],[],[]⟩]}:=by
 have R:g.ρ x= .out:=h.role (fun P=>S (x+1) P x o o);have he:Ext g.ρ (gC g.ρ x (.dE D.fs.length)):=Ext.gC R;have A:∀i,i<D.fs.length->(g.fb++[x]).getD i 0=g.fb.getD i 0:=fun i M=>by simp[List.getD,List.getElem?_append_left (show i<g.fb.length by rw[h.len];exact M)]
 have T:∀c,(fun _=>False) c->g.ρ c= .out:=fun _ e=>e.elim
 exact{
  dz:=qp h.dz a_,lt:=qE h.lt (dF _) C.lt,eJ:=he.of h.eJ a_,cr:=h.cr
  mh:=h.mh,h7:=h.h7,jB:=h.jB,jD:=h.jD,kC:=he.of h.kC a_,hm:=h.hm
  eZ:=fun q E e=>by
   obtain⟨c6,sb,k,a6,aN,gB,ab⟩:=h.eZ q E e;have r:=ab.al (D':=D) he (W.refl (fun _=>False) H) (fun c aj=>aj.elim) (fun _ _=>rfl) (fun _ _=>rfl) o;refine⟨c6,sb,k,a6,aN,gB,{r with ar:=H_ r.ar (fun y hy=>?_),Y:=H_ r.Y (fun y hy=>?_),aj:=RH r.aj (qm) (tq) (fun c aj=>?_)}⟩;have:=h.ids.1 y.1 y.2 (by
    have n:=o0 ab.ar.fQ.nodup (show(y.1,y.2)∈aN from hy);rw[ab.gq]at n;split at n;exact n;cases n)
   rw[fX,fX,A _ this];have:=h.ids.2.1 y.1 y.2 (by
    have n:=o0 ab.Y.fQ.nodup (show(y.1,y.2)∈gB from hy);rw[ab.es]at n;split at n;exact n;cases n)
   rw[fX,fX,A _ this];have:=h.ids.2.2 c (iK.1 aj).1;unfold k9 lQ;cases F:c.f with
   |none=>rfl
   |some i=>simp only[sx];rw[A i (this i F)]
  abs:=h.abs
  len:=by simp[h.len]
  dE:=fun j N=>by
   by_cases B:j<D.fs.length;obtain⟨b3,a6,dr,k,l,L⟩:=h.dE j B;have e:aM (D.fs++[⟨[],[],[]⟩]) j=aM D.fs j:=by simp[aM,List.getD,List.getElem?_append_left B]
   rw[A j B];refine⟨b3,a6,dr,k,l,?_⟩;show l3 _ H j _ (aM (D.fs++[⟨[],[],[]⟩]) j) _ _ _ _ _;rw[e];exact L.al he (W.refl (fun _=>False) H) fun c aj=>aj.elim;have O:j=D.fs.length:=by simp at N;omega
   subst O;have e:aM (D.fs++[⟨[],[],[]⟩]) D.fs.length=⟨[],[],[]⟩:=by simp[aM,List.getD]
   have n:(g.fb++[x]).getD D.fs.length 0=x:=by rw[<-h.len];simp[List.getD]
   refine⟨⟨none,0,0⟩,⟨none,0,0⟩,⟨none,0,0⟩,0,[],?_⟩;show l3 _ H _ ((g.fb++[x]).getD D.fs.length 0) (aM (D.fs++[⟨[],[],[]⟩]) D.fs.length) _ _ _ _ _;rw[e,n];exact{cC:=qX,eL:=C,ar:=Rd.nil _ _ _ _,Y:=Rd.nil _ _ _ _,hw:=aS.nil mb sg,lw:=rfl,ab:=fun y hy=>(by cases hy),hl:=fun c e=>I}
  ids:=by
   have Q:({D with fs:=D.fs++[⟨[],[],[]⟩]}:ao).fs.length=D.fs.length+1:=by simp
   rw[Q];exact⟨fun p i e=>tL (h.ids.1 p i e),fun p i e=>tL (h.ids.2.1 p i e),fun c aj i e=>tL (h.ids.2.2 c aj i e)⟩
  lM:=h.lM}
def bH.Cq{bh c6 sb:Nat}(h:bH K g H b D)(O:ax g.bj p=none)(P:Var 120 H bh [.map (some c6),.map (some sb),.slice none 0 0])(ar:dA H aJ (fX g.fb) c6 ([]:ca))(Y:dA H aJ (fX g.fb) sb ([]:ca))
 (V:ak (bh+1) K)(X:ak (c6+1) K)(Z:ak (sb+1) K)(L:bh≠c6)(M:bh≠sb)(N:c6≠sb)(s:W (aq [g.cW+1]) H aa)(hm:dA aa aJ ptr g.cW (h8 g.bj p bh))(ae:g.bj.length+1<=D.ops):
 bH ((bh+1)::(sb+1)::(c6+1)::K) {g with ρ:=gC (gC (gC g.ρ c6 (.now p)) sb (.rQ p)) bh (.dir p),bj:=h8 g.bj p bh} aa b D:=by
 have on:g.ρ c6= .out:=h.role (fun A=>X (c6+1) A c6 o o);have os:g.ρ sb= .out:=h.role (fun A=>Z (sb+1) A sb o o);have Q:g.ρ bh= .out:=h.role (fun A=>V (bh+1) A bh o o);have he:Ext g.ρ (gC (gC (gC g.ρ c6 (.now p)) sb (.rQ p)) bh (.dir p)):=by
  refine(Ext.gC on).trans ((Ext.gC ?_).trans (Ext.gC ?_));rw[qW (ku N)];exact os;rw[qW M,qW L];exact Q
 have B:∀c,aq [g.cW+1] c->g.ρ c= .eZ:=fun c e=>by
  have:c=g.cW:=by simpa[aq]using e
  rw[this];exact h.kC
 have ag:∀c,g.ρ c= .out->c≠g.cW:=fun c e C=>by rw[C,h.kC]at e;cases e
 obtain⟨F,R⟩:=h.abs p O
 exact{
  dz:=qp (qp (qp h.dz a_) a_) a_
  lt:=qE (qE (qE h.lt (dF _) ar.lt) (dF _) Y.lt) s.size (jT P.lt s.size),eJ:=he.of h.eJ a_
  cr:=h.cr.up s (fun e=>by have:=B _ e;rw[h.eJ]at this;simp at this)
  mh:=h.mh,h7:=h.h7,jB:=h.jB,jD:=h.jD,kC:=he.of h.kC a_,hm:=hm
  eZ:=fun q S e=>by
   rw[o1]at e;by_cases n:q=p;rw[aD n]at e;have e:=mG e;subst e;subst n;refine⟨c6,sb,0,⟨none,0,0⟩,[],[],?_⟩;have E:∀c,g.ρ c= .out->¬aq [g.cW+1] c:=fun c e C=>by have:=B c C;rw[e]at this;cases this
   exact{rd:=qX,bS:=P.up s (E _ Q),jl:=by show gC (gC (gC g.ρ c6 _) sb _) bh _ c6=_;rw[qW (ku L),qW N,qX],ar:=ar.up s (E _ on),rs:=by show gC (gC (gC g.ρ c6 _) sb _) bh _ sb=_;rw[qW (ku M),qX],Y:=Y.up s (E _ os)
         gq:=fun r=>by
          rw[ax];split;rename_i af;rw[(F r af).1];rfl
         es:=fun r=>by
          rw[ax];split;rename_i af;rw[(F r af).2];rfl
         aj:=by rw[R];exact aS.nil (qm) (tq),rc:=fun c e=>I}
   rw[au n]at e;obtain⟨c6,sb,k,a6,aN,gB,ab⟩:=h.eZ q S e;exact⟨c6,sb,k,a6,aN,gB,ab.al he s (fun c aj=>by rw[B c aj];simp) (fun _ _=>rfl) (fun _ _=>rfl) o⟩
  abs:=fun q e=>by
   rw[o1]at e;by_cases n:q=p;rw[aD n]at e;cases e;rw[au n]at e;exact h.abs q e
  len:=h.len
  dE:=fun i U=>by
   obtain⟨b3,a6,dr,k,l,T⟩:=h.dE i U;exact⟨b3,a6,dr,k,l,T.al he s (fun c aj=>by rw[B c aj];simp)⟩
  ids:=h.ids
  lM:=by
   have:(h8 g.bj p bh).length=g.bj.length+1:=by simp[h8,O]
   show(h8 g.bj p bh).length<=_;omega}
def bH.put{c:dy}{E:ca}(h:bH K g H b D)(O:ax g.bj p=some bh)(ab:p_ g.ρ g.fb H D p bh c6 sb k a6 aN gB)(s:W (aq [c6+1]) H aa)(hm:dA aa aJ (fX g.fb) c6 E)(N:∀q,ax E q=c.at q (ax aN q))
 (M:∀i,c.f=some i->bI c.n=p/\i<D.fs.length)(L:c.g≠[]->bI c.g=p):bH K g aa b {D with now:=c.ap D.now}/\W (aq K) H aa:=by
 have B:∀x,aq [c6+1] x->g.ρ x= .now p:=fun x e=>by
  have:x=c6:=by simpa[aq]using e
  rw[this];exact ab.jl
 have F:∀q J,bI q≠p->c.at q J=J:=fun q J r=>by
  unfold dy.at;cases A:c.f with
  |none=>
   simp only;rw[au (fun e=>r (by rw[e.2];exact L e.1))]
  |some i=>
   simp only;rw[au (fun e=>r (by rw[e];exact(M i A).1)),au (fun e=>r (by rw[e.2];exact L e.1))]
 refine⟨?_,h.ms s (fun x e=>by rw[B x e];simp)⟩;have C:∀x,g.ρ x≠ .now p->¬aq [c6+1] x:=fun x P e=>P (B x e);refine h.rL (ρ':=g.ρ) s (fun x e=> .inr (.inl (B x e))) (Ext.refl _) h.dz (fun x e=>jT (h.lt x e) s.size) O ⟨c6,sb,k,a6,E,gB,?_⟩ ⟨o,o,o,o,o,o⟩ (fun q r=>?_) (fun q r=>rfl) (fun n ar=>rfl) ⟨fun q i e=>?_,h.ids.2.1,h.ids.2.2⟩
 exact{rd:=ab.rd,bS:=ab.bS.up s (C _ (by rw[ab.rd];simp)),jl:=ab.jl,ar:=hm,rs:=ab.rs,Y:=ab.Y.up s (C _ (by rw[ab.rs];simp))
       gq:=fun q=>by
        show _=if bI q=p then ax (c.ap D.now) q else none;rw[N,ab.gq,ng];split
        rfl;rename_i r;exact F q none r
       es:=ab.es,aj:=ab.aj.up s (fun x _ e=>C x (by rw[ab.rc x e];simp)),rc:=ab.rc}
 show ax (c.ap D.now) q=ax D.now q;rw[ng];exact F q _ r;have e:ax (c.ap D.now) q=some i:=e;rw[ng]at e;unfold dy.at at e;cases A:c.f with
 |none=>
  rw[A]at e;simp only at e;split at e;cases e;exact h.ids.1 q i e
 |some j=>
  rw[A]at e;simp only at e;split at e;cases e;exact(M _ A).2;split at e;cases e;exact h.ids.1 q i e
def bH.note{c:dy}{r:Nat}{B:ay}(h:bH K g H b D)(Q:ax g.bj p=some bh)(ab:p_ g.ρ g.fb H D p bh c6 sb k a6 aN gB)(s:W (aq [bh+1,k]) H aa)(S:Var 120 aa bh [.map (some c6),.map (some sb),B.v])(aj:aS r 124 aa (k9 g.fb) 3 B.v (D.c0 p++[c]))(P:U k H.size r)
 (E:c.dir=p)(N:∀i,c.f=some i->i<D.fs.length):bH (r::K) {g with ρ:=eg g.ρ r (.lK p)} aa b {D with log:=D.log++[c]}:=by
 have C:∀x,aq [bh+1,k] x->g.ρ x= .dir p\/g.ρ x= .lK p:=fun x e=>by
  have:x+1=bh+1\/x+1=k:=by simpa[aq]using e
  rcases this with e|e;exact .inl (by rw[show x=bh by omega];exact ab.rd);exact .inr (ab.rc x e)
 have A:Ext g.ρ (eg g.ρ r (.lK p)):=Ext.eg (h.wm P ab.rc);have F:∀x,g.ρ x≠ .dir p->g.ρ x≠ .lK p->¬aq [bh+1,k] x:=fun x L M e=>(C x e).elim L M;have O:({D with log:=D.log++[c]}:ao).c0 p=D.c0 p++[c]:=by simp[ao.c0,E]
 refine h.rL s (fun x e=>(C x e).elim .inl (fun e=> .inr (.inr (.inr (.inl e))))) A (m8 h.dz a_) (nd h.lt s.size aj.le) Q ⟨c6,sb,r,B,aN,gB,?_⟩ ⟨o,o,o,o,o,o⟩ (fun q R=>rfl) (fun q R=>rfl) (fun n ar=>?_) ⟨h.ids.1,h.ids.2.1,fun x T i e=>?_⟩
 exact{rd:=A.of ab.rd a_,bS:=S,jl:=A.of ab.jl a_,ar:=ab.ar.up s (F _ (by rw[ab.jl];simp) (by rw[ab.jl];simp)),rs:=A.of ab.rs a_,Y:=ab.Y.up s (F _ (by rw[ab.rs];simp) (by rw[ab.rs];simp))
       gq:=ab.gq,es:=ab.es,aj:=by rw[O];exact aj,rc:=fun x e=>lv e}
 simp[ao.c0,E,ku ar];rcases gR.1 T with hm|hm;exact h.ids.2.2 x hm i e;rw[fm.1 hm]at e;exact N i e
def bH.GS{aL:List UInt8}{A:Nat}{C:ay}{bi:Nat}(h:bH K g H b D)(F:i<D.fs.length)(n:l3 g.ρ H i (g.fb.getD i 0) (aM D.fs i) b3 a6 dr k l)(e:g.fb.getD i 0=bi)(s:W (aq [bi+1]) H aa)(M:Var 133 aa bi [C.v,a6.v,dr.v])(ar:aS A 5 aa a7 1 C.v aL)(L:ak A K):
 bH (A::K) {g with ρ:=eg g.ρ A .du} aa b (D.fk i ⟨aL,(aM D.fs i).stays,(aM D.fs i).w⟩):=by
 subst e;have B:∀x,aq [g.fb.getD i 0+1] x->g.ρ x= .dE i:=fun x e=>by
  have:x=g.fb.getD i 0:=by simpa[aq]using e
  rw[this];exact n.cC
 have r:Ext g.ρ (eg g.ρ A .du):=Ext.eg (fun c e=> .inl (h.pS L c e));have E:∀c,aq [g.fb.getD i 0+1] c->g.ρ c≠ .du:=fun c e=>by rw[B c e];simp
 refine h.rM F s (fun x e=> .inl (B x e)) r (m8 h.dz a_) (nd h.lt s.size ar.le) ⟨C,a6,dr,k,l,?_⟩
 exact{cC:=r.of n.cC a_,eL:=M,ar:=ar.rd.imp (fun c _ e=>lv e),Y:=gX n.Y r s E
       hw:=n.hw.up s (fun c _ e aj=>by have:=B c aj;rw[n.hl c e]at this;cases this),lw:=n.lw,ab:=fun y hy=>gX (n.ab y hy) r s E,hl:=fun c e=>r.of (n.hl c e) a_}
def bH.GX{w:cn}{sd L:ay}{fq n bi:Nat}(h:bH K g H b D)(P:i<D.fs.length)(r:l3 g.ρ H i (g.fb.getD i 0) (aM D.fs i) b3 a6 dr k l)(e:g.fb.getD i 0=bi)(s:W (aq [bi+1,k]) H aa)(Q:Var 133 aa bi [b3.v,a6.v,L.v])(hw:aS n 220 aa m7 2 L.v (l++[(w,sd)]))(E:U k H.size n)
 (ab:aS fq 5 aa a7 1 sd.v w.d)(N:ak fq (n::K)):
 bH (fq::n::K) {g with ρ:=eg (eg g.ρ n (.k2 i)) fq .du} aa b (D.fk i ⟨(aM D.fs i).now,(aM D.fs i).stays,(aM D.fs i).w++[w]⟩):=by
 subst e;have M:∀x,aq [g.fb.getD i 0+1,k] x->g.ρ x= .dE i\/g.ρ x= .k2 i:=fun x e=>by
  have:x+1=g.fb.getD i 0+1\/x+1=k:=by simpa[aq]using e
  rcases this with e|e;exact .inl (by rw[show x=g.fb.getD i 0 by omega];exact r.cC);exact .inr (r.hl x e)
 have R:Ext g.ρ (eg g.ρ n (.k2 i)):=Ext.eg (h.wm E r.hl);have F:∀c,c+1=fq->c+1≠n/\g.ρ c= .out:=fun c e=>by
  have O:c+1≠n:=fun B=>N n fZ c e B;exact⟨O,h.pS (fun k E=>N k (gx _ E)) c e⟩
 have S:Ext (eg g.ρ n (.k2 i)) (eg (eg g.ρ n (.k2 i)) fq .du):=Ext.eg (fun c e=> .inl (by rw[uH (F c e).1];exact(F c e).2));have A:=R.trans S;have C:∀c,aq [g.fb.getD i 0+1,k] c->g.ρ c≠ .du:=fun c e=>by rcases M c e with e|e<;>(rw[e];simp)
 refine h.rM P s (fun x e=>(M x e).elim .inl (fun e=> .inr (.inl e))) A (m8 (m8 h.dz a_) a_) (nd (nd h.lt s.size hw.le) (dF _) ab.le) ⟨b3,a6,L,n,l++[(w,sd)],?_⟩
 exact{cC:=A.of r.cC a_,eL:=Q,ar:=gX r.ar A s C,Y:=gX r.Y A s C,hw:=hw,lw:=by rw[hc,r.lw];rfl
       ab:=fun y hy=>by
        rcases gR.1 hy with hy|hy;exact gX (r.ab y hy) A s C;rw[fm.1 hy];exact ab.rd.imp fun c _ e=>lv e
       hl:=fun c e=>by rw[uH (fun B=>(F c B).1 e)];exact lv e}
def bH.fsync{bi:Nat}(h:bH K g H b D)(B:i<D.fs.length)(n:l3 g.ρ H i (g.fb.getD i 0) (aM D.fs i) b3 a6 dr k l)(e:g.fb.getD i 0=bi)(s:W (aq [bi+1]) H aa)(C:Var 133 aa bi [b3.v,b3.v,.slice none 0 0]):bH K g aa b (D.uD i):=by
 subst e;have r:∀x,aq [g.fb.getD i 0+1] x->g.ρ x= .dE i:=fun x e=>by
  have:x=g.fb.getD i 0:=by simpa[aq]using e
  rw[this];exact n.cC
 have A:∀c,aq [g.fb.getD i 0+1] c->g.ρ c≠ .du:=fun c e=>by rw[r c e];simp
 refine h.rM (ρ':=g.ρ) B s (fun x e=> .inl (r x e)) (Ext.refl _) h.dz (fun c e=>jT (h.lt c e) s.size) ⟨b3,b3,⟨none,0,0⟩,0,[],?_⟩;exact{cC:=n.cC,eL:=C,ar:=gX n.ar (Ext.refl _) s A,Y:=gX n.ar (Ext.refl _) s A,hw:=aS.nil mb sg,lw:=rfl,ab:=fun y hy=>(by cases hy),hl:=fun c e=>I}
def bH.Pq{bD:List UInt8}{n bi:Nat}{r:ay}(h:bH K g H b D)(E:i<D.fs.length)(A:l3 g.ρ H i (g.fb.getD i 0) (aM D.fs i) b3 a6 dr k l)(e:g.fb.getD i 0=bi)(s:W (aq [bi+1]) H aa)(L:Var 133 aa bi [r.v,r.v,.slice none 0 0])(ar:jZ n aa a7 1 r.v bD)(F:∀c,c+1=n->g.ρ c= .du\/g.ρ c= .out):
 bH (n::K) {g with ρ:=eg g.ρ n .du} aa b (D.fk i ⟨bD,bD,[]⟩):=by
 subst e;have C:∀x,aq [g.fb.getD i 0+1] x->g.ρ x= .dE i:=fun x e=>by
  have:x=g.fb.getD i 0:=by simpa[aq]using e
  rw[this];exact A.cC
 have B:Ext g.ρ (eg g.ρ n .du):=Ext.eg (fun c e=>(F c e).symm);have af:Rd (fun c=>eg g.ρ n .du c= .du) aa a7 1 r.v bD:=ar.rd.imp (fun c _ e=>lv e);refine h.rM E s (fun x e=> .inl (C x e)) B (m8 h.dz a_) (nd h.lt s.size ar.le) ⟨r,r,⟨none,0,0⟩,0,[],?_⟩;exact{cC:=B.of A.cC a_,eL:=L,ar:=af,Y:=af,hw:=aS.nil mb sg,lw:=rfl,ab:=fun y hy=>(by cases hy),hl:=fun c e=>I}
def l3.mC{n bi:Nat}(h:l3 ρ H i n x b3 a6 dr k l)(e:n=bi):Var 133 H bi [b3.v,a6.v,dr.v]:=e▸h.eL
def bH.rq{n bi:Nat}(h:bH K g H b D)(r:l3 g.ρ H i n x b3 a6 dr k l)(e:n=bi):gN K (bi+1):=e▸h.lg r.cC a_
def l3.ne{n bi:Nat}(h:l3 ρ H i n x b3 a6 dr k l)(e:n=bi):ai (bi+1) k:=fun c B A=>by
 have r:=h.hl c A;rw[show c=n by omega,h.cC]at r;cases r
def Jj{α:Type}{F:Nat->Prop}{f:α->List Value}{sz:Nat}{v:Value}{l:List α}(h:Rd F H f sz v l):∃k,jZ k H f sz v l/\∀c,c+1=k->F c:=by
 obtain⟨a,cap,r,A,B,M⟩:=h.ex;by_cases C:l=[];exact⟨0,⟨⟨a,cap,r,A,B,fun h=>absurd C h⟩,gH _⟩,fun c e=>I⟩;obtain⟨ad,bc,E,K,n,L⟩:=M C;exact⟨ad.block+1,⟨⟨a,cap,r,A,B,fun _=>⟨ad,bc,E,o,n,L⟩⟩,n⟩,fun c e=>by rw[show c=ad.block by omega];exact K⟩
def bH.xI{s2:Nat}{B:ca}(h:bH K g H b D)(F:cX D.now)(N:ax g.bj p=some bh)(ab:p_ g.ρ g.fb H D p bh c6 sb k a6 aN gB)(s:W (aq [bh+1]) H aa)(P:Var 120 aa bh [.map (some c6),.map (some s2),.slice none 0 0])(hm:dA aa aJ (fX g.fb) s2 B)(M:∀q,ax B q=ax aN q)(L:ak (s2+1) K):
 bH ((s2+1)::K) {g with ρ:=eg g.ρ (s2+1) (.rQ p)} aa b (D.nL p):=by
 have C:∀x,aq [bh+1] x->g.ρ x= .dir p:=fun x e=>by
  have:x=bh:=by simpa[aq]using e
  rw[this];exact ab.rd
 have r:Ext g.ρ (eg g.ρ (s2+1) (.rQ p)):=Ext.eg (fun c e=> .inl (h.pS L c e));have O:∀x,g.ρ x≠ .dir p->¬aq [bh+1] x:=fun x r e=>r (C x e);have A:∀q,ax (D.nL p).stays q=if bI q=p then ax D.now q else ax D.stays q:=fun q=>oe F p q;refine h.rL s (fun x e=> .inl (C x e)) r (m8 h.dz a_) (nd h.lt s.size hm.lt) N ⟨c6,s2,0,⟨none,0,0⟩,aN,B,?_⟩ ⟨o,o,o,o,o,o⟩ (fun q E=>rfl) (fun q E=>by rw[A,au E]) (fun n ar=>?_) ⟨h.ids.1,fun q i e=>?_,fun c aj i e=>h.ids.2.2 c (iK.1 aj).1 i e⟩
 exact{rd:=r.of ab.rd a_,bS:=P,jl:=r.of ab.jl a_,ar:=ab.ar.up s (O _ (by rw[ab.jl];simp)),rs:=lv o,Y:=hm,gq:=ab.gq
       es:=fun q=>by
        rw[M,ab.gq,A];split<;>rfl
       aj:=by
        have:(D.nL p).c0 p=[]:=by unfold ao.nL ao.c0;rw[pO,rn];intro c _;simp
        rw[this];exact aS.nil (qm) (tq)
       rc:=fun c e=>I}
 unfold ao.nL ao.c0;rw[pO];refine tM fun c _=>?_;by_cases e:c.dir=n;simp[e,ar];simp[e];rw[A]at e;split at e;exact h.ids.1 q i e;exact h.ids.2.1 q i e
end
def dy.s7(c:dy)(m:ca):ca:=
 let bo:=if c.g=[]then m else ey m c.g
 match c.f with
 |none=>bo
 |some i=>h8 bo c.n i
def HV(c:dy)(l:ca)(q:av):ax (dy.s7 c l) q=c.at q (ax l q):=by
 unfold dy.s7 dy.at;cases c.f with
 |none=>
  simp only;by_cases k:c.g=[];simp[k];rw[au k,mK];simp[k]
 |some i=>
  simp only;rw[o1];by_cases k:c.g=[];simp[k];rw[au k,mK];simp[k]
def I_{c6:Nat}{m:ca}{c:dy}{w0:World}(hm:dA V aJ (fX vq33z) c6 m):
 a8 prog w0 32 #[.map (some c6),.agg (k9 vq33z c).toArray] V (fun r E=>(dA E aJ (fX vq33z) c6 (dy.s7 c m))/\W (aq [(c6+1)]) V E):=by
 refine G.bc [(c6+1)] func32 o fun n=>?_;have F:=U.refl (c6+1) V.size;have X:=hm.lt;refine G.aR o Z.bv ?_;rintro v3 A ⟨rfl,k,am,_⟩;have dm:=ai.new hm.lt;obtain⟨hm,n,_⟩:=bG am hm n;have k:Var 124 A V.size (k9 vq33z c):=k
 refine G.bw 0 o (fun(bo:ca)=>[(0,.map (some c6)),(3,.pointer (some ⟨V.size,0,none⟩))])
  (fun(bo:ca) (H:Heap)=>(dA H aJ (fX vq33z) c6 bo)/\(bo=if c.g=[]then m else ey m c.g)/\W (aq [(c6+1)]) A H) (fun _ K=>?_) ?_
 have ad:W (aq [(c6+1)]) A A:=W.refl _ _;refine G.aG o k.T wV b7 cm o o<|G.ae 0 o kJ<|G.ip o ?_ ?_<;>intro L;refine G.aG o k.T wV b7 cm o o<|G.uM o (Z.xG hm hZ o rR underlying9 o o) ?_;rintro ap aU ⟨rfl,hm,Q⟩;obtain⟨ad,_⟩:=cz Q ad (ah.r (U.refl (c6+1) A.size));exact G.aQ o<|K (ey m c.g) _ ⟨hm,by rw[au (by simpa using L)],ad⟩;exact G.aQ o<|K m _ ⟨hm,by rw[aD (by simpa using L)],ad⟩;intro bo aa P;obtain⟨hm,O,ac⟩:=P;obtain⟨k,n,_⟩:=de ac k dm.symm n (ah.r F);refine G.aG o k.T wV JM D5 o o<|G.ae 0 o (M.uh o aW aW o o)<|G.ci o ?_ ?_<;>intro B;obtain⟨i,N⟩:∃i,c.f=some i:=by
  cases C:c.f with
  |none=>rw[C]at B;cases B
  |some i=>exact⟨i,o⟩
 refine G.aG o k.T wV b7 cm o o<|G.aK o wV JM o<|G.O o (M.cast (v2:=fX vq33z i) (aY (k.T.drop 2) D5) (by rw[N]<;>rfl))<|G.bl o (S.qO i hm hZ o rR underlying9 o o o) ?_;rintro ae ⟨hm,R⟩;obtain⟨n,_⟩:=cz R n (ah.r F);exact G.rt o ⟨by rw[dy.s7,<-O,N];exact hm,n⟩;refine G.rt o ?_;exact⟨by
  have T:c.f=none:=by
   cases C:c.f with
   |none=>rfl
   |some i=>rw[C]at B;cases B
  rw[dy.s7,<-O,T];exact hm,n⟩
def Lq{e:TypeId}{b:Nat}{cs:List Value}(x y:Int){w0:World}(n:Var e H b cs)(aj:cs[3]?=some (.int .i64 x))(B: -9223372036854775808<=x+y/\x+y<=9223372036854775807):
 a8 prog w0 216 #[.pointer (some ⟨b,3,none⟩),.int .i64 y] H (fun r A=>r= .int .i64 (x+y)/\Var e A b (cs.set 3 (.int .i64 (x+y)))/\W (aq [(b+1)]) H A):=by
 refine G.bc [(b+1)] func216 o fun k=>?_;refine G.aK o UF Tr o<|G.aR o (Z.Lp n aj o func241 aW aW aW aW o B) ?_;rintro v9 C ⟨rfl,n,ad⟩;obtain⟨k,_⟩:=cz ad k (ah.r (U.refl (b+1) H.size));exact G.rt o ⟨o,n,k⟩
def CI{w0:World}{l:az}{J:Oper}{g:da}{b:Nat}{D:ao}{x y:Operand}{t:TypeId}(h:bH vq33z g H b D)(c1:Nat)(B:J.op= .store t x y)(C:aI l x=some (.pointer (some ⟨b,4,none⟩)))(hy:aI l y=some (.int .i64 (c1:Int)))(Y:∀w,(sizeOf t).run prog w= .ok 1 w)(A:c1<=9223372036854775807):
 S prog w0 n l H J (fun aa=>bH vq33z {g with c1:=c1} aa b {D with left:=c1}/\W (aq vq33z) H aa):=
 (S.df h.cr 4 _ B C hy o Y a_ o).mono fun aa ⟨r,k⟩=>⟨h.rN k.eU ⟨o,o,o,o⟩ r (fun _=>rfl) A ⟨o,o,o,o,o,o⟩ (dF _),h.ms k (fun c e=>by rw[e,h.eJ];simp)⟩
def I2{w0:World}{l:az}{J:Oper}{g:da}{b:Nat}{D:ao}{x y:Operand}{t:TypeId}(h:bH vq33z g H b D){dd2q:Bool}(A:dd2q=false->D.dead=false)(B:J.op= .store t x y)(C:aI l x=some (.pointer (some ⟨b,5,none⟩)))(hy:aI l y=some (.bool dd2q))(Y:∀w,(sizeOf t).run prog w= .ok 1 w):
 S prog w0 n l H J (fun aa=>bH vq33z g aa b {D with dead:=dd2q}/\W (aq vq33z) H aa):=
 (S.df h.cr 5 _ B C hy o Y a_ o).mono fun aa ⟨r,k⟩=>⟨h.rN k.eU ⟨o,o,o,o⟩ r (fun e=>h.mh (A e)) h.h7 ⟨o,o,o,o,o,o⟩ (dF _),h.ms k (fun c e=>by rw[e,h.eJ];simp)⟩
def RZ{g:da}{b:Nat}{D:ao}(h:bH vq33z g H b D)(ab:D.dead=true)(x:Nat):bH vq33z g H b {D with left:=x}:=
 {h with
  mh:=fun e=>(by rw[show({D with left:=x}:ao).dead=D.dead from rfl,ab]at e;cases e)
  eZ:=fun p bh e=>(by
   obtain⟨c6,sb,k,a6,aN,gB,q⟩:=h.eZ p bh e;exact⟨c6,sb,k,a6,aN,gB,{q with gq:=q.gq,es:=q.es,aj:=q.aj}⟩)}
def Aa{g:da}{b:Nat}{D:ao}{dd2q:Bool}{x:Nat}(B:D.dead=false->n=D.left)(h:bH vq33z g H b {D with left:=x,dead:=dd2q})(A:dd2q=true)(r:D.dead=true\/(D.dead=false/\n=1/\x=0)):bH vq33z g H b D.begin.2/\ .bool false=Value.bool D.begin.1:=by
 subst A;rcases r with ab|⟨ab,C,k⟩;have e:D.begin=(false,D):=by unfold ao.begin;rw[aD ab]
 rw[e];refine⟨?_,o⟩;have:=RZ h o D.left;obtain⟨cap,en,fs,now,stays,log,ops,left,dead⟩:=D;simp only at ab;subst ab;exact this;have:=B ab;have e:D.begin=(false,{D with left:=0,dead:=true}):=by unfold ao.begin;rw[au (by simp[ab]),aD I]
 rw[e];subst k;exact⟨h,o⟩
def tb{g:da}{b:Nat}{D:ao}{dd2q:Bool}{x:Nat}(h:bH vq33z g H b {D with left:=x,dead:=dd2q,ops:=D.ops+1})(n:dd2q=false)(ab:D.dead=false)(k:D.left≠1)(r:x=D.left-1):bH vq33z g H b D.begin.2/\ .bool true=Value.bool D.begin.1:=by
 subst n;subst r;have e:D.begin=(true,{D with left:=D.left-1,ops:=D.ops+1}):=by unfold ao.begin;rw[au (by simp[ab]),au k]
 rw[e];obtain⟨cap,en,fs,now,stays,log,ops,left,dead⟩:=D;simp only at ab;subst ab;exact⟨h,o⟩
def zS{g:da}{b:Nat}{D:ao}{w0:World}(h:bH vq33z g H b D)(C:D.ops<=1099511627776):a8 prog w0 216 #[.pointer (some ⟨b,3,none⟩),.int .i64 1] H (fun r k=>r= .int .i64 ((D.ops:Int)+1)/\bH vq33z g k b {D with ops:=D.ops+1}/\W (aq vq33z) H k):=
 (Lq (D.ops:Int) 1 h.cr o I).mono fun r k ⟨A,B,n⟩=>⟨A,h.rN n ⟨o,o,o,o⟩ B h.mh h.h7 ⟨o,o,o,o,o,o⟩ (nC _),h.ms n (fun c e=>by
  have:c=b:=by simpa[aq]using e
  rw[this,h.eJ];simp)⟩
def xk{g:da}{b:Nat}{D:ao}{w0:World}(A:bH vq33z g H b D)(R:D.ops<=1099511627776):
 a8 prog w0 173 #[ptr b] H (fun r S=>∃g2:da,r= .bool D.begin.1/\bH vq33z g2 S b D.begin.2/\(g2.ρ=g.ρ/\g2.fb=g.fb/\g2.cW=g.cW/\g2.bj=g.bj)/\W (aq vq33z) H S):=by
 refine a8.bc [ptr b] func173 ?_;intro aG N;have C:W (aq vq33z) H H:=W.refl _ _;have L:=aF.refl vq33z H.size;have P:=A.aT;have aP:=A.h7;have F:=A.mh;refine b6.al fun V=>?_;refine bm.dm ?_;refine V<|b6.t1 fun Q=>b6.al fun X=>?_;refine bm.cj 2 ?_;refine bm.aG A.cr.T iz bV cQ ?_;refine bm.v1 jY<|bm.nil<|X ?_;refine b6.Og o (fun aE=>?_) fun aE=>?_;refine b6.al fun Z=>?_;refine bm.cj 2 ?_;refine bm.aG A.cr.T iz bV cQ ?_;refine bm.v1 (M.cast (v2:= .int .i64 ((g.c1-1:Nat):Int)) eA<|di I) ?_;refine bm.bx ?_;refine bm.aK iz bV ?_;refine bm.s1 (CI A (g.c1-1) o o o bV I) ?_;rintro aI ⟨A,T⟩;have C:=C.bf T (ag.bA L (by intro k K;simp[K]));have aJ:=T.size;have P:=A.aT;refine bm.nil<|Z<|b6.region ?_;refine bm.cj 3 ?_;refine bm.aG A.cr.T iz c8 eW ?_;refine bm.bo ?_;refine bm.split (d:=20) o (fun E=>?_) fun E=>?_;refine bm.cj 7 ?_;refine bm.aK iz c8 ?_;refine bm.s1 (I2 A (by intro h;first|exact E|cases h) rfl rfl rfl c8) ?_;rintro av ⟨A,ac⟩;have C:=C.bf ac (ag.bA L (by intro k K;simp[K]));have aK:=ac.size;have P:=A.aT;refine bm.nil<|Q<|b6.t2 fun aa ae=>b6.al fun ah=>?_;refine bm.cj 2 ?_;refine bm.aG A.cr.T iz c8 eW ?_;refine bm.nil<|ah ?_;refine b6.cond o (fun n=>?_) fun n=>?_;first
 |·simp at n
 |skip
  refine b6.al fun ai=>?_;refine bm.dm ?_;refine ai ?_;refine b6.ret<|ae<|N ?_;have B:=Aa F A (by first|rfl|exact n) (by first|exact .inl E|exact .inr ⟨E,by simp at n;omega,by simp at n;omega⟩);exact⟨_,B.2,B.1,⟨o,o,o,o⟩,C⟩
 first
 |·simp at n
 |skip
  refine b6.skip<|aa<|b6.al fun ak=>?_;refine bm.cj 2 ?_;refine bm.aK iz C9 ?_;refine bm.call o Ar o fE o o (zS A R) ?_;rintro U O ⟨rfl,A,ad⟩;have C:=C.bf ad (ag.bA L (by intro k K;simp[K]));have aL:=ad.size;refine bm.nil<|ak<|b6.al fun al=>?_;refine bm.dm ?_;refine al ?_;refine b6.ret<|N ?_;obtain⟨g2,B⟩:∃g2:da,(bH vq33z g2 O b D.begin.2/\ .bool true=Value.bool D.begin.1)/\(g2.ρ=g.ρ/\g2.fb=g.fb/\g2.cW=g.cW/\g2.bj=g.bj):=by
   first
   |exact⟨_,tb (x:=g.c1-1) A (by simpa using n) E (by have:=F E;simp at n;omega) (by have:=F E;omega),o,o,o,o⟩
   |exact⟨_,tb (x:=D.left) (dd2q:=D.dead) A (by simpa using n) (by simpa using n) (by have:=F (by simpa using n);omega) (by have:=F (by simpa using n);omega),o,o,o,o⟩
  exact⟨g2,B.1.2,B.1.1,B.2,C⟩
 refine bm.UR ?_;refine bm.k0 mu ?_;refine bm.wl A.cr.T iz bV cQ ?_;refine bm.k0 (M.eql o o o) ?_;refine bm.cj 2 ?_;refine bm.aK iz c8 ?_;refine bm.s1 (I2 A (by intro h;first|exact E|cases h) rfl rfl rfl c8) ?_;rintro av ⟨A,ac⟩;have C:=C.bf ac (ag.bA L (by intro k K;simp[K]));have aM:=ac.size;have P:=A.aT;refine bm.nil<|Q<|b6.t2 fun aw aH=>b6.al fun am=>?_;refine bm.cj 2 ?_;refine bm.aG A.cr.T iz c8 eW ?_;refine bm.nil<|am ?_;refine b6.cond o (fun n=>?_) fun n=>?_;first
 |·simp at n
 |skip
  refine b6.al fun ax=>?_;refine bm.dm ?_;refine ax ?_;refine b6.ret<|aH<|N ?_;have B:=Aa F A (by first|rfl|exact n) (by first|exact .inl E|exact .inr ⟨E,by simp at n;omega,by simp at n;omega⟩);exact⟨_,B.2,B.1,⟨o,o,o,o⟩,C⟩
 first
 |·simp at n
 |skip
  refine b6.skip<|aw<|b6.al fun ap=>?_;refine bm.cj 2 ?_;refine bm.aK iz C9 ?_;refine bm.call o Ar o fE o o (zS A R) ?_;rintro U O ⟨rfl,A,ad⟩;have C:=C.bf ad (ag.bA L (by intro k K;simp[K]));have aN:=ad.size;refine bm.nil<|ap<|b6.al fun aU=>?_;refine bm.dm ?_;refine aU ?_;refine b6.ret<|N ?_;obtain⟨g2,B⟩:∃g2:da,(bH vq33z g2 O b D.begin.2/\ .bool true=Value.bool D.begin.1)/\(g2.ρ=g.ρ/\g2.fb=g.fb/\g2.cW=g.cW/\g2.bj=g.bj):=by
   first
   |exact⟨_,tb (x:=g.c1-1) A (by simpa using n) E (by have:=F E;simp at n;omega) (by have:=F E;omega),o,o,o,o⟩
   |exact⟨_,tb (x:=D.left) (dd2q:=D.dead) A (by simpa using n) (by simpa using n) (by have:=F (by simpa using n);omega) (by have:=F (by simpa using n);omega),o,o,o,o⟩
  exact⟨g2,B.1.2,B.1.1,B.2,C⟩
 refine b6.skip<|Q<|b6.t2 fun ay az=>b6.al fun bt=>?_;refine bm.cj 2 ?_;refine bm.aG A.cr.T iz c8 eW ?_;refine bm.nil<|bt ?_;refine b6.cond o (fun n=>?_) fun n=>?_;first
 |·simp at n
 |skip
  refine b6.al fun aA=>?_;refine bm.dm ?_;refine aA ?_;refine b6.ret<|az<|N ?_;have B:=Aa (x:=D.left) (dd2q:=D.dead) F A (by simpa using n) (.inl (by simpa using n));exact⟨_,B.2,B.1,⟨o,o,o,o⟩,C⟩
 first
 |·simp at n
 |skip
  refine b6.skip<|ay<|b6.al fun aB=>?_;refine bm.cj 2 ?_;refine bm.aK iz C9 ?_;refine bm.call o Ar o fE o o (zS A R) ?_;rintro U O ⟨rfl,A,ad⟩;have C:=C.bf ad (ag.bA L (by intro k K;simp[K]));have aO:=ad.size;refine bm.nil<|aB<|b6.al fun aC=>?_;refine bm.dm ?_;refine aC ?_;refine b6.ret<|N ?_;obtain⟨g2,B⟩:∃g2:da,(bH vq33z g2 O b D.begin.2/\ .bool true=Value.bool D.begin.1)/\(g2.ρ=g.ρ/\g2.fb=g.fb/\g2.cW=g.cW/\g2.bj=g.bj):=by
   first
   |exact⟨_,tb (x:=g.c1-1) A (by simpa using n) E (by have:=F E;simp at n;omega) (by have:=F E;omega),o,o,o,o⟩
   |exact⟨_,tb (x:=D.left) (dd2q:=D.dead) A (by simpa using n) (by simpa using n) (by have:=F (by simpa using n);omega) (by have:=F (by simpa using n);omega),o,o,o,o⟩
  exact⟨g2,B.1.2,B.1.1,B.2,C⟩
open Go.MapKept
def tV{P:Program}{w0:World}{l:az}{J:Oper}{κ:Type}[DecidableEq κ]{a1:κ->Value}{fv:aP->Value}{v:Value}{m:List (κ×aP)}{d:TypeDesc}{t kz r:TypeId}{x i:Operand}{k:κ}{ad:aP->Addr}(h:kp F H a1 fv v m)(L:∀b,fv b= .pointer (some (ad b)))(K:qb d a1)(Q:J.op= .lookup t x i false)(hm:∀w,(underlying t).run P w= .ok (.map kz r) w)(O:P.underlying kz=some d)(S:∀w,(zeroValue r).run P w= .ok (.pointer none) w)(R:aI l x=some v)(N:aI l i=some (a1 k)):M P w0 n l H J (.pointer ((ax m k).map ad)):=by
 intro a w B E;have A:=JK (ok:=false) (k:=k) h K E hm O S;simp only[nb,if_false]at A;have C:(Instr.lookup t v (a1 k) false).run P w= .ok (.pointer ((ax m k).map ad)) w:=by
  rw[A];cases ax m k with
  |none=>rfl
  |some b=>simp[L]
 simp[execOp,Q,B.eval R,B.eval N,C]
abbrev Lo(b:Nat):Addr:=⟨b,0,none⟩
def xU{g:da}{b:Nat}{D:ao}{p:av}{w0:World}(aV:gL vq24z H)(Q:bk (fun b=>b=0) H.size)(n:bH vq33z g H b D)(S:p.length<=4294967280):
 a8 prog w0 126 #[ptr b,aJ p] H (fun r T=>r= .tuple #[.pointer (lQ g.fb (if D.look p=0 then ax D.now p else none)),.int .i64 (D.look p:Int)]/\an H T):=by
 refine G.bN func126 o fun A=>?_;have X:=n.aT;refine G.aC o r7 (sG p aV (Q.mono I) S) ?_;rintro v9 O ⟨rfl,V⟩;obtain⟨aV,n,A,_⟩:=cg V aV n A;refine G.O o e7<|G.ci o ?_ ?_<;>intro ad;refine G.rt o ?_;have B:D.look p=7:=by
  unfold ao.look;rw[au (by simpa using ad)]
 exact⟨by rw[B]<;>rfl,A⟩;refine G.cJ o (fun F=>an O F) [] o ?_;have E:=an.refl O;refine N.bo 0 o E ?_;refine N.bx 1 o E ?_;refine N.aK 2 iz sO E ?_;refine N.t1 3 o (fun F k=>aY ((n.cr.T.drop 2).aL k) q3) E ?_;refine N.bo 4 o E ?_;refine N.ba 5 ?_;refine cK th (tp aV (Q.mono I) S) ?_;rintro W aH ⟨rfl,P⟩;obtain⟨n,A,_⟩:=bG P n A;have U:=E.al P;refine N.cx U ?_;have K:=an.refl aH;refine N.t1 6 o (fun F k=>tV (ad:=Lo) (n.hm.fQ.aL k) (fun _=>rfl) hZ o sV underlying9 zH o o) K ?_;refine N.t1 7 o (fun F k=>fl) K ?_;refine G.dn aW ?_;have Z:=K;refine G.ae 1 o (M.uh o aW aW o o)<|G.ci o ?_ ?_<;>intro C;obtain⟨bh,R⟩:∃bh,ax g.bj (bI p)=some bh:=by
  cases k:ax g.bj (bI p)with
  |none=>rw[k]at C;cases C
  |some bh=>exact⟨bh,o⟩
 obtain⟨c6,sb,aa,a6,aN,gB,ab⟩:=n.eZ _ bh R;refine G.ae 0 o (M.cast (v2:=ptr bh) gh (by rw[R]<;>rfl))<|G.aK o kW o9 o<|G.aG o (ab.bS.T.drop 0) pb nk qd o o<|G.ae 1 o (M.cast (v2:= .pointer (lQ g.fb (ax D.now p))) (tV ab.ar.fQ (fun _=>rfl) hZ o rR underlying9 K5 o o) (by rw[ab.gq p,aD rfl]))<|G.ae 2 o (M.uh o aW aW o o)<|G.ci o (fun ac=>?_) fun ac=>?_;refine G.rt o ?_;have B:D.look p=0:=by
  unfold ao.look
  rw[aD (by simpa using ad),aD (by cases k:ax D.now p with
   |none=>rw[k]at ac;cases ac
   |some i=>rfl)]
 exact⟨by rw[B,aD rfl]<;>rfl,A⟩;refine G.rt o ?_;have B:D.look p=2:=by
  unfold ao.look;rw[aD (by simpa using ad),au];first
  |(cases k:ax D.now p with
   |none=>simp
   |some i=>rw[k]at ac;cases ac)
  |(have L:ax g.bj (bI p)=none:=(by cases k:ax g.bj (bI p)with
    |none=>rfl
    |some bh=>rw[k]at C;cases C)
    rw[((n.abs _ L).1 p o).1];simp)
 exact⟨by rw[B]<;>rfl,A⟩;refine G.rt o ?_;have B:D.look p=2:=by
  unfold ao.look;rw[aD (by simpa using ad),au];first
  |(cases k:ax D.now p with
   |none=>simp
   |some i=>rw[k]at ac;cases ac)
  |(have L:ax g.bj (bI p)=none:=(by cases k:ax g.bj (bI p)with
    |none=>rfl
    |some bh=>rw[k]at C;cases C)
    rw[((n.abs _ L).1 p o).1];simp)
 exact⟨by rw[B]<;>rfl,A⟩
def bH.new{b:Nat}(cap en:Nat)(k:Var 83 H b [.int .i64 cap,.int .i64 en,.map (some n),.int .i64 0,.int .i64 0,.bool false])(hm:dA H aJ ptr n ([]:List (av×Nat)))(aj:cap<=9223372036854775807)(A:en<=9223372036854775807)(B:b≠n):
 bH [b+1,n+1] ⟨gC (gC (fun _=> .out) n .eZ) b .fs,[],n,[],0⟩ H b (ao.empty cap en) where
 dz:=qp (qp (K:=[]) (ρ:=fun _=> .out) (fun c=>by simp) a_) a_
 lt:=qE (qE (H:=H) (fun c h=>absurd o h) (dF _) hm.lt) (dF _) k.lt
 eJ:=qX
 cr:=k
 mh:=fun _=>rfl
 h7:=by simp
 jB:=aj
 jD:=A
 kC:=by show gC (gC (fun _=> .out) n .eZ) b .fs n=_;rw[qW (ku B),qX]
 hm:=hm
 eZ:=fun p bh e=>(by cases e)
 abs:=fun p _=>⟨fun q _=>⟨o,o⟩,o⟩
 len:=rfl
 dE:=fun i r=>(by simp[ao.empty]at r)
 ids:=⟨fun p i e=>(by cases e),fun p i e=>(by cases e),fun c aj=>(by cases aj)⟩
 lM:=dF _
def Iq(cap en:Nat){w0:World}(aj:cap<=9223372036854775807)(L:en<=9223372036854775807):
 a8 prog w0 5 #[.int .i64 (cap:Int),.int .i64 (en:Int)] H (fun r A=>∃K:List Nat,∃g:da,∃b:Nat,r= .tuple #[ptr b,.int .i64 0]/\bH K g A b (ao.empty cap en)/\aF [] H.size K/\an H A):=by
 refine G.bN func5 o fun k=>G.ae 3 o ((M.lss o o o).hp I) (G.ae 2 o ((M.lss o o o).hp I)<|G.dP o<|G.aR o (Z.gA<|Z.sD aJ ptr o) ?_);rintro R P ⟨rfl,n,B,_⟩;have C:=U.new k.size;obtain⟨k,_⟩:=cv B k;have O:=n.lt;refine G.O o (M.build (v:= .agg #[.int .i64 cap,.int .i64 en,.map (some H.size),.int .i64 0,.int .i64 0,.bool false]) o o eN)<|G.aR o (Z.bT ([.int .i64 cap,.int .i64 en,.map (some H.size),.int .i64 0,.int .i64 0,.bool false])) ?_;rintro ap Q ⟨rfl,N,ac,_⟩;have E:=U.new k.size;obtain⟨n,k,_⟩:=bG ac n k;have aH:=aF.cons C (aF.refl [] _);have am:=aF.cons E aH;have F:=bH.new cap en N n aj L I;exact G.rt o ⟨_,_,_,o,F,am,k⟩
def Jk{g:da}{b:Nat}{D:ao}(p:av){w0:World}(aV:gL vq24z H)(V:bk (fun b=>b=0) H.size)(B:bH vq33z g H b D)(X:p.length<=4294967280)(W:∀i,(aM D.fs i).now.length<=1099511627776):
 a8 prog w0 49 #[ptr b,aJ p] H (fun r L=>∃s:ay,∃k:Nat,r= .tuple #[s.v,.int .i64 (D.fC p:Int)]/\aS k 5 L a7 1 s.v (D.cB p)/\U 0 H.size k/\an H L):=by
 refine G.bN func49 o fun A=>?_;have ac:=B.aT;refine G.aG o B.cr.T iz c8 eW o o<|G.ci o ?_ ?_<;>intro F;refine G.rt o ?_;have n:D.fC p=11:=by unfold ao.fC;rw[aD F]
 have E:D.cB p=[]:=by unfold ao.cB;rw[au (by rw[n];omega)]
 exact⟨⟨none,0,0⟩,0,by rw[n]<;>rfl,by rw[E];exact aS.nil eM fy,U.refl _ _,A⟩;refine G.aC o xq (xU aV (V.mono I) B X) ?_;rintro ai aa ⟨rfl,ad⟩;obtain⟨B,A,_⟩:=bG ad B A;refine G.ip o ?_ ?_<;>intro ah;refine G.rt o ?_;have n:D.fC p=D.look p:=by unfold ao.fC;rw[au (by simpa using F)]
 have E:D.cB p=[]:=by unfold ao.cB;rw[au (by rw[n];omega)]
 exact⟨⟨none,0,0⟩,0,by rw[n]<;>rfl,by rw[E];exact aS.nil eM fy,U.refl _ _,A⟩;have C:D.look p=0:=by omega
 obtain⟨i,K⟩:∃i,ax D.now p=some i:=by
  cases Z:ax D.now p with
  |some i=>exact⟨i,o⟩
  |none=>exfalso;unfold ao.look at C;rw[Z]at C;by_cases ar:cR p=true<;>simp[ar]at C
 obtain⟨b3,a6,dr,kw,lw,N⟩:=B.dE i (B.ids.1 p i K);refine G.ae 0 o (M.cast (v2:=fX g.fb i) gh (by rw[aD C,K]<;>rfl))<|G.aK o ke ou o<|G.aG o (N.eL.T.drop 0) oB cZ eI o o<|G.aC o tk (ta (aM D.fs i).now N.ar.any (by have:=W i;omega)) ?_;rintro ae ag ⟨R,S,rfl,O,P,Q⟩;have T:=U.al (U.refl 0 _) P A.size;have A:=A.al Q;refine G.rt o ?_;have n:D.fC p=0:=by unfold ao.fC;rw[au (by simpa using F)];exact C
 have E:D.cB p=(aM D.fs i).now:=by unfold ao.cB ao.dO;rw[aD n,K]
 exact⟨R,S,by rw[n]<;>rfl,by rw[E];exact O,T,A⟩
def T7{g:da}{b:Nat}{D:ao}(n:Int){w0:World}(A:bH vq33z g H b D)(ar:n<=9223372036854775807):
 a8 prog w0 13 #[ptr b,.int .i64 n] H (fun r C=>∃g2:da,r= .tuple #[]/\bH vq33z g2 C b (D.stop n.toNat)/\(g2.ρ=g.ρ/\g2.fb=g.fb/\g2.cW=g.cW/\g2.bj=g.bj)/\W (aq vq33z) H C):=by
 refine G.bc vq33z func13 o fun B=>?_;have ac:=A.aT;refine G.O o (M.cast (v2:= .int .i64 (n.toNat:Int)) (M.qF o o o)<|di I)<|G.aK o iz bV o<|G.bl o (CI A n.toNat o o o bV I) ?_;rintro ad ⟨A,E⟩;have B:=B.bf E (ag.bA (aF.refl vq33z H.size) (by intro k F;simp[F]));exact G.rt o ⟨_,o,A,⟨o,o,o,o⟩,B⟩
def lZ(ks dn:List av)(w:av->Nat):Nat:=((ks.filter (fun k=> !decide (k∈dn))).map w).sum
def JD(ks:List av)(w:av->Nat):lZ ks [] w=(ks.map w).sum:=by
 unfold lZ;rw[yi.2 (fun k _=>by simp)]
def JC{ks dn:List av}{w:av->Nat}(h:∀k∈ks,k∈dn):lZ ks dn w=0:=by
 unfold lZ;rw[rn.2 (fun k n=>by simp[h k n])];rfl
def C0{w:av->Nat}{k:av}{dn:List av}(ab:k∉dn):∀{ks:List av},ks.Nodup->k∈ks->lZ ks dn w=w k+lZ ks (dn++[k]) w
 |[],_,h=>by cases h
 |x::ks,ar,h=>by
  rw[oV]at ar;unfold lZ;by_cases r:x=k;subst r;have e:(x::ks).filter (fun q=> !decide (q∈dn++[x]))=ks.filter (fun q=> !decide (q∈dn)):=by
   rw[n_ a_];refine tM fun q B=>?_;have:q≠x:=fun e=>ar.1 (by rw[<-e];exact B);simp[this]
  rw[e,oa (by simp[ab]),dQ,iB];have A:k∈ks:=by
   rcases dI.1 h with e|h;exact absurd e.symm r;exact h
  have ih:=C0 (w:=w) (dn:=dn) ab ar.2 A;unfold lZ at ih;by_cases n:x∈dn;rw[n_ (by simp[n]),n_ (by simp[n])];exact ih;rw[oa (by simp[n]),oa (by simp[n,r]),dQ,dQ,iB,iB,ih];omega
def m5(D:ao)(d:av):Nat:=kI D.fs (D.now.filter (fun x=>bI x.1=d))
def Kf{ks:List av}(ar:ks.Nodup){d:av}{a:Nat}:d∈ks->(ks.map (fun k=>if d=k then a else 0)).sum=a:=by
 induction ks with
 |nil=>intro h;cases h
 |cons x ks ih=>
  intro h;rw[oV]at ar;rw[dQ,iB];by_cases n:d=x;subst n;rw[aD rfl];have:(ks.map (fun k=>if d=k then a else 0)).sum=0:=by
   have:ks.map (fun k=>if d=k then a else 0)=ks.map (fun _=>0):=oW (fun k r=>au (fun e=>ar.1 (by rw[e];exact r)));rw[this];clear this ih ar h;induction ks with
   |nil=>rfl
   |cons x ks ih=>rw[dQ,iB,ih]
  omega;rw[au n,ih ar.2 (by
   rcases dI.1 h with e|h;exact absurd e n;exact h)];omega
def sum_add(ks:List av)(f g:av->Nat):(ks.map (fun k=>f k+g k)).sum=(ks.map f).sum+(ks.map g).sum:=by
 induction ks with
 |nil=>rfl
 |cons x ks ih=>simp only[dQ,iB,ih];omega
def AN(fs:List fg)(ks:List av)(ar:ks.Nodup):∀l:ca,(∀x∈l,bI x.1∈ks)->(ks.map (fun d=>kI fs (l.filter (fun x=>bI x.1=d)))).sum=kI fs l
 |[],_=>by
  have:ks.map (fun d=>kI fs (([]:ca).filter (fun x=>bI x.1=d)))=ks.map (fun _=>0):=oW (fun k _=>rfl);rw[this];clear this ar;rename_i bP;clear bP;induction ks with
  |nil=>rfl
  |cons x ks ih=>rw[dQ,iB,ih];rfl
 |x::l,h=>by
  have ih:=AN fs ks ar l (fun y hy=>h y (gx _ hy));have e:ks.map (fun d=>kI fs ((x::l).filter (fun x=>bI x.1=d)))=ks.map (fun d=>(if bI x.1=d then(aM fs x.2).now.length else 0)+kI fs (l.filter (fun x=>bI x.1=d))):=by
   refine oW fun k _=>?_;by_cases n:bI x.1=k;rw[oa (by simpa using n),aD n];simp[kI];rw[n_ (by simpa using n),au n];simp
  rw[e,sum_add,Kf ar (h x fZ),ih];simp[kI]
def Re{D:ao}{aN:ca}{d:av}(k:cX D.now)(ar:(aN.map (·.1)).Nodup)(he:∀q,ax aN q=if bI q=d then ax D.now q else none):((aN.map (·.1)).map (fun q=>(D.dO q).length)).sum=m5 D d:=by
 have n:cX (D.now.filter (fun x=>decide (bI x.1=d))):=k.filter _;have r:(aN.map (·.1)).Perm ((D.now.filter (fun x=>decide (bI x.1=d))).map (·.1)):=(List.perm_ext_iff_of_nodup ar n.nodup).2 (fun q=>by
  rw[<-gM,<-gM,he,yG (f:=fun p=>decide (bI p=d))];by_cases h:bI q=d<;>simp[h])
 rw[(r.map _).sum_nat];unfold m5 kI;rw[oU];congr 1;refine oW fun x A=>?_;have:=o0 k.nodup (show(x.1,x.2)∈D.now from(iK.1 A).1);simp only[Function.comp,ao.dO,this]
def UJ{g:da}{b:Nat}{D:ao}(n:bH vq33z g H b D)(r:cX D.now):((g.bj.map (·.1)).map (m5 D)).sum=D.used:=
 AN D.fs _ n.hm.fQ.nodup D.now (fun x B=>by
  have k:=o0 r.nodup (show(x.1,x.2)∈D.now from B);rw[<-gM];cases A:ax g.bj (bI x.1)with
  |some _=>rfl
  |none=>rw[((n.abs _ A).1 x.1 o).1]at k;cases k)
def mn{α:Type}[DecidableEq α]:∀{a b:List α},a.Nodup->(∀k∈a,k∈b)->a.length<=b.length
 |[],b,_,_=>gH _
 |x::a,b,ar,Y=>by
  rw[oV]at ar;have h:=mn (b:=b.erase x) ar.2 (fun k n=>(List.mem_erase_of_ne (fun e=>ar.1 (by rw[<-e];exact n))).2 (Y k (gx _ n)));have r:=Y x fZ;rw[Hj r]at h;have:=List.length_pos_of_mem r;simp only[fA];omega
def KJ{g:da}{b:Nat}{D:ao}{w0:World}(A:bH vq33z g V b D)(aR:cX D.now)(bL:D.used<=4611686018427387904):
 a8 prog w0 217 #[ptr b] V (fun r aZ=>r= .int .i64 (D.used:Int)/\an V aZ):=by
 refine G.bN func217 o fun L=>?_;have bF:=A.aT;refine G.aG o A.cr.T iz sO q3 o o ?_;have E:=A.hm;have bC:=E.lt;obtain⟨es,bf,E⟩:=E.raw;refine G.aR o (Z.gA<|Z.y9 E o sV o) ?_;rintro a0 aE ⟨rfl,it,ba,_⟩;have aF:=ak.gf A.aT;have aG:=ai.new E.lt;have aI:=U.new L.size;obtain⟨A,E,L,_⟩:=cg ba A E L;have bG:=it.lt
 refine G.bd o (fun(aB:(List av)×Nat)=>match aB with|(C,n)=>[(3,.int .i64 (n:Int)),(12,.pointer (some ⟨V.size,0,none⟩))])
  (fun(C,n) (H:Heap)=>(jv H V.size g.cW aJ es bf C)/\(C.Nodup/\∀k∈C,k∈g.bj.map (·.1))/\n+lZ (g.bj.map (·.1)) C (m5 D)=D.used/\W (aq [(V.size+1)]) aE H)
  (fun(C,n)=>g.bj.length-C.length) ([],0) ?_ ?_
 exact⟨it,⟨vM,by simp⟩,by rw[JD,UJ A aR];omega,W.refl _ _⟩;rintro⟨C,n⟩ bq a1 bw a7;obtain⟨it,S,bN,F⟩:=a1;obtain⟨A,E,L,_⟩:=dg F A (fL aF) E aG L aI;have al:=mn S.1 S.2;rw[dK]at al;refine G.aR o (Z.yM it E hZ.inj o o) ?_;rintro a2 R ⟨bP,d,bh,bI,rfl,it,bm,bk,aH⟩;obtain⟨A,E,L,F,_⟩:=dx aH A (fL aF) E aG L aI F (ah.r (U.refl (V.size+1) aE.size));refine G.ae 0 o (M.xN o o)<|G.ci o ?_ ?_<;>intro am;obtain⟨K,Q,az⟩:=bm am;rw[az]at it;obtain⟨c6,sb,bO,a6,aN,gB,ab⟩:=A.eZ _ bh (o0 E.fQ.nodup K);have bu:=K;have bt:=Q;have bM:lZ (g.bj.map (·.1)) C (m5 D)=m5 D d+lZ (g.bj.map (·.1)) (C++[d]) (m5 D):=C0 (w:=m5 D) Q E.fQ.nodup (dp.2 ⟨_,K,o⟩);refine G.O o (M.xM it E hZ.inj K o o)<|G.aK o kW o9 o<|G.aG o (ab.bS.T.drop 0) pb nk qd o o ?_;have B:=ab.ar;have bD:=B.lt;obtain⟨bj,bg,B⟩:=B.raw;refine G.aR o (Z.gA<|Z.y9 B o rR o) ?_;rintro a3 aK ⟨rfl,N,aU,_⟩;have aL:=ak.gf A.aT;have aO:=ai.new it.lt;have aP:=ai.new B.lt;have aQ:=U.new F.size;obtain⟨A,it,B,F,_⟩:=dZ aU A it B F;have bE:=N.lt
 refine G.bd o (fun(aB:(List av)×Nat)=>match aB with|(dn,m)=>[(3,.int .i64 (m:Int)),(12,.pointer (some ⟨V.size,0,none⟩)),(22,.pointer (some ⟨R.size,0,none⟩))])
  (fun(dn,m) (H:Heap)=>(jv H R.size c6 aJ bj bg dn)/\(dn.Nodup/\∀k∈dn,k∈aN.map (·.1))/\m+lZ (aN.map (·.1)) dn (fun q=>(D.dO q).length)+lZ (g.bj.map (·.1)) (C++[d]) (m5 D)=D.used/\W (aq [(R.size+1)]) aK H)
  (fun(dn,m)=>aN.length-dn.length) ([],n) ?_ ?_
 exact⟨N,⟨vM,by simp⟩,by rw[JD,Re aR B.fQ.nodup ab.gq];omega,W.refl _ _⟩;rintro⟨dn,m⟩ a4 a_ a5 bc;obtain⟨N,T,X,ad⟩:=a_;obtain⟨A,it,B,F,_⟩:=dx ad A (fL aL) it aO B aP F (ah.q aQ);have al:=mn T.1 T.2;rw[dK]at al;refine G.aR o (Z.yM N B hZ.inj o o) ?_;rintro bA bB ⟨bQ,q,i,bK,rfl,N,bo,bl,bd⟩;obtain⟨A,it,B,F,ad,_⟩:=fT bd A (fL aL) it aO B aP F (ah.q aQ) ad (ah.r (U.refl (R.size+1) aK.size));refine G.ae 0 o (M.xN o o)<|G.ci o ?_ ?_<;>intro aC;obtain⟨K,Q,az⟩:=bo aC;rw[az]at N;have P:=o0 B.fQ.nodup K;rw[ab.gq]at P;have P:ax D.now q=some i:=by
  split at P;exact P;cases P
 obtain⟨b3,bR,dr,kw,lw,aT⟩:=A.dE i (A.ids.1 q i P);have aX:lZ (aN.map (·.1)) dn (fun q=>(D.dO q).length)=(D.dO q).length+lZ (aN.map (·.1)) (dn++[q]) (fun q=>(D.dO q).length):=C0 (w:=fun q=>(D.dO q).length) Q B.fQ.nodup (dp.2 ⟨_,K,o⟩);have aY:D.dO q=(aM D.fs i).now:=by unfold ao.dO;rw[P]
 refine G.O o (M.xM N B hZ.inj K o o)<|G.aK o ke ou o<|G.aG o (aT.eL.T.drop 0) oB cZ eI o o<|G.O o (bz aT.ar c_)<|G.O o (M.cast (v2:= .int .i64 ((m+(D.dO q).length:Nat):Int)) (M.zU o o o (by rw[aY]at aX;omega))<|di (by rw[aY];omega)) ?_;have ay:(dn++[q]).Nodup/\∀k∈dn++[q],k∈aN.map (·.1):=by
  refine⟨?_,fun k O=>?_⟩;rw[qy];exact⟨T.1,by simp,fun a aa b hb e=>by simp only[fm]at hb;subst hb;subst e;exact Q aa⟩;rcases gR.1 O with h|h;exact T.2 k h;rw[fm.1 h];exact dp.2 ⟨_,K,o⟩
 have aw:=mn ay.1 ay.2;rw[b2,ik,dK]at aw;refine G.aQ o<|bc (dn++[q],m+(D.dO q).length) _ ?_ ?_;exact⟨N,ay,by rw[aX,<-sm]at X;exact X,ad⟩;simp only[b2,ik];omega;obtain⟨ae,_⟩:=bl aC;have aV:lZ (aN.map (·.1)) dn (fun q=>(D.dO q).length)=0:=JC (fun k O=>by obtain⟨p,aA,rfl⟩:=dp.1 O;exact ae p aA);have ag:(C++[d]).Nodup/\∀k∈C++[d],k∈g.bj.map (·.1):=by
  refine⟨?_,fun k O=>?_⟩;rw[qy];exact⟨S.1,by simp,fun a aa b hb e=>by simp only[fm]at hb;subst hb;subst e;exact bt aa⟩;rcases gR.1 O with h|h;exact S.2 k h;rw[fm.1 h];exact dp.2 ⟨_,bu,o⟩
 have aw:=mn ag.1 ag.2;rw[b2,ik,dK]at aw;refine G.aQ o<|a7 (C++[d],m) _ ?_ ?_;exact⟨it,ag,by rw[aV,n6]at X;exact X,F⟩;simp only[b2,ik];omega;obtain⟨ae,_⟩:=bk am;have aV:lZ (g.bj.map (·.1)) C (m5 D)=0:=JC (fun k O=>by obtain⟨p,aA,rfl⟩:=dp.1 O;exact ae p aA);exact G.rt o ⟨by rw[show n=D.used by omega],L⟩
def B9{g:da}{b:Nat}{D:ao}{p:av}{w0:World}(n:bH vq33z g H b D)(ai:g.bj.length+1<=D.ops):
 a8 prog w0 190 #[ptr b,aJ p] H (fun r F=>∃K:List Nat,∃g2:da,∃bh:Nat,r=ptr bh/\bH K g2 F b D/\aF vq33z H.size K/\ax g2.bj p=some bh/\g2.fb=g.fb/\W (aq vq33z) H F):=by
 refine G.bc vq33z func190 o fun A=>?_;have B:=aF.refl vq33z H.size;have aK:=n.aT;refine G.aG o n.cr.T iz sO q3 o o<|G.ae 1 o (tV n.hm.fQ (fun _=>rfl) hZ o sV underlying9 zH o o)<|G.ae 2 o nN<|G.ci o (fun ad=>?_) fun ad=>?_;have ay:ax g.bj p=none:=by
  cases E:ax g.bj p with
  |none=>rfl
  |some bh=>rw[E]at ad;cases ad
 refine G.aR o (Z.gA<|Z.sD aJ (fX g.fb) o) ?_;rintro aC C ⟨rfl,ar,R,_⟩;have aa:=ak.gf n.aT;have ae:=U.new A.size;obtain⟨n,A,_⟩:=bG R n A;have aL:=ar.lt;refine G.aR o (Z.gA<|Z.sD aJ (fX g.fb) o) ?_;rintro aE aU ⟨rfl,Y,T,_⟩;have ah:=ak.gf n.aT;have O:=U.new A.size;obtain⟨n,ar,A,_⟩:=cg T n ar A;have aM:=Y.lt;refine G.O o (M.build (v:= .agg #[.map (some H.size),.map (some C.size)]) o o eN)<|G.O o (M.build (v:= .agg #[.map (some H.size),.map (some C.size),.slice none 0 0]) o o eN)<|G.aR o (Z.bT ([.map (some H.size),.map (some C.size),.slice none 0 0])) ?_;rintro aG aA ⟨rfl,az,V,_⟩;have P:=ak.gf n.aT;have Q:=U.new A.size;obtain⟨n,ar,Y,A,_⟩:=dZ V n ar Y A;refine G.aG o n.cr.T iz sO q3 o o<|G.bl o (S.qO aU.size n.hm hZ o sV underlying9 o o o) ?_;rintro aB ⟨aw,L⟩;have ac:=n.ms L (fun c e=>by rw[e,n.kC];simp);have A:=A.bf ac (ag.bA B (by intro k al;simp[al]));have aI:=ac.size;have aH:=aF.cons ae B;have am:=aF.cons O aH;have X:=aF.cons Q am;have n:=n.Cq ay az ar Y P aa ah I I I L.eU aw ai;exact G.rt o ⟨_,_,_,o,n,X,by show ax (h8 g.bj p _) p=_;rw[o1,aD rfl],o,A⟩;obtain⟨bh,N⟩:∃bh,ax g.bj p=some bh:=by
  cases E:ax g.bj p with
  |none=>rw[E]at ad;cases ad
  |some bh=>exact⟨bh,o⟩
 exact G.rt o ⟨vq33z,g,bh,by rw[N]<;>rfl,n,B,N,o,A⟩
def Fz{g:da}{b:Nat}{D:ao}(p:av)(c:dy)(w0:World)(n:bH vq33z g H b D)(bg:g.bj.length+1<=D.ops)(bd:c.dir=p)(az:∀i,c.f=some i->bI c.n=p/\i<D.fs.length)(bf:c.g≠[]->bI c.g=p)(bN:D.log.length<=1099511627776):
 a8 prog w0 189 #[ptr b,aJ p,.agg (k9 g.fb c).toArray] H (fun r X=>∃aC:List Nat,∃g2:da,r= .tuple #[]/\bH aC g2 X b (D.change c)/\aF vq33z H.size aC/\g2.fb=g.fb/\W (aq vq33z) H X):=by
 refine G.bc vq33z func189 o fun A=>?_;have aK:=aF.refl vq33z H.size;have aL:=n.aT;refine G.aR o (Z.bT<|k9 g.fb c) ?_;rintro v5 bz ⟨rfl,E,aZ,_⟩;have aE:=ak.gf n.aT;obtain⟨n,A,_⟩:=bG aZ n A;refine G.aC o Aq (B9 n bg) fun v9 bA bo=>?_;obtain⟨aa,g9,bh,rfl,n,aM,T,aG,ax⟩:=bo;have aI:=ak.cb aE E.lt aM;have aU:=aF.al aK aM A.size;have E:=E.aA ax aE;have A:=A.bf ax (ag.bA aK (by intro k K;simp[K]));have bD:=ax.size;have aL:=n.aT;rw[<-aG]at E;obtain⟨bQ,bT,bP,bX,bm,bU,aA⟩:=n.eZ _ bh T;refine G.dc 6 o o aW<|G.aK o kW o9 o<|G.aG o (aA.bS.T.drop 0) pb nk qd o o<|G.O o (bu E.T w6 sN o)<|G.aC o E_ ((I_ aA.ar).mono (fun r X h=>n.put T aA h.2 h.1 (HV c bm) (fun i V=>⟨(az i V).1,(az i V).2⟩) bf)) ?_;rintro bE ad ⟨n,al⟩;have E:=E.aA al aI;have A:=A.bf al (ag.bA aU (by intro k K;simp[K]));have bF:=al.size;have aL:=n.aT;obtain⟨bl,bq,B,bw,bR,bV,F⟩:=n.eZ _ bh T;have bO:(D.c0 p).length<=D.log.length:=nD _ _;have C:W (aq [(bh+1),B]) ad ad:=W.refl _ _;have bk:gN aa (bh+1):=(n.lg F.rd a_);have bS:=F.bS;have bL:=bS.lt;have a1:ah vq33z H.size (bh+1):=ag.at (ag.bA aU (by intro k K;simp[K])) bk;have bt:=U.refl (bh+1) ad.size;have aB:gN aa B:=(n.mg F.rc a_);have aj:=(show aS B 124 _ (k9 g9.fb) 3 bw.v (D.c0 p)from F.aj);have a6:=aj.le;have a7:ah vq33z H.size B:=ag.at (ag.bA aU (by intro k K;simp[K])) aB;have aH:=U.refl B ad.size;have R:ai (bh+1) B:=fun x bM bc=>by have aP:=F.rc x bc;rw[show x=bh by omega,F.rd]at aP;cases aP
 refine G.cJ o (fun Q=>W (aq [B]) ad Q) [8,9,10] o ?_;have ac:W (aq [B]) ad ad:=W.refl _ _;refine N.bo 0 o ac ?_;refine N.bo 1 o ac ?_;refine N.bx 2 o ac ?_;refine N.t1 3 o (fun Q P=>M.fieldAddr (bS.aA P<|ak.J R).T o kW o o ot aO o) ac ?_;refine N.t1 4 o (fun Q P=>aY ((bS.aA P<|ak.J R).T.drop 2) w5) ac ?_;refine N.t1 5 o (fun Q P=>M.qD (E.aA P<|ak.J<|ak.at aI aB).T o w6 sN o o) ac ?_;refine N.ba 6 ?_;refine eP o (Z.cV<|c5 _ ([c]) G9 (qm) (tq)) ?_;rintro bK am ⟨ba,aQ,_⟩;have aR:=U.new ac.size;obtain⟨bS,aj,A,C,ac,_⟩:=d_ aQ bS aj A C ac;refine N.aN ac (ag.cons (ah.r<|U.refl B ad.size)<|ag.J<|ah.q aR) ?_;have ac:W (aq [B,(ad.size+1)]) am am:=W.refl _ _;have aN:=U.refl B am.size;refine N.ba 7 ?_;refine eP o (dd aj ba.rd G9 gm gm) ?_;rintro ae bC ⟨bj,aj,aw,O⟩;have O:=O.md;have aT:=ai.app R bS.lt aw;have ap:=U.al aH aw C.size;have aV:=U.al aN aw ac.size;have bS:=bS.aA O (ak.J R);have A:=A.bf O (ag.cons a7 ag.nil);obtain⟨C,ac,_⟩:=de O C (ah.r aH) ac (ah.r aN);have a6:=aj.le;refine N.aN ac (ag.cons (ah.r aV)<|ag.J<|ah.r<|U.refl (ad.size+1) am.size) ?_;refine N.ba 8 ?_;refine hH o mu (.inl o) ?_;refine N.ba 9 ?_;refine hH o (M.hh bS.T o kW o ot) (.inl o) ?_;refine N.ba 10 ?_;refine hX o (S.df bS 2 ([.map (some bl),.map (some bq),ae]) o o o aj.rd.sJ ot a_ o) ?_;rintro bB ⟨bS,L⟩;have L:=L.eU;obtain⟨aj,_⟩:=cz L aj aT.symm;have A:=A.bf L (ag.cons a1 ag.nil);obtain⟨C,_⟩:=cz L C (ah.r bt);refine⟨.inl o,?_⟩;refine G.dn aW ?_;obtain⟨bW,rfl⟩:∃s:ay,ae=s.v:=⟨ck ae,aj.a6.symm⟩;have aX:aF vq33z H.size (bj::aa):=(aF.app aU aB ap I);have n:=n.note T F C bS aj ap bd (fun i V=>(az i V).2);exact G.rt o ⟨_,_,o,n,aX,aG,A⟩
structure hP (n:Nat) (D:ao):Prop where
 dm:cX D.now
 gP:cX D.stays
 us:D.used<=2305843009213693952
 eT:D.log.length<=n
 op:D.ops<=n
 aL:∀i,(aM D.fs i).now.length<=n
 wQ:∀i,(aM D.fs i).stays.length<=n
 w:∀i,(aM D.fs i).w.length<=n
 wd:∀i,∀y∈(aM D.fs i).w,y.d.length<=n
 nl:D.now.length<=n
 jn:D.stays.length<=n
 aG:D.fs.length<=n
 y5:∀i j,(hs ((aM D.fs i).w.take j) (aM D.fs i).stays).length<=n
 iM:∀c∈D.log,∀i,c.f=some i->bI c.n=c.dir
def td(D:ao):D.begin.2.cap=D.cap/\D.begin.2.en=D.en/\D.begin.2.fs=D.fs/\D.begin.2.now=D.now/\D.begin.2.stays=D.stays/\D.begin.2.log=D.log/\D.begin.2.ops<=D.ops+1:=by
 unfold ao.begin;split;exact⟨o,o,o,o,o,o,nC _⟩;split;exact⟨o,o,o,o,o,o,nC _⟩;exact⟨o,o,o,o,o,o,dF _⟩
def q4{D:ao}(h:D.begin.1=true):D.begin.2.ops=D.ops+1/\D.begin.2.dead=false:=by
 unfold ao.begin at h⊢;split at h;cases h;rename_i k;split at h;cases h;rename_i n;rw[au k,au n];exact⟨o,by simpa using k⟩
def hP.mono{m:Nat}{D:ao}(h:hP n D)(hm:n<=m):hP m D:=⟨h.dm,h.gP,h.us,ev h.eT hm,ev h.op hm,fun i=>ev (h.aL i) hm,fun i=>ev (h.wQ i) hm,fun i=>ev (h.w i) hm,fun i y hy=>ev (h.wd i y hy) hm,ev h.nl hm,ev h.jn hm,ev h.aG hm,fun i j=>ev (h.y5 i j) hm,h.iM⟩
def hP.begin{D:ao}(h:hP n D):hP (n+1) D.begin.2:=by
 obtain⟨bc,C,k,r,A,B,E⟩:=td D;have h:=h.mono (nC n);exact⟨by rw[r];exact h.dm,by rw[A];exact h.gP,by unfold ao.used;rw[k,r];exact h.us,by rw[B];exact h.eT,by have:=hP.op ‹hP n D›;omega,by rw[k];exact h.aL,by rw[k];exact h.wQ,by rw[k];exact h.w,by rw[k];exact h.wd,by rw[r];exact h.nl,by rw[A];exact h.jn,by rw[k];exact h.aG,by rw[k];exact h.y5,by rw[B];exact h.iM⟩
def vY{D:ao}{p:av}(h:D.look p=0):cR p=true/\∃i,ax D.now p=some i:=by
 unfold ao.look at h;cases ar:cR p with
 |false=>rw[ar]at h;simp at h
 |true=>
  rw[ar]at h;cases k:ax D.now p with
  |none=>rw[k]at h;simp at h
  |some i=>exact⟨o,i,o⟩
def QC{D:ao}{p:av}(h:D.look p=2):cR p=true/\ax D.now p=none:=by
 unfold ao.look at h;cases ar:cR p with
 |false=>rw[ar]at h;simp at h
 |true=>
  rw[ar]at h;cases k:ax D.now p with
  |none=>exact⟨o,o⟩
  |some i=>rw[k]at h;simp at h
def QD{D:ao}{p:av}(h:D.look p=7):cR p=false:=by
 unfold ao.look at h;cases ar:cR p with
 |false=>rfl
 |true=>
  rw[ar]at h;cases k:ax D.now p with
  |none=>rw[k]at h;simp at h
  |some i=>rw[k]at h;simp at h
def QE(D:ao)(p:av):D.look p=0\/D.look p=2\/D.look p=7:=by
 unfold ao.look;split;split;exact .inl o;exact .inr (.inl o);exact .inr (.inr o)
def rC(w:cn)(b:List UInt8):(w.on b w.d.length).length=(if w.b=true then b.length else 0)+w.d.length:=by
 unfold cn.on;rw[b2,eC,Nat.min_self];split<;>rfl
def oO{D:ao}{i:Nat}{x:fg}(h:i<D.fs.length):aM (D.fk i x).fs i=x:=by simp[aM,ao.fk,List.getD,h]
def re{D:ao}{i:Nat}{x:fg}:(D.fk i x).fs.length=D.fs.length:=by simp[ao.fk]
def wA{D:ao}{i:Nat}{x y:fg}:(D.fk i x).fk i y=D.fk i y:=by simp[ao.fk]
def yA{D:ao}{p:av}{w:cn}(h:D.begin.1=false):D.lay p w=(11,D.begin.2):=by unfold ao.lay;simp[h]
def BT{D:ao}{p:av}{w:cn}(h:D.begin.1=true):D.lay p w=(D.begin.2.iL p w,if D.begin.2.iL p w=0 then D.begin.2.write p w else D.begin.2):=by unfold ao.lay;simp[h]
def Hx{D:ao}{p:av}{w:cn}(h:cR p=false):D.iL p w=7:=by unfold ao.iL;rw[aD h]
def BR{D:ao}{p:av}{w:cn}(h:cR p=true)(k:D.en<(w.on (D.dO p) w.d.length).length):D.iL p w=5:=by unfold ao.iL;rw[au (by simp[h]),aD k]
def BQ{D:ao}{p:av}{w:cn}(h:cR p=true)(k:¬D.en<(w.on (D.dO p) w.d.length).length)(n:D.cap+(D.dO p).length<D.used+(w.on (D.dO p) w.d.length).length):D.iL p w=12:=by unfold ao.iL;rw[au (by simp[h]),au k,aD n]
def BP{D:ao}{p:av}{w:cn}(h:cR p=true)(k:¬D.en<(w.on (D.dO p) w.d.length).length)(n:¬D.cap+(D.dO p).length<D.used+(w.on (D.dO p) w.d.length).length):D.iL p w=0:=by unfold ao.iL;rw[au (by simp[h]),au k,au n]
def pd{D:ao}{p:av}{i:Nat}(h:ax D.now p=some i):D.dO p=(aM D.fs i).now:=by unfold ao.dO;rw[h]
def uJ{D:ao}{p:av}(h:ax D.now p=none):D.dO p=[]:=by unfold ao.dO;rw[h]
def DU{D:ao}{p:av}{i:Nat}{w:cn}(h:ax D.now p=some i)(k:i<D.fs.length):
 (D.fk i ⟨w.on (D.dO p) w.d.length,(aM D.fs i).stays,(aM D.fs i).w⟩).fk i ⟨(aM (D.fk i ⟨w.on (D.dO p) w.d.length,(aM D.fs i).stays,(aM D.fs i).w⟩).fs i).now,(aM (D.fk i ⟨w.on (D.dO p) w.d.length,(aM D.fs i).stays,(aM D.fs i).w⟩).fs i).stays,(aM (D.fk i ⟨w.on (D.dO p) w.d.length,(aM D.fs i).stays,(aM D.fs i).w⟩).fs i).w++[w]⟩=D.write p w:=by
 rw[oO k,wA,pd h];unfold ao.write ao.make;rw[h]
def hE(D:ao)(p:av):ao:=({D with fs:=D.fs++[⟨[],[],[]⟩]}:ao).change ⟨[],p,some D.fs.length⟩
def wb(D:ao)(p:av):aM (hE D p).fs D.fs.length=⟨[],[],[]⟩:=by simp[hE,ao.change,aM,List.getD]
def t_(D:ao)(p:av):D.fs.length<(hE D p).fs.length:=by simp[hE,ao.change]
def DT{D:ao}{p:av}{w:cn}(h:ax D.now p=none):
 ((hE D p).fk D.fs.length ⟨w.on (aM (hE D p).fs D.fs.length).now w.d.length,(aM (hE D p).fs D.fs.length).stays,(aM (hE D p).fs D.fs.length).w⟩).fk D.fs.length ⟨(aM ((hE D p).fk D.fs.length ⟨w.on (aM (hE D p).fs D.fs.length).now w.d.length,(aM (hE D p).fs D.fs.length).stays,(aM (hE D p).fs D.fs.length).w⟩).fs D.fs.length).now,(aM ((hE D p).fk D.fs.length ⟨w.on (aM (hE D p).fs D.fs.length).now w.d.length,(aM (hE D p).fs D.fs.length).stays,(aM (hE D p).fs D.fs.length).w⟩).fs D.fs.length).stays,(aM ((hE D p).fk D.fs.length ⟨w.on (aM (hE D p).fs D.fs.length).now w.d.length,(aM (hE D p).fs D.fs.length).stays,(aM (hE D p).fs D.fs.length).w⟩).fs D.fs.length).w++[w]⟩=D.write p w:=by
 rw[oO (t_ D p),wA];unfold ao.write ao.make;rw[h];rfl
def Hy{g:da}{b:Nat}{D:ao}{p:av}{x:kr}{w0:World}(n:bH vq33z g V b D)(aV:gL vq24z V)(cC:bk (fun b=>b=0) V.size)(e2:aB (fun b=>b=0) vq33z)(ab:Rd F V a7 1 x.2.v x.1.d)(dH:bk F V.size)(cL:aB F vq33z)(cV:p.length<=4294967280)(cN:hP 274877906944 D)(fg:x.1.d.length<=274877906944):
 a8 prog w0 174 #[ptr b,aJ p,uI x] V (fun r cm=>∃cp:List Nat,∃g2:da,r= .int .i64 ((D.lay p x.1).1:Int)/\bH cp g2 cm b (D.lay p x.1).2/\aF vq33z V.size cp/\W (aq vq33z) V cm):=by
 refine G.bc vq33z func174 o fun A=>?_;have aR:=aF.refl vq33z V.size;have aH:=n.aT;have fj:=cN.op;have fh:=n.lM;obtain⟨D1,bG⟩:∃D1,D1=D.begin.2:=⟨_,o⟩;have ba:=cN.begin;rw[<-bG]at ba;refine G.aR o (Z.bT<|m7 x) ?_;rintro v5 e6 ⟨rfl,B,dP,_⟩;have bm:=ak.gf n.aT;have cI:=U.new A.size;obtain⟨n,aV,ab,A,_⟩:=dZ dP n aV ab A;refine G.aC o xr (xk (vq33z:=vq33z) (g:=g) (b:=b) (D:=D) (w0:=w0) n I) ?_;rintro ds e9 ⟨g1,rfl,n,dQ,bo⟩;have aV:=aV.aA bo e2;have ab:=ab.aA bo cL;have B:=B.aA bo bm;have A:=A.bf bo (ag.bA aR (by intro k al;simp[al]));have e_:=bo.size;rw[<-bG]at n;refine G.O o e7<|G.ci o ?_ ?_<;>intro cA;refine G.rt o ?_;have cO:=yA (p:=p) (w:=x.1) (show D.begin.1=false by simpa using cA);exact⟨_,_,by rw[cO]<;>rfl,by rw[cO];rw[bG]at n;exact n,aR,A⟩;have cU:D.begin.1=true:=by simpa using cA
 have eU:=(q4 cU).1;rw[<-bG]at eU;have cW:=QE D1 p;have az:=BT (p:=p) (w:=x.1) cU;rw[<-bG]at az;refine G.aC o xq (xU (vq24z:=vq24z) (vq33z:=vq33z) (g:=g1) (b:=b) (D:=D1) (p:=p) (w0:=w0) aV (cC.mono I) n cV) ?_;rintro ho aI ⟨rfl,dC⟩;obtain⟨n,aV,ab,B,A,_⟩:=d_ dC n aV ab B A;refine G.ip o ?_ ?_<;>intro eY;refine G.rt o ?_;have aA:D1.iL p x.1=7:=Hx (QD (D:=D1) I);exact⟨_,_,by rw[az,aA];rw[show D1.look p=7 by omega]<;>rfl,by rw[az];simp only[aA];exact n,aR,A⟩;refine G.ae 2 o nN<|G.ci o ?_ ?_<;>intro a9;have bK:D1.look p=2:=by
  rcases cW with h|h|h;obtain⟨_,i,b6⟩:=vY h;rw[aD h,b6]at a9;cases a9;exact h;omega
 obtain⟨bj,aT⟩:=QC bK;have T:=uJ aT;have fk:(D1.dO p).length=0:=by rw[T];rfl
 refine G.O o (M.build (v:= .agg #[.slice none 0 0,.slice none 0 0,.slice none 0 0]) o o eN)<|G.aR o (Z.bT ([.slice none 0 0,.slice none 0 0,.slice none 0 0])) ?_;rintro fa b2 ⟨rfl,eL,dD,_⟩;have iI:=ak.gf n.aT;have eE:=aw.new (dH.mono A.size);have eF:=ai.new B.lt;have eG:=U.new A.size;obtain⟨n,aV,ab,B,A,_⟩:=d_ dD n aV ab B A;refine G.aG o B.T mU cZ eI o o<|G.O o (bz ab c_) ?_
 refine G.bw 0 o (fun(sz:Nat)=>[(0,ptr b),(1,aJ p),(5,.pointer (some ⟨V.size,0,none⟩)),(7,ptr aI.size),(8,.int .i64 (D1.look p:Int)),(9,.int .i64 (0)),(10,.int .i64 (sz:Int))])
  (fun(sz:Nat) (H:Heap)=>(sz=(x.1.on (D1.dO p) x.1.d.length).length)/\(D1.dO p).length<=274877906945/\an b2 H) (fun _ cy=>?_) ?_
 have cq:an b2 b2:=W.refl _ _;refine G.aG o B.T mU c8 eW o o<|G.ci o ?_ ?_<;>intro bA;exact G.O o bB<|G.aQ o<|cy ((D1.dO p).length+x.1.d.length) _ ⟨by rw[rC,aD bA],by first|(rw[T];omega)|(rw[T];simp),cq⟩;exact G.aQ o<|cy x.1.d.length _ ⟨by rw[rC,au (by simpa using bA)];omega,by first|(rw[T];omega)|(rw[T];simp),cq⟩;intro sz bC ap;obtain⟨b8,e0,am⟩:=ap;obtain⟨n,aV,ab,B,eL,A,_⟩:=f_ am n aV ab B eL A;have eZ:=ba.us;have eX:sz<=274877906945+274877906944:=by rw[b8,rC];split<;>omega
 refine G.aG o n.cr.T iz bV cQ o o<|G.ip o ?_ ?_<;>intro dE;refine G.rt o ?_;have aA:D1.iL p x.1=5:=BR bj I;exact⟨_,_,by rw[az,aA]<;>rfl,by rw[az];simp only[aA];exact n,aR,A⟩;refine G.cJ o (fun E=>an bC E) [] o ?_;have R:=an.refl bC;refine N.bo 0 o R ?_;refine N.bo 2 o R ?_;refine N.bo 4 o R ?_;refine N.bo 6 o R ?_;refine N.bx 7 o R ?_;refine N.aK 8 iz bV R ?_;refine N.t1 9 o (fun E C=>aY ((n.cr.T.drop 0).aL C) cQ) R ?_;refine N.ba 1 ?_;refine cK E3 (KJ (b:=b) (D:=D1) (w0:=w0) n ba.dm I) ?_;rintro eJ b4 ⟨rfl,bq⟩;obtain⟨n,aV,ab,B,eL,A,_⟩:=f_ bq n aV ab B eL A;have bQ:=R.al bq;refine N.cx bQ ?_;have aQ:=an.refl b4;refine N.t1 3 o (fun E C=>eA) aQ ?_;refine N.t1 5 o (fun E C=>bB) aQ ?_;refine N.t1 10 o (fun E C=>jY) aQ ?_;refine N.t1 11 o (fun E C=>fl) aQ ?_;refine G.dn aW ?_;have eV:=aQ;refine G.ip o ?_ ?_<;>intro bX;refine G.rt o ?_;have aA:D1.iL p x.1=12:=BQ bj I I;exact⟨_,_,by rw[az,aA]<;>rfl,by rw[az];simp only[aA];exact n,aR,A⟩;refine G.ip o ?_ ?_<;>intro c4;have eR:=n.len;refine G.aC o th (tp (mx_:=vq24z) (l:=p) (w0:=w0) aV (cC.mono I) cV) ?_;rintro fc fe ⟨rfl,db⟩;obtain⟨n,ab,B,eL,A,_⟩:=d_ db n ab B eL A;refine G.O o (M.cast (v2:= .agg (k9 (g1.fb++[aI.size]) ⟨[],p,some D1.fs.length⟩).toArray) (M.build (v:= .agg #[aJ [],aJ p,ptr aI.size]) o o eN) (by simp[k9,lQ,List.getD,<-n.len])) ?_;have dc:=aB.cons eE cL;have dB:ak (V.size+1) ((aI.size+1)::vq33z):=ak.cons eF bm;have be:=aF.cons eG aR;have n:=n.Cr eL iI;have aH:=n.aT;refine G.aC o EX (Fz (vq33z:=((aI.size+1)::vq33z)) (g:={g1 with ρ:=gC g1.ρ aI.size (.dE D1.fs.length),fb:=g1.fb++[aI.size]}) (b:=b) (D:={D1 with fs:=D1.fs++[⟨[],[],[]⟩]}) (bI p) ⟨[],p,some D1.fs.length⟩ w0 n (by show g1.bj.length+1<=D1.ops;rw[dQ.2.2.2];omega) (by simp[dy.dir]) (fun i b6=>by cases b6;exact⟨o,by simp⟩) (fun h=>absurd o h) (by have:=ba.eT;show D1.log.length<=_;omega)) fun ff eK dl=>?_;have df:=B.lt;obtain⟨aX,b1,rfl,n,cr,dG,bL⟩:=dl;have bT:=ak.cb dB df cr;have c7:=aF.al be cr A.size;have ab:=ab.aA bL dc;have B:=B.aA bL dB;have A:=A.bf bL (ag.bA be (by intro k al;simp[al]));have e8:=bL.size;have aH:=n.aT;obtain⟨i,bl⟩:∃i,i=D1.fs.length:=⟨_,o⟩;have aK:i<(hE D1 p).fs.length:=by rw[bl];exact t_ D1 p
 have eQ:b1.fb.getD i 0=aI.size:=by rw[dG,bl];simp[List.getD,<-eR]
 obtain⟨bi,aa,a1⟩:∃bi,b1.fb.getD i 0=bi/\ptr aI.size=ptr bi:=⟨_,eQ,o⟩;have b7:(aM (hE D1 p).fs i).now=D1.dO p:=by rw[bl,wb,T]
 have b9:(aM (hE D1 p).fs i).w.length<=274877906945:=by rw[bl,wb];simp
 have n:bH aX b1 eK b (hE D1 p):=n;refine G.aG o B.T mU cZ eI o o<|G.aC o tk (ta x.1.d (w0:=w0) ab.any I) ?_;rintro dn eM ⟨bc,bd,rfl,ac,bg,bU⟩;have cD:ak bd aX:=ak.ia ak.gv n.aT bg;have eg:=ai.app ai.z B.lt bg;have eh:=U.al (U.refl 0 _) bg A.size;obtain⟨n,B,A,_⟩:=cg bU n B A;have c1:=ac.le;refine G.aK o mU cZ o<|G.bl o (S.df B 1 ([.bool x.1.b,bc.v]) o o o o cZ a_ o) ?_;rintro aE ⟨B,bf⟩;have bf:=bf.eU;obtain⟨n,ac,A,_⟩:=dg bf n (fL bT) ac eg.symm A (ah.q cI);obtain⟨cd,ch,cl,e1,e3,a6⟩:=n.dE i aK;have O:W (aq [(bi+1)]) aE aE:=W.refl _ _;have b_:gN aX (bi+1):=(n.rq a6 aa);have K:=a6.mC aa;have bZ:=K.lt;have ce:=ak.at bT b_;have ei:=ak.at cD b_;have ej:ah vq33z V.size (bi+1):=ag.at (ag.bA c7 (by intro k al;simp[al])) b_;have gG:=U.refl (bi+1) aE.size;refine G.cJ o (fun E=>an aE E) [11,12,13,14] o ?_;have L:an aE aE:=W.refl _ _;refine N.t1 0 o (fun E C=>M.cast (v2:=ptr bi) gh a1) L ?_;refine N.t1 1 o (fun E C=>bu (B.T.aL C) m0 lq o) L ?_;refine N.t1 2 o (fun E C=>M.cast (v2:=ptr bi) gh a1) L ?_;refine N.bx 3 o L ?_;refine N.aK 4 ke ou L ?_;refine N.aK 5 oB cZ L ?_;refine N.t1 6 o (fun E C=>aY (K.T.aL C) eI) L ?_;refine N.aK 7 mU cZ L ?_;refine N.t1 8 o (fun E C=>aY ((B.T.drop 1).aL C) eI) L ?_;refine N.t1 9 o (fun E C=>bz (ac.rd.aL C) c_) L ?_;refine N.ba 10 ?_;refine cK tm (uf (x:=(x.1,bc)) (sb:=cd) x.1.d.length (w0:=w0) ac.rd.any a6.ar.any (dF _) (by rw[b7];omega)) ?_;rintro eO ci ⟨b5,X,rfl,aZ,aG,bW⟩;have en:=ai.app ai.z B.lt aG;have aC:=ai.app ai.z ac.le aG;have ep:=ai.app ai.z K.lt aG;have er:=U.al (U.refl 0 _) aG A.size;have co:=U.al (U.refl 0 _) aG O.size;have et:=U.al (U.refl 0 _) aG L.size;obtain⟨B,ac,K,A,O,L,_⟩:=f_ bW B ac K A O L;have c3:=aZ.le;refine⟨.inr L,N.narrow (SH2:=fun E=>W (aq [X]) ci E) (fun E C=>(W.bf (ks:=[]) (L.nE []) C (ag.J (ah.q et))).nil) ?_⟩;refine N.ba 11 ?_;refine hH o mu (.inl o) ?_;refine N.ba 12 ?_;refine hH o (M.hh K.T o ke o ou) (.inl o) ?_;refine N.ba 13 ?_;refine hH o (M.hh K.T o oB o cZ) (.inl o) ?_;refine N.ba 14 ?_;refine hX o (S.df K 0 ([b5.v,ch.v,cl.v]) o o o o cZ a_ o) ?_;rintro P ⟨K,aN⟩;have aN:=aN.eU;obtain⟨B,ac,aZ,_⟩:=dg aN B ce ac ei aZ ep.symm;have A:=A.bf aN (ag.cons ej ag.nil);obtain⟨O,_⟩:=cz aN O (ah.r gG);refine⟨.inl o,?_⟩;refine G.dn aW ?_;have eu:ak (V.size+1) (X::aX):=(ak.cons en bT);have bY:ak bd (X::aX):=(ak.cons aC cD);have a0:aF vq33z V.size (X::aX):=(aF.cons er c7);have n:=n.GS aK a6 aa O K aZ (ak.ud n.aT co);have aH:=n.aT;have bh:=aK;rw[<-re]at bh;obtain⟨cf,cj,e5,Q,cc,ae⟩:=n.dE i bh;have eS:cc.length<=274877906945:=by have bF:=bn List.length ae.lw;rw[dK,oO aK]at bF;rw[bF];exact b9
 have O:W (aq [(bi+1),Q]) P P:=W.refl _ _;have cY:gN (X::aX) (bi+1):=(n.rq ae aa);have K:=ae.mC aa;have bZ:=K.lt;have cs:=ak.at bY cY;have ev:ah vq33z V.size (bi+1):=ag.at (ag.bA a0 (by intro k al;simp[al])) cY;have bw:=U.refl (bi+1) P.size;have bP:gN (X::aX) Q:=(n.mg ae.hl a_);have hw:=ae.hw;have b0:=hw.le;have fO:=ak.at eu bP;have cE:=ak.at bY bP;have ey:ah vq33z V.size Q:=ag.at (ag.bA a0 (by intro k al;simp[al])) bP;have cF:=U.refl Q P.size;have bM:ai (bi+1) Q:=ae.ne aa;refine G.cJ o (fun E=>W (aq [Q]) P E) [8,9,10] o ?_;have ad:W (aq [Q]) P P:=W.refl _ _;have ez:=U.refl Q P.size;refine N.t1 0 o (fun E C=>M.cast (v2:=ptr bi) gh a1) ad ?_;refine N.t1 1 o (fun E C=>M.cast (v2:=ptr bi) gh a1) ad ?_;refine N.bx 2 o ad ?_;refine N.t1 3 o (fun E C=>M.fieldAddr (K.aA C<|ak.J bM).T o ke o o nH aO o) ad ?_;refine N.t1 4 o (fun E C=>aY ((K.aA C<|ak.J bM).T.drop 2) uV) ad ?_;refine N.t1 5 o (fun E C=>M.qD (B.aA C<|ak.J fO).T o m0 lq o o) ad ?_;refine N.ba 6 ?_;refine eP o (c5 _ ([(x.1,bc)]) x6 mb sg) ?_;rintro hK aL ⟨a2,a3,eC,a4⟩;have bD:aL.size=P.size+1:=by rw[a4];simp
 have eD:=U.new ad.size;obtain⟨ac,K,hw,A,O,ad,_⟩:=f_ a3 ac K hw A O ad;refine N.aN ad (ag.cons (ah.r ez)<|ag.J<|ah.q eD) ?_;have ad:W (aq [Q,(P.size+1)]) aL aL:=W.refl _ _;have cG:=U.refl Q aL.size;have dS:=U.refl (P.size+1) aL.size;refine N.ba 7 ?_;refine eP o (dd hw a2.rd x6 gm gm) ?_;rintro a5 dT ⟨cb,hw,bt,aU⟩;have aU:=aU.md;have dU:=ai.app cE ac.le bt;have dV:=ai.app bM K.lt bt;have c9:=U.al cF bt O.size;have dW:=U.al cG bt ad.size;obtain⟨ac,K,_⟩:=de aU ac cE K bM;have A:=A.bf aU (ag.cons ey ag.nil);obtain⟨O,ad,_⟩:=de aU O (ah.r cF) ad (ah.r cG);have b0:=hw.le;refine N.aN ad (ag.cons (ah.r dW)<|ag.J<|ah.r dS) ?_;refine N.ba 8 ?_;refine hH o mu (.inl o) ?_;refine N.ba 9 ?_;refine hH o (M.hh K.T o ke o nH) (.inl o) ?_;refine N.ba 10 ?_;refine hX o (S.df K 2 ([cf.v,cj.v,a5]) o o o hw.rd.sJ nH a_ o) ?_;rintro c0 ⟨K,aP⟩;have aP:=aP.eU;obtain⟨ac,hw,_⟩:=de aP ac cs hw dV.symm;have A:=A.bf aP (ag.cons ev ag.nil);obtain⟨O,_⟩:=cz aP O (ah.r bw);refine⟨.inl o,?_⟩;refine G.dn aW ?_;obtain⟨e4,rfl⟩:∃s:ay,a5=s.v:=⟨ck a5,hw.a6.symm⟩;have dX:aF vq33z V.size (bd::(cb::(X::aX))):=(aF.cons eh ((aF.app a0 bP c9 I)));have n:=n.GX bh ae aa O K hw c9 ac (ak.cons dU bY);have aH:=n.aT;refine G.rt o ?_;have bE:D1.iL p x.1=0:=BP bj I I;exact⟨_,_,by rw[az,bE]<;>rfl,by rw[az];simp only[bE,if_true];first|(rw[<-DU aT aK];rw[<-T]at n;exact n)|(rw[<-DT aT];subst bl;exact n),dX,A⟩;exfalso;omega;have bK:D1.look p=0:=by
  rcases cW with h|h|h;exact h;rw[au I]at a9;cases a9;omega
 obtain⟨bj,i,aT⟩:=vY bK;have aK:=n.ids.1 p i aT;have T:=pd aT;obtain⟨bi,aa,a1⟩:∃bi,g1.fb.getD i 0=bi/\ .pointer (lQ g1.fb (if D1.look p=0 then ax D1.now p else none))=ptr bi:=⟨_,o,by rw[aD bK,aT]<;>rfl⟩;have b7:=T.symm;have eT:=ba.aL i;have fm:(D1.dO p).length<=274877906945:=by rw[T];exact eT
 have b9:=ba.w i;obtain⟨fq,ft,fu,fo,fp,cP⟩:=n.dE i aK;refine G.ae 0 o (M.cast (v2:=fX g1.fb i) gh (by rw[aD bK,aT]<;>rfl))<|G.aK o ke ou o<|G.aG o (cP.eL.T.drop 0) oB cZ eI o o<|G.O o (M.cast (v2:= .int .i64 ((D1.dO p).length:Int)) (bz cP.ar c_) (by rw[T]))<|G.aG o B.T mU cZ eI o o<|G.O o (bz ab c_) ?_
 refine G.bw 0 o (fun(sz:Nat)=>[(0,ptr b),(1,aJ p),(5,.pointer (some ⟨V.size,0,none⟩)),(7,.pointer (lQ g1.fb (if D1.look p=0 then ax D1.now p else none))),(8,.int .i64 (D1.look p:Int)),(9,.int .i64 ((D1.dO p).length:Int)),(10,.int .i64 (sz:Int))])
  (fun(sz:Nat) (H:Heap)=>(sz=(x.1.on (D1.dO p) x.1.d.length).length)/\(D1.dO p).length<=274877906945/\an aI H) (fun _ cH=>?_) ?_
 have ct:an aI aI:=W.refl _ _;refine G.aG o B.T mU c8 eW o o<|G.ci o ?_ ?_<;>intro bA;exact G.O o bB<|G.aQ o<|cH ((D1.dO p).length+x.1.d.length) _ ⟨by rw[rC,aD bA],by first|(rw[T];omega)|(rw[T];simp),ct⟩;exact G.aQ o<|cH x.1.d.length _ ⟨by rw[rC,au (by simpa using bA)];omega,by first|(rw[T];omega)|(rw[T];simp),ct⟩;intro sz bC ap;obtain⟨b8,e0,am⟩:=ap;obtain⟨n,ab,B,A,_⟩:=dZ am n ab B A;have eZ:=ba.us;have eX:sz<=274877906945+274877906944:=by rw[b8,rC];split<;>omega
 refine G.aG o n.cr.T iz bV cQ o o<|G.ip o ?_ ?_<;>intro dE;refine G.rt o ?_;have aA:D1.iL p x.1=5:=BR bj I;exact⟨_,_,by rw[az,aA]<;>rfl,by rw[az];simp only[aA];exact n,aR,A⟩;refine G.cJ o (fun E=>an bC E) [] o ?_;have R:=an.refl bC;refine N.bo 0 o R ?_;refine N.bo 2 o R ?_;refine N.bo 4 o R ?_;refine N.bo 6 o R ?_;refine N.bx 7 o R ?_;refine N.aK 8 iz bV R ?_;refine N.t1 9 o (fun E C=>aY ((n.cr.T.drop 0).aL C) cQ) R ?_;refine N.ba 1 ?_;refine cK E3 (KJ (b:=b) (D:=D1) (w0:=w0) n ba.dm I) ?_;rintro eJ b4 ⟨rfl,bq⟩;obtain⟨n,ab,B,A,_⟩:=dZ bq n ab B A;have bQ:=R.al bq;refine N.cx bQ ?_;have aQ:=an.refl b4;refine N.t1 3 o (fun E C=>eA) aQ ?_;refine N.t1 5 o (fun E C=>bB) aQ ?_;refine N.t1 10 o (fun E C=>jY) aQ ?_;refine N.t1 11 o (fun E C=>fl) aQ ?_;refine G.dn aW ?_;have eV:=aQ;refine G.ip o ?_ ?_<;>intro bX;refine G.rt o ?_;have aA:D1.iL p x.1=12:=BQ bj I I;exact⟨_,_,by rw[az,aA]<;>rfl,by rw[az];simp only[aA];exact n,aR,A⟩;refine G.ip o ?_ ?_<;>intro c4;exfalso;omega;refine G.aG o B.T mU cZ eI o o<|G.aC o tk (ta x.1.d (w0:=w0) ab.any I) ?_;rintro dn eM ⟨bc,bd,rfl,ac,bg,bU⟩;have bs:ak bd vq33z:=ak.ia ak.gv n.aT bg;have dY:=ai.app ai.z B.lt bg;have ea:=U.al (U.refl 0 _) bg A.size;obtain⟨n,B,A,_⟩:=cg bU n B A;have c1:=ac.le;refine G.aK o mU cZ o<|G.bl o (S.df B 1 ([.bool x.1.b,bc.v]) o o o o cZ a_ o) ?_;rintro aE ⟨B,bf⟩;have bf:=bf.eU;obtain⟨n,ac,A,_⟩:=dg bf n (fL bm) ac dY.symm A (ah.q cI);obtain⟨cd,ch,cl,e1,e3,a6⟩:=n.dE i aK;have O:W (aq [(bi+1)]) aE aE:=W.refl _ _;have ca:gN vq33z (bi+1):=(n.rq a6 aa);have K:=a6.mC aa;have bZ:=K.lt;have ec:=ak.at bm ca;have ed:=ak.at bs ca;have ee:ah vq33z V.size (bi+1):=ag.at (ag.bA aR (by intro k al;simp[al])) ca;have ef:=U.refl (bi+1) aE.size;refine G.cJ o (fun E=>an aE E) [11,12,13,14] o ?_;have L:an aE aE:=W.refl _ _;refine N.t1 0 o (fun E C=>M.cast (v2:=ptr bi) gh a1) L ?_;refine N.t1 1 o (fun E C=>bu (B.T.aL C) m0 lq o) L ?_;refine N.t1 2 o (fun E C=>M.cast (v2:=ptr bi) gh a1) L ?_;refine N.bx 3 o L ?_;refine N.aK 4 ke ou L ?_;refine N.aK 5 oB cZ L ?_;refine N.t1 6 o (fun E C=>aY (K.T.aL C) eI) L ?_;refine N.aK 7 mU cZ L ?_;refine N.t1 8 o (fun E C=>aY ((B.T.drop 1).aL C) eI) L ?_;refine N.t1 9 o (fun E C=>bz (ac.rd.aL C) c_) L ?_;refine N.ba 10 ?_;refine cK tm (uf (x:=(x.1,bc)) (sb:=cd) x.1.d.length (w0:=w0) ac.rd.any a6.ar.any (dF _) (by rw[b7];omega)) ?_;rintro eO ci ⟨b5,X,rfl,aZ,aG,bW⟩;have dI:=ai.app ai.z B.lt aG;have dJ:=ai.app ai.z ac.le aG;have dM:=ai.app ai.z K.lt aG;have dN:=U.al (U.refl 0 _) aG A.size;have dO:=U.al (U.refl 0 _) aG O.size;have dh:=U.al (U.refl 0 _) aG L.size;obtain⟨B,ac,K,A,O,L,_⟩:=f_ bW B ac K A O L;have c3:=aZ.le;refine⟨.inr L,N.narrow (SH2:=fun E=>W (aq [X]) ci E) (fun E C=>(W.bf (ks:=[]) (L.nE []) C (ag.J (ah.q dh))).nil) ?_⟩;refine N.ba 11 ?_;refine hH o mu (.inl o) ?_;refine N.ba 12 ?_;refine hH o (M.hh K.T o ke o ou) (.inl o) ?_;refine N.ba 13 ?_;refine hH o (M.hh K.T o oB o cZ) (.inl o) ?_;refine N.ba 14 ?_;refine hX o (S.df K 0 ([b5.v,ch.v,cl.v]) o o o o cZ a_ o) ?_;rintro P ⟨K,aN⟩;have aN:=aN.eU;obtain⟨B,ac,aZ,_⟩:=dg aN B ec ac ed aZ dM.symm;have A:=A.bf aN (ag.cons ee ag.nil);obtain⟨O,_⟩:=cz aN O (ah.r ef);refine⟨.inl o,?_⟩;refine G.dn aW ?_;have di:ak (V.size+1) (X::vq33z):=(ak.cons dI bm);have bR:ak bd (X::vq33z):=(ak.cons dJ bs);have bS:aF vq33z V.size (X::vq33z):=(aF.cons dN aR);have n:=n.GS aK a6 aa O K aZ (ak.ud n.aT dO);have aH:=n.aT;have bh:=aK;rw[<-re]at bh;obtain⟨cf,cj,e5,Q,cc,ae⟩:=n.dE i bh;have eS:cc.length<=274877906945:=by have bF:=bn List.length ae.lw;rw[dK,oO aK]at bF;rw[bF];exact b9
 have O:W (aq [(bi+1),Q]) P P:=W.refl _ _;have cX:gN (X::vq33z) (bi+1):=(n.rq ae aa);have K:=ae.mC aa;have bZ:=K.lt;have dj:=ak.at bR cX;have dk:ah vq33z V.size (bi+1):=ag.at (ag.bA bS (by intro k al;simp[al])) cX;have dp:=U.refl (bi+1) P.size;have bO:gN (X::vq33z) Q:=(n.mg ae.hl a_);have hw:=ae.hw;have b0:=hw.le;have dq:=ak.at di bO;have cu:=ak.at bR bO;have dr:ah vq33z V.size Q:=ag.at (ag.bA bS (by intro k al;simp[al])) bO;have cv:=U.refl Q P.size;have bN:ai (bi+1) Q:=ae.ne aa;refine G.cJ o (fun E=>W (aq [Q]) P E) [8,9,10] o ?_;have ad:W (aq [Q]) P P:=W.refl _ _;have dt:=U.refl Q P.size;refine N.t1 0 o (fun E C=>M.cast (v2:=ptr bi) gh a1) ad ?_;refine N.t1 1 o (fun E C=>M.cast (v2:=ptr bi) gh a1) ad ?_;refine N.bx 2 o ad ?_;refine N.t1 3 o (fun E C=>M.fieldAddr (K.aA C<|ak.J bN).T o ke o o nH aO o) ad ?_;refine N.t1 4 o (fun E C=>aY ((K.aA C<|ak.J bN).T.drop 2) uV) ad ?_;refine N.t1 5 o (fun E C=>M.qD (B.aA C<|ak.J dq).T o m0 lq o o) ad ?_;refine N.ba 6 ?_;refine eP o (c5 _ ([(x.1,bc)]) x6 mb sg) ?_;rintro hK aL ⟨a2,a3,eC,a4⟩;have bD:aL.size=P.size+1:=by rw[a4];simp
 have du:=U.new ad.size;obtain⟨ac,K,hw,A,O,ad,_⟩:=f_ a3 ac K hw A O ad;refine N.aN ad (ag.cons (ah.r dt)<|ag.J<|ah.q du) ?_;have ad:W (aq [Q,(P.size+1)]) aL aL:=W.refl _ _;have cw:=U.refl Q aL.size;have dv:=U.refl (P.size+1) aL.size;refine N.ba 7 ?_;refine eP o (dd hw a2.rd x6 gm gm) ?_;rintro a5 dT ⟨cb,hw,bt,aU⟩;have aU:=aU.md;have dw:=ai.app cu ac.le bt;have dx:=ai.app bN K.lt bt;have cx:=U.al cv bt O.size;have dz:=U.al cw bt ad.size;obtain⟨ac,K,_⟩:=de aU ac cu K bN;have A:=A.bf aU (ag.cons dr ag.nil);obtain⟨O,ad,_⟩:=de aU O (ah.r cv) ad (ah.r cw);have b0:=hw.le;refine N.aN ad (ag.cons (ah.r dz)<|ag.J<|ah.r dv) ?_;refine N.ba 8 ?_;refine hH o mu (.inl o) ?_;refine N.ba 9 ?_;refine hH o (M.hh K.T o ke o nH) (.inl o) ?_;refine N.ba 10 ?_;refine hX o (S.df K 2 ([cf.v,cj.v,a5]) o o o hw.rd.sJ nH a_ o) ?_;rintro c0 ⟨K,aP⟩;have aP:=aP.eU;obtain⟨ac,hw,_⟩:=de aP ac dj hw dx.symm;have A:=A.bf aP (ag.cons dk ag.nil);obtain⟨O,_⟩:=cz aP O (ah.r dp);refine⟨.inl o,?_⟩;refine G.dn aW ?_;obtain⟨e4,rfl⟩:∃s:ay,a5=s.v:=⟨ck a5,hw.a6.symm⟩;have dA:aF vq33z V.size (bd::(cb::(X::vq33z))):=(aF.cons ea ((aF.app bS bO cx I)));have n:=n.GX bh ae aa O K hw cx ac (ak.cons dw bR);have aH:=n.aT;refine G.rt o ?_;have bE:D1.iL p x.1=0:=BP bj I I;exact⟨_,_,by rw[az,bE]<;>rfl,by rw[az];simp only[bE,if_true];first|(rw[<-DU aT aK];rw[<-T]at n;exact n)|(rw[<-DT aT];subst bl;exact n),dA,A⟩
def Dx{D:ao}{p:av}(h:D.begin.1=false):D.sync p=(11,D.begin.2):=by unfold ao.sync;simp[h]
def Dy{D:ao}{p:av}(h:D.begin.1=true):D.sync p=(D.begin.2.look p,if D.begin.2.look p=0 then D.begin.2.uD ((ax D.begin.2.now p).getD 0)else D.begin.2):=by unfold ao.sync;simp[h]
def CS{D:ao}{p q:av}(h:D.begin.1=false):D.rename p q=(11,D.begin.2):=by unfold ao.rename;simp[h]
def CT{D:ao}{p q:av}(h:D.begin.1=true):D.rename p q=(D.begin.2.oo p q,if D.begin.2.oo p q=0/\p≠q then D.begin.2.change ⟨p,q,some ((ax D.begin.2.now p).getD 0)⟩else D.begin.2):=by unfold ao.rename;simp[h]
def zb{D:ao}{p q:av}(h:cR p=false\/cR q=false):D.oo p q=7:=by unfold ao.oo;rw[aD h]
def Jm{D:ao}{p q:av}(h:cR p=true)(k:cR q=true)(n:bI p≠bI q):D.oo p q=13:=by unfold ao.oo;rw[au (by simp[h,k]),aD n]
def CR{D:ao}{p q:av}(h:cR p=true)(k:cR q=true)(n:bI p=bI q):D.oo p q=D.look p:=by unfold ao.oo;rw[au (by simp[h,k]),au (by simpa using n)]
def Da{D:ao}{p:av}(h:D.begin.1=false):D.iS p=(11,D.begin.2):=by unfold ao.iS;simp[h]
def Db{D:ao}{p:av}(h:D.begin.1=true):D.iS p=(lL p,if lL p=0 then D.begin.2.nL p else D.begin.2):=by unfold ao.iS;simp[h]
def Co{p:av}(h:cR p=true):p≠[]:=((Cn).1 h).1
def B0{β:Type}{a1:aP->Value}{fv:β->Value}(m:List (aP×β)){w0:World}(h:dA H a1 fv n m):a8 prog w0 33 #[.map (some n)] H (fun r A=>∃bM:Nat,r= .map (some bM)/\dA A a1 fv bM m/\U 0 H.size (bM+1)/\an H A):=by
 intro w k;obtain⟨r,es,clock,K,B,C,E,F⟩:=h.fQ.ex;obtain rfl:=B;have hb:w.heap[r]?=some (.map es clock):=by rw[k.heap];exact C
 refine(AnyW.maps_Clone Tryz.mclone33 r es clock w hb).mono ?_;rintro e L ⟨rfl,rfl⟩;refine⟨_,H.push (.map es clock),o,k.alloc _,H.size,by rw[k.heap],⟨⟨H.size,es,clock,o,o,by simp,E,F⟩⟩,.inr (.inr I),an.pu _ _⟩
def U2{g:da}{b:Nat}{D:ao}(p:av){sd:ay}{d:List UInt8}{w0:World}(n:bH vq33z g H b D)(aV:gL vq24z H)(O:bk (fun b=>b=0) H.size)(e2:aB (fun b=>b=0) vq33z)(ab:Rd F H a7 1 sd.v d)(N:bk F H.size)(P:aB F vq33z)(T:p.length<=4294967280)(Q:hP 274877906944 D)(R:d.length<=274877906944):
 a8 prog w0 128 #[ptr b,aJ p,sd.v] H (fun r B=>∃C:List Nat,∃g2:da,r= .int .i64 ((D.lay p ⟨false,d⟩).1:Int)/\bH C g2 B b (D.lay p ⟨false,d⟩).2/\aF vq33z H.size C/\W (aq vq33z) H B):=by
 refine G.bc vq33z func128 o fun A=>?_;have E:=aF.refl vq33z H.size;have ac:=n.aT;refine G.O o (M.build (v:=uI (⟨false,d⟩,sd)) o o eN)<|G.aC o EU (Hy n aV (O.mono I) e2 ab (N.mono I) P T Q R) ?_;rintro U V ⟨X,Z,rfl,n,K,ad⟩;have L:=aF.al E K A.size;have A:=A.bf ad (ag.bA E (by intro k S;simp[S]));exact G.rt o ⟨_,_,o,n,L,A⟩
def Eg{g:da}{b:Nat}{D:ao}{p:av}{sd:ay}{d:List UInt8}{w0:World}(n:bH vq33z g H b D)(aV:gL vq24z H)(O:bk (fun b=>b=0) H.size)(e2:aB (fun b=>b=0) vq33z)(ab:Rd F H a7 1 sd.v d)(N:bk F H.size)(P:aB F vq33z)(T:p.length<=4294967280)(Q:hP 274877906944 D)(R:d.length<=274877906944):
 a8 prog w0 110 #[ptr b,aJ p,sd.v] H (fun r B=>∃C:List Nat,∃g2:da,r= .int .i64 ((D.lay p ⟨true,d⟩).1:Int)/\bH C g2 B b (D.lay p ⟨true,d⟩).2/\aF vq33z H.size C/\W (aq vq33z) H B):=by
 refine G.bc vq33z func110 o fun A=>?_;have E:=aF.refl vq33z H.size;have ac:=n.aT;refine G.O o (M.build (v:=uI (⟨true,d⟩,sd)) o o eN)<|G.aC o EU (Hy n aV (O.mono I) e2 ab (N.mono I) P T Q R) ?_;rintro U V ⟨X,Z,rfl,n,K,ad⟩;have L:=aF.al E K A.size;have A:=A.bf ad (ag.bA E (by intro k S;simp[S]));exact G.rt o ⟨_,_,o,n,L,A⟩
def Kg{g:da}{b:Nat}{D:ao}(p:av){w0:World}(n:bH vq33z g H b D)(aV:gL vq24z H)(aG:bk (fun b=>b=0) H.size)(e2:aB (fun b=>b=0) vq33z)(aK:p.length<=4294967280)(aw:hP 274877906944 D):
 a8 prog w0 107 #[ptr b,aJ p] H (fun r aa=>∃ae:List Nat,∃g2:da,r= .int .i64 ((D.sync p).1:Int)/\bH ae g2 aa b (D.sync p).2/\aF vq33z H.size ae/\W (aq vq33z) H aa):=by
 refine G.bc vq33z func107 o fun A=>?_;have C:=aF.refl vq33z H.size;have ad:=n.aT;have aY:=aw.op;have aU:=n.lM;obtain⟨D1,E⟩:∃D1,D1=D.begin.2:=⟨_,o⟩;have aI:=aw.begin;rw[<-E]at aI;refine G.aC o xr (xk n I) ?_;rintro a7 aN ⟨g1,rfl,n,aO,O⟩;have aV:=aV.aA O e2;have A:=A.bf O (ag.bA C (by intro k V;simp[V]));have aP:=O.size;rw[<-E]at n;refine G.O o e7<|G.ci o ?_ ?_<;>intro al;refine G.rt o ?_;have ay:=Dx (p:=p) (show D.begin.1=false by simpa using al);exact⟨_,_,by rw[ay]<;>rfl,by rw[ay];rw[E]at n;exact n,C,A⟩;have az:D.begin.1=true:=by simpa using al
 have aL:=(q4 az).1;rw[<-E]at aL;have F:=Dy (p:=p) az;rw[<-E]at F;refine G.aC o xq (xU aV (aG.mono I) n aK) ?_;rintro aQ P ⟨rfl,aC⟩;obtain⟨n,A,_⟩:=bG aC n A;refine G.ip o ?_ ?_<;>intro aT;have X:D1.look p=0:=by omega
 obtain⟨aX,i,Z⟩:=vY X;have aA:=n.ids.1 p i Z;obtain⟨bi,Q,R⟩:∃bi,g1.fb.getD i 0=bi/\ .pointer (lQ g1.fb (if D1.look p=0 then ax D1.now p else none))=ptr bi:=⟨_,o,by rw[aD X,Z]<;>rfl⟩;obtain⟨N,a6,aM,aZ,a1,T⟩:=n.dE i aA;have K:W (aq [(bi+1)]) P P:=W.refl _ _;have lg:gN vq33z (bi+1):=(n.rq T Q);have B:=T.mC Q;have ai:ah vq33z H.size (bi+1):=ag.at (ag.bA C (by intro k V;simp[V])) lg;have ak:=U.refl (bi+1) P.size;refine G.ae 0 o (M.cast (v2:=ptr bi) gh R)<|G.ae 0 o (M.cast (v2:=ptr bi) gh R)<|G.ae 0 o (M.cast (v2:=ptr bi) gh R)<|G.aK o ke ou o<|G.aG o B.T oB cZ eI o o<|G.aK o ke ou o<|G.aK o oB cZ o<|G.bl o (S.df B 1 ([N.v,N.v,aM.v]) o o o o cZ a_ o) ?_;rintro aR ⟨B,L⟩;have L:=L.eU;have A:=A.bf L (ag.cons ai ag.nil);have K:=K.bf L (ag.J (ah.r ak));refine G.aK o ke nH o<|G.bl o (S.df B 2 ([N.v,N.v,.slice none 0 0]) o o o o nH a_ o) ?_;rintro aH ⟨B,ac⟩;have ac:=ac.eU;have A:=A.bf ac (ag.cons ai ag.nil);have K:=K.bf ac (ag.J (ah.r ak));have aE:aF vq33z H.size vq33z:=C;have n:=n.fsync aA T Q K B;exact G.rt o ⟨_,_,by rw[F]<;>rfl,by rw[F];simp only[X,if_true,Z,tN];exact n,aE,A⟩;exact G.rt o ⟨_,_,by rw[F]<;>rfl,by rw[F];rw[au I];exact n,C,A⟩
def Sz{g:da}{b:Nat}{D:ao}(p q:av){w0:World}(n:bH vq33z g H b D)(aV:gL vq24z H)(F:bk (fun b=>b=0) H.size)(e2:aB (fun b=>b=0) vq33z)(O:p.length<=4294967280)(aw:q.length<=4294967280)(ae:hP 274877906944 D):
 a8 prog w0 132 #[ptr b,aJ p,aJ q] H (fun r U=>∃V:List Nat,∃g2:da,r= .int .i64 ((D.rename p q).1:Int)/\bH V g2 U b (D.rename p q).2/\aF vq33z H.size V/\W (aq vq33z) H U):=by
 refine G.bc vq33z func132 o fun A=>?_;have C:=aF.refl vq33z H.size;have bg:=n.aT;have bj:=ae.op;have bh:=n.lM;obtain⟨D1,L⟩:∃D1,D1=D.begin.2:=⟨_,o⟩;have ah:=ae.begin;rw[<-L]at ah;refine G.aC o xr (xk n I) ?_;rintro aY aZ ⟨g1,rfl,n,az,P⟩;have aV:=aV.aA P e2;have A:=A.bf P (ag.bA C (by intro k R;simp[R]));have a1:=P.size;rw[<-L]at n;refine G.O o e7<|G.ci o ?_ ?_<;>intro X;refine G.rt o ?_;have ai:=CS (p:=p) (q:=q) (show D.begin.1=false by simpa using X);exact⟨_,_,by rw[ai]<;>rfl,by rw[ai];rw[L]at n;exact n,C,A⟩;have al:D.begin.1=true:=by simpa using X
 have aP:=(q4 al).1;rw[<-L]at aP;have B:=CT (p:=p) (q:=q) al;rw[<-L]at B;refine G.aC o r7 (sG p aV (F.mono I) O) ?_;rintro a6 a7 ⟨rfl,am⟩;obtain⟨n,aV,A,_⟩:=cg am n aV A;refine G.O o e7<|G.sb 1 16 o ?_ ?_<;>intro ad;refine G.it o<|G.rt o ?_;have E:=zb (D:=D1) (p:=p) (q:=q) (by first|exact .inl (by simpa using ad)|exact .inr (by simpa using N));exact⟨_,_,by rw[B,E]<;>rfl,by rw[B,E];exact n,C,A⟩;refine G.aC o r7 (sG q aV (F.mono I) aw) ?_;rintro a_ ba ⟨rfl,aE⟩;obtain⟨n,aV,A,_⟩:=cg aE n aV A;refine G.O o e7<|G.ci o ?_ ?_<;>intro N;refine G.rt o ?_;have E:=zb (D:=D1) (p:=p) (q:=q) (by first|exact .inl (by simpa using ad)|exact .inr (by simpa using N));exact⟨_,_,by rw[B,E]<;>rfl,by rw[B,E];exact n,C,A⟩;refine G.aC o th (tp aV (F.mono I) O) ?_;rintro bc bd ⟨rfl,aU⟩;obtain⟨n,aV,A,_⟩:=cg aU n aV A;refine G.aC o th (tp aV (F.mono I) aw) ?_;rintro a0 a2 ⟨rfl,aG⟩;obtain⟨n,aV,A,_⟩:=cg aG n aV A;refine G.ae 0 o kJ<|G.ip o ?_ ?_<;>intro Z;refine G.rt o ?_;have E:=Jm (D:=D1) (p:=p) (q:=q) (by simpa using ad) (by simpa using N) (by simpa using Z);exact⟨_,_,by rw[B,E]<;>rfl,by rw[B,E];exact n,C,A⟩;have ak:bI p=bI q:=by simpa using Z
 have aM:cR p=true:=by simpa using ad
 have aN:cR q=true:=by simpa using N
 have K:=CR (D:=D1) aM aN ak;refine G.aC o xq (xU aV (F.mono I) n O) ?_;rintro a3 a4 ⟨rfl,aH⟩;obtain⟨n,aV,A,_⟩:=cg aH n aV A;refine G.sp 8 35 o ?_ ?_<;>intro aa;refine G.ae 2 o kJ<|G.ip o ?_ ?_<;>intro Q;have S:D1.look p=0:=by omega
 obtain⟨aO,i,T⟩:=vY S;have aK:=n.ids.1 p i T;refine G.aC o th (tp aV (F.mono I) O) ?_;rintro a5 aQ ⟨rfl,aI⟩;obtain⟨n,A,_⟩:=bG aI n A;refine G.O o (M.cast (v2:= .agg (k9 g1.fb ⟨p,q,some i⟩).toArray) (M.build (v:= .agg #[aJ p,aJ q,.pointer (lQ g1.fb (if D1.look p=0 then ax D1.now p else none))]) o o eN) (by rw[aD S,T]))<|G.aC o EX (Fz (bI p) ⟨p,q,some i⟩ w0 n (by rw[az.2.2.2];omega) (by simp[dy.dir,Co aO]) (fun j aL=>by cases aL;exact⟨ak.symm,aK⟩) (fun h=>rfl) (by have:=ah.eT;omega)) ?_;rintro aR aT ⟨a9,bf,rfl,n,aC,aX,ay⟩;have aA:=aF.al C aC A.size;have A:=A.bf ay (ag.bA C (by intro k R;simp[R]));exact G.rt o ⟨_,_,by rw[B,K]<;>rfl,by rw[B,K];rw[aD ⟨S,by simpa using Q⟩,T];exact n,aA,A⟩;exact G.rt o ⟨_,_,by rw[B,K]<;>rfl,by rw[B,K];rw[au (fun h=>by first|exact aa I|exact h.2 (by simpa using Q))];exact n,C,A⟩;exact G.dP o<|G.rt o ⟨_,_,by rw[B,K]<;>rfl,by rw[B,K];rw[au (fun h=>by first|exact aa I|exact h.2 (by simpa using Q))];exact n,C,A⟩
def Ub{g:da}{b:Nat}{D:ao}(p:av){w0:World}(A:bH vq33z g H b D)(aV:gL vq24z H)(bf:bk (fun b=>b=0) H.size)(e2:aB (fun b=>b=0) vq33z)(bg:p.length<=4294967280)(aP:hP 274877906944 D):
 a8 prog w0 134 #[ptr b,aJ p] H (fun r aA=>∃aC:List Nat,∃g2:da,r= .int .i64 ((D.iS p).1:Int)/\bH aC g2 aA b (D.iS p).2/\aF vq33z H.size aC/\W (aq vq33z) H aA):=by
 refine G.bc vq33z func134 o fun n=>?_;have M:=aF.refl vq33z H.size;have bt:=A.aT;have bB:=aP.op;have bA:=A.lM;obtain⟨D1,T⟩:∃D1,D1=D.begin.2:=⟨_,o⟩;have ax:=aP.begin;rw[<-T]at ax;refine G.aC o xr (xk A I) ?_;rintro bC bz ⟨g1,rfl,A,aE,aw⟩;have aV:=aV.aA aw e2;have n:=n.bf aw (ag.bA M (by intro k K;simp[K]));have a3:=aw.size;rw[<-T]at A;refine G.O o e7<|G.ci o ?_ ?_<;>intro aO;refine G.rt o ?_;have aQ:=Da (p:=p) (show D.begin.1=false by simpa using aO);exact⟨_,_,by rw[aQ]<;>rfl,by rw[aQ];rw[T]at A;exact A,M,n⟩;have aR:D.begin.1=true:=by simpa using aO
 have bj:=(q4 aR).1;rw[<-T]at bj;have P:=Db (p:=p) aR;rw[<-T]at P;refine G.ae 1 o kJ<|G.sp 1 11 o ?_ ?_<;>intro al;refine G.aC o r7 (sG p aV (bf.mono I) bg) ?_;rintro a4 a5 ⟨rfl,ba⟩;obtain⟨A,n,_⟩:=bG ba A n;refine G.O o e7<|G.ci o ?_ ?_<;>intro Q;refine G.rt o ?_;have L:lL p=7:=by unfold lL;rw[aD ⟨al,by simpa using Q⟩]
 exact⟨_,_,by rw[P,L]<;>rfl,by rw[P,L];exact A,M,n⟩;refine G.aC o Aq (B9 A (by rw[aE.2.2.2];omega)) ?_;rintro a6 N ⟨R,a7,bh,rfl,A,Z,V,bc,aa⟩;have aG:=aF.al M Z n.size;have n:=n.bf aa (ag.bA M (by intro k K;simp[K]));obtain⟨X,bu,bl,az,ay,bw,F⟩:=A.eZ _ bh V;have B:W (aq [(bh+1)]) N N:=W.refl _ _;have bo:gN R (bh+1):=(A.lg F.rd a_);have bS:=F.bS;have aI:ah vq33z H.size (bh+1):=ag.at (ag.bA aG (by intro k K;simp[K])) bo;have aK:=U.refl (bh+1) N.size;refine G.aK o kW o9 o<|G.aG o bS.T pb nk qd o o<|G.aC o Au (B0 ay F.ar) ?_;rintro bq a2 ⟨O,rfl,E,ad,ae⟩;have aL:=ai.app ai.z bS.lt ad;have bd:=U.al (U.refl 0 _) ad n.size;have aT:=U.al (U.refl 0 _) ad B.size;obtain⟨bS,n,B,_⟩:=cg ae bS n B;refine G.aK o kW o9 o<|G.aK o pb nk o<|G.bl o (S.df bS 1 ([.map (some X),.map (some O),az.v]) o o o o nk a_ o) ?_;rintro aH ⟨bS,C⟩;have C:=C.eU;obtain⟨E,_⟩:=cz C E aL.symm;have n:=n.bf C (ag.cons aI ag.nil);have B:=B.bf C (ag.J (ah.r aK));refine G.aK o kW ot o<|G.bl o (S.df bS 2 ([.map (some X),.map (some O),.slice none 0 0]) o o o o ot a_ o) ?_;rintro am ⟨bS,ac⟩;have ac:=ac.eU;obtain⟨E,_⟩:=cz ac E aL.symm;have n:=n.bf ac (ag.cons aI ag.nil);have B:=B.bf ac (ag.J (ah.r aK));have aX:aF vq33z H.size ((O+1)::R):=(aF.cons bd aG);have A:=A.xI ax.dm V F B bS E (fun _=>rfl) (ak.ud A.aT aT);refine G.rt o ?_;have L:lL p=0:=by unfold lL;rw[au (fun h=>by first|exact absurd h.1 al|(rw[h.2]at Q;cases Q))]
 exact⟨_,_,by rw[P,L]<;>rfl,by rw[P,L];exact A,aX,n⟩;refine G.dP o<|G.aC o Aq (B9 A (by rw[aE.2.2.2];omega)) ?_;rintro a6 N ⟨R,a7,bh,rfl,A,Z,V,bc,aa⟩;have aM:=aF.al M Z n.size;have n:=n.bf aa (ag.bA M (by intro k K;simp[K]));obtain⟨X,bu,bl,az,ay,bw,F⟩:=A.eZ _ bh V;have B:W (aq [(bh+1)]) N N:=W.refl _ _;have bm:gN R (bh+1):=(A.lg F.rd a_);have bS:=F.bS;have ap:ah vq33z H.size (bh+1):=ag.at (ag.bA aM (by intro k K;simp[K])) bm;have aU:=U.refl (bh+1) N.size;refine G.aK o kW o9 o<|G.aG o bS.T pb nk qd o o<|G.aC o Au (B0 ay F.ar) ?_;rintro bq a2 ⟨O,rfl,E,ad,ae⟩;have aN:=ai.app ai.z bS.lt ad;have aY:=U.al (U.refl 0 _) ad n.size;have aZ:=U.al (U.refl 0 _) ad B.size;obtain⟨bS,n,B,_⟩:=cg ae bS n B;refine G.aK o kW o9 o<|G.aK o pb nk o<|G.bl o (S.df bS 1 ([.map (some X),.map (some O),az.v]) o o o o nk a_ o) ?_;rintro aH ⟨bS,C⟩;have C:=C.eU;obtain⟨E,_⟩:=cz C E aN.symm;have n:=n.bf C (ag.cons ap ag.nil);have B:=B.bf C (ag.J (ah.r aU));refine G.aK o kW ot o<|G.bl o (S.df bS 2 ([.map (some X),.map (some O),.slice none 0 0]) o o o o ot a_ o) ?_;rintro am ⟨bS,ac⟩;have ac:=ac.eU;obtain⟨E,_⟩:=cz ac E aN.symm;have n:=n.bf ac (ag.cons ap ag.nil);have B:=B.bf ac (ag.J (ah.r aU));have a1:aF vq33z H.size ((O+1)::R):=(aF.cons aY aM);have A:=A.xI ax.dm V F B bS E (fun _=>rfl) (ak.ud A.aT aZ);refine G.rt o ?_;have L:lL p=0:=by unfold lL;rw[au (fun h=>by first|exact absurd h.1 al|(rw[h.2]at Q;cases Q))]
 exact⟨_,_,by rw[P,L]<;>rfl,by rw[P,L];exact A,a1,n⟩
open Go.Sort Go.Shelf
def L5(a b:av):blt a b↔a<b:=by unfold blt;rw[bytesLess_eq,decide_eq_true_iff]
def Rk{a b:av}(h:a<=b):¬blt b a:=by rw[L5];exact List.not_lt.2 h
def Di{l m:List av}(ar:l.Nodup)(h:m=l.mergeSort (fun x y=>decide (x<=y))):iH m/\m.Perm l:=by
 subst h;have A:=List.mergeSort_perm l (fun x y=>decide (x<=y));have Y:(l.mergeSort (fun x y=>decide (x<=y))).Pairwise (fun x y=>decide (x<=y)=true):=List.pairwise_mergeSort (le:=fun x y:List UInt8=>decide (x<=y)) (fun a b c k n=>by
  simp only[lf]at*;exact List.le_trans k n) (fun a b=>by
  simp only[vx,lf];exact List.le_total a b) l
 have r:(l.mergeSort (fun x y=>decide (x<=y))).Nodup:=A.nodup_iff.2 ar;refine⟨?_,A⟩;unfold iH;rw[vB]at r;refine(Y.and r).imp (fun{x y} h=>?_);obtain⟨k,n⟩:=h;refine kQ fun B=>n<|qh B ?_;simp only[lf]at k;exact Rk k
def A3:∀l:List av,l.flatMap ha=l.map aJ
 |[]=>rfl
 |x::l=>by rw[mH,A3 l];rfl
def R_(d:Array av)(cur:Array Value)(h:d.size<=cur.size):(putCells encStr 0 d cur).size=cur.size/\(putCells encStr 0 d cur).toList.take d.size=d.toList.flatMap ha:=by
 refine⟨by simp[putCells],?_⟩;rw[A3];apply Bm;intro i;rw[List.getElem?_take];split;rename_i k;rw[Array.getElem?_toList,List.getElem?_map,Array.getElem?_toList,Array.getElem?_eq_getElem (by simp[putCells];omega),Array.getElem?_eq_getElem k];simp only[putCells,Array.getElem_mapIdx,gH,kv,true_and,vw];rw[aD k,getElem!_pos d i k];rfl;rw[List.getElem?_map,Array.getElem?_toList,Array.getElem?_eq_none I];rfl
def Dh{k:Nat}{v:Value}{l:List av}{w0:World}(h:aS k 9 H ha 1 v l)(ai:l.length<4611686018427387904):
 a8 prog w0 90 #[v] H (fun r K=>∃T:List av,∃S:Nat,r= .tuple #[]/\aS S 9 K ha 1 v T/\U k H.size S/\T=l.mergeSort (fun x y=>decide (x<=y))/\W (aq [k]) H K):=by
 intro w B;rcases h.own.ex with⟨E,al⟩|⟨A,cap,cur,E,Q,af,V,X,L,Z⟩;subst E al;exact(Any.slices_Sort_string_none Tryz.lays190 none 0 w).mono (fun e aw ⟨he,hw⟩=>⟨_,H,he,by rw[hw];exact B,[],k,o,h,U.refl _ _,by simp,W.refl _ _⟩);obtain⟨fz,bP,R⟩:=id af;have F:w.heap[A]?=some (.cells cur 9 fz):=by rw[B.heap];exact bP
 have hle:l.length<=cur.size:=by rw[L];omega
 have ae:Holds encStr w A 0 l.toArray:=by
  intro j P;have ah:j<l.length:=by simpa using P
  have aj:cur[j]?=some (aJ l[j]):=by
   have:(cur.toList.take (l.length*1))[j]?=(l.flatMap ha)[j]?:=by rw[Z]
   rw[List.getElem?_take,aD I,Array.getElem?_toList,A3]at this;rw[this,List.getElem?_map,List.getElem?_eq_getElem ah];rfl
  refine⟨?_,?_⟩;simp only[World.cell?,F,kv,Option.isSome_none,nb,if_false,id_eq];rw[aj,getElem!_pos l.toArray j P];rfl;have:=R.2 j I;simp only[World.frozen?,F,kv];simpa using this
 have O:A<w.heap.size:=by rw[B.heap];exact af.lt
 have N:=Any.slices_Sort_string Tryz.lays190 A 0 cap l w ae O ai;rw[<-E]at N;refine N.mono ?_;rintro gq aw ⟨he,n,os,rfl⟩;have ab:(l.mergeSort fun x y=>decide (x<=y)).length=l.length:=List.length_mergeSort l;obtain⟨M,aa⟩:=R_ (l.mergeSort fun x y=>decide (x<=y)).toArray cur (by simp;exact hle);have C:(grow (putRow encStr (Sort.ahead w n) A 0 (l.mergeSort fun x y=>decide (x<=y)).toArray) os).heap=w.heap.modify A (onCells (putCells encStr 0 (l.mergeSort fun x y=>decide (x<=y)).toArray))++os:=rfl;have ag:(grow (putRow encStr (Sort.ahead w n) A 0 (l.mergeSort fun x y=>decide (x<=y)).toArray) os).heap[A]?=some (.cells (putCells encStr 0 (l.mergeSort fun x y=>decide (x<=y)).toArray cur) 9 fz):=by
  rw[C,Array.getElem?_append_left (by simpa using O),Array.getElem?_modify,aD o,F];rfl
 refine⟨_,(grow (putRow encStr (Sort.ahead w n) A 0 (l.mergeSort fun x y=>decide (x<=y)).toArray) os).heap,he,⟨o,B.os,B.tape,B.output,ev B.hK (vN _ _)⟩,_,k,o,⟨⟨ts,tt,.inr ⟨A,cap,_,by rw[ab];exact E,Q,⟨fz,ag,by rw[M];exact R⟩,by rw[ab];exact V,X,by rw[M];exact L,?_⟩⟩,?_⟩,U.refl _ _,o,?_,?_⟩;simpa using aa;rw[C];have:=h.le;simp[B.heap];omega;rw[C];simp[B.heap];intro b hb ar;have ak:A≠b:=fun q=>ar (by unfold aq;rw[<-q];simp[Q]);rw[C,Array.getElem?_append_left (by simp[B.heap,hb]),Array.getElem?_modify,au ak,B.heap]
def uo:Code->Code
 | .seq _ (.seq (.seq _ (.block _ c)) _)=>c
 |_=> .skip
def z8:Code->Code
 | .rangeFunc _ _ c _=>c
 |_=> .skip
def Ae:Code->Code
 | .rangeFunc _ _ _ c=>c
 |_=> .skip
structure uN (r:Loop) (b8:Nat):Prop where
 st:r.state= .ready
 I3:r.pending=none
 cq:r.params= #[7]
 A:r.assign=z8 (uo (Tryz.f167.body.getD .skip))
 B:r.body=Ae (uo (Tryz.f167.body.getD .skip))
 A4:Fr Tryz.f167.ntmps [(2,.pointer (some ⟨b8,0,none⟩))] {tmps:=r.tmps,defers:=[]}
def LD(r:Loop){bd B:Nat}{ax:Value}{bl:List av}{x:av}{w0:World}(af:uN r n)(L:h_ H bd r)(k:Var 108 H n [ax])(C:aS B 9 H ha 1 ax bl)(d1:ai (bd+1) (n+1))(d2:ai (bd+1) B)(d3:ai (n+1) B)(hlen:bl.length<=1099511627776):
 uU prog w0 bd [aJ x] H (fun aI F=>∃az:Value,∃aw:Nat,aI= .bool true/\h_ F bd r/\Var 108 F n [az]/\aS aw 9 F ha 1 az (bl++[x])/\U B H.size aw/\W (aq [bd+1,n+1,B]) H F):=by
 have aF:=af.A4.put (d:=7) o (aJ x);refine uU.of L af.st af.I3 af.cq (af.A.trans o) (af.B.trans o) aF ?_;have aa:bd≠n:=d1.ne;have aN:=L.lt;have aL:=k.lt;have aO:=C.le;have hm:=W.refl (aq [bd+1,n+1,B]) H;refine hx.v fl (by intro c e;cases e) fE rfl rfl ?_;refine hx.nil fun a w Z P=>⟨o,_,H,Z,P,L,?_⟩;have T:W (fun c=>c=bd) H (H.setIfInBounds bd (.loop {r with state:= .busy})):=o2 _;have A:h_ (H.setIfInBounds bd (.loop {r with state:= .busy})) bd {r with state:= .busy}:=⟨by simp[L.lt]⟩;obtain⟨K,aE⟩:∃K,K=H.setIfInBounds bd (.loop {r with state:= .busy}):=⟨_,o⟩;rw[<-aE]at T A⊢;have V:=T.eU;have hm:=hm.bf V (ag.cons (ah.root a_) ag.nil);have k:=k.aA V (ak.cons (ai.of (ku aa)) ak.nil);have C:=C.aA V (ak.J d2.symm);have aU:=T.size;refine hx.v (aY k.T D4) (by intro c e;cases e) fE rfl rfl ?_;refine hx.v gh (by intro c e;cases e) fE rfl rfl ?_;refine hx.z (c5 _ ([x]) x5 ts tt) (by intro c e;cases e) fE rfl rfl ?_;rintro v10 X ⟨aH,M,aV,aC⟩;have aQ:X.size=K.size+1:=by rw[aC];simp
 have hm:=hm.DG M;have A:=A.aL M;have k:=k.aL M;have C:=C.aL M;have aM:ai B (K.size+1):=ai.new I;have aP:=C.le;refine hx.z (dd C aH.rd x5 bU bU) (by intro c e;cases e) fE rfl rfl ?_;rintro v11 aK ⟨N,O,E,ae⟩;have E:U B X.size N:=E;have Q:=ae.md;have hm:=hm.bf Q (ag.cons (ah.root a_) ag.nil);have A:=A.aA Q (ak.J d2);have k:=k.aA Q (ak.J d3);have aR:=ae.size;have aB:ai (n+1) N:=ai.app d3 I E;have dl:ai (bd+1) N:=ai.app d2 I E;obtain⟨aX,aG⟩:∃s:ay,v11=s.v:=⟨ck v11,O.a6.symm⟩;refine hx.s (S.df k 0 ([v11]) o o o (by rw[aG];rfl) Tq a_ o) (by intro c e;cases e) fE rfl ?_;rintro aA ⟨k,al⟩;have R:=al.eU;have hm:=hm.bf R (ag.cons (ah.root a_) ag.nil);have A:=A.aA R (ak.J d1);have O:=O.aA R (ak.J aB.symm);have aT:=al.size;refine hx.nil fun a w Z P=>⟨o,aA,P,A,v11,N,o,?_,?_,?_,?_,?_⟩;exact⟨by simp[A.lt]⟩;exact k.aA (W.eU<|o2 (r:=bd) _)<|ak.cons (ai.of<|ku aa) ak.nil;exact O.aA (W.eU<|o2 (r:=bd) _)<|ak.J dl.symm;unfold U at E⊢;omega;exact hm.bf (W.eU<|o2 (r:=bd) _)<|ag.cons (ah.root a_) ag.nil
def Fr.start{args:List Value}(A:args.length<=n):Fr n (oI args 0) {tmps:=args.toArray++Array.replicate (n-args.toArray.size) undef,defers:=[]}:=by
 refine⟨o,?_,?_⟩;simp;omega;intro t v e;obtain⟨_,k⟩:=xf args 0 t v e;simp only[vw]at k;simp only;have r:=(List.getElem?_eq_some_iff.1 k).1;rw[Array.getElem?_append_left (by simpa using r)];simpa using k
def D3.v{P:Program}{w0:World}{r:Exit->Act->World->Prop}{l:az}{ops:Array Oper}{rest:List Oper}{J:Oper}{ds:List Deferred}{v:Value}{d:Nat}(hy:M P w0 n l H J v)(E:∀c,J.op≠ .defer c)(hw:eB ops l J)(ab:J.dst=some d)(ar:Nat.blt d n=true)(h:∀a w,Fr n ((d,v)::l) a->At w0 H w->wpListIn (rY none) 0 P ops r rest {a with defers:=ds} w):∀a w,Fr n l a->At w0 H w->wpListIn (rY none) 0 P ops r (J::rest) {a with defers:=ds} w:=by
 intro a w k A;have B:=k.put ar v;rw[<-ab]at B;unfold wpListIn;rw[aD (hw n a k)];refine⟨fun _ _=>trivial,?_⟩;rw[Oper.semAt_eq _ _ _ E];show Oper.uponIn _ _ _ _ _ _ _ ((execOp a.eval J).run P w);rw[hy a w k A,Oper.uponIn_value];have C:=h _ w B A;have e:({a with defers:=ds}:Act).put J.dst v={(a.put J.dst v)with defers:=ds}:=by rw[ab];rfl
 rw[e];exact C
def DY{p:Prop}(h:p:=by
 refine a8.enter (args:=[.func (.yield bd) #[] #[],.pointer (some ⟨B,0,none⟩)]) aK o o o ?_;intro cc b5;have Q:W (aq [(bd+1),(b8+1),A]) n n:=W.refl _ _;have cg:=aw.lt;have bt:=K.lt;have ch:=aG.lt;have bQ:=U.refl (bd+1) n.size;have cj:=F.lt;have bR:=U.refl (b8+1) n.size;have ck:=E.lt;have aR:=U.refl A n.size;have aT:=C.le;refine b6.al fun bB=>?_;refine bm.v1 (aY aw.T aL) ?_;obtain⟨es,bU,K⟩:=K.raw;refine bm.eE (Z.gA<|Z.y9 K o aM o) ?_;rintro v5 ae ⟨rfl,it,bC,_⟩;have aN:=ai.new K.lt;have aO:=ai.new F.lt;have aP:=ai.new E.lt;have bD:=ai.new C.le;have aQ:=U.new Q.size;obtain⟨K,F,E,C,Q,_⟩:=d_ bC K F E C Q;have cf:=it.lt;refine bm.nil<|bB<|b6.aT fun _ bE _=>?_
 refine b6.bd (fun(b9:(List av)×Value×Nat)=>match b9 with|(dn,aa,R)=>[(0,.func (.yield bd) #[] #[]),(5,.pointer (some ⟨n.size,0,none⟩))])
  (fun(dn,aa,R) (H:Heap)=>(jv H n.size cW aJ es bU dn)/\h_ H bd O/\Var 108 H b8 [aa]/\aS R 9 H ha 1 aa dn/\(dn.Nodup/\∀k∈dn,k∈N.map (·.1))/\U A ae.size R/\ai (n.size+1) R/\ai (bd+1) R/\ai (b8+1) R/\W (aq [(n.size+1),(bd+1),(b8+1),A]) ae H)
  (fun(dn,aa,R)=>N.length-dn.length) ([],S,A) ⟨o,o,trivial⟩ ?_ ?_
 exact⟨it,F,E,C,⟨vM,by simp⟩,U.refl _ _,bD.symm,aB,az,W.refl _ _⟩;rintro⟨dn,aa,R⟩ a2 bF cb bG bH;obtain⟨it,F,E,C,X,aV,bS,bT,aH,P⟩:=bF;have bj:=U.al aR aV Q.size;have K:=K.aA P (ak.cons aN (ak.cons aE (ak.cons aC (ak.J aF))));have Q:=Q.bf P (ag.cons (ah.q aQ) (ag.cons (ah.r bQ) (ag.cons (ah.r bR) (ag.J (ah.r aR)))));have a3:=P.size;have aT:=C.le;have ax:=bS;have aU:=bT;have aX:=aH;have ac:=U.refl (n.size+1) ae.size;have ad:=U.refl (bd+1) ae.size;have bP:=U.refl (b8+1) ae.size;have aZ:=aV;have bZ:=mn X.1 X.2;rw[dK]at bZ;refine b6.al fun bI=>?_;refine bm.eE (Z.yM it K hZ.inj o o) ?_;rintro v6 ca ⟨cm,x,y,cl,rfl,it,bW,bV,bK⟩;obtain⟨K,C,F,E,Q,P,_⟩:=kG bK K aN C ax.symm F aO E aP Q (ah.q aQ) P (ah.r ac);refine bm.v1 (M.xN o o)<|bm.nil<|bI ?_;refine b6.t2 fun bL bM=>?_;refine b6.cond o (fun ay=>?_) fun ay=>?_;obtain⟨bh,b1,bf⟩:=bW ay;rw[bf]at it;refine b6.skip<|bL<|b6.aT fun bN _ _=>b6.al fun bO=>?_;refine bm.v1 (M.xM it K hZ.inj bh o o) ?_;refine bm.v1 (M.extract o o o) ?_;refine bm.dm ?_;refine bO<|b6.t1 fun a0=>?_;refine b6.Sw ?_;refine hx.v gh (by intro c e;cases e) fE rfl rfl ?_;refine hx.v gh (by intro c e;cases e) fE rfl rfl ?_;refine hx.round o o o fE o o (LD O af F E C aA aU aX I) fun a4 a5 bq=>?_;have bk:=it.lt;have bl:=F.lt;have bo:=E.lt;obtain⟨b_,b7,rfl,F,E,C,am,ap⟩:=bq;have bu:=ai.app ax bk am;have bw:=ai.app aU bl am;have bz:=ai.app aX bo am;have bA:=U.al aZ am P.size;have it:=it.aA ap (ak.cons aO.symm (ak.cons aP.symm (ak.J ax)));have P:=P.bf ap (ag.cons (ah.r ad) (ag.cons (ah.r bP) (ag.J (ah.r aZ))));have cd:=ap.size;have aT:=C.le;refine hx.v e7 (by intro c e;cases e) fE rfl rfl ?_;refine hx.nil ?_;refine a0 ?_;refine b6.Of o ?_;refine b6.skip<|bN ?_;have aI:(dn++[x]).Nodup/\∀k∈dn++[x],k∈N.map (·.1):=by
  refine⟨?_,fun k al=>?_⟩;rw[qy];exact⟨X.1,by simp,fun a bX b hb e=>by simp only[fm]at hb;subst hb;subst e;exact b1 bX⟩;rcases gR.1 al with al|al;exact X.2 k al;rw[fm.1 al];exact dp.2 ⟨_,bh,o⟩
 have b0:=mn aI.1 aI.2;rw[b2,dK,ik]at b0;refine jy.sub (bG (dn++[x],b_,b7) _ ?_ ?_) ⟨o,o,trivial⟩;exact⟨it,F,E,C,aI,bA,bu,bw,bz,P⟩;simp only[b2,ik];omega;obtain⟨bY,bf⟩:=bV ay;refine b6.exit<|bM<|bH<|bE ?_;refine b5 .normal (.inl o) _ _ _ (Jn o) ?_;exact⟨aa,R,dn,o,F,E,C,bj,⟨X.1,fun k=>⟨X.2 k,fun h=>by obtain⟨p,b4,rfl⟩:=dp.1 h;exact bY p b4⟩⟩,Q⟩):p:=h
def P3(O:Loop)(bd b8 B cW D A:Nat)(S:Value)(fv:Nat->Value)(N:List (av×Nat))(w0:World)(n:Heap)
 (aw:Var 76 n B [.map (some cW)])(K:dA n aJ fv cW N)(aG:kl n D)(F:h_ n bd O)(E:Var 108 n b8 [S])(C:aS A 9 n ha 1 S [])(af:uN O b8)(bg:N.length<=1099511627776)(aA:ai (bd+1) (b8+1))(aB:ai (bd+1) A)(az:ai (b8+1) A)(ba:ai (B+1) (bd+1))(a_:ai (B+1) (b8+1))(bc:ai (B+1) A)(aE:ai (cW+1) (bd+1))(aC:ai (cW+1) (b8+1))(aF:ai (cW+1) A)(a6:ai (D+1) (bd+1))(a1:ai (D+1) (b8+1))(a7:ai (D+1) A):
 a8 prog w0 91 #[.func (.yield bd) #[] #[],.pointer (some ⟨B,0,none⟩)] n (fun r L=>∃V:Value,∃T:Nat,∃out:List av,r= .tuple #[]/\h_ L bd O/\Var 108 L b8 [V]/\aS T 9 L ha 1 V out/\U A n.size T/\(out.Nodup/\∀k,k∈out↔k∈N.map (·.1))/\W (aq [(bd+1),(b8+1),A]) n L):=by
 have aK:=@func91;have aL:=@q3;have aM:=@sV;exact DY
def DZ{p:Prop}(h:p:=by
 intro w bo;refine callsIn_wide.1<|callsIn_of_wp_marks (n:=0) func167 o trivial ?_;have bu:=Fr.start (n:=Tryz.f167.ntmps) (args:=[.slice none 0 0,.func (.func F) #[] #[.pointer (some ⟨C,0,none⟩)]]) (hC o);refine wpIn_seq<|wpIn_wide.2 ?_;refine(b6.region (w0:=w0) (H:=A) (n:=Tryz.f167.ntmps) (l:=oI [.slice none 0 0,.func (.func F) #[] #[.pointer (some ⟨C,0,none⟩)]] 0) ?_) _ w bu bo;refine bm.eE (Z.q5 o o o) ?_;rintro v2 H1 ⟨rfl,aC,aN,bT,bk⟩;have bP:H1.size=A.size+1:=by rw[bk];simp
 have bO:=O.lt;have bN:=N.lt;have O:=O.aL aN;have N:=N.aL aN;refine bm.bq ?_;refine bm.nil fun bq k0 bw bt=>?_;show(Code.seq _ _).wpIn Fence.wide 0 _ _ bq k0;refine wpIn_seq<|wpIn_seq<|wpIn_wide.2 ?_;refine(b6.region (w0:=w0) (H:=H1) ?_) bq k0 bw bt;refine bm.bo ?_;refine bm.nil fun a2 B T aV=>?_;show(Code.block _ _).wpIn Fence.wide 0 _ _ a2 B;refine wpIn_block<|wpIn_rangeFunc fun fn _=>?_;obtain⟨rc,a6⟩:∃rc:Loop,rc={state:= .ready,pending:=none,fn,tmps:=a2.tmps,params:= #[7],assign:=z8 (uo (Tryz.f167.body.getD .skip)),body:=Ae (uo (Tryz.f167.body.getD .skip)),defers:=B.heap.size}:=⟨_,o⟩
 have bc:(Instr.enterLoop fn a2.tmps #[7] (z8 (uo (Tryz.f167.body.getD .skip))) (Ae (uo (Tryz.f167.body.getD .skip))) none).run prog B= .ok (B.heap.size+1,[{target:= .collected B.heap.size,args:= #[]}]) ((B.alloc (.deferred (some []))).alloc (.loop rc)):=by
  rw[a6];exact run_enterLoop_outer fn a2.tmps #[7] _ _
 have aG:At w0 ((H1.push (.deferred (some []))).push (.loop rc)) ((B.alloc (.deferred (some []))).alloc (.loop rc)):=(aV.alloc _).alloc _;obtain⟨X,bG⟩:∃X,X=(B.alloc (.deferred (some []))).alloc (.loop rc):=⟨_,o⟩;rw[<-bG]at bc aG;obtain⟨L,R⟩:∃L,L=(H1.push (.deferred (some []))).push (.loop rc):=⟨_,o⟩;rw[<-R]at aG;have bQ:L.size=H1.size+2:=by rw[R];simp
 have V:B.heap.size=H1.size:=by rw[aV.heap]
 have ae:an H1 L:=by rw[R];exact(an.pu _ _).al (an.pu _ _)
 have O:=O.aL ae;have N:=N.aL ae;have aC:=aC.aL ae;have aU:kl L H1.size:=⟨by rw[R,Array.getElem?_push,au a_];exact Array.getElem?_push_size⟩
 have bA:h_ L (H1.size+1) rc:=⟨by
  have aT:=Array.getElem?_push_size (xs:=H1.push (.deferred (some []))) (x:=Obj.loop rc);rw[Array.size_push,<-R]at aT;exact aT⟩
 have aK:uN rc A.size:=by
  subst a6;exact⟨o,o,o,o,o,⟨o,T.size,fun t v e=>(T.sub (l':=[(2,.pointer (some ⟨A.size,0,none⟩))]) ⟨o,trivial⟩).get t v e⟩⟩
 have bH:∀w,(callFunc F #[.func (.yield (H1.size+1)) #[] #[],.pointer (some ⟨C,0,none⟩)]).run prog w= .ok (.enter F #[.func (.yield (H1.size+1)) #[] #[],.pointer (some ⟨C,0,none⟩)]) w:=fun w=>enters_of aP aW o _ w;refine⟨B.heap.size+1,[{target:= .collected B.heap.size,args:= #[]}],X,{target:= .fn (.func F) #[.pointer (some ⟨C,0,none⟩)],args:= #[.func (.yield (H1.size+1)) #[] #[]]},X,F,#[.func (.yield (H1.size+1)) #[] #[],.pointer (some ⟨C,0,none⟩)],X,bc,?_,fun _ _=>trivial,?_,fun h=>(by cases h),?_⟩;have bh:=T.get 6 (.func (.func F) #[] #[.pointer (some ⟨C,0,none⟩)]) o;rw[V];simp[resolve,rangeCall,Deferred.ofValue,Act.eval,bh];exact bH _;refine callsIn_wide.2<|(aQ rc (H1.size+1) A.size C cW H1.size 0 (.slice none 0 0) fv E w0 L O N aU bA aC (aS.nil ts tt) aK aM pe ai.z ai.z pe pe ai.z pe pe ai.z pe pe ai.z _ aG).mono ?_;rintro e aO ⟨bU,Q,rfl,aH,az,bf,out,rfl,bB,aE,ax,a1,bE,aL⟩;have aF:kl Q H1.size:=aU.aA aL (ak.cons pe (ak.cons pe (ak.J ai.z)));have bC:aO.heap[B.heap.size+1]?=some (.loop rc):=by rw[aH.heap,V];exact bB.at_
 have a7:rc.pending=none:=aK.I3;have aZ:=run_endLoop (P:=prog) bC (by rw[aK.st];simp);rw[a7]at aZ;refine⟨none,_,aZ,?_⟩;have al:W (fun c=>c=H1.size+1) Q (Q.setIfInBounds (H1.size+1) (.loop {rc with state:= .exhausted})):=o2 _;have aa:At w0 (Q.setIfInBounds (H1.size+1) (.loop {rc with state:= .exhausted})) (aO.putObj (B.heap.size+1) (.loop {rc with state:= .exhausted})):=by
  unfold World.putObj;rw[aH.heap,V];exact aH.set
 rw[a7]at al aa;obtain⟨aA,bd⟩:∃aA,aA=aO.putObj (B.heap.size+1) (.loop {rc with state:= .exhausted,pending:=none}):=⟨_,o⟩;obtain⟨M,bl⟩:∃M,M=Q.setIfInBounds (H1.size+1) (.loop {rc with state:= .exhausted,pending:=none}):=⟨_,o⟩;rw[<-bd]at aa;rw[<-bl]at al aa;rw[<-bd];have bR:=aL.size;have bS:=al.size;have aw:=al.eU;have aR:∀c,c+1<=L.size->ai bf (c+1):=fun c aj q bL bM=>by unfold U at a1;omega
 have aE:=aE.aA aw (ak.cons pe ak.nil);have ax:=ax.aA aw (ak.cons (aR _ I) ak.nil);have aF:=aF.aA aw (ak.cons pe ak.nil);have bD:W (aq []) A M:=by
  have bI:=((W.refl (S:=aq []) A).DG aN).DG ae;have bK:=bI.bf aL (ag.cons (ah.new I) (ag.cons (ah.new (dF _)) (ag.cons ah.z ag.nil)));exact bK.bf aw<|ag.cons (ah.new I) ag.nil
 show(Code.seq _ _).wpIn Fence.wide 0 _ _ _ aA;refine wpIn_seq<|wpIn_region_lit ?_;refine D3.v (w0:=w0) (H:=M) (aY aE.T D4) (by intro c e;cases e) fE rfl rfl ?_ a2 aA T aa;refine D3.v (w0:=w0) (H:=M) fl (by intro c e;cases e) fE rfl rfl ?_;intro bg aB bz aI;show Code.ret.wpIn Fence.wide 0 _ _ _ aB;refine wpIn_ret ?_;show LeavesInM Fence.wide 0 _ _ bg.tmps _ ([{target:= .collected B.heap.size,args:= #[]}]++a2.defers) .returning aB;rw[T.defers,hD];have bj:aB.heap[B.heap.size]?=some (.deferred (some [])):=by rw[aI.heap,V];exact aF.at_
 refine⟨by simp,.inl ⟨_,_,o,run_takeDeferred (P:=prog) bj,?_⟩⟩;have bF:W (fun c=>c=H1.size) M (M.setIfInBounds H1.size (.deferred none)):=o2 _;have aX:At w0 (M.setIfInBounds H1.size (.deferred none)) (aB.putObj B.heap.size (.deferred none)):=by
  unfold World.putObj;rw[aI.heap,V];exact aI.set
 have ba:=bF.eU;obtain⟨s,Y⟩:∃s:ay,az=s.v:=⟨ck az,ax.a6.symm⟩;refine⟨az,CU o o _ _ bz aX,az,_,o,aX,s,bf,out,Y,?_,?_,bE,?_⟩;rw[<-Y];exact ax.aA ba<|ak.cons (aR _ I) ak.nil;unfold U at a1⊢;omega;exact(bD.bf ba (ag.cons (ah.new I) ag.nil)).nil):p:=h
def LL{C cW:Nat}{fv:Nat->Value}{E:List (av×Nat)}{w0:World}{A:Heap}(O:Var 76 A C [.map (some cW)])(N:dA A aJ fv cW E)(aM:E.length<=1099511627776):
 a8 prog w0 167 #[.slice none 0 0,.func (.func 91) #[] #[.pointer (some ⟨C,0,none⟩)]] A (fun r K=>∃s:ay,∃k:Nat,∃out:List av,r=s.v/\aS k 9 K ha 1 s.v out/\U 0 A.size k/\(out.Nodup/\∀k,k∈out↔k∈E.map (·.1))/\an A K):=by
 let F:=91;have aP:=@func91;have aQ:=@P3;exact DZ
def Od{cW:Nat}{fv:Nat->Value}{B:List (av×Nat)}{w0:World}(N:Var 76 H n [.map (some cW)])(M:dA H aJ fv cW B)(K:B.length<=1099511627776):
 a8 prog w0 89 #[.func (.func 91) #[] #[.pointer (some ⟨n,0,none⟩)]] H (fun r C=>∃s:ay,∃k:Nat,∃out:List av,r=s.v/\aS k 9 C ha 1 s.v out/\U 0 H.size k/\(out.Nodup/\∀k,k∈out↔k∈B.map (·.1))/\an H C):=by
 refine G.bN func89 o fun A=>G.aC o Ap (LL N M K) ?_;rintro v4 Q ⟨gA,O,P,rfl,ac,ad,L,E⟩;have F:=U.al (U.refl 0 _) ad A.size;have A:=A.al E;exact G.rt o ⟨gA,O,P,o,ac,F,L,A⟩
def P6{w0:World}:
 a8 prog w0 30 #[.map (some n)] H (fun r C=>∃k:Nat,r= .func (.func 91) #[] #[.pointer (some ⟨k,0,none⟩)]/\Var 76 C k [.map (some n)]/\U 0 H.size (k+1)/\an H C):=by
 refine G.bN func30 o fun A=>G.aR o (Z.q5 o o o) ?_;rintro v1 H1 ⟨rfl,B,E,ad,F⟩;have A:=A.al E;have B:Var 76 H1 H.size ([.map (some n)]):=B;exact G.O o (M.makeFunc o o)<|G.rt o ⟨_,o,B,U.new (dF _),A⟩
def TH{cW:Nat}{fv:Nat->Value}{E:List (av×Nat)}{w0:World}(L:Var 76 H n [.map (some cW)])(K:dA H aJ fv cW E)(R:E.length<=1099511627776):
 a8 prog w0 29 #[.func (.func 91) #[] #[.pointer (some ⟨n,0,none⟩)]] H (fun r F=>∃s:ay,∃k:Nat,∃out:List av,r=s.v/\aS k 9 F ha 1 s.v out/\U 0 H.size k/\(iH out/\∀k,k∈out↔k∈E.map (·.1))/\an H F):=by
 refine G.bN func29 o fun A=>?_;have al:=L.lt;have ak:=K.lt;refine G.aC o xz (Od L K R) ?_;rintro v5 ae ⟨aa,aq,aw,rfl,C,M,B,N⟩;have ad:=U.al (U.refl 0 _) M A.size;obtain⟨A,_⟩:=cv N A;have ac:=C.le;have S:=mn B.1 (fun k Q=>(B.2 k).1 Q);rw[dK]at S;refine G.aC o Az (Dh C I) ?_;rintro ax ai ⟨Z,X,rfl,C,O,W,P⟩;have aH:=U.al ad O A.size;have A:=A.gK P (ag.J (ah.q ad));refine G.rt o ?_;obtain⟨T,V⟩:=Di B.1 W;exact⟨aa,X,Z,o,C,aH,⟨T,fun k=>by rw[V.mem_iff,B.2]⟩,A⟩
def P4(O:Loop)(bd b8 B cW D A:Nat)(S:Value)(fv:Nat->Value)(N:List (av×Nat))(w0:World)(n:Heap)
 (aw:Var 115 n B [.map (some cW)])(K:dA n aJ fv cW N)(aG:kl n D)(F:h_ n bd O)(E:Var 108 n b8 [S])(C:aS A 9 n ha 1 S [])(af:uN O b8)(bg:N.length<=1099511627776)(aA:ai (bd+1) (b8+1))(aB:ai (bd+1) A)(az:ai (b8+1) A)(ba:ai (B+1) (bd+1))(a_:ai (B+1) (b8+1))(bc:ai (B+1) A)(aE:ai (cW+1) (bd+1))(aC:ai (cW+1) (b8+1))(aF:ai (cW+1) A)(a6:ai (D+1) (bd+1))(a1:ai (D+1) (b8+1))(a7:ai (D+1) A):
 a8 prog w0 93 #[.func (.yield bd) #[] #[],.pointer (some ⟨B,0,none⟩)] n (fun r L=>∃V:Value,∃T:Nat,∃out:List av,r= .tuple #[]/\h_ L bd O/\Var 108 L b8 [V]/\aS T 9 L ha 1 V out/\U A n.size T/\(out.Nodup/\∀k,k∈out↔k∈N.map (·.1))/\W (aq [(bd+1),(b8+1),A]) n L):=by
 have aK:=@func93;have aL:=@qd;have aM:=@rR;exact DY
def LM{C cW:Nat}{fv:Nat->Value}{E:List (av×Nat)}{w0:World}{A:Heap}(O:Var 115 A C [.map (some cW)])(N:dA A aJ fv cW E)(aM:E.length<=1099511627776):
 a8 prog w0 167 #[.slice none 0 0,.func (.func 93) #[] #[.pointer (some ⟨C,0,none⟩)]] A (fun r K=>∃s:ay,∃k:Nat,∃out:List av,r=s.v/\aS k 9 K ha 1 s.v out/\U 0 A.size k/\(out.Nodup/\∀k,k∈out↔k∈E.map (·.1))/\an A K):=by
 let F:=93;have aP:=@func93;have aQ:=@P4;exact DZ
def Oe{cW:Nat}{fv:Nat->Value}{B:List (av×Nat)}{w0:World}(N:Var 115 H n [.map (some cW)])(M:dA H aJ fv cW B)(K:B.length<=1099511627776):
 a8 prog w0 89 #[.func (.func 93) #[] #[.pointer (some ⟨n,0,none⟩)]] H (fun r C=>∃s:ay,∃k:Nat,∃out:List av,r=s.v/\aS k 9 C ha 1 s.v out/\U 0 H.size k/\(out.Nodup/\∀k,k∈out↔k∈B.map (·.1))/\an H C):=by
 refine G.bN func89 o fun A=>G.aC o Ap (LM N M K) ?_;rintro v4 Q ⟨gA,O,P,rfl,ac,ad,L,E⟩;have F:=U.al (U.refl 0 _) ad A.size;have A:=A.al E;exact G.rt o ⟨gA,O,P,o,ac,F,L,A⟩
def P7{w0:World}:
 a8 prog w0 35 #[.map (some n)] H (fun r C=>∃k:Nat,r= .func (.func 93) #[] #[.pointer (some ⟨k,0,none⟩)]/\Var 115 C k [.map (some n)]/\U 0 H.size (k+1)/\an H C):=by
 refine G.bN func35 o fun A=>G.aR o (Z.q5 o o o) ?_;rintro v1 H1 ⟨rfl,B,E,ad,F⟩;have A:=A.al E;have B:Var 115 H1 H.size ([.map (some n)]):=B;exact G.O o (M.makeFunc o o)<|G.rt o ⟨_,o,B,U.new (dF _),A⟩
def TI{cW:Nat}{fv:Nat->Value}{E:List (av×Nat)}{w0:World}(L:Var 115 H n [.map (some cW)])(K:dA H aJ fv cW E)(R:E.length<=1099511627776):
 a8 prog w0 29 #[.func (.func 93) #[] #[.pointer (some ⟨n,0,none⟩)]] H (fun r F=>∃s:ay,∃k:Nat,∃out:List av,r=s.v/\aS k 9 F ha 1 s.v out/\U 0 H.size k/\(iH out/\∀k,k∈out↔k∈E.map (·.1))/\an H F):=by
 refine G.bN func29 o fun A=>?_;have al:=L.lt;have ak:=K.lt;refine G.aC o xz (Oe L K R) ?_;rintro v5 ae ⟨aa,aq,aw,rfl,C,M,B,N⟩;have ad:=U.al (U.refl 0 _) M A.size;obtain⟨A,_⟩:=cv N A;have ac:=C.le;have S:=mn B.1 (fun k Q=>(B.2 k).1 Q);rw[dK]at S;refine G.aC o Az (Dh C I) ?_;rintro ax ai ⟨Z,X,rfl,C,O,W,P⟩;have aH:=U.al ad O A.size;have A:=A.gK P (ag.J (ah.q ad));refine G.rt o ?_;obtain⟨T,V⟩:=Di B.1 W;exact⟨aa,X,Z,o,C,aH,⟨T,fun k=>by rw[V.mem_iff,B.2]⟩,A⟩
def P5(O:Loop)(bd b8 B cW D A:Nat)(S:Value)(fv:eb->Value)(N:List (av×eb))(w0:World)(n:Heap)
 (aw:Var 188 n B [.map (some cW)])(K:dA n aJ fv cW N)(aG:kl n D)(F:h_ n bd O)(E:Var 108 n b8 [S])(C:aS A 9 n ha 1 S [])(af:uN O b8)(bg:N.length<=1099511627776)(aA:ai (bd+1) (b8+1))(aB:ai (bd+1) A)(az:ai (b8+1) A)(ba:ai (B+1) (bd+1))(a_:ai (B+1) (b8+1))(bc:ai (B+1) A)(aE:ai (cW+1) (bd+1))(aC:ai (cW+1) (b8+1))(aF:ai (cW+1) A)(a6:ai (D+1) (bd+1))(a1:ai (D+1) (b8+1))(a7:ai (D+1) A):
 a8 prog w0 151 #[.func (.yield bd) #[] #[],.pointer (some ⟨B,0,none⟩)] n (fun r L=>∃V:Value,∃T:Nat,∃out:List av,r= .tuple #[]/\h_ L bd O/\Var 108 L b8 [V]/\aS T 9 L ha 1 V out/\U A n.size T/\(out.Nodup/\∀k,k∈out↔k∈N.map (·.1))/\W (aq [(bd+1),(b8+1),A]) n L):=by
 have aK:=@func151;have aL:=@Lf;have aM:=@p5;exact DY
def LN{C cW:Nat}(fv:eb->Value)(E:List (av×eb)){w0:World}{A:Heap}(O:Var 188 A C [.map (some cW)])(N:dA A aJ fv cW E)(aM:E.length<=1099511627776):
 a8 prog w0 167 #[.slice none 0 0,.func (.func 151) #[] #[.pointer (some ⟨C,0,none⟩)]] A (fun r K=>∃s:ay,∃k:Nat,∃out:List av,r=s.v/\aS k 9 K ha 1 s.v out/\U 0 A.size k/\(out.Nodup/\∀k,k∈out↔k∈E.map (·.1))/\an A K):=by
 let F:=151;have aP:=@func151;have aQ:=@P5;exact DZ
def FF{cW:Nat}(fv:eb->Value)(B:List (av×eb)){w0:World}(N:Var 188 H n [.map (some cW)])(M:dA H aJ fv cW B)(K:B.length<=1099511627776):
 a8 prog w0 89 #[.func (.func 151) #[] #[.pointer (some ⟨n,0,none⟩)]] H (fun r C=>∃s:ay,∃k:Nat,∃out:List av,r=s.v/\aS k 9 C ha 1 s.v out/\U 0 H.size k/\(out.Nodup/\∀k,k∈out↔k∈B.map (·.1))/\an H C):=by
 refine G.bN func89 o fun A=>G.aC o Ap (LN fv B N M K) ?_;rintro v4 Q ⟨gA,O,P,rfl,ac,ad,L,E⟩;have F:=U.al (U.refl 0 _) ad A.size;have A:=A.al E;exact G.rt o ⟨gA,O,P,o,ac,F,L,A⟩
def Hp{w0:World}:
 a8 prog w0 69 #[.map (some n)] H (fun r C=>∃k:Nat,r= .func (.func 151) #[] #[.pointer (some ⟨k,0,none⟩)]/\Var 188 C k [.map (some n)]/\U 0 H.size (k+1)/\an H C):=by
 refine G.bN func69 o fun A=>G.aR o (Z.q5 o o o) ?_;rintro v1 H1 ⟨rfl,B,E,ad,F⟩;have A:=A.al E;have B:Var 188 H1 H.size ([.map (some n)]):=B;exact G.O o (M.makeFunc o o)<|G.rt o ⟨_,o,B,U.new (dF _),A⟩
def TJ{cW:Nat}(fv:eb->Value)(C:List (av×eb)){w0:World}(L:Var 188 H n [.map (some cW)])(K:dA H aJ fv cW C)(R:C.length<=1099511627776):
 a8 prog w0 29 #[.func (.func 151) #[] #[.pointer (some ⟨n,0,none⟩)]] H (fun r F=>∃s:ay,∃k:Nat,∃out:List av,r=s.v/\aS k 9 F ha 1 s.v out/\U 0 H.size k/\(iH out/\∀k,k∈out↔k∈C.map (·.1))/\an H F):=by
 refine G.bN func29 o fun A=>?_;have al:=L.lt;have ak:=K.lt;refine G.aC o xz (FF fv C L K R) ?_;rintro v5 ae ⟨aa,aq,aw,rfl,E,M,B,N⟩;have ad:=U.al (U.refl 0 _) M A.size;obtain⟨A,_⟩:=cv N A;have ac:=E.le;have S:=mn B.1 (fun k Q=>(B.2 k).1 Q);rw[dK]at S;refine G.aC o Az (Dh E I) ?_;rintro ax ai ⟨Z,X,rfl,E,O,W,P⟩;have aH:=U.al ad O A.size;have A:=A.gK P (ag.J (ah.q ad));refine G.rt o ?_;obtain⟨T,V⟩:=Di B.1 W;exact⟨aa,X,Z,o,E,aH,⟨T,fun k=>by rw[V.mem_iff,B.2]⟩,A⟩
def Ih:∀{ml:List b9} {l:gb} {q:av},fh l->(∀x∈ml,x.n≠q)->ax (ml.foldl fS l) q=ax l q
 |[],_,_,_,_=>rfl
 |x::ml,l,q,h,ar=>by
  rw[kO,Ih (xZ h x) (fun y hy=>ar y (gx _ hy)),wa h,au (fun e=>ar x fZ e.symm)]
def Ig:∀{ml:List b9} {l:gb} {m:b9},fh l->(ml.map (·.n)).Nodup->m∈ml->ax (ml.foldl fS l) m.n=if m.w=bO then none else some m.w
 |x::ml,l,m,h,ar,hm=>by
  rw[dQ,oV]at ar;rw[kO];rcases dI.1 hm with rfl|hm;rw[Ih (xZ h m) (fun y hy e=>ar.1 (by rw[<-e];exact vO hy)),wa h,aD rfl];exact Ig (xZ h x) ar.2 hm
def Q6{l:gb}{pre r:List b9}{m:b9}(h:ll l pre (m::r)=0):jF l pre m=0/\ll l (pre++[m]) r=0:=by
 rw[ll]at h;by_cases k:jF l pre m≠0;rw[aD k]at h;exact absurd h k;rw[au k]at h;exact⟨by simpa using k,h⟩
def Q0{l:gb}{pre:List b9}{m:b9}(h:jF l pre m=0):m.n∉pre.map (·.n):=by
 intro n;unfold jF at h;by_cases k:fi m.n≠0;rw[aD k]at h;cases h;rw[au k,aD n]at h;cases h
def Ik:∀{ml:List b9} {l:gb} {pre:List b9},ll l pre ml=0->(ml.map (·.n)).Nodup/\∀m∈ml,m.n∉pre.map (·.n)
 |[],_,_,_=>⟨vM,fun m h=>by cases h⟩
 |x::ml,l,pre,h=>by
  obtain⟨n,r⟩:=Q6 h;obtain⟨A,k⟩:=Ik r;refine⟨?_,fun m hm=>?_⟩;rw[dQ,oV];refine⟨fun C=>?_,A⟩;obtain⟨y,hy,e⟩:=dp.1 C;exact k y hy (by rw[e];simp);rcases dI.1 hm with rfl|hm;exact Q0 n;intro B;exact k m hm (by rw[hc];exact BC _ B)
def Pn{u m:gb}{n:av}{out:List av}(hm:∀q,ax m q=ax u q)(E:∀k,k∈out↔k∈(ey m n).map (·.1)):out.any (m2 n)=(u.map (·.1)).any (fun x=>decide (x≠n)&&m2 n x)/\n∉out:=by
 have e:∀k,k∈out↔k∈u.map (·.1)/\k≠n:=by
  intro k;rw[E,<-gM,mK,<-gM];by_cases r:k=n;simp[r];rw[au r,hm];simp[r]
 refine⟨?_,fun h=>((e n).1 h).2 o⟩;rw[Bv,qw,qw];constructor;rintro⟨x,A,h⟩;obtain⟨B,C⟩:=(e x).1 A;exact⟨x,B,by simp[C,h]⟩;rintro⟨x,A,h⟩;rw[ob,lf]at h;exact⟨x,(e x).2 ⟨A,h.1⟩,h.2⟩
def KH{l:gb}{ml:List b9}(n:∀x∈l,x.1.length<=60)(h:ll l [] ml=0):∀x∈ml.foldl fS l,x.1.length<=60:=by
 intro x k;rcases yJ k with k|⟨m,hm,e,_⟩;exact n x k;rw[e];exact((r8 m.n).1 (ua h m hm)).1
def GN{u:gb}{ml:List b9}(h:∀m∈ml,kM u m=false):tv u ml=0:=by
 unfold tv;rw[au];rw[qw];rintro⟨m,hm,e⟩;rw[h m hm]at e;cases e
def GM{u:gb}{ml:List b9}{m:b9}(hm:m∈ml)(h:kM u m=true):tv u ml=13:=by
 unfold tv;rw[aD (qw.2 ⟨m,hm,h⟩)]
def r4{l:List aP}{p:aP->Prop}{i:Nat}(h:∀x∈l.take i,p x)(r:i<l.length)(n:p l[i]):∀x∈l.take (i+1),p x:=by
 intro x k;rw[fc r]at k;rcases gR.1 k with k|k;exact h x k;rw[fm.1 k];exact n
def QY{x:b9}{m:b9}{w0:World}(B:Var 70 H n (ep m)):
 a8 prog w0 149 #[qI x,.pointer (some ⟨n,0,none⟩)] H (fun r k=>r= .bool (decide (x.n=m.n))/\an H k):=by
 refine G.bN func149 o fun A=>G.aR o (Z.qi o o) ?_;rintro v2 k ⟨rfl,C,E,ad,F⟩;obtain⟨B,A,_⟩:=bG E B A;have C:Var 70 k H.size (ep x):=C;exact G.aG o C.T dJ b7 cm o o<|G.aG o B.T dJ b7 cm o o<|G.ae 0 o (M.ox o o o)<|G.rt o ⟨o,A⟩
def PQ{v eL:Value}{l:List b9}{p:b9->Bool}{w0:World}(k:b_ V ep 66 v l)(O:∀(x:b9) (aa:Heap),an V aa->x∈l->iV prog w0 eL [qI x] aa (fun r C=>r= .bool (p x)/\an aa C)):
 a8 prog w0 196 #[v,eL] V (fun r C=>∃n:Int,r= .int .i64 n/\((0<=n↔l.any p=true)/\ -1<=n/\n<=9223372036854775807)/\an V C):=by
 refine G.bN func196 o fun A=>?_;have k:=k.cD;have Z:=k.len;refine G.O o (bz k gg) ?_
 refine G.bd o (fun(j:Nat)=>[(0,v),(1,eL),(7,.int .i64 l.length),(8,.int .i64 j)])
  (fun(j:Nat) (H:Heap)=>(j<=l.length)/\(l.take j).any p=false/\an V H)
  (fun(j:Nat)=>l.length-j) 0 ⟨I,o,W.refl _ _⟩ ?_
 rintro j R ⟨X,E,B⟩ P N;obtain⟨k,A,_⟩:=bG B k A;refine G.ip o ?_ ?_<;>intro U;refine G.pp o (M.cw k j o gg fD o o) fun Q K=>G.O o (bu K.T lI fD<|fF _)<|G.gF o o o o (O l[j] _ A (cS I)) ?_;rintro S T ⟨rfl,L⟩;obtain⟨A,B,_⟩:=bG L A B;refine G.ci o ?_ ?_<;>intro F;exact G.rt o ⟨j,o,⟨⟨fun _=>s6 (j:=j) I (by simpa using F),fun _=>by omega⟩,by omega,by omega⟩,A⟩;exact G.O o bB<|G.aQ o<|N (j+1) _ ⟨I,xc E I (by simpa using F),B⟩;exact G.rt o ⟨-1,o,⟨⟨fun h=>by omega,fun h=>by rw[e5 I,h]at E;cases E⟩,by omega,by omega⟩,A⟩
def Oj{v eL:Value}{l:List b9}{p:b9->Bool}{w0:World}(k:b_ H ep 66 v l)(E:∀(x:b9) (aa:Heap),an H aa->x∈l->iV prog w0 eL [qI x] aa (fun r n=>r= .bool (p x)/\an aa n)):
 a8 prog w0 148 #[v,eL] H (fun r n=>r= .bool (l.any p)/\an H n):=by
 refine G.bN func148 o fun A=>?_;have k:=k.cD;have K:=k.len;refine G.aC o M4 (PQ k.any E) ?_;rintro L F ⟨n7,rfl,C,ac⟩;have A:=A.al ac;exact G.rt o ⟨by cases B:l.any p with|true=>(rw[fB (C.1.2 B)])|false=>(rw[fG (fun h=>by rw[C.1.1 h]at B;cases B)]),A⟩
def QV{s:cf}{v:Value}{ml:List b9}{w0:World}(aV:gL vq24z V)(aA:bk (fun b=>b=0) V.size)(Y:fV F V s)(cr:bk F V.size)(hm:b_ V ep 66 v ml)(fK:fh (cH s.bK))(cQ:∀x∈(cH s.bK),x.1.length<=60)(bL:∀m∈ml,m.n.length<=140737488355328):
 a8 prog w0 61 #[hV s,v] V (fun r aZ=>r= .int .i64 (ix (cH s.bK) ml)/\an V aZ):=by
 refine G.bN func61 o fun k=>?_;have hm:=hm.cD;have bl:=hm.c7;have dY:=hm.len;refine G.aR o (Z.bT<|cl s) ?_;rintro v2 aZ ⟨rfl,ae,cL,_⟩;obtain⟨aV,Y,hm,k,_⟩:=dZ cL aV Y hm k;refine G.O o (bu ae.T iA ff<|dw _)<|G.aC o Fk (Kj Y<|cr.mono I) ?_;rintro c1 cy ⟨cW,rfl,n,aH,b1⟩;have aL:=aw.app aw.z (aA.mono k.size) aH;have bH:=aw.app aw.z (bl.mono k.size) aH;have aF:=U.al (U.refl 0 _) aH k.size;obtain⟨aV,hm,k,_⟩:=cg b1 aV hm k;have bb:=n.le;have bP:=HZ s.bK fK.nodup;refine G.O o (bz hm gg) ?_
 refine G.bd o (fun(j:Nat)=>[(1,v),(5,.map (some cW)),(16,v),(17,.int .i64 (ml.length:Int)),(18,.int .i64 (j:Int))])
  (fun(j:Nat) (H:Heap)=>(j<=ml.length)/\(∀i (h:i<j),∀bK:i<ml.length,jF (cH s.bK) (ml.take i) ml[i]=0)/\an cy H)
  (fun(j:Nat)=>ml.length-j) 0 ⟨I,(fun i h=>by omega),W.refl _ _⟩ ?_
 rintro j aM ⟨dV,aN,E⟩ cY cA;obtain⟨aV,hm,n,k,_⟩:=dZ E aV hm n k;refine G.ip o ?_ ?_<;>intro dh;have P:j<ml.length:=by omega
 obtain⟨y,O⟩:∃q,q=ml[j]:=⟨_,o⟩;have ak:y∈ml:=by rw[O];exact cS P
 have ed:=bL y ak;refine G.pp o (M.cw hm j o gg fD o o) fun di ct=>G.O o (M.cast (v2:= .agg (ep y).toArray) (bu ct.T lI fD<|fF _) (by rw[O]))<|G.aR o (Z.bt p9) ?_;rintro ee cX ⟨rfl,Q,cC,_⟩;have bi:=aw.new (aA.mono k.size);have cu:=aw.new (bl.mono k.size);have aT:=ai.new n.le;have bD:=U.new k.size;have cv:=U.new E.size;obtain⟨aV,hm,n,k,E,_⟩:=d_ cC aV hm n k E;refine G.bl o (S.var Q _ (ep y) o o o o (l9 y) fD (fF _) aO ((ea (fF _).symm))) ?_;rintro bA ⟨Q,b6⟩;obtain⟨aV,hm,n,k,E,_⟩:=fT b6 aV bi hm cu n aT k bD E cv;refine G.cJ o (fun L=>an bA L) [] o ?_;have B:=an.refl bA;refine N.aK 0 dJ b7 B ?_;refine N.t1 1 o (fun L A=>aY (Q.T.aL A) cm) B ?_;refine N.bo 3 o B ?_;refine N.bo 4 o B ?_;refine N.e (g:=fun v=>v) 5 aW o aW aW aW (iG hm (0) j gg fD (.inl ⟨o,o⟩) (.inr ⟨_,_,_,o,o,by first|rfl|omega⟩)) fE o o B fun c3 aI=>?_;rw[mf]at aI;refine N.t1 6 o (fun L A=>M.makeFunc o o) B ?_;refine N.bo 10 o B ?_;refine N.aK 11 dJ b7 B ?_;refine N.t1 12 o (fun L A=>aY (Q.T.aL A) cm) B ?_;refine N.t1 13 o (fun L A=>M.cast (v2:=b4 (k7 (cH s.bK) y.n)) (M.lookup (z0:=bO) (n.aL A).fQ hZ o p5 underlying9 mZ o o) (by rw[k7,<-bP])) B ?_;refine N.aK 14 dJ bE B ?_;refine N.t1 15 o (fun L A=>M.cast (v2:=b4 y.J) (bu (((Q.T.drop 1).aL A).take 32) dj bE (by rw[jR];exact bJ _))<|dk<|jR _) B ?_;refine N.t1 16 o (fun L A=>M.nS o Tryz.eqGuardType40 (fun w=>jH 9998 underlying40 underlying5 db e8 ((k7 (cH s.bK) y.n).2) y.J.2 w) o o) B ?_;refine N.aK 18 dJ bE B ?_;refine N.t1 19 o (fun L A=>M.cast (v2:=b4 y.w) (bu (((Q.T.drop 33).aL A).take 32) dj bE (by rw[hA];exact bJ _))<|dk<|hA _) B ?_;refine N.aK 20 dJ bE B ?_;refine N.t1 21 o (fun L A=>M.cast (v2:=b4 y.J) (bu (((Q.T.drop 1).aL A).take 32) dj bE (by rw[jR];exact bJ _))<|dk<|jR _) B ?_;refine N.t1 22 o (fun L A=>M.qf o Tryz.eqGuardType40 (fun w=>jH 9998 underlying40 underlying5 db e8 y.w.2 y.J.2 w) o o) B ?_;refine N.ba 2 ?_;refine cK xx (xD y.n aV (aA.mono I) I) ?_;rintro c4 gG ⟨rfl,bC⟩;obtain⟨Q,aI,k,E,_⟩:=dZ bC Q aI k E;have bS:=B.al bC;refine N.cx bS ?_;refine N.ba 7 ?_;refine cK MK (Oj aI.any fun x aa ar _=>iV.of (caps:=[.pointer (some ⟨aM.size,0,none⟩)]) ML<|QY<|Q.aL ar) ?_;rintro c8 ci ⟨rfl,a6⟩;obtain⟨k,E,_⟩:=bG a6 k E;have bT:=(an.refl gG).al a6;refine N.cx bT ?_;have bm:=an.refl ci;refine N.t1 8 o (fun L A=>e7) bm ?_;refine N.ba 9 ?_;refine cK kt (CZ) ?_;rintro c9 cD ⟨rfl,a7⟩;obtain⟨k,E,_⟩:=bG a7 k E;have bU:=bm.al a7;refine N.cx bU ?_;refine N.ba 17 ?_;refine fN.call o o kt o fE o o (lp (decide (k7 (cH s.bK) y.n=y.J))<|decide_eq_decide.2 ⟨fun h=>ij h,fun h=>by rw[h]⟩) ?_;rintro c_ cE ⟨rfl,a_⟩;obtain⟨k,E,aC⟩:=bG a_ k E;have bV:=(an.refl cD).al a_;refine N.cx bV ?_;refine N.ba 23 ?_;refine fN.call o o kt o fE o o (lp (decide (¬y.w=y.J))<|decide_eq_decide.2 ⟨fun h e=>h (by rw[e]),fun h e=>h (ij e)⟩) ?_;rintro da cF ⟨rfl,ba⟩;obtain⟨k,E,_⟩:=bG ba k E;have bW:=(an.refl cE).al ba;refine N.cx bW ?_;refine N.ba 24 ?_;refine eP o (Z.cV<|c5 _ ([fi y.n,fR (!((ml.take j).any (fun x=>decide (x.n=y.n)))) 18,fR (decide (k7 (cH s.bK) y.n=y.J)) 21,fR (decide (¬y.w=y.J)) 26]) pF nW nX) ?_;rintro dc cG ⟨cw,bc,_⟩;obtain⟨k,E,_⟩:=bG bc k E;have bY:=(an.refl cF).al bc;refine N.cx bY ?_;refine N.ba 25 ?_;refine cK py (pW cw.rd.any) ?_;rintro dd co ⟨rfl,bd⟩;obtain⟨k,E,_⟩:=bG bd k E;rw[QZ];have bZ:=(an.refl cG).al bd;refine N.cx bZ ?_;have bo:=an.refl co;refine N.t1 26 o (fun L A=>fl) bo ?_;refine G.dn aW ?_;have cV:=bo;refine G.ip o ?_ ?_<;>intro a9;exact G.rt o ⟨by have A:=Cj (ml:=ml) (l:=(cH s.bK)) (pre:=[]) (j:=j) P (fun i h=>by rw[gw];exact aN i h I) (by rw[gw,<-O];exact a9);rw[gw,<-O]at A;rw[ix,aD (by rw[A];exact a9),A],k⟩;exact G.O o bB<|G.aQ o<|cA (j+1) _ ⟨I,(fun i h bK=>by rcases sn i j with X|X;exact aN i X bK;obtain rfl:i=j:=I;rw[<-O];simpa using a9),E⟩;obtain rfl:j=ml.length:=by omega
 have az:ll (cH s.bK) [] ml=0:=Ck (fun i aQ=>by rw[gw];exact aN i aQ aQ);have cP:=(Ik az).1;refine G.O o (bz hm gg) ?_
 refine G.bd o (fun(aR:Nat×(List (List UInt8×eb)))=>match aR with|(i,ag)=>[(1,v),(5,.map (some cW)),(53,v),(54,.int .i64 (ml.length:Int)),(55,.int .i64 (i:Int))])
  (fun(i,ag) (H:Heap)=>(i<=ml.length)/\dA H aJ b4 cW ag/\(∀q,ax ag q=ax ((ml.take i).foldl fS (cH s.bK)) q)/\W (aq [(cW+1)]) aM H)
  (fun(i,ag)=>ml.length-i) (0,qU s.bK) ⟨I,n,bP,W.refl _ _⟩ ?_
 rintro⟨i,ag⟩ bI ⟨aQ,n,A,R⟩ df cx;obtain⟨aV,hm,k,_⟩:=dg R aV aL hm bH k aF;refine G.ip o ?_ ?_<;>intro dq;have P:i<ml.length:=by omega
 obtain⟨y,O⟩:∃q,q=ml[i]:=⟨_,o⟩;have ak:y∈ml:=by rw[O];exact cS P
 refine G.pp o (M.cw hm i o gg fD o o) fun dr ch=>G.O o (M.cast (v2:= .agg (ep y).toArray) (bu ch.T lI fD<|fF _) (by rw[O]))<|G.aR o (Z.bt p9) ?_;rintro dB dG ⟨rfl,aX,cj,_⟩;have ck:=ai.new n.le;have cp:=U.new R.size;obtain⟨n,R,_⟩:=bG cj n R;refine G.bl o (S.var aX _ (ep y) o o o o (l9 y) fD (fF _) aO ((ea (fF _).symm))) ?_;rintro dC ⟨aX,am⟩;obtain⟨n,R,_⟩:=de am n ck R (ah.q cp);refine G.O o (bu aX.T lI fD<|fF _)<|G.aC o Fl (H8 ag n) ?_;rintro bh eY ⟨rfl,n,cq⟩;obtain⟨R,_⟩:=cz cq R (ah.r (U.refl (cW+1) aM.size));exact G.O o bB<|G.aQ o<|cx (i+1,oh ag y) _ ⟨I,n,(fun q=>by rw[oP P,<-O,B6,wa (oS fK),A]),R⟩;obtain rfl:i=ml.length:=by omega
 rw[eQ]at A;have ec:=B4 n.fQ.nodup (oS fK).nodup A;refine G.O o (M.H0 n.fQ o p5 o)<|G.ip o ?_ ?_<;>intro dt;exact G.rt o ⟨by rw[ix,au (by rw[az];decide),aD I],k⟩;have dS:(ml.foldl fS (cH s.bK)).length<=200:=by omega
 refine G.O o (bz hm gg) ?_
 refine G.bd o (fun(aR:Nat×(List (List UInt8×eb)))=>match aR with|(i3,T)=>[(5,.map (some cW)),(66,v),(67,.int .i64 (ml.length:Int)),(68,.int .i64 (i3:Int))])
  (fun(i3,T) (H:Heap)=>(i3<=ml.length)/\dA H aJ b4 cW T/\(∀q,ax T q=ax (ml.foldl fS (cH s.bK)) q)/\(∀m∈ml.take i3,kM (ml.foldl fS (cH s.bK)) m=false)/\W (aq [(cW+1)]) bI H)
  (fun(i3,T)=>ml.length-i3) (0,ag) ⟨I,n,A,(fun m h=>by simp at h),W.refl _ _⟩ ?_
 rintro⟨i3,T⟩ hJ ⟨dU,n,al,X,C⟩ dH aK;obtain⟨aV,hm,k,_⟩:=dg C aV aL hm bH k aF;have ac:=U.refl (cW+1) bI.size;refine G.ip o ?_ ?_<;>intro du;have P:i3<ml.length:=by omega
 obtain⟨y,O⟩:∃q,q=ml[i3]:=⟨_,o⟩;have ak:y∈ml:=by rw[O];exact cS P
 refine G.pp o (M.cw hm i3 o gg fD o o) fun dv b8=>G.O o (M.cast (v2:= .agg (ep y).toArray) (bu b8.T lI fD<|fF _) (by rw[O]))<|G.aR o (Z.bt p9) ?_;rintro iI dI ⟨rfl,K,bX,_⟩;have bM:=aw.new (aA.mono k.size);have bf:=ai.new n.le;have ca:=U.new k.size;have cb:=U.new C.size;obtain⟨aV,n,k,C,_⟩:=dZ bX aV n k C;refine G.bl o (S.var K _ (ep y) o o o o (l9 y) fD (fF _) aO ((ea (fF _).symm))) ?_;rintro dD ⟨K,aU⟩;obtain⟨aV,n,k,C,_⟩:=dx aU aV bM n bf k ca C (ah.q cb);refine G.aK o dJ bE o<|G.O o (M.cast (v2:=b4 y.J) (bu ((K.T.drop 1).take 32) dj bE (by rw[jR];exact bJ _))<|dk<|jR _)<|G.aC o pz (pY y.J) ?_;rintro dK dM ⟨rfl,cc⟩;obtain⟨aV,n,K,k,C,_⟩:=d_ cc aV n K k C;refine G.O o (M.mL o o)<|G.sp 1 76 o ?_ ?_<;>intro cs;exact G.it o<|G.O o bB<|G.aQ o<|aK (i3+1,T) _ ⟨I,n,al,r4 X P (by rw[<-O];unfold kM;rw[fG (by first|exact aE|(intro h;simp_all))]<;>rfl),C⟩;refine G.aK o dJ bE o<|G.O o (M.cast (v2:=b4 y.w) (bu ((K.T.drop 33).take 32) dj bE (by rw[hA];exact bJ _))<|dk<|hA _)<|G.aC o pz (pY y.w) ?_;rintro dN dO ⟨rfl,cd⟩;obtain⟨aV,n,K,k,C,_⟩:=d_ cd aV n K k C;refine G.ip o ?_ ?_<;>intro dy;have aE:¬(y.J=bO/\y.w≠bO):=by first|(intro h;simp_all)
 exact G.O o bB<|G.aQ o<|aK (i3+1,T) _ ⟨I,n,al,r4 X P (by rw[<-O];unfold kM;rw[fG (by first|exact aE|(intro h;simp_all))]<;>rfl),C⟩;have aE:y.J=bO/\y.w≠bO:=by first|exact⟨by simpa using cs,by assumption⟩|(constructor<;>simp_all)
 refine G.aG o K.T dJ b7 cm o o<|G.uM o (Z.xG n hZ o p5 underlying9 o o) ?_;rintro dE bq ⟨rfl,n,b2⟩;obtain⟨aV,K,k,C,_⟩:=dx b2 aV aL K bf.symm k aF C (ah.r ac);refine G.cJ o (fun L=>an bq L) [] o ?_;have B:=an.refl bq;refine N.aK 0 dJ b7 B ?_;refine N.t1 1 o (fun L A=>aY (K.T.aL A) cm) B ?_;refine N.bo 2 o B ?_;refine N.ba 3 ?_;refine cK Fm (Hp) ?_;rintro dl bw ⟨c0,rfl,ay,dW,bg⟩;obtain⟨aV,n,K,k,C,_⟩:=d_ bg aV n K k C;have cZ:=ay.le;have b0:=B.al bg;refine N.cx b0 ?_;refine N.ba 4 ?_;have dX:=B4 n.fQ.nodup (show((ey (ml.foldl fS (cH s.bK)) y.n).map (·.1)).Nodup from(A7 (oS fK)).nodup) (fun q=>by rw[mK,mK,al]);have dT:(ey (ml.foldl fS (cH s.bK)) y.n).length<=(ml.foldl fS (cH s.bK)).length:=nD _ _;refine cK xz (FF b4 (ey T y.n) ay n I) ?_;rintro bj fO ⟨dn,dP,bQ,rfl,a0,dz,bN,a2⟩;obtain⟨aV,n,K,ay,k,C,_⟩:=f_ a2 aV n K ay k C;have a3:=a0.le;obtain⟨cN,cO⟩:=Pn al bN.2;have aP:mF y.n bQ=if kM (ml.foldl fS (cH s.bK)) y=true then 13 else 0:=by rw[GO (ua az y ak) cO,cN];unfold kM;rw[fB aE,yh]
 have cU:∀x∈bQ,x.length<=140737488355328:=fun x ay=>by
  have aB:=(bN.2 x).1 ay;rw[<-gM,mK]at aB;split at aB;cases aB;rw[al,gM]at aB;obtain⟨z,aC,rfl⟩:=dp.1 aB;have:=(KH cQ az) z aC;omega
 have a4:=(an.refl bw).al a2;refine N.cx a4 ?_;refine N.ba 5 ?_;refine cK MM (Po aV (aA.mono I) a0.rd.any (bL y ak) cU) ?_;rintro dQ cI ⟨rfl,a1⟩;obtain⟨n,K,k,C,_⟩:=dZ a1 n K k C;have bR:=(an.refl fO).al a1;refine N.cx bR ?_;have bt:=an.refl cI;refine N.t1 6 o (fun L A=>fl) bt ?_;refine G.dn aW ?_;have cV:=bt;refine G.aG o K.T dJ b7 cm o o<|G.aK o dJ bE o<|G.O o (M.cast (v2:=b4 y.w) (bu ((K.T.drop 33).take 32) dj bE (by rw[hA];exact bJ _))<|dk<|hA _)<|G.bl o (S.qO y.w n hZ o p5 underlying9 o o o) ?_;rintro dF ⟨n,b5⟩;obtain⟨k,C,_⟩:=de b5 k aF C (ah.r ac);refine G.ip o ?_ ?_<;>intro bF;exact G.rt o ⟨by have av:kM (ml.foldl fS<|cH s.bK) y=true:=(by cases av:kM (ml.foldl fS (cH s.bK)) y with|true=>rfl|false=>exact absurd (by rw[aP,av]<;>rfl) bF);rw[ix,au (by rw[az];decide),au I,GM ak av,aP,aD av],k⟩;refine G.O o bB<|G.aQ o<|aK (i3+1,h8 (ey T y.n) y.n y.w) _ ?_;exact⟨I,n,(fun q=>by
   rw[o1,mK];by_cases aG:q=y.n;rw[aD aG,aG,Ig fK cP ak,au aE.2];rw[au aG,au aG,al]),r4 X P (by rw[<-O];cases av:kM (ml.foldl fS (cH s.bK)) y with|false=>rfl|true=>exact absurd (by rw[aP,av];decide) bF),C⟩
 exact G.rt o ⟨by obtain rfl:i3=ml.length:=I;rw[eQ]at X;rw[ix,au (by rw[az];decide),au I,GN X],k⟩
def Ho{l:List b1}{m:List (eb×Int)}{P:eb->Prop}{j:Nat}(h:∀k,(ax m k).isSome=true↔P k\/∃x∈l.take j,x.k=k)(B:j<l.length):∀k,(ax (h8 m l[j].k vq24z) k).isSome=true↔P k\/∃x∈l.take (j+1),x.k=k:=by
 intro k;rw[o1,fc B];by_cases r:k=l[j].k;rw[aD r];exact⟨fun _=> .inr ⟨l[j],List.mem_append_right _ (fm.2 o),r.symm⟩,fun _=>rfl⟩;rw[au r,h];constructor;rintro(A|⟨x,n,e⟩);exact .inl A;exact .inr ⟨x,BC _ n,e⟩;rintro(A|⟨x,n,e⟩);exact .inl A;rcases gR.1 n with n|n;exact .inr ⟨x,n,e⟩;rw[fm.1 n]at e;exact absurd e.symm r
def ic(a b:Int):Int:=if a≠0 then a else b
def xW(a b:Int):lb [a,b]=ic a b:=by
 unfold ic;by_cases h:a≠0;simp[lb,h];have h:a=0:=by simpa using h
 subst h;by_cases k:b=0<;>simp[lb,k]
def A6(a b c:Int):ic (ic a b) c=ic a (ic b c):=by
 unfold ic;by_cases h:a≠0;rw[aD h,aD h,aD h];rw[au h,au h]
def FD(s:eS)(t:b5):fx s t=ic (ic (ic (ic (hF t) (iv t)) (ix s.cC t.ml)) (jc t)) (mi s.jC t.el):=by
 rw[A6,A6,A6];rfl
def Bc{t:b5}{a:Int}(k:t.bP=true)(n:t.ab≠[]):some (Value.int .i64 (ic a (fi t.ab)))=some (Value.int .i64 (ic a (iv t))):=by unfold iv;rw[aD ⟨k,n⟩]
def GW(a:Int):ic a 0=a:=by unfold ic;by_cases h:a≠0<;>simp_all
def tC{t:b5}{a:Int}(h:t.bP=false\/t.ab=[]):some (Value.int .i64 a)=some (Value.int .i64 (ic a (iv t))):=by
 unfold iv;rw[au,GW];rintro⟨k,n⟩;rcases h with h|h;rw[h]at k;cases k;exact n h
def J0{t:b5}{a:Int}(k:t.Y=true):some (Value.int .i64 (ic a (if t.q.k≠0 then jI t.q else 0)))=some (Value.int .i64 (ic a (jc t))):=by unfold jc;simp[k]
def JZ{t:b5}{a:Int}(k:t.Y=false):some (Value.int .i64 a)=some (Value.int .i64 (ic a (jc t))):=by unfold jc;simp[k,GW]
def yO(t:b5):fR (decide (hF t=0)) 1=hF t:=by
 unfold fR hF;split<;>simp_all
def oj{t:b5}(h:t.bP=true\/t.Y=true\/0<t.ml.length\/0<t.el.length):true=decide (hF t=0):=by
 refine(fB ?_).symm;unfold hF;rw[au];rintro⟨k,n,r,A⟩;rw[k,n,r,A]at h;simp at h
def yN{t:b5}(n:t.bP=false)(r:t.Y=false)(k:¬0<t.ml.length):decide ((t.el.length:Int)>0)=decide (hF t=0):=by
 unfold hF;have k:t.ml=[]:=Hi.1 I;cases A:t.el with
 |nil=>simp[n,r,k]
 |cons a l=>simp[n,r,k]
def Kp:∀{l:List hz},jK l=0->∀t∈l,1<=t.d/\t.d<=3
 |[],_,t,h=>by cases h
 |a::l,h,t,k=>by
  rw[jK]at h;by_cases e:kc a≠0;rw[aD e]at h;exact absurd h e;rw[au e]at h;rcases dI.1 k with rfl|k;apply hB;intro n;unfold kc at e;rw[aD n]at e;exact e aO;exact Kp h t k
def Gl{x:dX}(h:jI x=0):uP x/\(x.k=1\/x.k=2):=by
 unfold jI at h;split at h;cases h;rename_i k;split at h;cases h;rename_i n;split at h;cases h;rename_i r;split at h;cases h;rename_i F;have A:k6 x=true:=by cases e:k6 x with|true=>rfl|false=>exact absurd e r
 obtain⟨_,_,a3,a4,a5,E,_⟩:=jS A;have hb:=((r8 x.br).1 (by simpa using n)).1;have B:x.k=1\/x.k=2:=oX.1 k;exact⟨⟨by omega,by omega,by omega,by omega,by omega,fun t C=>by have:=Kp h t C;omega⟩,B⟩
structure mz (t:b5):Prop where
 ml:t.ml.length<=65535
 el:t.el.length<=65535
 Im:∀m∈t.ml,m.y.length<=65535
 mm:∀m∈t.ml,m.n.length<=140737488355328
 ab:t.ab.length<=140737488355328
 br:t.q.br.length<=140737488355328
 bF:t.q.bF.length<=1048576
 pP:(ej t).length<=1048576
def xL{s:eS}{t:b5}(h:mz t)(c:fx s t=0):qa t:=by
 have c:=xB c;refine⟨h.ml,h.el,fun bP=>?_,fun m hm=>⟨?_,h.Im m hm⟩,fun m hm=>?_,fun Y=>?_,fun Y r=>?_⟩;have k:=c.ab;unfold iv at k;by_cases n:t.ab=[];rw[n];simp;rw[aD ⟨bP,n⟩]at k;have:=((r8 t.ab).1 k).1;omega;have:=((r8 m.n).1 (ua c.fH m hm)).1;omega;have k:=v8 c.jC m hm;unfold jj at k;split at k;cases k;split at k;cases k;omega;have k:=c.e1;unfold jc at k;by_cases n:t.q.k=0;omega;rw[aD ⟨Y,n⟩]at k;have:=(Gl k).2;omega;have k:=c.e1;unfold jc at k;rw[aD ⟨Y,r⟩]at k;exact(Gl k).1
def QP{s:cf}{v:Value}{el:List b1}{w0:World}(Y:fV F V s)(bl:bk F V.size)(he:b_ V cA 33 v el)(ab:∀y∈el,b_ V a7 1 y.v.v y.d)(fK:fh (dV s.el)):
 a8 prog w0 63 #[hV s,v] V (fun r E=>r= .int .i64 (mi (dV s.el) el)/\an V E):=by
 refine G.bN func63 o fun n=>?_;have he:=he.cD;have a_:=he.c7;have ab:=fun y bH=>(ab y bH).cD;have az:bk (fun b=>True/\b<V.size) V.size:=fun b h=>h.2;have b8:=he.len;have cc:=Y.e.len;refine G.aR o (Z.bT<|cl s) ?_;rintro v2 E ⟨rfl,ae,bA,_⟩;obtain⟨Y,he,ab,n,_⟩:=dZ bA Y he ab n;refine G.aR o (Z.gA<|Z.sD b4 (Value.int .i64) o) ?_;rintro bW aG ⟨rfl,cj,aR,_⟩;have bC:=aw.new (bl.mono n.size);have bi:=aw.new (a_.mono n.size);have aI:=aw.new (az.mono n.size);have aT:=U.new n.size;obtain⟨Y,he,ab,ae,n,_⟩:=d_ aR Y he ab ae n;have bM:=cj.lt;refine G.a1 o ae.T.mR dN fo gE o<|G.O o (bz Y.e er) ?_
 refine G.bd o (fun(ak:Nat×(List (eb×Int)))=>match ak with|(j,bo)=>[(1,v),(5,.map (some E.size)),(13,s.dG.v),(14,.int .i64 (s.el.length:Int)),(15,.int .i64 (j:Int))])
  (fun(j,bo) (H:Heap)=>(j<=s.el.length)/\dA H b4 (Value.int .i64) E.size bo/\(∀k,(ax bo k).isSome=true↔False\/∃x∈s.el.take j,x.k=k)/\W (aq [(E.size+1)]) aG H)
  (fun(j,bo)=>s.el.length-j) (0,[]) ⟨I,cj,(fun k=>by simp[ax]),W.refl _ _⟩ ?_
 rintro⟨j,bo⟩ bD ⟨ca,cj,ag,L⟩ bL bg;obtain⟨Y,he,ab,n,_⟩:=dx L Y bC he bi ab aI n aT;refine G.ip o ?_ ?_<;>intro bP;have P:j<s.el.length:=by omega
 obtain⟨y,K⟩:∃q,q=s.el[j]:=⟨_,o⟩;have aK:y∈s.el:=by rw[K];exact cS P
 refine G.pp o (M.cw Y.e j o er dM o o) fun bQ aV=>G.O o (M.cast (v2:= .agg (cA y).toArray) (bu aV.T lH dM<|eG _) (by rw[K]))<|G.aR o (Z.bt pf) ?_;rintro cd bI ⟨rfl,al,bh,_⟩;have aX:=ai.new cj.lt;have aZ:=U.new L.size;obtain⟨cj,L,_⟩:=bG bh cj L;refine G.bl o (S.var al _ (cA y) o o o o (iJ y) dM (eG _) aO ((ea (eG _).symm))) ?_;rintro bR ⟨al,ba⟩;obtain⟨cj,L,_⟩:=de ba cj aX L (ah.q aZ);refine G.aK o hN bE o<|G.O o (M.cast (v2:=b4 y.k) (bu (al.T.take 32) dj bE (by rw[show(cA y).take 32=cu y.k from hU y];exact bJ _))<|dk (show(cA y).take 32=cu y.k from hU y))<|G.bl o (S.I9 ((j:Int)) cj Hn o DP o o o) ?_;rintro bS ⟨cj,aH⟩;obtain⟨L,_⟩:=cz aH L (ah.r (U.refl (E.size+1) aG.size));exact G.O o bB<|G.aQ o<|bg (j+1,h8 bo y.k (j:Int)) _ ⟨I,cj,(by rw[K];exact Ho ag P),L⟩;obtain rfl:j=s.el.length:=by omega
 rw[eQ]at ag;refine G.O o (bz he er) ?_
 refine G.bd o (fun(ak:Nat×(List (eb×Int)))=>match ak with|(i,R)=>[(5,.map (some E.size)),(25,v),(26,.int .i64 (el.length:Int)),(27,.int .i64 (i:Int))])
  (fun(i,R) (H:Heap)=>(i<=el.length)/\dA H b4 (Value.int .i64) E.size R/\(∀k,(ax R k).isSome=true↔(∃x∈s.el,x.k=k)\/∃x∈el.take i,x.k=k)/\(∀x∈el.take i,jj x=0)/\W (aq [(E.size+1)]) bD H)
  (fun(i,R)=>el.length-i) (0,bo) ⟨I,cj,(fun k=>by rw[ag];simp),(fun x h=>by simp at h),W.refl _ _⟩ ?_
 rintro⟨i,R⟩ bX ⟨b9,cj,aa,T,A⟩ bY a1;obtain⟨he,ab,n,_⟩:=dg A he bi ab aI n aT;refine G.ip o ?_ ?_<;>intro bU;have P:i<el.length:=by omega
 obtain⟨y,K⟩:∃q,q=el[i]:=⟨_,o⟩;have aK:y∈el:=by rw[K];exact cS P
 refine G.pp o (M.cw he i o er dM o o) fun bV a4=>G.O o (M.cast (v2:= .agg (cA y).toArray) (bu a4.T lH dM<|eG _) (by rw[K]))<|G.aR o (Z.bt pf) ?_;rintro v9 bK ⟨rfl,B,bj,_⟩;have a5:=aw.new (az.mono n.size);have aL:=ai.new cj.lt;have aM:=U.new n.size;have aN:=U.new A.size;obtain⟨ab,cj,n,A,_⟩:=dZ bj ab cj n A;refine G.bl o (S.var B _ (cA y) o o o o (iJ y) dM (eG _) aO ((ea (eG _).symm))) ?_;rintro aC ⟨B,ap⟩;obtain⟨ab,cj,n,A,_⟩:=dx ap ab a5 cj aL n aM A (ah.q aN);refine G.cJ o (fun O=>an aC O) [] o ?_;have Q:=an.refl aC;refine N.aK 0 hN bE Q ?_;refine N.t1 1 o (fun O C=>M.cast (v2:=b4 y.k) (bu ((B.T.aL C).take 32) dj bE (by rw[show(cA y).take 32=cu y.k from hU y];exact bJ _))<|dk (show(cA y).take 32=cu y.k from hU y)) Q ?_;refine N.aK 5 hN cZ Q ?_;refine N.t1 6 o (fun O C=>aY (B.T.og.aL C) eI) Q ?_;refine N.t1 7 o (fun O C=>bz ((ab y aK).aL C) c_) Q ?_;refine N.t1 8 o (fun O C=>M.leq o o o) Q ?_;refine N.ba 2 ?_;refine cK pz (pY y.k) ?_;rintro bZ bq ⟨rfl,aU⟩;obtain⟨cj,B,n,A,_⟩:=dZ aU cj B n A;have bc:=Q.al aU;refine N.cx bc ?_;have aA:=an.refl bq;refine N.t1 3 o (fun O C=>M.mL o o) aA ?_;refine N.ba 4 ?_;refine cK kt (lp (decide (¬y.k=bO)) o) ?_;rintro b0 c9 ⟨rfl,aE⟩;obtain⟨cj,B,n,A,_⟩:=dZ aE cj B n A;have bd:=aA.al aE;refine N.cx bd ?_;refine N.ba 9 ?_;refine fN.call o o kt o fE o o (lp (decide (y.d.length<=65536)) (by first|(exact(fB I).symm)|(exact(fG I).symm)|(exact decide_eq_decide.2 I))) ?_;rintro b2 bt ⟨rfl,aF⟩;obtain⟨cj,B,n,A,_⟩:=dZ aF cj B n A;have bf:=(an.refl c9).al aF;refine N.cx bf ?_;refine N.ba 10 ?_;refine eP o (Z.cV<|c5 _ ([fR (decide (¬y.k=bO)) 1,fR (decide (y.d.length<=65536)) 5]) pF nW nX) ?_;rintro b5 bw ⟨bb,av,_⟩;obtain⟨cj,B,n,A,_⟩:=dZ av cj B n A;have aP:=(an.refl bt).al av;refine N.cx aP ?_;refine N.ba 11 ?_;refine cK py (pW bb.rd.any) ?_;rintro b6 bT ⟨rfl,ay⟩;obtain⟨cj,B,n,A,_⟩:=dZ ay cj B n A;rw[QO];have aQ:=(an.refl bw).al ay;refine N.cx aQ ?_;have aB:=an.refl bT;refine N.t1 12 o (fun O C=>fl) aB ?_;refine G.dn aW ?_;have cb:=aB;refine G.ip o ?_ ?_<;>intro X;exact G.rt o ⟨by have C:=B2 (l:=el) (j:=i) P T (by rw[<-K];exact X);rw[<-K]at C;rw[mi,aD (by rw[C];exact X),C],n⟩;refine G.aK o hN bE o<|G.O o (M.cast (v2:=b4 y.k) (bu (B.T.take 32) dj bE (by rw[show(cA y).take 32=cu y.k from hU y];exact bJ _))<|dk (show(cA y).take 32=cu y.k from hU y))<|G.bl o (S.I9 ((i:Int)) cj Hn o DP o o o) ?_;rintro br ⟨cj,a6⟩;obtain⟨A,_⟩:=cz a6 A (ah.r (U.refl (E.size+1) bD.size));exact G.O o bB<|G.aQ o<|a1 (i+1,h8 R y.k (i:Int)) _ ⟨I,cj,(by rw[K];exact Ho aa P),r4 T P (by rw[<-K];simpa using X),A⟩;obtain rfl:i=el.length:=by omega
 rw[eQ]at aa T;have bF:=P2 (s:=s.el) (el:=el) fK cj.fQ.nodup (fun k=>by rw[<-gM,aa]);refine G.O o (M.H0 cj.fQ o DP o)<|G.aC o kt (lp (decide (R.length<=500))<|decide_eq_decide.2 I) ?_;rintro b7 bN ⟨rfl,bm⟩;obtain⟨n,_⟩:=cv bm n;exact G.rt o ⟨by rw[mi,au (by rw[(B3 T)];decide),bF];unfold fR;by_cases aJ:(jf (dV s.el) el).length<=500;rw[aD (fB aJ),au I];rw[au (by simpa using aJ),aD I],n⟩
def FA{s:cf}{t:b5}{aX:Nat->Prop}{w0:World}(aV:gL vq24z V)(R:bk (fun b=>b=0) V.size)(Y:fV F V s)(U:bk F V.size)(n:gi aX V t)(aR:bk aX V.size)(ok:s.m.Ok)(K:mz t):
 a8 prog w0 23 #[hV s,hG t] V (fun r E=>r= .int .i64 (fx s.m t)/\an V E):=by
 refine G.bN func23 o fun k=>?_;have bH:=n.m.len;have bE:=n.e.len;have eE:=K.ab;have z2:=K.br;refine G.aR o (Z.bT<|cl s) ?_;rintro v2 E ⟨rfl,vs,aE,_⟩;obtain⟨aV,Y,n,k,_⟩:=dZ aE aV Y n k;refine G.aR o Z.bv ?_;rintro v3 L ⟨rfl,ae,aF,_⟩;obtain⟨aV,Y,n,vs,k,_⟩:=d_ aF aV Y n vs k;have ae:Var 46 L E.size (cM t):=ae
 refine G.bw 0 o (fun(_:Unit)=>[(2,.pointer (some ⟨V.size,0,none⟩)),(3,.pointer (some ⟨E.size,0,none⟩)),(5,.int .i64 (hF t))])
  (fun(_:Unit) (H:Heap)=>True/\an L H) (fun _ am=>?_) ?_
 have B:an L L:=W.refl _ _;refine G.aG o ae.T b0 c8 eW o o<|G.sb 1 9 o ?_ ?_<;>intro g9;refine G.aC o kt (lp (decide (hF t=0)) (by first|exact oj (.inl ch)|exact oj (.inr (.inl ch))|exact oj (.inr (.inr (.inl I)))|exact yN iN iN I)) ?_;rintro aU P ⟨rfl,ad⟩;obtain⟨B,_⟩:=cv ad B;rw[yO];exact G.aQ o<|am () _ ⟨trivial,B⟩;refine G.aG o ae.T b0 c8 eW o o<|G.sb 2 13 o ?_ ?_<;>intro a0;refine G.aC o kt (lp (decide (hF t=0)) (by first|exact oj (.inl ch)|exact oj (.inr (.inl ch))|exact oj (.inr (.inr (.inl I)))|exact yN iN iN I)) ?_;rintro aU P ⟨rfl,ad⟩;obtain⟨B,_⟩:=cv ad B;rw[yO];exact G.aQ o<|am () _ ⟨trivial,B⟩;refine G.aG o ae.T b0 gn gU o o<|G.O o (bz n.m gg)<|G.sp 3 19 o ?_ ?_<;>intro a2;refine G.aC o kt (lp (decide (hF t=0)) (by first|exact oj (.inl ch)|exact oj (.inr (.inl ch))|exact oj (.inr (.inr (.inl I)))|exact yN iN iN I)) ?_;rintro aU P ⟨rfl,ad⟩;obtain⟨B,_⟩:=cv ad B;rw[yO];exact G.aQ o<|am () _ ⟨trivial,B⟩;refine G.a1 o ae.T.iT b0 fo gE o<|G.O o (bz n.e er)<|G.aC o kt (lp (decide (hF t=0)) (by first|exact oj (.inl ch)|exact oj (.inr (.inl ch))|exact oj (.inr (.inr (.inl I)))|exact yN iN iN I)) ?_;rintro aU P ⟨rfl,ad⟩;obtain⟨B,_⟩:=cv ad B;rw[yO];exact G.aQ o<|am () _ ⟨trivial,B⟩;intro _ O aM;obtain⟨X,aJ⟩:=aM;obtain⟨aV,Y,n,vs,ae,k,_⟩:=f_ aJ aV Y n vs ae k
 refine G.bw 0 o (fun(_:Unit)=>[(2,.pointer (some ⟨V.size,0,none⟩)),(3,.pointer (some ⟨E.size,0,none⟩)),(5,.int .i64 (ic (hF t)<|iv t))])
  (fun(_:Unit) (H:Heap)=>True/\an O H) (fun _ Q=>?_) ?_
 have C:an O O:=W.refl _ _;refine G.aG o ae.T b0 c8 eW o o<|G.sb 1 28 o ?_ ?_<;>intro a3;refine G.aG o ae.T b0 b7 cm o o<|G.ae 0 o kJ<|G.ip o ?_ ?_<;>intro aH;refine G.aG o ae.T b0 b7 cm o o<|G.aC o xx (xD t.ab aV (R.mono k.size) I) ?_;rintro a1 bd ⟨rfl,bt⟩;obtain⟨C,_⟩:=cv bt C;refine G.aR o (Z.cV<|c5 _ ([(hF t),(fi t.ab)]) pF nW nX) ?_;rintro bb bf ⟨aN,aO,_⟩;obtain⟨C,_⟩:=cv aO C;refine G.aC o py (pW aN.rd.any) ?_;rintro dB be ⟨rfl,aP⟩;obtain⟨C,_⟩:=cv aP C;rw[xW];refine G.aQ o (Q () _ ?_) ⟨o,o,(by first|(have A:t.ab≠[]:=(by simpa using aH);exact Bc ch A)|(have A:t.ab=[]:=(by simpa using aH);exact tC (.inr A))|(have A:t.bP=false:=iN;exact tC (.inl A))),trivial⟩;exact⟨trivial,C⟩;refine G.aQ o (Q () _ ?_) ⟨o,o,(by first|(have A:t.ab≠[]:=(by simpa using aH);exact Bc ch A)|(have A:t.ab=[]:=(by simpa using aH);exact tC (.inr A))|(have A:t.bP=false:=iN;exact tC (.inl A))),trivial⟩;exact⟨trivial,C⟩;refine G.dP o<|G.aQ o (Q () _ ?_) ⟨o,o,(by first|(have A:t.ab≠[]:=(by simpa using aH);exact Bc ch A)|(have A:t.ab=[]:=(by simpa using aH);exact tC (.inr A))|(have A:t.bP=false:=iN;exact tC (.inl A))),trivial⟩;exact⟨trivial,C⟩;intro _ a6 aK;obtain⟨X,aG⟩:=aK;obtain⟨aV,Y,n,vs,ae,k,_⟩:=f_ aG aV Y n vs ae k;refine G.O o (bu vs.T iA ff<|dw _)<|G.aG o ae.T b0 gn gU o o<|G.aC o Nx (QV aV (R.mono k.size) Y (U.mono k.size) n.m.any ok.cJ ok.bK K.mm) ?_;rintro c7 bg ⟨rfl,aQ⟩;obtain⟨aV,Y,n,vs,ae,k,_⟩:=f_ aQ aV Y n vs ae k;refine G.aR o (Z.cV<|c5 _ ([(ic (hF t)<|iv t),(ix s.m.cC t.ml)]) pF nW nX) ?_;rintro bh bi ⟨ag,ah,_⟩;obtain⟨aV,Y,n,vs,ae,k,_⟩:=f_ ah aV Y n vs ae k;refine G.aC o py (pW ag.rd.any) ?_;rintro bj N ⟨rfl,ai⟩;obtain⟨aV,Y,n,vs,ae,k,_⟩:=f_ ai aV Y n vs ae k;rw[xW]
 refine G.bw 0 o (fun(_:Unit)=>[(2,.pointer (some ⟨V.size,0,none⟩)),(3,.pointer (some ⟨E.size,0,none⟩)),(5,.int .i64 (ic (ic (ic (hF t)<|iv t)<|ix s.m.cC t.ml)<|jc t))])
  (fun(_:Unit) (H:Heap)=>True/\an N H) (fun _ S=>?_) ?_
 have ac:an N N:=W.refl _ _;refine G.aG o ae.T b0 c8 eW o o<|G.ci o ?_ ?_<;>intro aY;refine G.aK o b0 eK o<|G.O o (M.cast (v2:=jJ t.q) (bu ((ae.T.drop 4).take 70) l6 eK (by rw[m6];exact e_ _))<|dk<|m6 t)<|G.aC o Ny (TA aV (R.mono k.size) n.q.any I) ?_;rintro aT bD ⟨rfl,ak⟩;obtain⟨Y,ac,_⟩:=bG ak Y ac;refine G.aR o (Z.cV<|c5 _ ([(ic (ic (hF t)<|iv t)<|ix s.m.cC t.ml),(if t.q.k≠0 then jI t.q else 0)]) pF nW nX) ?_;rintro bl c9 ⟨al,aq,_⟩;obtain⟨Y,ac,_⟩:=bG aq Y ac;refine G.aC o py (pW al.rd.any) ?_;rintro bm bo ⟨rfl,av⟩;obtain⟨Y,ac,_⟩:=bG av Y ac;rw[xW];refine G.aQ o (S () _ ?_) ⟨o,o,(by first|(have A:t.Y=true:=ch;exact J0 A)|(have A:t.Y=false:=iN;exact JZ A)),trivial⟩;exact⟨trivial,ac⟩;refine G.aQ o (S () _ ?_) ⟨o,o,(by first|(have A:t.Y=true:=ch;exact J0 A)|(have A:t.Y=false:=iN;exact JZ A)),trivial⟩;exact⟨trivial,ac⟩;intro _ ap aL;obtain⟨X,aI⟩:=aL;obtain⟨Y,n,vs,ae,k,_⟩:=d_ aI Y n vs ae k;refine G.O o (bu vs.T iA ff<|dw _)<|G.a1 o ae.T.iT b0 fo gE o<|G.aC o Nz (QP Y (U.mono k.size) n.e.any (fun y hy=>(n.d y hy).any) ok.oZ) ?_;rintro bT bs ⟨rfl,aw⟩;obtain⟨n,ae,k,_⟩:=cg aw n ae k;refine G.aR o (Z.cV<|c5 _ ([(ic (ic (ic (hF t)<|iv t)<|ix s.m.cC t.ml)<|jc t),(mi s.m.jC t.el)]) pF nW nX) ?_;rintro bq bw ⟨ax,ay,_⟩;obtain⟨n,ae,k,_⟩:=cg ay n ae k;refine G.aC o py (pW ax.rd.any) ?_;rintro bA bB ⟨rfl,az⟩;obtain⟨n,ae,k,_⟩:=cg az n ae k;rw[xW];refine G.ip o ?_ ?_<;>intro aC;exact G.rt o ⟨by rw[FD],k⟩;have T:fx s.m t=0:=by rw[FD];simpa using aC
 have bF:=K.pP;refine G.O o (bu ae.T gY fe<|cY _)<|G.aC o Fc (Gi n (aR.mono k.size)<|xL K T) ?_;rintro bC a7 ⟨s2,bI,rfl,aa,a_,aA⟩;obtain⟨k,_⟩:=cv aA k;have aZ:=aa.le;refine G.ae 6 o ((M.eql o o o).ji o)<|G.O o (bz aa.rd c_)<|G.ae 0 o ((M.leq o o o).ji I)<|G.aC o kt (CZ) ?_;rintro ba bc ⟨rfl,aB⟩;have k:=k.al aB;exact G.rt o ⟨by rw[T]<;>rfl,k⟩
def l7(n:Nat):List UInt8:=[UInt8.ofNat (n/2^24),UInt8.ofNat (n/2^16),UInt8.ofNat (n/2^8),UInt8.ofNat n]
def j2(v:Nat)(l:List UInt8):Nat:=l.foldl (fun v x=>v*256+x.toNat) v
def pr(n:Nat):(l7 n).length=4:=rfl
def Iv(h:n<18446744073709551616):dH 4 (UInt64.ofNat n)=l7 n:=by
 have e:∀j,(mo (UInt64.ofNat n) j).toNat=n/2^j:=fun j=>by rw[Dc,n9,sw h]
 simp only[dH,e,l7];simp
def Es(v:Nat)(l:List UInt8)(x:UInt8):j2 v (l++[x])=j2 v l*256+x.toNat:=by simp[j2]
def xl:∀(l:List UInt8) (v:Nat),j2 v l<(v+1)*256^l.length
 |[],v=>by simp[j2]
 |x::l,v=>by
  have k:=x.toNat_lt;have:=xl l (v*256+x.toNat);have e:j2 v (x::l)=j2 (v*256+x.toNat) l:=rfl;rw[e,fA,Nat.pow_succ];refine jT this ?_;have:v*256+x.toNat+1<=(v+1)*256:=by omega
  calc (v*256+x.toNat+1)*256^l.length<=((v+1)*256)*256^l.length:=mc _ this
   _=(v+1)*(256^l.length*256):=by rw[Nat.mul_assoc,ss 256]
def u4(l:List UInt8)(h:l.length<=4):j2 0 l<4294967296:=by
 have:=xl l 0;have k:256^l.length<=256^4:=yp aO h;omega
def y0(a:Nat)(x:UInt8):a*2^8|||x.toNat=a*256+x.toNat:=by
 rw[ss,<-Nat.two_pow_add_eq_or_of_lt x.toNat_lt]
def Uk(b:List UInt8)(a i:Nat)(h:a+i<b.length):(b.drop a).take (i+1)=(b.drop a).take i++[b[a+i]]:=by
 rw[fc bU,yn]
def LX(h:n<4294967296):j2 0 (l7 n)=n:=by
 simp only[j2,l7,kO,List.foldl_nil,tH];omega
def GZ{v:Value}{b:List UInt8}(a n:Nat){w0:World}(af:b_ V a7 1 v b)(ar:n<=4)(L:a+n<=b.length):
 a8 prog w0 161 #[v,.int .i64 a,.int .i64 n] V (fun r B=>r= .int .i64 (j2 0 ((b.drop a).take n):Nat)/\an V B):=by
 refine G.bN func161 o fun k=>?_;have af:=af.cD;have O:=af.len
 refine G.bd o (fun(i:Nat)=>[(0,v),(1,.int .i64 a),(2,.int .i64 n),(7,.int .i64 (j2 0 ((b.drop a).take i):Nat)),(8,.int .i64 i)])
  (fun(i:Nat) (H:Heap)=>(i<=n)/\an V H)
  (fun(i:Nat)=>n-i) 0 ⟨I,W.refl _ _⟩ ?_
 rintro i F ⟨P,A⟩ C aH;obtain⟨af,k,_⟩:=bG A af k;have N:=u4 ((b.drop a).take i) bU;refine G.ip o ?_ ?_<;>intro E;refine G.O o (M.o_ (8) o o o hd I (by have:=xl ((b.drop a).take i) 0;have K:256^((b.drop a).take i).length<=256^4:=yp aO bU;omega))<|G.O o bB<|G.pp o (M.cw af (a+i) o c_ db o o) fun bt ac=>G.O o (aY ac.T e8)<|G.O o (M.vd o kg ht o)<|G.O o (M.nG o o o I (by have:=(b[a+i]).toNat_lt;omega))<|G.O o bB<|G.aQ o (aH (i+1) _ ?_ ?_) ⟨o,(fa I),(fa I),(by rw[Uk b a i I,Es,<-y0]<;>rfl),(fa I),trivial⟩;exact⟨I,A⟩;first|omega|(simp only;omega)|(simp;omega)
 obtain rfl:i=n:=by omega
 exact G.rt o ⟨o,k⟩
structure bg where
 c:List UInt8
 e:Int
def bg.aG(z:bg)(k:Int):bg:=⟨z.c,if z.e=0 then k else z.e⟩
def bg.cj(z:bg)(n:Nat):List UInt8×bg:=if z.e=0/\n<=z.c.length then(z.c.take n,⟨z.c.drop n,0⟩)else([],z.aG 14)
def bg.hq(z:bg)(b:Bool)(k:Int):bg:=if b=true then z else z.aG k
def bg.aN(z:bg)(n:Nat):Nat×bg:=(j2 0 (z.cj n).1,(z.cj n).2)
def bg.cG(z:bg)(n:Nat):List UInt8×bg:=(z.aN n).2.cj (z.aN n).1
def x4(l:List UInt8):eb:=if h:l.length=32 then⟨l,h⟩else bO
def bg.id(z:bg):eb×bg:=(x4 (z.cj 32).1,(z.cj 32).2)
def bg.bd{α:Type}(f:bg->α×bg):Nat->bg->List α×bg
 |0,z=>([],z)
 |n+1,z=>if z.e=0 then((f z).1::(bg.bd f n (f z).2).1,(bg.bd f n (f z).2).2)else([],z)
def jo(z:bg):hz×bg:=(⟨((z.aN 1).1:Int),(z.aN 1).2.id.1⟩,(z.aN 1).2.id.2)
def jE(z:bg):b9×bg:=(⟨(z.cG 1).1,(z.cG 1).2.id.1,(z.cG 1).2.id.2.id.1,((z.cG 1).2.id.2.id.2.cG 2).1⟩,((z.cG 1).2.id.2.id.2.cG 2).2)
def mj(z:bg):b1×bg:=(⟨z.id.1,dq,(z.id.2.cG 4).1⟩,(z.id.2.cG 4).2)
def oz(z:bg):(List UInt8×eb×eb)×bg:=(((z.cG 1).1,(z.cG 1).2.id.1,(z.cG 1).2.id.2.id.1),(z.cG 1).2.id.2.id.2)
def wN(z:bg):List hz×bg:=bg.bd jo (z.aN 2).1 (z.aN 2).2
def Dp(z:bg):(Int×Int×Nat)×bg:=((((z.aN 2).1:Int),(((z.aN 2).2.aN 2).1:Int),(((z.aN 2).2.aN 2).2.aN 1).1),(((z.aN 2).2.aN 2).2.aN 1).2)
def zq(k:Nat)(z:bg):dX×bg:=
 let a:=oz z;let b:=wN a.2;let d:=Dp b.2
 (⟨(k:Int),a.1.1,a.1.2.1,a.1.2.2,dq,b.1,d.1.1,d.1.2.1,decide (d.1.2.2=1)⟩,d.2.hq (decide (d.1.2.2<=1)) 16)
def bg.e1(z:bg):dX×bg:=if(z.aN 1).1=0 then(ga,(z.aN 1).2)else zq (z.aN 1).1 (z.aN 1).2
def h1(z:bg):Nat×bg:=((z.aN 1).1,(z.aN 1).2.hq (decide ((z.aN 1).1<=3)) 16)
def kB(b:Bool)(z:bg):List UInt8×bg:=if b=true then z.cG 1 else([],z)
def rE(z:bg):List b9×bg:=bg.bd jE (z.aN 2).1 (z.aN 2).2
def lY(b:Bool)(z:bg):dX×bg:=if b=true then z.e1 else(ga,z)
def IL(z:bg):List b1×bg:=bg.bd mj (z.aN 2).1 (z.aN 2).2
def bX(n:Nat):Bool:=decide (n%2=1)
def bM(n:Nat):Bool:=decide (n/2%2=1)
def il(z:bg):b5×bg:=
 let b:=h1 z;let h:=kB (bX b.1) b.2;let m:=rE h.2;let q:=lY (bM b.1) m.2;let e:=IL q.2
 (⟨bX b.1,h.1,dq,m.1,bM b.1,q.1,dq,e.1⟩,e.2.hq (decide (e.2.c.length=0)) 15)
def gW(b:List UInt8):b5×bg:=il ⟨b,0⟩
structure cc (z:bg) (k:Nat) (y:bg):Prop where
 s:y.c<:+z.c
 l:y.e=0->z.e=0/\z.c.length=k+y.c.length
def cc.refl(z:bg):cc z 0 z:=⟨yq _,fun h=>⟨h,by omega⟩⟩
def cc.trans{z y x:bg}{k j:Nat}(h:cc z k y)(g:cc y j x):cc z (k+j) x:=⟨g.s.trans h.s,fun e=>by
 obtain⟨bc,r⟩:=g.l e;obtain⟨n,A⟩:=h.l bc;exact⟨n,by omega⟩⟩
def si{z:bg}{i:Int}(h:i≠0):(z.aG i).e≠0:=by
 unfold bg.aG;simp only;split<;>assumption
def cc.aG{z:bg}{i:Int}(h:i≠0):cc z 0 (z.aG i):=⟨yq _,fun e=>absurd e (si h)⟩
def cc.hq{z:bg}{b:Bool}{i:Int}(h:i≠0):cc z 0 (z.hq b i):=by
 unfold bg.hq;split;exact .refl z;exact .aG h
def Ce{z:bg}{b:Bool}{i:Int}(h:i≠0)(e:(z.hq b i).e=0):b=true:=by
 unfold bg.hq at e;split at e;assumption;exact absurd e<|si h
def Ur{z:bg}(h:(z.cj n).2.e=0):z.e=0/\n<=z.c.length:=by
 unfold bg.cj at h;split at h;assumption;exact absurd h<|si aO
def cc.cj{z:bg}:cc z (z.cj n).1.length (z.cj n).2:=by
 unfold bg.cj;split;rename_i h;exact⟨List.drop_suffix _ _,fun _=>⟨h.1,by rw[eC,h6];omega⟩⟩;exact .aG aO
def kd{z:bg}(h:(z.cj n).2.e=0):(z.cj n).1.length=n:=by
 have k:=Ur h;unfold bg.cj;rw[aD k,eC];omega
def zB{z:bg}:(z.cj n).1.length<=n:=by
 unfold bg.cj;split;simp only[eC];omega;exact gH _
def cc.aN{z:bg}:cc z (z.cj n).1.length (z.aN n).2:= .cj
def qL{z:bg}(h:n<=4):(z.aN n).1<256^n:=by
 have k:=xl (z.cj n).1 0;have r:256^(z.cj n).1.length<=256^n:=yp aO zB;show j2 0 (z.cj n).1<_;omega
def Kx{z:bg}:(z.cG n).1.length<=(z.aN n).1:=zB
def cc.cG{z:bg}:cc z ((z.cj n).1.length+(z.cG n).1.length) (z.cG n).2:=cc.aN.trans cc.cj
def cc.id{z:bg}:cc z (z.cj 32).1.length z.id.2:= .cj
def cc.bd{α:Type}{f:bg->α×bg}{g:α->List UInt8}(A:∀z,∃j,cc z j (f z).2/\((f z).2.e=0->j=(g (f z).1).length)):∀(n:Nat) (z:bg),∃j,cc z j (bg.bd f n z).2/\((bg.bd f n z).2.e=0->j=((bg.bd f n z).1.flatMap g).length)
 |0,z=>⟨0,.refl z,fun _=>rfl⟩
 |n+1,z=>by
  unfold bg.bd;split;obtain⟨j,B,C⟩:=A z;obtain⟨k,r,E⟩:=cc.bd A n (f z).2;refine⟨_,B.trans r,fun e=>?_⟩;simp only[mH,b2];rw[C (r.l e).1,E e];exact⟨0,.refl z,fun _=>rfl⟩
def vZ{α:Type}{f:bg->α×bg}:∀(n:Nat) (z:bg),(bg.bd f n z).1.length<=n
 |0,z=>gH _
 |n+1,z=>by
  unfold bg.bd;split;exact Nat.succ_le_succ<|vZ n _;exact gH _
def BY{α:Type}{f:bg->α×bg}{φ:α->Prop}(r:∀z,φ (f z).1):∀(n:Nat) (z:bg),∀x∈(bg.bd f n z).1,φ x
 |0,z=>nofun
 |n+1,z=>by
  unfold bg.bd;split;intro x k;rcases dI.1 k with rfl|k;exact r z;exact BY r n _ x k;exact nofun
def tY{f:bg->aP×bg}{a:List aP}{k:Nat}{z0 z:bg}(h:bg.bd f n z0=(a++(bg.bd f k z).1,(bg.bd f k z).2))(r:0<k)(he:z.e=0):bg.bd f n z0=((a++[(f z).1])++(bg.bd f (k-1) (f z).2).1,(bg.bd f (k-1) (f z).2).2):=by
 obtain⟨k,rfl⟩:∃j,k=j+1:=⟨k-1,by omega⟩;rw[h,bg.bd,aD he];simp
def tX{f:bg->aP×bg}{a:List aP}{k:Nat}{z0 z:bg}(h:bg.bd f n z0=(a++(bg.bd f k z).1,(bg.bd f k z).2))(r:¬(0<k/\z.e=0)):bg.bd f n z0=(a,z):=by
 rw[h];cases k with
 |zero=>simp[bg.bd]
 |succ k=>rw[bg.bd,au (fun e=>r ⟨Nat.succ_pos k,e⟩)];simp
def tZ{f:bg->aP×bg}{z:bg}:bg.bd f n z=(([]:List aP)++(bg.bd f n z).1,(bg.bd f n z).2):=rfl
def Ue(z:bg):∃j,cc z j (jo z).2/\((jo z).2.e=0->j=(mS (jo z).1).length):=⟨_,cc.aN.trans cc.id,fun e=>by
 have k:=kd (z:=(z.aN 1).2) (n:=32) e;have r:=kd (z:=z) (n:=1) (cc.id.l e).1;rw[wS];omega⟩
def Cf(z:bg):∃j,cc z j (jE z).2/\((jE z).2.e=0->j=(lV (jE z).1).length):=⟨_,((cc.cG.trans cc.id).trans cc.id).trans cc.cG,fun e=>by
 have bc:=(cc.cG.l e).1;have k:=(cc.id.l bc).1;have r:=(cc.id.l k).1;have A:=kd (cc.cj.l e).1;have B:=kd (n:=32) bc;have C:=kd (n:=32) k;have E:=kd (cc.cj.l r).1;rw[we];show _=67+(z.cG 1).1.length+((z.cG 1).2.id.2.id.2.cG 2).1.length;omega⟩
def Ca(z:bg):∃j,cc z j (mj z).2/\((mj z).2.e=0->j=(kA (mj z).1).length):=⟨_,cc.id.trans cc.cG,fun e=>by
 have bc:=(cc.cG.l e).1;have k:=kd (cc.cj.l e).1;have r:=kd (n:=32) bc;rw[Cc];show _=36+(z.id.2.cG 4).1.length;omega⟩
def DK{z:bg}:(z.cG 1).1.length<=255:=by have k:=qL (z:=z) (n:=1) aO;have r:=Kx (z:=z) (n:=1);omega
def Uy{z:bg}:(z.cG 2).1.length<=65535:=by have k:=qL (z:=z) (n:=2) aO;have r:=Kx (z:=z) (n:=2);omega
def oi(z:bg):(z.aN 2).1<=65535:=by have k:=qL (z:=z) (n:=2) aO;omega
def TQ(z:bg):∃j,cc z j (oz z).2/\((oz z).2.e=0->j=65+(oz z).1.1.length):=⟨_,(cc.cG.trans cc.id).trans cc.id,fun e=>by
 have bc:=(cc.id.l e).1;have k:=(cc.id.l bc).1;have r:=kd (n:=32) e;have A:=kd (n:=32) bc;have B:=kd (cc.cj.l k).1;show _=65+(z.cG 1).1.length;omega⟩
def wh{f:bg->aP×bg}{g:aP->List UInt8}(r:∀z,∃j,cc z j (f z).2/\((f z).2.e=0->j=(g (f z).1).length))(z:bg):∃j,cc z j (bg.bd f (z.aN 2).1 (z.aN 2).2).2/\((bg.bd f (z.aN 2).1 (z.aN 2).2).2.e=0->j=2+((bg.bd f (z.aN 2).1 (z.aN 2).2).1.flatMap g).length):=by
 obtain⟨j,k,n⟩:=cc.bd r (z.aN 2).1 (z.aN 2).2;exact⟨_,cc.aN.trans k,fun e=>by rw[n e,kd (k.l e).1]⟩
def TR(z:bg):∃j,cc z j (Dp z).2/\((Dp z).2.e=0->j=5):=⟨_,(cc.aN.trans cc.aN).trans cc.aN,fun e=>by
 have bc:=(cc.aN.l e).1;have k:=(cc.aN.l bc).1;have r:=kd (n:=1) e;have A:=kd (n:=2) bc;have B:=kd (n:=2) k;omega⟩
def J2(z:bg):∃j,cc z j z.e1.2/\(z.e1.2.e=0->j=(iR z.e1.1).length):=by
 unfold bg.e1;split;exact⟨_,cc.aN,fun e=>by rw[kd e,zr o,ft]⟩;rename_i h;obtain⟨C,bq,a2⟩:=TQ (z.aN 1).2;obtain⟨m9,bX,bM⟩:=wh Ue (oz (z.aN 1).2).2;obtain⟨E,k,A⟩:=TR (wN (oz (z.aN 1).2).2).2;refine⟨_,(((cc.aN.trans bq).trans bX).trans k).trans (.hq aO),fun e=>?_⟩;have bc:=(cc.l (cc.hq aO) e).1;have n:=(k.l bc).1;have r:=(bX.l n).1;have B:=(bq.l r).1;rw[zt (by show((z.aN 1).1:Int)≠0;omega)];simp only[b2,ft,jr,(zq (z.aN 1).1 (z.aN 1).2).1.cU.2,(zq (z.aN 1).1 (z.aN 1).2).1.bw.2];rw[a2 r,bM n,A bc,kd B];show 1+(65+(oz (z.aN 1).2).1.1.length)+(2+((wN (oz (z.aN 1).2).2).1.flatMap mS).length)+5+0=1+(1+(oz (z.aN 1).2).1.1.length+(32+(32+(2+(((wN (oz (z.aN 1).2).2).1.flatMap mS).length+(2+(2+1)))))));omega
def RN(z:bg):∃j,cc z j (h1 z).2/\((h1 z).2.e=0->j=1):=⟨_,cc.aN.trans (.hq aO),fun e=>by rw[kd (cc.l (cc.hq aO) e).1]⟩
def IM(b:Bool)(z:bg):∃j,cc z j (kB b z).2/\((kB b z).2.e=0->j=(if b=true then jq 1 (kB b z).1 else[]).length):=by
 unfold kB;split;exact⟨_,cc.cG,fun e=>by rw[jr,kd (cc.cj.l e).1]⟩;exact⟨0,.refl z,fun _=>rfl⟩
def IN(b:Bool)(z:bg):∃j,cc z j (lY b z).2/\((lY b z).2.e=0->j=(if b=true then iR (lY b z).1 else[]).length):=by
 unfold lY;split;exact J2 z;exact⟨0,.refl z,fun _=>rfl⟩
def R6{z:bg}(e:(il z).2.e=0):z.e=0/\z.c.length=(ej (il z).1).length:=by
 obtain⟨Q,H,K⟩:=RN z;obtain⟨R,B,M⟩:=IM (bX (h1 z).1) (h1 z).2;obtain⟨S,bo,O⟩:=wh Cf (kB (bX (h1 z).1) (h1 z).2).2;obtain⟨T,F,P⟩:=IN (bM (h1 z).1) (rE (kB (bX (h1 z).1) (h1 z).2).2).2;obtain⟨U,E,N⟩:=wh Ca (lY (bM (h1 z).1) (rE (kB (bX (h1 z).1) (h1 z).2).2).2).2;have bc:((il z).2.c).length=0:=by
  have C:=jS (Ce aO e);unfold il bg.hq;simp only;split;exact C;exact C
 have k:=(cc.l (cc.hq aO) e).1;have n:=(E.l k).1;have r:=(F.l n).1;have A:=(bo.l r).1;have L:=(B.l A).1;obtain⟨g1,g2⟩:=(((((H.trans B).trans bo).trans F).trans E).trans (.hq aO)).l e;refine⟨g1,?_⟩;rw[g2,K L,M A,O r,P n,N k];unfold ej;simp only[b2,ft];show 1+_+(2+((il z).1.ml.flatMap lV).length)+_+(2+((il z).1.el.flatMap kA).length)+0+(il z).2.c.length=1+((if(il z).1.bP=true then jq 1 (il z).1.ab else[]).length+(2+(_+((if(il z).1.Y=true then iR (il z).1.q else[]).length+(2+_)))));rw[bc];show 1+(if(il z).1.bP=true then jq 1 (il z).1.ab else[]).length+_+(if(il z).1.Y=true then iR (il z).1.q else[]).length+_+0+0=_;omega
def TX{z:bg}:z.e1.1.br.length<=255/\z.e1.1.bF.length<=65535:=by
 unfold bg.e1;split;exact⟨gH _,gH _⟩;exact⟨DK,ev (vZ _ _) (oi _)⟩
def I8{z:bg}(e:(il z).2.e=0)(k:z.c.length<=1048576):mz (il z).1:=by
 have hm:(il z).1.ml.length<=65535:=ev (vZ _ _) (oi _);have he:(il z).1.el.length<=65535:=ev (vZ _ _) (oi _);have bP:(il z).1.ab.length<=255:=by
  show(kB _ _).1.length<=_;unfold kB;split
  exact DK;exact gH _
 have n:(il z).1.q.br.length<=255/\(il z).1.q.bF.length<=65535:=by
  show(lY _ _).1.br.length<=_/\(lY _ _).1.bF.length<=_;unfold lY;split
  exact TX;exact⟨gH _,gH _⟩
 refine⟨hm,he,BY (φ:=fun m:b9=>m.y.length<=65535) (fun z=>Uy) _ _,BY (φ:=fun m:b9=>m.n.length<=140737488355328) (fun z=>ev (DK) aO) _ _,by omega,by omega,by omega,by rw[<-(R6 e).2];exact k⟩
end Go.Proofs.YtncnignagcoahaaGreatDoor.E
