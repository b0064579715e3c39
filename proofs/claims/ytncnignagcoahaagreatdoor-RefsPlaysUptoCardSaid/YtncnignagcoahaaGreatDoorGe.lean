/-
  Contracts of functions of the program, and plain laws: put together of several texts.
-/
import Derived.Test.YtncnignagcoahaaGreatDoorGd
set_option linter.unusedVariables false
set_option linter.unusedSimpArgs false
set_option linter.unusedSectionVars false
set_option linter.defProp false
set_option maxHeartbeats 8000000
set_option maxRecDepth 100000
namespace Go.Proofs.YtncnignagcoahaaGreatDoor.E
open Go.RowKit Go.Proofs.Tryz
variable{n k:Nat}{H V:Heap}{F:Nat->Prop}{wt:List UInt8}{vq73z:UInt64}
def Ri:dH 1 1=[1]:=by decide+kernel
def Rh:dH 1 0=[0]:=by decide+kernel
def ui{s:ay}(i:eb){w0:World}(n:aS k 5 V a7 1 s.v wt)(aF:wt.length<=1099511627776):
 a8 prog w0 116 #[s.v,b4 i] V (fun r M=>∃s2:ay,∃Q:Nat,r=s2.v/\aS Q 5 M a7 1 s2.v (wt++i.1)/\U k V.size Q/\W (aq [k]) V M):=by
 refine G.bc [k] func116 o fun B=>?_;have N:=U.refl k V.size;have ac:=n.le;have aC:=i.2;refine G.aR o Z.bv ?_;rintro v3 K ⟨rfl,E,am,_⟩;have ae:=ai.new n.le;obtain⟨n,B,_⟩:=bG am n B;have E:Var 40 K V.size (cu i):=E
 refine G.bd o (fun(al:Nat×ay×Nat×(List UInt8))=>match al with|(j,s1,C,ys)=>[(0,s1.v),(3,.pointer (some ⟨V.size,0,none⟩)),(5,.int .i64 (j:Int))])
  (fun(j,s1,C,ys) (H:Heap)=>(j<=32)/\aS C 5 H a7 1 s1.v ys/\ys=wt++i.1.take j/\U k K.size C/\W (aq [k]) K H)
  (fun(j,s1,C,ys)=>32-j) (0,s,k,wt) ⟨I,n,a_,U.refl _ _,W.refl _ _⟩ ?_
 rintro⟨j,s1,C,ys⟩ aw ⟨aE,n,F,ad,A⟩ av bt;have ag:=U.al N ad B.size;obtain⟨E,B,_⟩:=de A E ae.symm B (ah.r N);have ac:=n.le;have O:=ad;have aG:ys.length<=wt.length+32:=by rw[F,b2,eC];omega
 refine G.ip o ?_ ?_<;>intro aB;refine G.O o (dt E.T j kf db)<|G.O o (aY (E.T.at j<|vj i j I) e8)<|G.aR o (Z.cV<|c5 _ ([i.1.getD j 0]) dv eM fy) ?_;rintro ax az ⟨ak,T,_⟩;obtain⟨n,A,_⟩:=bG T n A;refine G.aR o (dd n ak.rd dv bU bU) ?_;rintro P aA ⟨R,n,X,L⟩;have L:=L.md;have aa:=U.al O X A.size;obtain⟨A,_⟩:=cz L A (ah.r O);have ac:=n.le;obtain⟨S,rfl⟩:∃s:ay,P=s.v:=⟨ck P,n.a6.symm⟩;exact G.O o bB<|G.aQ o<|bt (j+1,S,R,ys++[i.1.getD j 0]) _ ⟨I,n,by rw[F,fc I,A9 (l:=i.1) (j:=j) I,ew],aa,A⟩;obtain rfl:j=32:=by omega
 rw[e5 I]at F;subst F;exact G.rt o ⟨s1,C,o,n,ag,B⟩
def DB{s:ay}(t:List UInt8)(w0:World)(n:aS k 5 H a7 1 s.v wt)(aa:wt.length<=549755813888)(X:t.length<=255):
 a8 prog w0 114 #[s.v,.int .i64 1,aJ t] H (fun r B=>∃s2:ay,∃L:Nat,r= .tuple #[s2.v,.bool true]/\aS L 5 B a7 1 s2.v (wt++jq 1 t)/\U k H.size L/\W (aq [k]) H B):=by
 refine G.bc [k] func114 o fun A=>?_;have C:=U.refl k H.size;have N:=n.le;refine G.ae 3 o ((M.lss o o o).ji aO)<|G.O o (hn e6)<|G.O o (M.cast (v2:= .int .i64 8) (M.ry o o o aO) o)<|G.O o (M.cast (v2:= .int .i64 256) (M.o_ (8) o o o o aO aO) o)<|G.ae 0 o ((M.geq o o o).hp I)<|G.dP o<|G.O o (hn e6)<|G.O o (M.jh o ht hO o)<|G.aC o oL (E.pU _ _ _ 1 _ w0 _ n aO I) ?_;rintro ad S ⟨ad,T,rfl,n,O,P⟩;have F:=U.al C O A.size;obtain⟨A,_⟩:=cz P A (ah.r C);have N:=n.le;obtain⟨bt,rfl⟩:∃s:ay,ad=s.v:=⟨ck ad,n.a6.symm⟩;refine G.aR o (Z.xe n o dv underlying9 o o (by simp[ft];omega)) ?_;rintro K V ⟨R,n,Q,ac⟩;have ac:=ac.md;have ap:=U.al F Q A.size;have A:=A.bf ac (ag.J (ah.r F));obtain⟨aU,rfl⟩:∃s:ay,K=s.v:=⟨ck K,n.a6.symm⟩;exact G.rt o ⟨aU,R,o,by rw[jq,<-ew];exact n,ap,A⟩
def Ul{s:ay}(t:List UInt8)(w0:World)(n:aS k 5 H a7 1 s.v wt)(aa:wt.length<=549755813888)(X:t.length<=65535):
 a8 prog w0 114 #[s.v,.int .i64 2,aJ t] H (fun r B=>∃s2:ay,∃L:Nat,r= .tuple #[s2.v,.bool true]/\aS L 5 B a7 1 s2.v (wt++jq 2 t)/\U k H.size L/\W (aq [k]) H B):=by
 refine G.bc [k] func114 o fun A=>?_;have C:=U.refl k H.size;have N:=n.le;refine G.ae 3 o ((M.lss o o o).ji aO)<|G.O o (hn e6)<|G.O o (M.cast (v2:= .int .i64 16) (M.ry o o o aO) o)<|G.O o (M.cast (v2:= .int .i64 65536) (M.o_ (16) o o o o aO aO) o)<|G.ae 0 o ((M.geq o o o).hp I)<|G.dP o<|G.O o (hn e6)<|G.O o (M.jh o ht hO o)<|G.aC o oL (E.pU _ _ _ 2 _ w0 _ n aO I) ?_;rintro ad S ⟨ad,T,rfl,n,O,P⟩;have F:=U.al C O A.size;obtain⟨A,_⟩:=cz P A (ah.r C);have N:=n.le;obtain⟨bt,rfl⟩:∃s:ay,ad=s.v:=⟨ck ad,n.a6.symm⟩;refine G.aR o (Z.xe n o dv underlying9 o o (by simp[ft];omega)) ?_;rintro K V ⟨R,n,Q,ac⟩;have ac:=ac.md;have ap:=U.al F Q A.size;have A:=A.bf ac (ag.J (ah.r F));obtain⟨aU,rfl⟩:∃s:ay,K=s.v:=⟨ck K,n.a6.symm⟩;exact G.rt o ⟨aU,R,o,by rw[jq,<-ew];exact n,ap,A⟩
def Um{s:ay}(t:List UInt8)(w0:World)(n:aS k 5 H a7 1 s.v wt)(aa:wt.length<=549755813888)(X:t.length<=549755813888):
 a8 prog w0 114 #[s.v,.int .i64 4,aJ t] H (fun r B=>∃s2:ay,∃L:Nat,r= .tuple #[s2.v,.bool true]/\aS L 5 B a7 1 s2.v (wt++jq 4 t)/\U k H.size L/\W (aq [k]) H B):=by
 refine G.bc [k] func114 o fun A=>?_;have C:=U.refl k H.size;have N:=n.le;refine G.ae 3 o ((M.lss o o o).hp aO)<|G.dP o<|G.O o (hn e6)<|G.O o (M.jh o ht hO o)<|G.aC o oL (E.pU _ _ _ 4 _ w0 _ n aO I) ?_;rintro ad S ⟨ad,T,rfl,n,O,P⟩;have F:=U.al C O A.size;obtain⟨A,_⟩:=cz P A (ah.r C);have N:=n.le;obtain⟨bt,rfl⟩:∃s:ay,ad=s.v:=⟨ck ad,n.a6.symm⟩;refine G.aR o (Z.xe n o dv underlying9 o o (by simp[ft];omega)) ?_;rintro K V ⟨R,n,Q,ac⟩;have ac:=ac.md;have ap:=U.al F Q A.size;have A:=A.bf ac (ag.J (ah.r F));obtain⟨aU,rfl⟩:∃s:ay,K=s.v:=⟨ck K,n.a6.symm⟩;exact G.rt o ⟨aU,R,o,by rw[jq,<-ew];exact n,ap,A⟩
def Iw{s:ay}{x:Int}(w0:World)(n:aS k 5 H a7 1 s.v wt)(Q:wt.length<=549755813888)(P:0<=x/\x<=255):
 a8 prog w0 176 #[s.v,.int .i64 1,.int .i64 x] H (fun r B=>∃s2:ay,∃F:Nat,r= .tuple #[s2.v,.bool true]/\aS F 5 B a7 1 s2.v (wt++dH 1 (UInt64.ofNat x.toNat))/\U k H.size F/\W (aq [k]) H B):=by
 refine G.bc [k] func176 o fun A=>?_;have C:=U.refl k H.size;have O:=n.le;refine G.ae 3 o ((M.lss o o o).hp I)<|G.O o (M.cast (v2:= .int .i64 8) (M.ry o o o aO) o)<|G.O o (M.cast (v2:= .int .i64 256) (M.o_ (8) o o o o aO aO) o)<|G.ae 0 o ((M.geq o o o).hp I)<|G.dP o<|G.ae 2 o (M.cast (v2:= .int .i64 ((x).toNat:Nat)) gh<|di I)<|G.O o (M.jh o ht hO o)<|G.aC o oL (E.pU _ _ _ 1 _ w0 _ n aO I) ?_;rintro ac am ⟨ac,L,rfl,n,ad,K⟩;have N:=U.al C ad A.size;have A:=A.bf K (ag.J (ah.r C));obtain⟨aH,rfl⟩:∃s:ay,ac=s.v:=⟨ck ac,n.a6.symm⟩;exact G.rt o ⟨aH,L,o,n,N,A⟩
def Ix{s:ay}{x:Int}{w0:World}(n:aS k 5 H a7 1 s.v wt)(Q:wt.length<=549755813888)(P:0<=x/\x<=65535):
 a8 prog w0 176 #[s.v,.int .i64 2,.int .i64 x] H (fun r B=>∃s2:ay,∃F:Nat,r= .tuple #[s2.v,.bool true]/\aS F 5 B a7 1 s2.v (wt++dH 2 (UInt64.ofNat x.toNat))/\U k H.size F/\W (aq [k]) H B):=by
 refine G.bc [k] func176 o fun A=>?_;have C:=U.refl k H.size;have O:=n.le;refine G.ae 3 o ((M.lss o o o).hp I)<|G.O o (M.cast (v2:= .int .i64 16) (M.ry o o o aO) o)<|G.O o (M.cast (v2:= .int .i64 65536) (M.o_ (16) o o o o aO aO) o)<|G.ae 0 o ((M.geq o o o).hp I)<|G.dP o<|G.ae 2 o (M.cast (v2:= .int .i64 ((x).toNat:Nat)) gh<|di I)<|G.O o (M.jh o ht hO o)<|G.aC o oL (E.pU _ _ _ 2 _ w0 _ n aO I) ?_;rintro ac am ⟨ac,L,rfl,n,ad,K⟩;have N:=U.al C ad A.size;have A:=A.bf K (ag.J (ah.r C));obtain⟨aH,rfl⟩:∃s:ay,ac=s.v:=⟨ck ac,n.a6.symm⟩;exact G.rt o ⟨aH,L,o,n,N,A⟩
def Tx{s:ay}{x:dX}{w0:World}(A:aS k 5 V a7 1 s.v wt)(dJ:wt.length<=274877906944)(C:Rd F V eH 33 x.c4.v x.bF)(S:bk F V.size)(f2:aw F k)(bc:0<=x.k/\x.k<=255)(cE:x.k≠0->uP x):
 a8 prog w0 117 #[s.v,jJ x] V (fun r aK=>∃s2:ay,∃bH:Nat,r= .tuple #[s2.v,.bool true]/\aS bH 5 aK a7 1 s2.v (wt++iR x)/\U k V.size bH/\W (aq [k]) V aK):=by
 refine G.bc [k] func117 o fun B=>?_;have ac:=U.refl k V.size;have L:=A.le;have dI:=C.len;refine G.aR o (Z.bT<|dD x) ?_;rintro v3 cI ⟨rfl,ae,b_,_⟩;have bm:=ai.new A.le;obtain⟨A,C,B,_⟩:=cg b_ A C B;refine G.aG o ae.T cd bV cQ o o<|G.aC o xt (Iw w0 A I bc) fun dt du ca=>?_;have cb:=ae.lt;obtain⟨cc,cf,rfl,A,aI,bK⟩:=ca;have bo:=aw.app f2 (S.mono B.size) aI;have bq:=ai.app bm.symm cb aI;have aF:=U.al ac aI B.size;obtain⟨C,ae,B,_⟩:=dg bK C f2 ae bm.symm B (ah.r ac);have L:=A.le;refine G.O o e7<|G.aG o ae.T cd bV cQ o o<|G.ip o ?_ ?_<;>intro cL;have T:x.k=0:=by omega
 exact G.rt o ⟨cc,cf,o,by rw[zr T];exact A,aF,B⟩;have T:x.k≠0:=by omega
 have he:=cE T;have dE:=he.br;have dF:=he.bF;have cA:=he.dn;have cC:=he.md;refine G.aG o ae.T cd b7 cm o o<|G.aC o u7 (DB x.br w0 A (by simp only[b2,ft,jr,x.cU.2,x.bw.2];omega) I) fun dw al bU=>?_;have bL:=ae.lt;obtain⟨cs,aG,rfl,A,aH,bM⟩:=bU;have bf:=aw.app bo (S.mono B.size) aH;have R:=ai.app bq bL aH;have bt:=U.al aF aH B.size;obtain⟨C,ae,B,_⟩:=dg bM C bo ae bq B (ah.r aF);have L:=A.le;refine G.cJ o (fun Q=>W (aq [aG]) al Q) [] o ?_;have K:W (aq [aG]) al al:=W.refl _ _;have bg:=U.refl aG al.size;refine N.bo 0 o K ?_;refine N.t1 1 o (fun Q O=>M.fieldAddr (ae.aA O<|ak.J R).T o cd o o bE aO o) K ?_;refine N.t1 2 o (fun Q O=>M.cast (v2:=b4 x.cU) (bu (((ae.aA O<|ak.J R).T.drop 2).take 32) dj bE (by rw[n0];exact bJ _))<|dk<|n0 _) K ?_;refine N.t1 4 o (fun Q O=>M.fieldAddr (ae.aA O<|ak.J R).T o cd o o bE aO o) K ?_;refine N.t1 5 o (fun Q O=>M.cast (v2:=b4 x.bw) (bu (((ae.aA O<|ak.J R).T.drop 34).take 32) dj bE (by rw[nZ];exact bJ _))<|dk<|nZ _) K ?_;refine N.ba 3 ?_;refine cK tg (ui x.cU A (by simp only[b2,ft,jr,x.cU.2,x.bw.2];omega)) fun dy aE bW=>?_;have bN:=ae.lt;obtain⟨fO,ba,rfl,A,ax,bO⟩:=bW;have bh:=aw.app bf (S.mono B.size) ax;have bj:=ai.app R bN ax;have bl:=U.al bt ax B.size;have bP:=U.al bg ax K.size;obtain⟨C,ae,B,K,_⟩:=dx bO C bf ae R B (ah.r bt) K (ah.r bg);have L:=A.le;refine N.aN K (ag.J<|ah.r bP) ?_;have K:W (aq [ba]) aE aE:=W.refl _ _;have aL:=U.refl ba aE.size;refine N.ba 6 ?_;refine cK tg (ui x.bw A (by simp only[b2,ft,jr,x.cU.2,x.bw.2];omega)) fun dz bd bX=>?_;have bQ:=ae.lt;obtain⟨dA,b9,rfl,A,az,bR⟩:=bX;have aM:=aw.app bh (S.mono B.size) az;have aN:=ai.app bj bQ az;have aP:=U.al bl az B.size;have a0:=U.al aL az K.size;obtain⟨C,ae,B,K,_⟩:=dx bR C bh ae bj B (ah.r bl) K (ah.r aL);have L:=A.le;refine N.aN K (ag.J<|ah.r a0) ?_;have K:W (aq [b9]) bd bd:=W.refl _ _;refine N.t1 7 o (fun Q O=>fl) K ?_;refine G.dn aW<|G.a1 o ae.T.iQ cd gz h4 o<|G.O o (bz C iF)<|G.O o (M.jh o ht hO o)<|G.aC o oL (E.pU _ _ _ 2 _ w0 _ A aO (by simp only[b2,ft,jr,x.cU.2,x.bw.2];omega)) fun a2 bw cu=>?_;have a3:=ae.lt;obtain⟨a2,a4,rfl,A,am,a5⟩:=cu;have aQ:=aw.app aM (S.mono B.size) am;have aR:=ai.app aN a3 am;have aT:=U.al aP am B.size;obtain⟨C,ae,B,_⟩:=dg a5 C aM ae aN B (ah.r aP);have L:=A.le;obtain⟨cv,rfl⟩:∃s:ay,a2=s.v:=⟨ck a2,A.a6.symm⟩
 refine G.bd o (fun(cH:Nat×ay×Nat×(List UInt8))=>match cH with|(i,s1,aa,ys)=>[(0,s1.v),(3,.pointer (some ⟨V.size,0,none⟩)),(6,.bool true),(7,.int .i64 (i:Int))])
  (fun(i,s1,aa,ys) (H:Heap)=>(i<=x.bF.length)/\aS aa 5 H a7 1 s1.v ys/\ys=wt++dH 1 (UInt64.ofNat x.k.toNat)++jq 1 x.br++x.cU.1++x.bw.1++dH 2 (UInt64.ofNat x.bF.length)++(x.bF.take i).flatMap mS/\U a4 bw.size aa/\W (aq [a4]) bw H)
  (fun(i,s1,aa,ys)=>x.bF.length-i) (0,cv,a4,wt++dH 1 (UInt64.ofNat x.k.toNat)++jq 1 x.br++x.cU.1++x.bw.1++dH 2 (UInt64.ofNat x.bF.length)) ⟨I,A,a_,U.refl _ _,W.refl _ _⟩ ?_
 rintro⟨i,s1,aa,ys⟩ dB ⟨dG,A,X,av,P⟩ dC bI;have bS:=aw.app aQ (S.mono B.size) av;have aJ:=ai.app aR ae.lt av;have aV:=U.al aT av B.size;obtain⟨C,ae,B,_⟩:=dg P C aQ ae aR B (ah.r aT);have L:=A.le;have aX:=av;have dK:ys.length<=wt.length+3000000:=by have O:=sj (f:=mS) (n:=33) (l:=x.bF.take i) (fun x _=>by rw[wS];omega);rw[eC]at O;rw[X];simp only[b2,ft,jr,x.cU.2,x.bw.2];omega
 refine G.a1 o ae.T.iQ cd gz h4 o<|G.O o (bz C iF)<|G.ip o ?_ ?_<;>intro ce;refine G.a1 o ae.T.iQ cd gz h4 o ?_;have bF:i<x.bF.length:=by omega
 obtain⟨t,aB⟩:∃t,t=x.bF[i]:=⟨_,o⟩;have cD:=he.hJ t (by rw[aB];exact cS bF);refine G.pp o (M.cw C i o iF kD o o) fun dp cj=>G.aK o nn bV o<|G.O o (M.cast (v2:= .int .i64 t.d) (aY (cj.T.drop 0) cQ) (by rw[aB]))<|G.aC o xt (Iw w0 A I cD) ?_;rintro cN cO ⟨cP,cU,rfl,A,cl,bi⟩;have aZ:=U.al aX cl P.size;obtain⟨C,ae,P,_⟩:=dg bi C bS ae aJ P (ah.r aX);have L:=A.le;refine G.O o e7<|G.dP o<|G.a1 o ae.T.iQ cd gz h4 o<|G.pp o (M.cw C i o iF kD o o) fun dq bD=>G.aK o nn bE o<|G.O o (M.cast (v2:=b4 t.i) (bu ((bD.T.drop 1).take 32) dj bE (by rw[pE];exact bJ _)) ((by rw[aB];exact dk (pE _))))<|G.aC o tg (ui t.i A (by rw[b2,ft];omega)) ?_;rintro cV cW ⟨gG,ci,rfl,A,cp,c9⟩;have cq:=U.al aZ cp P.size;obtain⟨P,_⟩:=cz c9 P (ah.r aZ);have L:=A.le;exact G.O o bB<|G.aQ o<|bI (i+1,gG,ci,ys++dH 1 (UInt64.ofNat t.d.toNat)++t.i.1) _ ⟨I,A,(by rw[tA bF,<-aB,X,mS];simp only[ew]),cq,P⟩;obtain rfl:i=x.bF.length:=by omega
 rw[eQ]at X;refine G.a1 o ae.T.nK cd bV cQ o<|G.aC o xt (Ix A I cA) fun cX cY cw=>?_;have bT:=ae.lt;obtain⟨cZ,c0,rfl,A,a1,bs⟩:=cw;have cr:=ai.app aJ bT a1;have a6:=U.al aV a1 B.size;obtain⟨ae,B,_⟩:=de bs ae aJ B (ah.r aV);have L:=A.le;refine G.O o e7<|G.dP o<|G.a1 o ae.T.qT cd bV cQ o<|G.aC o xt (Ix A (by rw[b2,ft];omega) cC) ?_;rintro c1 c3 ⟨c4,c_,rfl,A,ct,bY⟩;have aA:=U.al a6 ct B.size;obtain⟨ae,B,_⟩:=de bY ae cr B (ah.r a6);have L:=A.le;refine G.a1 o ae.T.uC cd c8 eW o<|G.ci o ?_ ?_<;>intro dr;refine G.aR o (Z.cV<|c5 _ ([(1:UInt8)]) dv eM fy) ?_;rintro da db ⟨cF,bZ,_⟩;obtain⟨A,B,_⟩:=bG bZ A B;refine G.aR o (dd A cF.rd dv (by simp[ft];omega) (by simp[ft];omega)) ?_;rintro bA dc ⟨aC,A,b0,ap⟩;have ap:=ap.md;have b1:=U.al aA b0 B.size;obtain⟨B,_⟩:=cz ap B (ah.r aA);have L:=A.le;obtain⟨cx,rfl⟩:∃s:ay,bA=s.v:=⟨ck bA,A.a6.symm⟩;exact G.rt o ⟨cx,aC,o,by rw[zt T,aD ch,Ri];rw[X]at A;simpa only[ew]using A,b1,B⟩;refine G.aR o (Z.cV<|c5 _ ([(0:UInt8)]) dv eM fy) ?_;rintro df dh ⟨cG,b5,_⟩;obtain⟨A,B,_⟩:=bG b5 A B;refine G.aR o (dd A cG.rd dv (by simp[ft];omega) (by simp[ft];omega)) ?_;rintro bC di ⟨cy,A,b6,aU⟩;have aU:=aU.md;have b8:=U.al aA b6 B.size;obtain⟨B,_⟩:=cz aU B (ah.r aA);have L:=A.le;obtain⟨co,rfl⟩:∃s:ay,bC=s.v:=⟨ck bC,A.a6.symm⟩;exact G.rt o ⟨co,cy,o,by rw[zt T,au iN,Rh];rw[X]at A;simpa only[ew]using A,b8,B⟩
abbrev sh(x:b5):UInt8:=if x.bP=true then 1 else 0
abbrev tw(x:b5):UInt8:=if x.Y=true then 2 else 0
def cL.wT{ad:Addr}{x:b5}(h:cL H ad (cM x)):cL H ((ad.add 4).add 66) (lO x.q++[x.dG.v]):=by
 have:=h.zD.drop 66;rwa[vC (by rw[e_];omega),AZ]at this
def GQ(a b:Bool):[((if a=true then 1 else 0)+(if b=true then 2 else 0):UInt8)]=dH 1 ((if a=true then 1 else 0)|||(if b=true then 2 else 0)):=by
 cases a<;>cases b<;>decide+kernel
def QA{x:b5}{w0:World}(hm:b_ V ep 66 x.fH.v x.ml)(L:qa x)(ax:x.ab.length<=140737488355328/\x.q.br.length<=140737488355328):
 a8 prog w0 113 #[hG x] V (fun r P=>r= .bool false/\an V P):=by
 refine G.bN func113 o fun k=>?_;have hm:=hm.cD;have aq:=hm.len;obtain⟨O,K⟩:∃b,b=(x.Y&&decide (x.q.k≠0)):=⟨_,o⟩;have T:O=true->x.Y=true/\x.q.k≠0:=fun h=>by rw[K,ob,lf]at h;exact h
 refine G.aR o (Z.bT<|cM x) ?_;rintro v1 H1 ⟨rfl,ae,aH,_⟩;obtain⟨hm,k,_⟩:=bG aH hm k;refine G.aG o ae.T b0 c8 eW o o<|G.m9 (v:=false) 1 5 11 6 o (fun g6 C=>?_) (fun g6 C=>?_) ?_;have ak:=L.ab (by simpa using g6);exact G.aG o ae.T b0 b7 cm o o<|G.O o (hn e6)<|G.ae 0 o ((jY).hp I)<|C 1 o (by simp[g6]);exact C 5 o (by simp[g6]);refine G.aG o ae.T b0 c8 eW o o<|G.m9 (v:=O) 1 5 20 15 o (fun E A=>?_) (fun E A=>?_) ?_;exact G.aK o b0 eK o<|G.a1 o ae.T.uE cd bV cQ o<|A 2 o (by rw[K];simp[E]);exact A 5 o (by rw[K];simp[E]);refine G.m9 (v:=false) 1 6 27 21 o (fun n B=>?_) (fun n B=>?_) ?_;have N:=T (by simpa using n);have av:=(L.e1 N.1 N.2).br;exact G.aK o b0 eK o<|G.a1 o (ae.T.zD.drop 1) cd b7 cm o<|G.O o (hn e6)<|G.ae 0 o ((jY).hp I)<|B 1 o (by simp[n]);exact B 6 o (by simp[n]);refine G.dP o ?_
 refine G.bd o (fun(i:Nat)=>[(1,.pointer (some ⟨V.size,0,none⟩)),(3,.int .i64 (i:Int))])
  (fun(i:Nat) (H:Heap)=>(i<=x.ml.length)/\an H1 H)
  (fun(i:Nat)=>x.ml.length-i) 0 ⟨I,W.refl _ _⟩ ?_
 rintro i ai ⟨al,ac⟩ X bt;obtain⟨hm,ae,k,_⟩:=cg ac hm ae k;refine G.aG o ae.T b0 gn gU o o<|G.O o (bz hm gg)<|G.ip o ?_ ?_<;>intro aa;refine G.aG o ae.T b0 gn gU o o ?_;have S:i<x.ml.length:=by omega
 obtain⟨y,F⟩:∃q,q=x.ml[i]:=⟨_,o⟩;have U:y∈x.ml:=by rw[F];exact cS S
 have aw:=L.mm y U;exact G.pp o (M.cw hm i o gg fD o o) fun ag Q=>G.aK o dJ b7 o<|G.O o (M.cast (v2:=aJ y.n) (aY (Q.T.drop 0) cm) (by rw[F]))<|G.O o (hn e6)<|G.ae 0 o ((jY).hp I)<|G.aG o ae.T b0 gn gU o o<|G.pp o (M.cw hm i o gg fD o o) fun ah R=>G.aK o dJ b7 o<|G.O o (M.cast (v2:=aJ y.y) (aY R.T.sE cm) (by rw[F]))<|G.O o (hn e6)<|G.ae 0 o ((jY).hp I)<|G.dP o<|G.O o bB<|G.aQ o<|bt (i+1) _ ⟨I,ac⟩;exact G.rt o ⟨o,k⟩
def Gc{x:b5}{w0:World}(n:gi F V x)(R:bk F V.size)(K:qa x)(dT:x.ab.length<=140737488355328/\x.q.br.length<=140737488355328):
 a8 prog w0 44 #[hG x] V (fun r bK=>∃s2:ay,∃cw:Nat,r= .tuple #[s2.v,.int .i64 0]/\aS cw 5 bK a7 1 s2.v (ej x)/\U 0 V.size cw/\an V bK):=by
 refine G.bN func44 o fun A=>?_;have eJ:=n.m.len;have eF:=n.e.len;have bc:=K.ml;have eE:=K.el;have dP:=wy K;obtain⟨cv,bI⟩:∃b,b=(x.Y&&decide (x.q.k≠0)):=⟨_,o⟩;have dO:cv=true->x.Y=true/\x.q.k≠0:=fun h=>by rw[bI,ob,lf]at h;exact h
 refine G.aR o (Z.bT<|cM x) ?_;rintro v1 H1 ⟨rfl,ae,dy,_⟩;obtain⟨n,A,_⟩:=bG dy n A;refine G.aG o ae.T b0 gn gU o o<|G.O o (bz n.m gg)<|G.ae 0 o ((jY).hp I)<|G.a1 o ae.T.iT b0 fo gE o<|G.O o (bz n.e er)<|G.ae 0 o ((jY).hp I)<|G.aG o ae.T b0 c8 eW o o<|G.m9 (v:=cv) 1 5 27 22 o (fun bg aV=>?_) (fun bg aV=>?_) ?_;exact G.aK o b0 eK o<|G.a1 o ae.T.uE cd bV cQ o<|aV 2 o (by rw[bI];simp[bg]);exact aV 5 o (by rw[bI];simp[bg]);refine G.m9 (v:=false) 1 6 34 28 o (fun aM aX=>?_) (fun aM aX=>?_) ?_;have B:=dO (by simpa using aM);have dQ:=K.e1 B.1 B.2;have eP:=dQ.bF;exact G.aK o b0 eK o<|G.a1 o ae.T.wT cd gz h4 o<|G.O o (bz n.q iF)<|G.ae 0 o ((jY).hp I)<|aX 1 o (by simp[aM]);exact aX 6 o (by simp[aM]);refine G.dP o<|G.O o (bu ae.T gY fe<|cY _)<|G.aC o Mo (QA n.m.any K dT) ?_;rintro eu bH ⟨rfl,de⟩;obtain⟨n,ae,A,_⟩:=cg de n ae A;refine G.dP o ?_
 refine G.bw 1 o (fun(_:Unit)=>[(1,.pointer (some ⟨V.size,0,none⟩)),(4,.int .u8 (sh x).toNat)])
  (fun(_:Unit) (H:Heap)=>True/\an bH H) (fun _ cf=>?_) ?_
 have bN:an bH bH:=W.refl _ _;refine G.aG o ae.T b0 c8 eW o o<|G.ci o ?_ ?_<;>intro dW;refine G.aQ o (cf () _ ?_) ⟨o,(by first|(rw[sh,aD ch]<;>rfl)|(rw[sh,au iN]<;>rfl)),trivial⟩;exact⟨trivial,bN⟩;refine G.aQ o (cf () _ ?_) ⟨o,(by first|(rw[sh,aD ch]<;>rfl)|(rw[sh,au iN]<;>rfl)),trivial⟩;exact⟨trivial,bN⟩;intro _ bo cD;obtain⟨dS,cC⟩:=cD;obtain⟨n,ae,A,_⟩:=cg cC n ae A
 refine G.bw 0 o (fun(_:Unit)=>[(1,.pointer (some ⟨V.size,0,none⟩)),(4,.int .u8 (sh x+tw x).toNat)])
  (fun(_:Unit) (H:Heap)=>True/\an bo H) (fun _ cj=>?_) ?_
 have bO:an bo bo:=W.refl _ _;refine G.aG o ae.T b0 c8 eW o o<|G.ci o ?_ ?_<;>intro dX;refine G.ae 1 o (M.Lt (b:=(UInt8.ofNat 2)) o o o)<|G.aQ o (cj () _ ?_) ⟨o,(by first|(rw[tw,aD ch]<;>rfl)|(rw[tw,au iN,UInt8.add_zero]<;>rfl)),trivial⟩;exact⟨trivial,bO⟩;refine G.aQ o (cj () _ ?_) ⟨o,(by first|(rw[tw,aD ch]<;>rfl)|(rw[tw,au iN,UInt8.add_zero]<;>rfl)),trivial⟩;exact⟨trivial,bO⟩;intro _ aA cE;obtain⟨dS,ap⟩:=cE;obtain⟨n,ae,A,_⟩:=cg ap n ae A;refine G.aR o (Z.cV<|c5 _ ([sh x+tw x]) dv eM fy) ?_;rintro cl ax ⟨k,cP,_⟩;have cp:=aw.new (R.mono A.size);have cq:=ai.new ae.lt;have cr:=U.new A.size;obtain⟨n,ae,A,_⟩:=cg cP n ae A;obtain⟨df,rfl⟩:∃s:ay,cl=s.v:=⟨ck cl,k.a6.symm⟩
 refine G.bw 0 o (fun(T:ay×Nat)=>match T with|(s1,aQ)=>[(1,.pointer (some ⟨V.size,0,none⟩)),(5,s1.v)])
  (fun(s1,aQ) (H:Heap)=>(aS aQ 5 H a7 1 s1.v (nj x))/\U (aA.size+1) ax.size aQ/\W (aq [(aA.size+1)]) ax H) (fun _ bP=>?_) ?_
 have aC:W (aq [(aA.size+1)]) ax ax:=W.refl _ _;have bl:=U.refl (aA.size+1) ax.size;refine G.aG o ae.T b0 c8 eW o o<|G.ci o ?_ ?_<;>intro bs;refine G.aG o ae.T b0 b7 cm o o<|G.aC o u7 (DB x.ab w0 k a_ (by have:=K.ab bs;omega)) ?_;rintro hK ds ⟨dh,di,rfl,k,cU,cW⟩;have cX:=U.al bl cU aC.size;obtain⟨aC,_⟩:=cz cW aC (ah.r bl);have O:=k.le;exact G.aQ o<|bP (dh,di) _ ⟨(by rw[nj,aD bs,tx,<-GQ];exact k),cX,aC⟩;exact G.aQ o<|bP (df,(aA.size+1)) _ ⟨(by rw[nj,au (by simp[bs]),hD,tx,<-GQ];exact k),bl,aC⟩;rintro⟨s1,aQ⟩ dV cF;obtain⟨k,C,aU⟩:=cF;have bQ:=aw.app cp (R.mono A.size) C;have bR:=ai.app cq ae.lt C;have bS:=U.al cr C A.size;obtain⟨n,ae,A,_⟩:=dg aU n cp ae cq A cr;have O:=k.le;refine G.aG o ae.T b0 gn gU o o<|G.O o (bz n.m gg)<|G.O o (M.jh o ht hO o)<|G.aC o oL (E.pU _ _ _ 2 _ w0 _ k aO I) fun bq ct dp=>?_;have c0:=ae.lt;obtain⟨bq,bA,rfl,k,a1,c1⟩:=dp;have bU:=aw.app bQ (R.mono A.size) a1;have bW:=ai.app bR c0 a1;have bX:=U.al bS a1 A.size;obtain⟨n,ae,A,_⟩:=dg c1 n bQ ae bR A bS;have O:=k.le;obtain⟨dq,rfl⟩:∃s:ay,bq=s.v:=⟨ck bq,k.a6.symm⟩
 refine G.bd o (fun(T:Nat×ay×Nat)=>match T with|(i,gA,S)=>[(1,.pointer (some ⟨V.size,0,none⟩)),(5,gA.v),(6,.int .i64 (i:Int))])
  (fun(i,gA,S) (H:Heap)=>(i<=x.ml.length)/\aS S 5 H a7 1 gA.v ((nj x++dH 2 (UInt64.ofNat x.ml.length)++(x.ml.take i).flatMap lV))/\U bA ct.size S/\W (aq [bA]) ct H)
  (fun(i,gA,S)=>x.ml.length-i) (0,dq,bA) ⟨I,(by simpa using k),U.refl _ _,W.refl _ _⟩ ?_
 rintro⟨i,gA,S⟩ az ⟨dK,k,C,L⟩ ev c3;have aF:=aw.app bU (R.mono A.size) C;have aK:=ai.app bW ae.lt C;have a6:=U.al bX C A.size;obtain⟨n,ae,A,_⟩:=dg L n bU ae bW A bX;have O:=k.le;have bY:=C;have dN:=B_ K i;have cu:(nj x++dH 2 (UInt64.ofNat x.ml.length)++(x.ml.take i).flatMap lV).length<=4400000000:=by simp only[b2,ft];omega
 refine G.aG o ae.T b0 gn gU o o<|G.O o (bz n.m gg)<|G.ip o ?_ ?_<;>intro dY;refine G.aG o ae.T b0 gn gU o o ?_;have aG:i<x.ml.length:=by omega
 obtain⟨y,P⟩:∃q,q=x.ml[i]:=⟨_,o⟩;have aP:y∈x.ml:=by rw[P];exact cS aG
 have eO:=K.mm y aP;refine G.pp o (M.cw n.m i o gg fD o o) fun dZ c4=>G.aK o dJ b7 o<|G.O o (M.cast (v2:=aJ y.n) (aY (c4.T.drop 0) cm) (by rw[P]))<|G.aC o u7 (DB y.n w0 k I I) fun ey aN dz=>?_;have c_:=ae.lt;obtain⟨ho,bC,rfl,k,ba,cG⟩:=dz;have X:=aw.app aF (R.mono A.size) ba;have aa:=ai.app aK c_ ba;have bZ:=U.al bY ba L.size;obtain⟨n,ae,A,L,_⟩:=dx cG n aF ae aK A a6 L (ah.r bY);have O:=k.le;refine G.cJ o (fun Q=>W (aq [bC]) aN Q) [] o ?_;have ac:W (aq [bC]) aN aN:=W.refl _ _;have b1:=U.refl bC aN.size;refine N.bo 0 o ac ?_;refine N.t1 1 o (fun Q B=>M.fieldAddr (ae.aA B<|ak.J aa).T o b0 o o gn aO o) ac ?_;refine N.t1 2 o (fun Q B=>aY ((ae.aA B<|ak.J aa).T.drop 2) gU) ac ?_;refine N.bo 3 o ac ?_;refine N.e (g:=fun ad=> .pointer (some ad)) 4 aW o aW aW aW (M.cw n.m i o gg fD o o) fE o o ac fun ef b6=>?_;refine N.t1 5 o (fun Q B=>M.fieldAddr (b6.aA B<|aB.J X).T o dJ o o bE aO o) ac ?_;refine N.t1 6 o (fun Q B=>M.cast (v2:=b4 y.J) (bu (((b6.aA B<|aB.J X).T.drop 1).take 32) dj bE (by rw[jR];exact bJ _)) ((by rw[P];exact dk (jR _)))) ac ?_;refine N.t1 8 o (fun Q B=>M.fieldAddr (ae.aA B<|ak.J aa).T o b0 o o gn aO o) ac ?_;refine N.t1 9 o (fun Q B=>aY ((ae.aA B<|ak.J aa).T.drop 2) gU) ac ?_;refine N.bo 10 o ac ?_;refine N.e (g:=fun ad=> .pointer (some ad)) 11 aW o aW aW aW (M.cw n.m i o gg fD o o) fE o o ac fun bh a0=>?_;refine N.t1 12 o (fun Q B=>M.fieldAddr (a0.aA B<|aB.J X).T o dJ o o bE aO o) ac ?_;refine N.t1 13 o (fun Q B=>M.cast (v2:=b4 y.w) (bu (((a0.aA B<|aB.J X).T.drop 33).take 32) dj bE (by rw[hA];exact bJ _)) ((by rw[P];exact dk (hA _)))) ac ?_;refine N.ba 7 ?_;refine cK tg (ui y.J k (by rw[b2,jr];omega)) fun ez bF eY=>?_;have bM:=ae.lt;obtain⟨eA,b8,rfl,k,aL,cH⟩:=eY;have cI:=aw.app X (R.mono A.size) aL;have cL:=ai.app aa bM aL;have a2:=U.al bZ aL L.size;have cN:=U.al b1 aL ac.size;obtain⟨n,ae,L,ac,_⟩:=dx cH n X ae aa L (ah.r bZ) ac (ah.r b1);have O:=k.le;refine N.aN ac (ag.J<|ah.r cN) ?_;have ac:W (aq [b8]) bF bF:=W.refl _ _;have a3:=U.refl b8 bF.size;refine N.ba 14 ?_;refine cK tg (ui y.w k (by rw[b2,b2,jr,y.J.2];omega)) ?_;rintro eC b9 ⟨eD,dw,rfl,k,a4,cO⟩;have a5:=U.al a2 a4 L.size;have da:=U.al a3 a4 ac.size;obtain⟨n,ae,L,ac,_⟩:=dx cO n cI ae cL L (ah.r a2) ac (ah.r a3);have O:=k.le;refine N.aN ac (ag.J<|ah.r da) ?_;have ac:W (aq [dw]) b9 b9:=W.refl _ _;refine N.t1 15 o (fun Q B=>fl) ac ?_;refine G.dn aW<|G.aG o ae.T b0 gn gU o o<|G.pp o (M.cw n.m i o gg fD o o) fun hJ dA=>G.aK o dJ b7 o<|G.O o (M.cast (v2:=aJ y.y) (aY dA.T.sE cm) (by rw[P]))<|G.aC o u7 (Ul y.y w0 k (by rw[b2,b2,b2,jr,y.J.2,y.w.2];omega) I) ?_;rintro eg iI ⟨dC,dD,rfl,k,cx,cy⟩;have gF:=U.al a5 cx L.size;obtain⟨L,_⟩:=cz cy L (ah.r a5);have O:=k.le;exact G.O o bB<|G.aQ o<|c3 (i+1,dC,dD) _ ⟨I,(by rw[tA aG,<-P,lV];simpa only[ew]using k),gF,L⟩;obtain rfl:i=x.ml.length:=by omega
 rw[eQ]at k cu;have dP:=wy K
 refine G.bw 0 o (fun(T:ay×Nat)=>match T with|(cV,aR)=>[(1,.pointer (some ⟨V.size,0,none⟩)),(5,cV.v)])
  (fun(cV,aR) (H:Heap)=>(aS aR 5 H a7 1 cV.v (nh x))/\U S az.size aR/\W (aq [S]) az H) (fun _ bL=>?_) ?_
 have aE:W (aq [S]) az az:=W.refl _ _;have bm:=U.refl S az.size;refine G.aG o ae.T b0 c8 eW o o<|G.ci o ?_ ?_<;>intro aI;refine G.aK o b0 eK o<|G.O o (M.cast (v2:=jJ x.q) (bu ((ae.T.drop 4).take 70) l6 eK (by rw[m6];exact e_ _))<|dk<|m6 x)<|G.aC o Mp (Tx k I n.q (R.mono A.size) aF (K.j4 aI)<|K.e1 aI) ?_;rintro eh ei ⟨gG,ci,rfl,k,a9,cA⟩;have dE:=U.al bm a9 aE.size;obtain⟨aE,_⟩:=cz cA aE (ah.r bm);have O:=k.le;exact G.O o e7<|G.dP o<|G.aQ o<|bL (gG,ci) _ ⟨(by rw[nh,aD aI];exact k),dE,aE⟩;exact G.aQ o<|bL (gA,S) _ ⟨(by rw[nh,au (by simp[aI]),hD];exact k),bm,aE⟩;rintro⟨cV,aR⟩ dU bt;obtain⟨k,C,am⟩:=bt;have bb:=aw.app aF (R.mono A.size) C;have b_:=ai.app aK ae.lt C;have dB:=U.al a6 C A.size;obtain⟨n,ae,A,_⟩:=dg am n aF ae aK A a6;have O:=k.le;refine G.a1 o ae.T.iT b0 fo gE o<|G.O o (bz n.e er)<|G.O o (M.jh o ht hO o)<|G.aC o oL (E.pU _ _ _ 2 _ w0 _ k aO (by have:=yH K;omega)) fun bd be dF=>?_;have dG:=ae.lt;obtain⟨bd,bf,rfl,k,aZ,c7⟩:=dF;have ca:=aw.app bb (R.mono A.size) aZ;have cb:=ai.app b_ dG aZ;have bi:=U.al dB aZ A.size;obtain⟨n,ae,A,_⟩:=dg c7 n bb ae b_ A dB;have O:=k.le;obtain⟨co,rfl⟩:∃s:ay,bd=s.v:=⟨ck bd,k.a6.symm⟩
 refine G.bd o (fun(T:Nat×ay×Nat)=>match T with|(i,av,al)=>[(1,.pointer (some ⟨V.size,0,none⟩)),(5,av.v),(8,.int .i64 (i:Int))])
  (fun(i,av,al) (H:Heap)=>(i<=x.el.length)/\aS al 5 H a7 1 av.v (nh x++dH 2 (UInt64.ofNat x.el.length)++(x.el.take i).flatMap kA)/\U bf be.size al/\W (aq [bf]) be H)
  (fun(i,av,al)=>x.el.length-i) (0,co,bf) ⟨I,(by simpa using k),U.refl _ _,W.refl _ _⟩ ?_
 rintro⟨i,av,al⟩ ed ⟨dK,k,C,aH⟩ ee cs;have bw:=aw.app ca (R.mono A.size) C;have fO:=ai.app cb ae.lt C;have dI:=U.al bi C A.size;obtain⟨n,ae,A,_⟩:=dg aH n ca ae cb A bi;have O:=k.le;have cc:=C;have dN:=Gb K i;have eL:=yH K;have eG:=K.el;have cu:(nh x++dH 2 (UInt64.ofNat x.el.length)++(x.el.take i).flatMap kA).length<=8800000000:=by simp only[b2,ft];omega
 refine G.a1 o ae.T.iT b0 fo gE o<|G.O o (bz n.e er)<|G.ip o ?_ ?_<;>intro d_;refine G.a1 o ae.T.iT b0 fo gE o ?_;have aG:i<x.el.length:=by omega
 obtain⟨y,P⟩:∃q,q=x.el[i]:=⟨_,o⟩;have aP:y∈x.el:=by rw[P];exact cS aG
 have eN:=K.md y aP;refine G.pp o (M.cw n.e i o er dM o o) fun ea aT=>G.aK o hN bE o<|G.O o (M.cast (v2:=b4 y.k) (bu ((aT.T.drop 0).take 32) dj bE (by rw[hU];exact bJ _)) ((by rw[P];exact dk (hU _))))<|G.aC o tg (ui y.k k I) ?_;rintro en ep ⟨dl,bj,rfl,k,bD,db⟩;have c9:=U.al cc bD aH.size;obtain⟨n,ae,aH,_⟩:=dg db n bw ae fO aH (ah.r cc);have O:=k.le;refine G.a1 o ae.T.iT b0 fo gE o<|G.pp o (M.cw n.e i o er dM o o) fun ec dc=>G.aK o hN cZ o<|G.O o (M.cast (v2:=y.v.v) (aY dc.T.og eI) (by rw[P]))<|G.O o (M.oK (n.d y aP) o underlying93 underlying9 underlying5 o)<|G.aC o u7 (Um y.d w0 k (by rw[b2,y.k.2];omega) I) ?_;rintro dn et ⟨dr,dt,rfl,k,dd,bT⟩;have du:=U.al c9 dd aH.size;obtain⟨aH,_⟩:=cz bT aH (ah.r c9);have O:=k.le;exact G.O o bB<|G.aQ o<|cs (i+1,dr,dt) _ ⟨I,(by rw[tA aG,<-P,kA];simpa only[ew]using k),du,aH⟩;obtain rfl:i=x.el.length:=by omega
 rw[eQ]at k;exact G.rt o ⟨av,al,o,by rw[Gg];exact k,dI,A⟩
def jk(l:List b9):Nat:=(l.map (fun m=>m.n.length+m.y.length)).sum
def j_(l:List b1):Nat:=(l.map (fun x=>x.d.length)).sum
def Ra{l:List b9}{i:Nat}(h:i<l.length):jk (l.take (i+1))=jk (l.take i)+(l[i].n.length+l[i].y.length):=by
 unfold jk;rw[fc h,hc,vK];simp only[dQ,mJ,iB,List.sum_nil,n6]
def Q9{l:List b1}{i:Nat}(h:i<l.length):j_ (l.take (i+1))=j_ (l.take i)+l[i].d.length:=by
 unfold j_;rw[fc h,hc,vK];simp only[dQ,mJ,iB,List.sum_nil,n6]
structure zO (t:b5):Prop where
 ab:t.ab.length<=140737488355328
 br:t.q.br.length<=140737488355328
 fH:∀m∈t.ml,m.n.length<=140737488355328/\m.y.length<=140737488355328
 md:∀x∈t.el,x.d.length<=140737488355328
def sF(t:b5):Nat:=t.ab.length+t.q.br.length+jk t.ml+j_ t.el
def mv(t:b5):Prop:=sF t<20000/\t.ml.length<40/\t.el.length<40/\t.q.bF.length<200
instance (t:b5):Decidable (mv t):=by unfold mv;exact inferInstance
def Rb{l:List b9}(h:∀m∈l,m.n.length<=140737488355328/\m.y.length<=140737488355328):jk l<=281474976710656*l.length:=by
 induction l with
 |nil=>simp[jk]
 |cons x l ih=>
  have n:=h x fZ;have k:=ih (fun m hm=>h m (gx _ hm));unfold jk at k⊢;simp only[dQ,iB,fA];omega
def Q_{l:List b1}(h:∀x∈l,x.d.length<=140737488355328):j_ l<=140737488355328*l.length:=by
 induction l with
 |nil=>simp[j_]
 |cons x l ih=>
  have n:=h x fZ;have k:=ih (fun m hm=>h m (gx _ hm));unfold j_ at k⊢;simp only[dQ,iB,fA];omega
def Cm:∀{l:List b9} {m:b9},m∈l->m.n.length+m.y.length<=jk l
 |x::l,m,h=>by
  unfold jk;simp only[dQ,iB];rcases dI.1 h with rfl|h;omega;have:=Cm h;unfold jk at this;omega
def Io:∀{l:List b1} {x:b1},x∈l->x.d.length<=j_ l
 |y::l,x,h=>by
  unfold j_;simp only[dQ,iB];rcases dI.1 h with rfl|h;omega;have:=Io h;unfold j_ at this;omega
def Il:∀(l:List b9),(l.flatMap lV).length=67*l.length+jk l
 |[]=>rfl
 |x::l=>by
  have:=Il l;rw[mH,b2,we,this];unfold jk;simp only[dQ,iB,fA];omega
def H5:∀(l:List b1),(l.flatMap kA).length=36*l.length+j_ l
 |[]=>rfl
 |x::l=>by
  have:=H5 l;rw[mH,b2,Cc,this];unfold j_;simp only[dQ,iB,fA];omega
def TV(q:dX):(iR q).length<=100+q.br.length+33*q.bF.length:=by
 have k:=sj (f:=mS) (n:=33) (l:=q.bF) (fun x _=>by rw[wS];omega);unfold iR;split<;>simp only[b2,ft,jr,q.cU.2,q.bw.2,ie]<;>omega
def GB{t:b5}(h:mv t):(ej t).length<=31000:=by
 obtain⟨n,A,B,C⟩:=h;have bc:=Il t.ml;have k:=H5 t.el;have r:=TV t.q;unfold sF at n;unfold ej;simp only[b2,ft,bc,k];split<;>split<;>simp only[b2,ft,jr,ie]<;>omega
def GD{t:b5}(h:mv t):mz t:=by
 have B:=GB h;obtain⟨k,n,r,A⟩:=h;unfold sF at k;exact⟨by omega,by omega,fun m hm=>by have:=Cm hm;omega,fun m hm=>by have:=Cm hm;omega,by omega,by omega,by omega,by omega⟩
def Ph{x:b5}{w0:World}(hm:b_ V ep 66 x.fH.v x.ml)(k:b_ V eH 33 x.q.c4.v x.q.bF)(he:b_ V cA 33 x.dG.v x.el)(ab:∀y∈x.el,b_ V a7 1 y.v.v y.d)(hw:zO x):
 a8 prog w0 10 #[hG x] V (fun r ak=>r= .bool (decide (mv x))/\an V ak):=by
 refine G.bN func10 o fun A=>?_;have hm:=hm.cD;have k:=k.cD;have he:=he.cD;have ab:=fun y aE=>(ab y aE).cD;have aU:=hm.len;have aT:=k.len;have aP:=he.len;have k0:=hw.ab;have aV:=hw.br;refine G.aR o (Z.bT<|cM x) ?_;rintro v1 H1 ⟨rfl,ae,al,_⟩;obtain⟨hm,k,he,ab,A,_⟩:=d_ al hm k he ab A;refine G.aG o ae.T b0 b7 cm o o<|G.O o (hn e6)<|G.aK o b0 eK o<|G.a1 o (ae.T.zD.drop 1) cd b7 cm o<|G.O o (hn e6)<|G.O o (M.cast (v2:= .int .i64 (x.ab.length+x.q.br.length:Nat)) bB<|di I) ?_
 refine G.bd o (fun(i1:Nat)=>[(1,.pointer (some ⟨V.size,0,none⟩)),(3,.int .i64 ((x.ab.length+x.q.br.length+jk (x.ml.take i1)):Nat)),(4,.int .i64 (i1:Int))])
  (fun(i1:Nat) (H:Heap)=>(i1<=x.ml.length/\i1<=40)/\an H1 H)
  (fun(i1:Nat)=>x.ml.length-i1) 0 ⟨I,W.refl _ _⟩ ?_ ⟨o,(by simp[jk,dh]),o,trivial⟩
 rintro i1 aq ⟨aQ,U⟩ aG av;obtain⟨hm,k,he,ab,ae,A,_⟩:=f_ U hm k he ab ae A;have aB:=Rb (l:=x.ml.take i1) (fun m hm=>hw.fH m (ky hm));rw[eC]at aB;refine G.aG o ae.T b0 gn gU o o<|G.O o (bz hm gg)<|G.fY (v:=(decide ((i1:Int)<x.ml.length/\(i1:Int)<40))) 2 3 22 19 o (fun O E=>?_) (fun O E=>?_) ?_;exact E 3 o (by simp[O]);exact E 3 o (by simp[O]);refine G.ip o ?_ ?_<;>intro aH;refine G.rd o o aW<|G.aG o ae.T b0 gn gU o o ?_;have B:i1<x.ml.length:=by omega
 obtain⟨y,n⟩:∃q,q=x.ml[i1]:=⟨_,o⟩;have C:y∈x.ml:=by rw[n];exact cS B
 have aF:=hw.fH y C;exact G.pp o (M.cw hm i1 o gg fD o o) fun aI aw=>G.aK o dJ b7 o<|G.O o (M.cast (v2:=aJ y.n) (aY (aw.T.drop 0) cm) (by rw[n]))<|G.O o (hn e6)<|G.O o (M.cast (v2:= .int .i64 ((x.ab.length+x.q.br.length+jk (x.ml.take i1))+y.n.length:Nat)) bB<|di I)<|G.aG o ae.T b0 gn gU o o<|G.pp o (M.cw hm i1 o gg fD o o) fun aK ax=>G.aK o dJ b7 o<|G.O o (M.cast (v2:=aJ y.y) (aY ax.T.sE cm) (by rw[n]))<|G.O o (hn e6)<|G.O o (M.cast (v2:= .int .i64 ((x.ab.length+x.q.br.length+jk (x.ml.take (i1+1))):Nat)) bB<|di (by rw[Ra B,<-n];omega))<|G.O o bB<|G.aQ o<|av (i1+1) _ ⟨I,U⟩;have ah:x.ml.length<40->i1=x.ml.length:=fun aA=>by omega
 refine G.bd o (fun(i2:Nat)=>[(1,.pointer (some ⟨V.size,0,none⟩)),(3,.int .i64 (((x.ab.length+x.q.br.length+jk (x.ml.take i1))+j_ (x.el.take i2)):Nat)),(5,.int .i64 (i2:Int))])
  (fun(i2:Nat) (H:Heap)=>(i2<=x.el.length/\i2<=40)/\an aq H)
  (fun(i2:Nat)=>x.el.length-i2) 0 ⟨I,W.refl _ _⟩ ?_ ⟨o,(by simp[j_,dh]),o,trivial⟩
 rintro i2 aN ⟨aR,ac⟩ aO ap;obtain⟨hm,k,he,ab,ae,A,_⟩:=f_ ac hm k he ab ae A;have aC:=Q_ (l:=x.el.take i2) (fun m hm=>hw.md m (ky hm));rw[eC]at aC;refine G.a1 o ae.T.iT b0 fo gE o<|G.O o (bz he er)<|G.fY (v:=(decide ((i2:Int)<x.el.length/\(i2:Int)<40))) 2 3 50 47 o (fun P F=>?_) (fun P F=>?_) ?_;exact F 3 o (by simp[P]);exact F 3 o (by simp[P]);refine G.ip o ?_ ?_<;>intro aL;refine G.a1 o ae.T.iT b0 fo gE o ?_;have B:i2<x.el.length:=by omega
 obtain⟨y,n⟩:∃q,q=x.el[i2]:=⟨_,o⟩;have C:y∈x.el:=by rw[n];exact cS B
 have aF:=hw.md y C;exact G.pp o (M.cw he i2 o er dM o o) fun aM ay=>G.aK o hN cZ o<|G.O o (M.cast (v2:=y.v.v) (aY ay.T.og eI) (by rw[n]))<|G.O o (bz (ab y C) c_)<|G.O o (M.cast (v2:= .int .i64 (((x.ab.length+x.q.br.length+jk (x.ml.take i1))+j_ (x.el.take (i2+1))):Nat)) bB<|di (by rw[Q9 B,<-n];omega))<|G.O o bB<|G.aQ o<|ap (i2+1) _ ⟨I,ac⟩;have ai:x.el.length<40->i2=x.el.length:=fun aA=>by omega
 refine G.fY (v:=(decide (((((x.ab.length+x.q.br.length+jk (x.ml.take i1))+j_ (x.el.take i2)):Nat):Int)<20000/\(x.ml.length:Int)<40))) 3 5 69 64 o (fun Q K=>?_) (fun Q K=>?_) ?_;exact G.aG o ae.T b0 gn gU o o<|G.O o (bz hm gg)<|K 2 o<|decide_eq_decide.2 ⟨fun h=>⟨Q,h⟩,fun h=>h.2⟩;exact K 5 o ((fG fun h=>Q h.1).symm);refine G.fY (v:=(decide ((((((x.ab.length+x.q.br.length+jk (x.ml.take i1))+j_ (x.el.take i2)):Nat):Int)<20000/\(x.ml.length:Int)<40)/\(x.el.length:Int)<40))) 1 5 75 70 o (fun R L=>?_) (fun R L=>?_) ?_;exact G.a1 o ae.T.iT b0 fo gE o<|G.O o (bz he er)<|L 2 o<|decide_eq_decide.2 ⟨fun h=>⟨R,h⟩,fun h=>h.2⟩;exact L 5 o ((fG fun h=>R h.1).symm);refine G.fY (v:=(decide (((((((x.ab.length+x.q.br.length+jk (x.ml.take i1))+j_ (x.el.take i2)):Nat):Int)<20000/\(x.ml.length:Int)<40)/\(x.el.length:Int)<40)/\(x.q.bF.length:Int)<200))) 1 6 82 76 o (fun S N=>?_) (fun S N=>?_) ?_;exact G.aK o b0 eK o<|G.a1 o ae.T.wT cd gz h4 o<|G.O o (bz k iF)<|N 2 o<|decide_eq_decide.2 ⟨fun h=>⟨S,h⟩,fun h=>h.2⟩;exact N 6 o ((fG fun h=>S h.1).symm);refine G.rt o ?_;exact⟨bn Value.bool (decide_eq_decide.2 (by
  unfold mv sF;constructor;rintro⟨⟨⟨X,aa⟩,ag⟩,az⟩;have bc:=ah I;have T:=ai I;rw[bc,T,eQ,eQ]at X;omega;rintro⟨X,aa,ag,az⟩;have bc:=ah aa;have T:=ai ag;rw[bc,T,eQ,eQ];omega)),A⟩
def Dr{q:dX}(s:ay)(l:List hz):(dD q).set 66 s.v=dD {q with c4:=s,bF:=l}:=by
 show Value.int .i64 q.k::aJ q.br::((cu q.cU++(cu q.bw++lO q)).set 64 s.v)=_;rw[n8 _ _ (by rw[bJ];omega),n8 _ _ (by rw[bJ,bJ];omega),bJ,bJ];rfl
def DM{x:b5}{s:ay}{l:List b9}:(cM x).set 2 s.v=cM {x with fH:=s,ml:=l}:=rfl
def UC{x:b5}{s:ay}{l:List hz}:(cM x).set 70 s.v=cM {x with q:={x.q with c4:=s,bF:=l}}:=by
 show Value.bool x.bP::aJ x.ab::x.fH.v:: .bool x.Y::((dD x.q++[x.dG.v]).set 66 s.v)=_;rw[x_ _ _ (by rw[e_];omega),Dr (l:=l)];rfl
def DL{x:b5}{s:ay}{l:List b1}:(cM x).set 74 s.v=cM {x with dG:=s,el:=l}:=by
 show Value.bool x.bP::aJ x.ab::x.fH.v:: .bool x.Y::((dD x.q++[x.dG.v]).set 70 s.v)=_;rw[n8 _ _ (by rw[e_];omega),e_];rfl
structure l5 (F:Nat->Prop) (H:Heap) (t:b5):Prop where
 q:Rd F H eH 33 t.q.c4.v t.q.bF
 e:Rd F H cA 33 t.dG.v t.el
 d:∀y∈t.el,Rd F H a7 1 y.v.v y.d
def l5.aL{t:b5}(x:l5 F H t)(w:an H V):l5 F V t:=⟨x.q.aL w,x.e.aL w,fun y hy=>(x.d y hy).aL w⟩
def l5.aA{t:b5}{ks:List Nat}(x:l5 F H t)(w:W (aq ks) H V)(d:aB F ks):l5 F V t:=⟨x.q.aA w d,x.e.aA w d,fun y hy=>(x.d y hy).aA w d⟩
instance{t:b5}:cO (l5 F H t) H V (l5 F V t):=⟨fun s h=>h.aL s⟩
instance{t:b5}:cP (l5 F H t) H V (l5 F V t) (aw F):=⟨fun s h d=>h.aA s (aB.J d)⟩
def l5.imp{aX:Nat->Prop}{t:b5}(x:l5 F H t)(d:∀b,b<H.size->F b->aX b):l5 aX H t:=⟨x.q.imp d,x.e.imp d,fun y hy=>(x.d y hy).imp d⟩
def l5.cG{t:b5}(x:l5 F H t)(h:Rd F H ep 66 t.fH.v t.ml):gi F H t:=⟨h,x.q,x.e,x.d⟩
def l4(a b:b5):Prop:=a.bP=b.bP/\a.ab=b.ab/\a.ml=b.ml/\a.Y=b.Y/\a.q.p=b.q.p/\a.el.map (fun x=>(x.k,x.d))=b.el.map (fun x=>(x.k,x.d))
def Kt{t:b5}{w0:World}(E:gi F V t)(aN:bk F V.size)(c9:t.ml.length<=1000000)(c_:t.q.bF.length<=1000000)(c1:t.el.length<=1000000)(cC:∀y∈t.el,y.d.length<=140737488355328):
 a8 prog w0 17 #[hG t] V (fun r aA=>∃gB:ay,∃st:ay,∃aa:ay,∃P:List b1,∃mg:Nat,∃aX:Nat->Prop,r=hG {t with fH:=gB,q:={t.q with c4:=st},dG:=aa,el:=P}/\aS mg 70 aA ep 66 gB.v t.ml/\U 0 V.size mg/\(∀u:Unit,l5 aX aA {t with fH:=gB,q:={t.q with c4:=st},dG:=aa,el:=P})/\bk aX aA.size/\(∀b,aX b->V.size<=b)/\aw aX mg/\P.map (fun x=>(x.k,x.d))=t.el.map (fun x=>(x.k,x.d))/\an V aA):=by
 refine G.bN func17 o fun k=>G.aR o (Z.bT<|cM t) ?_;rintro v1 H1 ⟨rfl,n,cj,_⟩;have bD:=aw.new (aN.mono k.size);have aR:=U.new k.size;obtain⟨E,k,_⟩:=bG cj E k;refine G.aR o (Z.bt pg) ?_;rintro v2 aA ⟨rfl,B,cl,_⟩;have aT:=ai.new n.lt;have cm:=U.new k.size;obtain⟨E,n,k,_⟩:=cg cl E n k;refine G.aR o (Z.cV<|c5 _ (([]:List b9)) sl fF l9) ?_;rintro v5 cF ⟨C,cp,_⟩;have cq:=aw.new (aN.mono k.size);have bF:=ai.new n.lt;have bH:=ai.new B.lt;have bI:=U.new k.size;obtain⟨E,n,B,k,_⟩:=dZ cp E n B k;refine G.aG o n.T b0 gn gU o o<|G.aR o (dd C E.m sl bU bU) ?_;rintro bT cG ⟨bS,C,aV,aZ⟩;have aZ:=aZ.md;have ap:=ai.app bF n.lt aV;have b6:=ai.app bH B.lt aV;have b7:=U.al bI aV k.size;obtain⟨E,n,B,k,_⟩:=dx aZ E cq n bF B bH k bI;have cI:=C.le;rw[gw]at C;obtain⟨aF,rfl⟩:∃s:ay,bT=s.v:=⟨ck bT,C.a6.symm⟩;refine G.aK o b0 gn o<|G.bl o (gu n 2 (cM {t with fH:=aF}) gn (by rw[cY];omega) ((DM))) ?_;rintro cO ⟨n,b_⟩;obtain⟨E,B,C,k,_⟩:=dx b_ E bD B aT.symm C ap.symm k aR;refine G.aR o (Z.cV<|c5 _ (([]:List hz)) pG ib ma) ?_;rintro cV cW ⟨Q,a0,_⟩;have bq:=aw.new (aN.mono k.size);have bC:=ai.new n.lt;have a_:=ai.new B.lt;have ba:=ai.new C.le;have bc:=U.new k.size;obtain⟨E,n,B,C,k,_⟩:=d_ a0 E n B C k;refine G.aK o b0 eK o<|G.a1 o n.T.wT cd gz h4 o<|G.aR o (dd Q E.q pG bU bU) ?_;rintro bK gF ⟨cr,Q,aL,aU⟩;have aU:=aU.md;have bd:=ai.app bC n.lt aL;have a2:=ai.app a_ B.lt aL;have a3:=ai.app ba C.le aL;have a4:=U.al bc aL k.size;obtain⟨E,n,B,C,k,_⟩:=fT aU E bq n bC B a_ C ba k bc;have a5:=Q.le;rw[gw]at Q;obtain⟨aI,rfl⟩:∃s:ay,bK=s.v:=⟨ck bK,Q.a6.symm⟩;refine G.aK o b0 eK o<|G.aK o cd gz o<|G.bl o (gu n 70 (cM {t with fH:=aF,q:={t.q with c4:=aI}}) gz (by rw[cY];omega) ((UC))) ?_;rintro bf ⟨n,bY⟩;obtain⟨E,B,C,Q,k,_⟩:=fT bY E bD B aT.symm C ap.symm Q bd.symm k aR
 refine G.bd o (fun(cE:Nat×ay×Nat×(List b1)×(Nat->Prop))=>match cE with|(i,aa,O,P,aX)=>[(1,.pointer (some ⟨V.size,0,none⟩)),(2,.pointer (some ⟨H1.size,0,none⟩)),(3,aa.v),(4,.int .i64 (i:Int))])
  (fun(i,aa,O,P,aX) (H:Heap)=>(i<=t.el.length)/\aS O 104 H cA 33 aa.v P/\(∀y∈P,Rd aX H a7 1 y.v.v y.d)/\bk aX H.size/\aw aX O/\aw aX (V.size+1)/\aw aX (H1.size+1)/\aw aX bS/\(∀b,aX b->V.size<=b)/\P.map (fun x=>(x.k,x.d))=(t.el.take i).map (fun x=>(x.k,x.d))/\U 0 bf.size O/\an bf H)
  (fun(i,aa,O,P,aX)=>t.el.length-i) (0,dq,0,[],fun _=>False) ⟨I,aS.nil eG iJ,(fun x h=>by cases h),(fun b e=>e.elim),(fun b e=>e.elim),(fun b e=>e.elim),(fun b e=>e.elim),(fun b e=>e.elim),(fun b e=>e.elim),rfl,U.refl _ _,W.refl _ _⟩ ?_
 rintro⟨i,aa,O,P,aX⟩ al ⟨c3,K,R,aK,f1,f2,f3,f4,bA,aP,av,ac⟩ cH bM;have aM:=aw.app aw.z (aN.mono k.size) av;have aC:=ai.app ai.z n.lt av;have bV:=ai.app ai.z B.lt av;have bW:=ai.app ai.z C.le av;have bX:=U.al (U.refl 0 _) av k.size;obtain⟨E,n,B,C,Q,k,_⟩:=f_ ac E n B C Q k;have b8:=K.le;have bg:=av;have c8:P.length=i:=by have cz:=bn List.length aP;simp at cz;omega
 refine G.a1 o n.T.iT b0 fo gE o<|G.O o (bz E.e er)<|G.ip o ?_ ?_<;>intro cK;refine G.cJ o (fun X=>W (aq [O]) al X) [] o ?_;have A:W (aq [O]) al al:=W.refl _ _;refine N.bo 0 o A ?_;refine N.t1 1 o (fun X L=>M.fieldAddr (n.aA L<|ak.J aC).T o b0 o o fo aO o) A ?_;refine N.t1 2 o (fun X L=>M.gV (n.aA L<|ak.J aC).T.iT o gE o) A ?_;refine N.bo 3 o A ?_;have bQ:i<t.el.length:=by omega
 obtain⟨y,aQ⟩:∃q,q=t.el[i]:=⟨_,o⟩;have bR:y∈t.el:=by rw[aQ];exact cS bQ
 have c0:=cC y bR;refine N.e (g:=fun ad=> .pointer (some ad)) 4 aW o aW aW aW (M.cw E.e i o er dM o o) fE o o A fun cL bh=>?_;refine N.t1 5 o (fun X L=>M.fieldAddr (bh.aA L<|aB.J aM).T o hN o o bE aO o) A ?_;refine N.t1 6 o (fun X L=>M.cast (v2:=b4 y.k) (bu (((bh.aA L<|aB.J aM).T.drop 0).take 32) dj bE (by rw[hU];exact bJ _)) ((by rw[aQ];exact dk (hU _)))) A ?_;refine N.t1 8 o (fun X L=>M.fieldAddr (n.aA L<|ak.J aC).T o b0 o o fo aO o) A ?_;refine N.t1 9 o (fun X L=>M.gV (n.aA L<|ak.J aC).T.iT o gE o) A ?_;refine N.bo 10 o A ?_;refine N.e (g:=fun ad=> .pointer (some ad)) 11 aW o aW aW aW (M.cw E.e i o er dM o o) fE o o A fun cN bj=>?_;refine N.t1 12 o (fun X L=>M.fieldAddr (bj.aA L<|aB.J aM).T o hN o o cZ aO o) A ?_;refine N.t1 13 o (fun X L=>M.cast (v2:=y.v.v) (aY ((bj.aA L<|aB.J aM).T.og) eI) (by rw[aQ])) A ?_;refine N.ba 7 ?_;refine eP o (Z.cV<|c5 _ (([]:List UInt8)) dv eM fy) ?_;rintro ce aG ⟨T,bl,_⟩;have ct:=ai.new n.lt;have dB:=ai.new B.lt;have be:=ai.new C.le;have bm:=ai.new K.le;have c7:=(aw.new (aK.mono I):aw _ (al.size+1));have cu:=U.new k.size;have cw:=U.new ac.size;have bi:=U.new A.size;obtain⟨E,n,B,C,K,R,k,ac,_⟩:=hr bl E n B C K R k ac;obtain⟨A,_⟩:=cv bl A;refine N.aN A (ag.cons (ah.r<|U.refl O al.size)<|ag.J<|ah.q bi) ?_;have A:W (aq [O,(al.size+1)]) aG aG:=W.refl _ _;have bo:=U.refl (al.size+1) aG.size;refine N.ba 14 ?_;refine eP o (dd T (E.d y bR) dv bU bU) ?_;rintro bL ae ⟨aH,T,ax,a1⟩;have a1:=a1.md;have bt:=ai.app bm K.le ax;have cx:=U.al bo ax A.size;obtain⟨K,R,ac,A,_⟩:=dx a1 K bm R c7 ac cw A (ah.r bo);have cQ:=T.le;obtain⟨aJ,rfl⟩:∃s:ay,bL=s.v:=⟨ck bL,T.a6.symm⟩;rw[gw]at T;refine N.aN A (ag.cons (ah.r<|U.refl O aG.size)<|ag.J<|ah.r cx) ?_;have A:W (aq [O,aH]) ae ae:=W.refl _ _;refine N.t1 (v:= .agg (cA (⟨y.k,aJ,y.d⟩:b1)).toArray) 15 o (fun X L=>?_) A ?_;exact M.build (v:= .agg (cA (⟨y.k,aJ,y.d⟩:b1)).toArray) o o (by intro w;exact u5);refine N.ba 16 ?_;refine eP o (Z.cV<|c5 _ ([(⟨y.k,aJ,y.d⟩:b1)]) lS eG iJ) ?_;rintro cX aE ⟨cD,bs,_⟩;have cy:=U.new A.size;obtain⟨K,R,T,ac,A,_⟩:=d_ bs K R T ac A;refine N.aN A (ag.cons (ah.r<|U.refl O ae.size)<|ag.cons (ah.r<|U.refl aH ae.size)<|ag.J<|ah.q cy) ?_;have A:W (aq [O,aH,(ae.size+1)]) aE aE:=W.refl _ _;have bw:=U.refl O aE.size;refine N.ba 17 ?_;refine eP o (dd K cD.rd lS bU bU) ?_;rintro bN bO ⟨bP,K,am,a6⟩;have a6:=a6.md;have cb:=aw.app f1 (aK.mono I) am;have cc:=ai.app bt.symm T.le am;have cf:=U.al bg am ac.size;have ch:=U.al bw am A.size;obtain⟨R,T,ac,A,_⟩:=dx a6 R f1 T bt.symm ac bg A (ah.r bw);have b8:=K.le;obtain⟨ca,rfl⟩:∃s:ay,bN=s.v:=⟨ck bN,K.a6.symm⟩;refine N.aN A (ag.cons (ah.r ch)<|ag.cons (ah.r<|U.refl aH aE.size)<|ag.J<|ah.r<|U.refl (ae.size+1) aE.size) ?_;have A:W (aq [bP,aH,(ae.size+1)]) bO bO:=W.refl _ _;refine N.t1 18 o (fun X L=>fl) A ?_;exact G.dn aW<|G.O o bB<|G.aQ o<|bM (i+1,ca,bP,P++[(⟨y.k,aJ,y.d⟩:b1)],fun b=>aX b\/b+1=aH) _ ⟨I,K,wM R (fun b e=> .inl e) (T.rd.imp fun b _ e=> .inr e),bk.e0 (aK.mono I) T.le,aw.e0 cb cc.symm,aw.e0 f2 (ai.app ct n.lt ax),aw.e0 f3 (ai.app dB B.lt ax),aw.e0 f4 (ai.app be C.le ax),po bA (U.al cu ax k.size),by rw[hc,aP,fc bQ,hc,<-aQ]<;>rfl,cf,ac⟩;obtain rfl:i=t.el.length:=by omega
 rw[eQ]at aP;refine G.aK o b0 fo o<|G.bl o (gu n 74 (cM {t with fH:=aF,q:={t.q with c4:=aI},dG:=aa,el:=P}) fo (by rw[cY];omega) ((DL))) ?_;rintro cP ⟨n,bZ⟩;obtain⟨B,C,Q,K,R,k,_⟩:=kG bZ B aT.symm C ap.symm Q bd.symm K aC.symm R f2 k aR;refine G.O o (bu n.T gY fe<|cY _)<|G.bl o (S.var B _ (cM {t with fH:=aF,q:={t.q with c4:=aI},dG:=aa,el:=P}) rfl rfl rfl rfl (lP) fe (cY _) aO ((ea (cY _).symm))) ?_;rintro cU ⟨B,b2⟩;obtain⟨C,Q,K,R,k,_⟩:=fT b2 C b6.symm Q a2.symm K bV.symm R f3 k cm;exact G.rc o (lo o o B.T gY fe<|cY _) ⟨aF,aI,aa,P,bS,fun b=>aX b\/b+1=O\/b+1=cr,o,C,b7,(fun _=>⟨Q.rd.imp (fun b _ e=> .inr (.inr e)),K.rd.imp (fun b _ e=> .inr (.inl e)),fun y hy=>(R y hy).imp (fun b _ e=> .inl e)⟩),(fun b e=>e.elim (fun e=>by have az:=aK b e;omega) fun e=>e.elim (fun e=>by have az:=K.le;omega) fun e=>by have az:=Q.le;omega),(fun b e=>e.elim (bA b) fun e=>e.elim (fun e=>by have az:=bX;unfold U at az;omega) fun e=>by have az:=a4;unfold U at az;omega),(fun b e h=>e.elim (fun e=>f4 b e h) fun e=>e.elim (fun e=>bW.symm b e h) fun e=>a3.symm b e h),aP,k⟩
def pT(cC:gb)(on:List Bool)(i:Nat)(m:b9):b9:=if on.getD i false=true then{m with J:=k7 cC m.n}else m
def rA(cC:gb)(on:List Bool)(ml:List b9):List b9:=ml.mapIdx (pT cC on)
def lW(cC:gb)(on:List Bool)(i:Nat)(ml:List b9):List b9:=ml.mapIdx (fun j m=>if j<i then pT cC on j m else m)
def Rn(cC:gb)(on:List Bool)(ml:List b9):lW cC on 0 ml=ml:=by
 unfold lW;refine vL a_ fun i k n=>by simp
def wj(cC:gb)(on:List Bool)(i:Nat)(ml:List b9):(lW cC on i ml).length=ml.length:=by unfold lW;simp
def Ro(cC:gb)(on:List Bool)(ml:List b9):lW cC on ml.length ml=rA cC on ml:=by
 unfold lW rA;refine vL a_ fun i k n=>by simp at k;simp[k]
def Cu{cC:gb}{on:List Bool}{i:Nat}{ml:List b9}(h:i<ml.length):(lW cC on i ml)[i]'(by rw[wj];exact h)=ml[i]:=by unfold lW;simp
def Iu{cC:gb}{on:List Bool}{i:Nat}{ml:List b9}(h:i<ml.length):lW cC on (i+1) ml=(lW cC on i ml).set i (pT cC on i ml[i]):=by
 refine vL (by simp[wj]) fun j n r=>?_;rw[List.getElem_set];by_cases e:i=j;subst e;simp[lW];rw[au e];by_cases k:j<i;simp[lW,k,show j<i+1 by omega];simp[lW,k,show ¬j<i+1 by omega]
def Rp{cC:gb}{on:List Bool}{i:Nat}{ml:List b9}(h:i<ml.length)(k:on.getD i false=false):lW cC on (i+1) ml=lW cC on i ml:=by
 rw[Iu h,show pT cC on i ml[i]=(lW cC on i ml)[i]'(by rw[wj];exact h)by rw[Cu h];unfold pT;rw[au (by rw[k];decide)],List.set_getElem_self]
def Ci{m:b9}(z:eb):ep {m with J:=z}=eD (ep m) 1 (cu z):=by
 unfold eD;rw[bJ,show 1+32=33 from o,AX];rfl
def Rf{s:cf}{t:b5}{v:Value}{on:List Bool}{w0:World}(af:b_ V fP 33 s.fJ.v s.bK)(O:gi F V t)(bH:bk F V.size)(B:b_ V q_ 1 v on)(bN:t.ml.length<=1000000)(bO:t.q.bF.length<=1000000)(bM:t.el.length<=1000000)(bI:∀y∈t.el,y.d.length<=140737488355328):
 a8 prog w0 15 #[hV s,hG t,v] V (fun r X=>∃gB:ay,∃st:ay,∃aQ:ay,∃av:List b1,∃aX:Nat->Prop,r=hG {t with fH:=gB,ml:=rA (cH s.bK) on t.ml,q:={t.q with c4:=st},dG:=aQ,el:=av}/\(∀u:Unit,gi aX X {t with fH:=gB,ml:=rA (cH s.bK) on t.ml,q:={t.q with c4:=st},dG:=aQ,el:=av})/\bk aX X.size/\(∀b,aX b->V.size<=b)/\av.map (fun x=>(x.k,x.d))=t.el.map (fun x=>(x.k,x.d))/\an V X):=by
 refine G.bN func15 o fun n=>?_;have af:=af.cD;have aL:=af.c7;have B:=B.cD;have ac:=B.c7;have bY:=B.len;refine G.aR o (Z.bT<|cl s) ?_;rintro v3 aE ⟨rfl,vs,bd,_⟩;obtain⟨af,O,B,n,_⟩:=dZ bd af O B n;refine G.aR o (Z.bT<|cM t) ?_;rintro v4 aF ⟨rfl,ae,bf,_⟩;have bg:=aw.new (aL.mono n.size);have bh:=aw.new (ac.mono n.size);have bj:=ai.new vs.lt;have bl:=U.new n.size;obtain⟨af,O,B,vs,n,_⟩:=d_ bf af O B vs n;refine G.aR o (Z.bt pg) ?_;rintro v6 bP ⟨rfl,E,bm,_⟩;have bF:=ai.new ae.lt;have bG:=U.new n.size;obtain⟨af,O,B,vs,ae,n,_⟩:=f_ bm af O B vs ae n;refine G.O o (bu ae.T gY fe<|cY _)<|G.aC o ES (Kt O (bH.mono I) bN bO bM bI) ?_;rintro v9 bQ ⟨T,aB,aA,ax,R,aC,rfl,k,P,A,bw,al,bK,bL,bq⟩;have aR:=aw.app aw.z (aL.mono n.size) P;have aT:=aw.app aw.z (ac.mono n.size) P;have aV:=ai.app ai.z vs.lt P;have aM:=ai.app ai.z ae.lt P;have aN:=ai.app ai.z E.lt P;have aH:=U.al (U.refl 0 _) P n.size;obtain⟨af,B,vs,ae,E,n,_⟩:=f_ bq af B vs ae E n;have bo:=k.le;have aZ:=(fun b e h=>by have aP:=al b e;omega:aw aC ((aE.size+1)));have a1:=(fun b e h=>by have aP:=al b e;omega:aw aC ((aF.size+1)));rw[<-Rn (cH s.bK) on t.ml]at k;refine G.bl o (S.var ae _ (cM {t with fH:=T,q:={t.q with c4:=aB},dG:=aA,el:=ax}) rfl rfl rfl rfl (lP) fe (cY _) (by rw[cY];exact dF _) ((ea<|(cY _).trans (cY _).symm))) ?_;rintro am ⟨ae,bA⟩;obtain⟨af,B,vs,E,k,A,n,_⟩:=pc bA af bg B bh vs bj E bF.symm k aM.symm A aZ n bl
 refine G.bd o (fun(i:Nat)=>[(2,v),(3,.pointer (some ⟨V.size,0,none⟩)),(4,.pointer (some ⟨aE.size,0,none⟩)),(6,.pointer (some ⟨aF.size,0,none⟩)),(7,.int .i64 (i:Int))])
  (fun(i:Nat) (H:Heap)=>(i<=t.ml.length)/\aS R 70 H ep 66 T.v (lW (cH s.bK) on i t.ml)/\U R am.size R/\W (aq [R]) am H)
  (fun(i:Nat)=>t.ml.length-i) 0 ⟨I,k,U.refl _ _,W.refl _ _⟩ ?_
 rintro i aI ⟨bW,k,ag,L⟩ bR aK;have a6:=ai.app aN E.lt ag;have a7:=U.al aH ag n.size;obtain⟨af,B,vs,ae,E,A,n,_⟩:=pc L af aR B aT vs aV ae aM E aN A bK n aH;have bo:=k.le;have ak:=ag;have bX:=wj (cH s.bK) on i t.ml;refine G.aG o ae.T b0 gn gU o o<|G.O o (M.cast (v2:= .int .i64 (t.ml.length:Int)) (bz k.rd gg)<|di (by rw[wj]))<|G.ip o ?_ ?_<;>intro bT;refine G.O o (bz B KD)<|G.fY (v:=(on.getD i false)) 2 5 26 21 o (fun a_ aa=>?_) (fun a_ aa=>?_) ?_;exact G.pp o (M.cw B i o KD c8 o o) fun bU ba=>G.O o (aY ba.T eW)<|aa 1 o (by rw[List.getD_eq_getElem?_getD,List.getElem?_eq_getElem I]<;>rfl);exact aa 5 o (by rw[List.getD_eq_getElem?_getD,List.getElem?_eq_none I]<;>rfl);refine G.ci o ?_ ?_<;>intro aG;have Q:i<t.ml.length:=by omega
 obtain⟨y,az⟩:∃q,q=t.ml[i]:=⟨_,o⟩;refine G.cJ o (fun K=>an aI K) [11,12,13] o ?_;have C:=an.refl aI;refine N.aK 0 b0 gn C ?_;refine N.t1 1 o (fun K A=>aY ((ae.T.drop 2).aL A) gU) C ?_;refine N.bo 2 o C ?_;refine N.t1 3 o (fun K A=>bu (vs.T.aL A) iA ff<|dw _) C ?_;refine N.aK 4 b0 gn C ?_;refine N.t1 5 o (fun K A=>aY ((ae.T.drop 2).aL A) gU) C ?_;refine N.bo 6 o C ?_;refine N.t1 7 o (fun K A=>M.y1 (k.aL A) i o gg fD o o hd I) C ?_;refine N.t1 8 o (fun K A=>M.fieldAddr ((k.T (j:=i) I).aL A) o dJ o o b7 aO o) C ?_;refine N.t1 9 o (fun K A=>M.cast (v2:=aJ y.n) (aY (((k.T (j:=i) I).drop 0).aL A) cm) (by rw[Cu Q,az])) C ?_;refine N.ba 10 ?_;refine cK Fb (En af.any) ?_;rintro bV bc ⟨rfl,aU⟩;obtain⟨k,A,L,_⟩:=cg aU k A L;have bC:=C.al aU;refine N.cx bC ?_;refine N.ba 11 ?_;refine hH o (M.y1 k i o gg fD o o hd I) (.inl o) ?_;refine N.ba 12 ?_;refine hH o (M.hh (k.T (j:=i) I) o dJ o bE) (.inl o) ?_;refine N.ba 13 ?_;refine hX o (S.CD k i 1 ({y with J:=k7 (cH s.bK) y.n}:b9) (cu<|k7 (cH s.bK) y.n) rfl rfl rfl rfl (iY _) bE (bJ _) I aO (by rw[Cu Q,<-az];exact Ci _)) ?_;rintro bS ⟨k,bt⟩;obtain⟨L,_⟩:=cz bt L (ah.r ak);refine⟨.inl o,?_⟩;refine G.dn aW ?_;have bZ:=(an.refl bc);exact G.O o bB<|G.aQ o<|aK (i+1) _ ⟨I,by rw[Iu Q,<-az];unfold pT;rw[aD aG];exact k,ak,L⟩;have Q:i<t.ml.length:=by omega
 exact G.O o bB<|G.aQ o<|aK (i+1) _ ⟨I,by rw[Rp Q aG];exact k,ak,L⟩;obtain rfl:i=t.ml.length:=by omega
 rw[Ro]at k;refine G.O o (bu ae.T gY fe<|cY _)<|G.bl o (S.var E _ (cM {t with fH:=T,q:={t.q with c4:=aB},dG:=aA,el:=ax}) rfl rfl rfl rfl (lP) fe (cY _) aO ((ea (cY _).symm))) ?_;rintro bb ⟨E,bD⟩;obtain⟨k,A,n,_⟩:=dg bD k a6.symm A a1 n bG;exact G.rc o (lo o o E.T gY fe<|cY _) ⟨T,aB,aA,ax,_,o,(fun _=>⟨k.rd.imp (fun b _ e=>Or.inr e),(A ()).q.imp (fun b _ e=>Or.inl e),(A ()).e.imp (fun b _ e=>Or.inl e),(fun y hy=>((A ()).d y hy).imp (fun b _ e=>Or.inl e))⟩),(bk.e0 (bw.mono I) k.le),(po (fun b e=>by have aP:=al b e;omega) a7),bL,n⟩
def Pm{ul:List eh}{m:b9}(aj:fi m.n=0)(k:m.J=bO)(hw:¬m.w=bO):mF m.n ((ul.map (·.n)).filter (fun x=>decide (x≠m.n)))=if kM (cH ul) m=true then 13 else 0:=by
 rw[GO aj (fun h=>by have:=(iK.1 h).2;simp at this)];unfold kM;rw[fB (show m.J=bO/\m.w≠bO from⟨k,hw⟩),yh,List.any_filter,show(cH ul).map (·.1)=ul.map (·.n)by simp[cH]]
def yK{l:gb}{ml:List b9}{j:Nat}{e:Int}(r:j<ml.length)(n:∀q (h:q<j),∀A:q<ml.length,jF l (ml.take q) ml[q]=0)(he:jF l (ml.take j) ml[j]=e)(ar:e≠0):ix l ml=e:=by
 have k:=Cj (ml:=ml) (l:=l) (pre:=[]) (j:=j) r (fun i h=>by rw[gw];exact n i h I) (by rw[gw,he];exact ar);rw[gw,he]at k;rw[ix,aD (by rw[k];exact ar),k]
def Ie{l:gb}{m:b9}:(fS l m).length<=l.length+1:=by
 unfold fS;split;have:(ey l m.n).length<=l.length:=nD _ _;omega;exact G0 _ _ _
def pX(l:List eh):(cH l).length=l.length:=dK ..
def PN{ml:List b9}{n:av}{j:Nat}(r:k<j)(A:k<ml.length)(h:ml[k].n=n):n∈(ml.take j).map (·.n):=
 dp.2 ⟨ml[k],Hk.2 ⟨k,by omega,o⟩,h⟩
def Cs{ml:List b9}{n:av}{j:Nat}(h:∀q,q<j->∀r:q<ml.length,¬ml[q].n=n):n∉(ml.take j).map (·.n):=by
 intro hm;obtain⟨x,k,e⟩:=dp.1 hm;obtain⟨q,A,rfl⟩:=Hk.1 k;exact h q I I e
def SU{s:cf}{t:b5}{w0:World}(af:b_ V fP 33 s.fJ.v s.bK)(fK:fh (cH s.bK))(dD:s.bK.length<=200)(cG:∀x∈(cH s.bK),x.1.length<=60)(hm:b_ V ep 66 t.fH.v t.ml)(dA:t.ml.length<=65535)(bA:∀m∈t.ml,m.n.length<=140737488355328):
 a8 prog w0 84 #[hV s,hG t] V (fun r O=>r= .int .i64 (ix (cH s.bK) t.ml)/\an V O):=by
 refine G.bN func84 o fun n=>?_;have af:=af.cD;have bY:=af.c7;have hm:=hm.cD;have bZ:=hm.c7;refine G.aR o (Z.bT<|cl s) ?_;rintro v2 O ⟨rfl,vs,cy,_⟩;obtain⟨af,hm,n,_⟩:=cg cy af hm n;refine G.aR o Z.bv ?_;rintro v3 aX ⟨rfl,ae,cA,_⟩;obtain⟨af,hm,vs,n,_⟩:=dZ cA af hm vs n;have ae:Var 46 aX O.size (cM t):=ae
 refine G.bd o (fun(j:Nat)=>[(2,.pointer (some ⟨V.size,0,none⟩)),(3,.pointer (some ⟨O.size,0,none⟩)),(5,.int .i64 (j:Int))])
  (fun(j:Nat) (H:Heap)=>(j<=t.ml.length)/\(∀q (h:q<j),∀aq:q<t.ml.length,jF (cH s.bK) (t.ml.take q) t.ml[q]=0)/\an aX H)
  (fun(j:Nat)=>t.ml.length-j) 0 ⟨I,(fun q h=>absurd h (nB _)),W.refl _ _⟩ ?_
 rintro j bg ⟨dy,X,C⟩ cO cc;obtain⟨af,hm,vs,ae,n,_⟩:=d_ C af hm vs ae n;refine G.aG o ae.T b0 gn gU o o<|G.O o (bz hm gg)<|G.ip o ?_ ?_<;>intro c1;refine G.aG o ae.T b0 gn gU o o ?_;have F:j<t.ml.length:=by omega
 obtain⟨y,A⟩:∃q,q=t.ml[j]:=⟨_,o⟩;have az:y∈t.ml:=by rw[A];exact cS F
 have dE:=bA y az;refine G.pp o (M.cw hm j o gg fD o o) fun c3 bR=>G.O o (M.cast (v2:= .agg (ep y).toArray) (bu bR.T lI fD<|fF _) (by rw[A]))<|G.aR o (Z.bt p9) ?_;rintro v6 cN ⟨rfl,B,cd,_⟩;have ch:=aw.new (bY.mono n.size);have cj:=aw.new (bZ.mono n.size);have bS:=ai.new vs.lt;have bT:=ai.new ae.lt;have a0:=U.new n.size;have bq:=U.new C.size;obtain⟨af,hm,vs,ae,n,C,_⟩:=f_ cd af hm vs ae n C;refine G.bl o (S.var B _ (ep y) o o o o (l9 y) fD (fF _) aO ((ea (fF _).symm))) ?_;rintro c4 ⟨B,b1⟩;obtain⟨af,hm,vs,ae,n,C,_⟩:=kG b1 af ch hm cj vs bS ae bT n a0 C bq;refine G.aG o B.T dJ b7 cm o o<|G.aC o xy (za y.n I) ?_;rintro de cp ⟨rfl,a5⟩;obtain⟨af,hm,vs,ae,B,n,C,_⟩:=ja a5 af hm vs ae B n C;refine G.ip o ?_ ?_<;>intro aU;exact G.rt o ⟨by rw[yK (e:=7) F X (by rw[<-A];unfold jF;rw[aD aU]) aO],n⟩
 refine G.bd o (fun(k:Nat)=>[(2,.pointer (some ⟨V.size,0,none⟩)),(3,.pointer (some ⟨O.size,0,none⟩)),(5,.int .i64 (j:Int)),(6,.pointer (some ⟨bg.size,0,none⟩)),(7,.int .i64 (k:Int))])
  (fun(k:Nat) (H:Heap)=>(k<=j)/\(∀q,q<k->∀aq:q<t.ml.length,¬t.ml[q].n=y.n)/\an cp H)
  (fun(k:Nat)=>j-k) 0 ⟨I,(fun q h=>absurd h (nB _)),W.refl _ _⟩ ?_
 rintro k bj ⟨cE,aA,bd⟩ df bb;obtain⟨af,hm,vs,ae,B,n,C,_⟩:=ja bd af hm vs ae B n C;refine G.ip o ?_ ?_<;>intro c8;refine G.rd o o aW<|G.aG o ae.T b0 gn gU o o ?_;have aG:k<t.ml.length:=by omega
 obtain⟨z,P⟩:∃q,q=t.ml[k]:=⟨_,o⟩;refine G.pp o (M.cw hm k o gg fD o o) fun c9 bD=>G.aK o dJ b7 o<|G.O o (M.cast (v2:=aJ z.n) (aY (bD.T.drop 0) cm) (by rw[P]))<|G.aG o B.T dJ b7 cm o o<|G.ae 0 o (M.ox o o o)<|G.ip o (fun aR=>?_) fun aR=>?_;exact G.rt o ⟨by rw[yK (e:=18) F X (by rw[<-A];unfold jF;rw[au aU,aD (PN (k:=k) I aG (by rw[<-P];exact aR))]) aO],n⟩;exact G.O o bB<|G.aQ o<|bb (k+1) _ ⟨I,(fun q h aq=>by rcases sA.1 h with L|rfl;exact aA q L aq;rw[<-P];exact aR),bd⟩;have cF:k=j:=by omega
 rw[cF]at aA;refine G.cJ o (fun al=>an bj al) [] o ?_;have ag:=an.refl bj;refine N.t1 0 o (fun al aa=>bu (vs.T.aL aa) iA ff<|dw _) ag ?_;refine N.aK 1 dJ b7 ag ?_;refine N.t1 2 o (fun al aa=>aY (B.T.aL aa) cm) ag ?_;refine N.aK 4 dJ bE ag ?_;refine N.t1 5 o (fun al aa=>M.cast (v2:=b4 y.J) (bu (((B.T.drop 1).aL aa).take 32) dj bE (by rw[jR];exact bJ _))<|dk<|jR _) ag ?_;refine N.ba 3 ?_;refine cK Fb (En af.any) ?_;rintro bh cx ⟨rfl,aZ⟩;obtain⟨B,n,C,_⟩:=cg aZ B n C;have bH:=ag.al aZ;refine N.cx bH ?_;have ba:=an.refl cx;refine N.t1 6 o (fun al aa=>M.qf o Tryz.eqGuardType40 (fun w=>jH 9998 underlying40 underlying5 db e8 ((k7 (cH s.bK) y.n).2) y.J.2 w) o o) ba ?_;refine G.dn aW ?_;have dC:=ba;refine G.ip o ?_ ?_<;>intro aM;exact G.rt o ⟨by rw[yK (e:=21) F X (by rw[<-A];unfold jF;rw[au aU,au (Cs aA),aD (fun e=>aM (bn Subtype.val e))]) aO],n⟩;refine G.aK o dJ bE o<|G.O o (M.cast (v2:=b4 y.w) (bu ((B.T.drop 33).take 32) dj bE (by rw[hA];exact bJ _))<|dk<|hA _)<|G.aK o dJ bE o<|G.O o (M.cast (v2:=b4 y.J) (bu ((B.T.drop 1).take 32) dj bE (by rw[jR];exact bJ _))<|dk<|jR _)<|G.ae 0 o (M.nS o Tryz.eqGuardType40 (fun w=>jH 9998 underlying40 underlying5 db e8 y.w.2 y.J.2 w) o o)<|G.ip o (fun aT=>?_) fun aT=>?_;exact G.rt o ⟨by rw[yK (e:=26) F X (by rw[<-A];unfold jF;rw[au aU,au (Cs aA),au (fun e=>e (ij (sB.1 aM))),aD (ij aT)]) aO],n⟩;exact G.O o bB<|G.aQ o<|cc (j+1) _ ⟨I,(fun q h aq=>by rcases sn q j with L|L;exact X q L aq;obtain rfl:q=j:=I;rw[<-A];unfold jF;rw[au aU,au (Cs aA),au (fun e=>e<|ij<|sB.1 aM),au (fun e=>aT<|bn Subtype.val e)]),C⟩;obtain rfl:j=t.ml.length:=by omega
 have aE:ll (cH s.bK) [] t.ml=0:=Ck (fun i bt=>by rw[gw];exact X i bt bt);refine G.aG o vs.T dN kE m1 o o ?_
 refine G.bd o (fun(aV:Nat×ay×(List eh)×(Nat->Prop))=>match aV with|(i2,T,ul,ak)=>[(3,.pointer (some ⟨O.size,0,none⟩)),(8,T.v),(9,.int .i64 (i2:Int))])
  (fun(i2,T,ul,ak) (H:Heap)=>(i2<=t.ml.length)/\(∀u:Unit,Rd ak H fP 33 T.v ul)/\bk ak H.size/\cH ul=(t.ml.take i2).foldl fS (cH s.bK)/\ul.length<=200+i2/\an bg H)
  (fun(i2,T,ul,ak)=>t.ml.length-i2) (0,s.fJ,s.bK,fun b=>True/\b<V.size) ⟨I,(fun _=>af),(fun b e=>jT e.2 n.size),o,I,W.refl _ _⟩ ?_
 rintro⟨i2,T,ul,ak⟩ cq ⟨dv,hu,bI,Q,dz,aF⟩ eY b9;obtain⟨hm,ae,n,cs⟩:=cg aF hm ae n;refine G.aG o ae.T b0 gn gU o o<|G.O o (bz hm gg)<|G.ip o ?_ ?_<;>intro c_;refine G.aG o ae.T b0 gn gU o o ?_;have F:i2<t.ml.length:=by omega
 obtain⟨y,A⟩:∃q,q=t.ml[i2]:=⟨_,o⟩;refine G.pp o (M.cw hm i2 o gg fD o o) fun da ca=>G.O o (M.cast (v2:= .agg (ep y).toArray) (bu ca.T lI fD<|fF _) (by rw[A]))<|G.aC o Fp (H9 ul y w0 (hu ()).any I) ?_;rintro hJ dh ⟨cr,ct,rfl,aP,dc,cb⟩;obtain⟨aF,_⟩:=cv cb aF;have cP:=aP.le;have bC:cH (o3 y ul)=(t.ml.take (i2+1)).foldl fS (cH s.bK):=by rw[oP F,<-A,<-Q];exact Ib ul (by rw[Q];exact oS fK)
 exact G.O o bB<|G.aQ o<|b9 (i2+1,cr,o3 y ul,fun b=>b+1=ct) _ ⟨I,(fun _=>aP.rd),(bk.of aP.le),bC,(by rw[<-pX,bC,oP F];refine ev (Ie) ?_;rw[<-Q,pX];omega),aF⟩;obtain rfl:i2=t.ml.length:=by omega
 rw[eQ]at Q;refine G.O o (bz (hu ()) kZ)<|G.ip o ?_ ?_<;>intro cQ;exact G.rt o ⟨by rw[ix,au (by rw[aE];decide),aD (by rw[<-Q,pX];omega)],n⟩;have bm:¬200<(t.ml.foldl fS (cH s.bK)).length:=by rw[<-Q,pX];omega
 refine G.bd o (fun(i3:Nat)=>[(3,.pointer (some ⟨O.size,0,none⟩)),(8,T.v),(10,.int .i64 (i3:Int))])
  (fun(i3:Nat) (H:Heap)=>(i3<=t.ml.length)/\(∀m∈t.ml.take i3,kM (t.ml.foldl fS (cH s.bK)) m=false)/\an cq H)
  (fun(i3:Nat)=>t.ml.length-i3) 0 ⟨I,(fun m h=>by simp at h),W.refl _ _⟩ ?_
 rintro i3 bl ⟨dx,L,E⟩ iI a1;obtain⟨hm,ae,hu,n,_⟩:=dZ E hm ae hu n;refine G.aG o ae.T b0 gn gU o o<|G.O o (bz hm gg)<|G.ip o ?_ ?_<;>intro cU;refine G.aG o ae.T b0 gn gU o o ?_;have F:i3<t.ml.length:=by omega
 obtain⟨y,A⟩:∃q,q=t.ml[i3]:=⟨_,o⟩;have az:y∈t.ml:=by rw[A];exact cS F
 refine G.pp o (M.cw hm i3 o gg fD o o) fun cV bX=>G.O o (M.cast (v2:= .agg (ep y).toArray) (bu bX.T lI fD<|fF _) (by rw[A]))<|G.aR o (Z.bt p9) ?_;rintro di dr ⟨rfl,R,bM,_⟩;have b2:=(aw.new (bI.mono I):aw _ (bl.size+1));have b6:=U.new n.size;have b8:=U.new E.size;obtain⟨hu,n,E,_⟩:=cg bM hu n E;refine G.bl o (S.var R _ (ep y) o o o o (l9 y) fD (fF _) aO ((ea (fF _).symm))) ?_;rintro bc ⟨R,bV⟩;obtain⟨hu,n,E,_⟩:=dg bV hu b2 n b6 E b8;refine G.aK o dJ bE o<|G.O o (M.cast (v2:=b4 y.J) (bu ((R.T.drop 1).take 32) dj bE (by rw[jR];exact bJ _))<|dk<|jR _)<|G.O o (M.build (v:=b4 bO) o o eN)<|G.ae 0 o (M.cast (v2:= .bool (decide (¬y.J=bO))) (M.qf o Tryz.eqGuardType40 (fun w=>jH 9998 underlying40 underlying5 db e8 y.J.2 bO.2 w) o o) ((bn Value.bool<|decide_eq_decide.2 ⟨fun h e=>h (bn Subtype.val e),fun h e=>h (ij e)⟩)))<|G.fY (v:=(decide (¬(y.J=bO/\y.w≠bO)))) 1 5 96 91 o (fun aL aK=>?_) (fun aL aK=>?_) ?_;exact aK 5 o (by simp[aL]);exact G.aK o dJ bE o<|G.O o (M.cast (v2:=b4 y.w) (bu ((R.T.drop 33).take 32) dj bE (by rw[hA];exact bJ _))<|dk<|hA _)<|G.O o (M.build (v:=b4 bO) o o eN)<|G.ae 0 o (M.cast (v2:= .bool (decide (y.w=bO))) (M.nS o Tryz.eqGuardType40 (fun w=>jH 9998 underlying40 underlying5 db e8 y.w.2 bO.2 w) o o) ((bn Value.bool<|decide_eq_decide.2 ⟨fun e=>ij e,fun e=>bn Subtype.val e⟩)))<|aK 1 o (by simp[aL]);refine G.ip o ?_ ?_<;>intro bf;have aI:=bf;exact G.O o bB<|G.aQ o<|a1 (i3+1) _ ⟨I,r4 L F (by rw[<-A];unfold kM;rw[fG aI]<;>rfl),E⟩;have aI:y.J=bO/\¬y.w=bO:=sB.1 bf
 refine G.bd o (fun(aV:Nat×ay×Nat×(List av))=>match aV with|(k,so,ah,out)=>[(3,.pointer (some ⟨O.size,0,none⟩)),(8,T.v),(10,.int .i64 (i3:Int)),(11,.pointer (some ⟨bl.size,0,none⟩)),(12,so.v),(13,.int .i64 (k:Int))])
  (fun(k,so,ah,out) (H:Heap)=>(k<=ul.length)/\aS ah 9 H ha 1 so.v out/\out=((ul.take k).map (·.n)).filter (fun x=>decide (x≠y.n))/\out.length<=k/\U 0 bc.size ah/\an bc H)
  (fun(k,so,ah,out)=>ul.length-k) (0,dq,0,[]) ⟨I,aS.nil ts tt,o,a_,U.refl _ _,W.refl _ _⟩ ?_
 rintro⟨k,so,ah,out⟩ dt ⟨cE,K,aB,dB,bW,ac⟩ du a6;obtain⟨hu,R,n,E,_⟩:=dZ ac hu R n E;have aH:=K.le;have am:=bW;refine G.O o (bz (hu ()) kZ)<|G.ip o ?_ ?_<;>intro gG;refine G.rd o o aW ?_;have aG:k<ul.length:=by omega
 obtain⟨z,P⟩:∃q,q=ul[k]:=⟨_,o⟩;refine G.pp o (M.cw (hu ()) k o kZ mP o o) fun bw bK=>G.aK o rT b7 o<|G.O o (M.cast (v2:=aJ z.n) (aY (bK.T.drop 0) cm) (by rw[P]))<|G.aG o R.T dJ b7 cm o o<|G.ae 0 o kJ<|G.ip o (fun aQ=>?_) fun aQ=>?_;refine G.pp o (M.cw (hu ()) k o kZ mP o o) fun fO bL=>G.aK o rT b7 o<|G.O o (M.cast (v2:=aJ z.n) (aY (bL.T.drop 0) cm) (by rw[P]))<|G.aR o (Z.cV<|c5 _ ([z.n]) x5 ts tt) ?_;rintro cW cX ⟨cL,bN,_⟩;obtain⟨K,ac,_⟩:=bG bN K ac;refine G.aR o (dd K cL.rd x5 bU bU) ?_;rintro a7 cY ⟨cu,K,bP,aN⟩;have aN:=aN.md;have cw:=U.al am bP ac.size;obtain⟨ac,_⟩:=cz aN ac am;have aH:=K.le;obtain⟨aC,rfl⟩:∃s:ay,a7=s.v:=⟨ck a7,K.a6.symm⟩;exact G.O o bB<|G.aQ o<|a6 (k+1,aC,cu,out++[z.n]) _ ⟨I,K,by rw[fc aG,hc,vQ,<-aB];simp[<-P,aQ],bU,cw,ac⟩;exact G.O o bB<|G.aQ o<|a6 (k+1,so,ah,out) _ ⟨I,K,by rw[fc aG,hc,vQ,<-aB];simp[<-P,sB.1 aQ],I,am,ac⟩;obtain rfl:k=ul.length:=by omega
 rw[eQ]at aB;have bo:mF y.n out=if kM (t.ml.foldl fS (cH s.bK)) y=true then 13 else 0:=by rw[aB,<-Q];exact Pm (ua aE y az) aI.1 aI.2
 have cI:∀x∈out,x.length<=140737488355328:=fun x bF=>by
  rw[aB]at bF;obtain⟨z9,cs,cC⟩:=dp.1 (iK.1 bF).1;have cD:=(KH cG aE) (z9.n,z9.i) (by rw[<-Q];exact dp.2 ⟨z9,cs,o⟩);rw[<-cC];simp only at cD;omega
 refine G.aG o R.T dJ b7 cm o o<|G.aC o MT (SK K.rd.any (bA y az) cI) ?_;rintro cZ c0 ⟨rfl,bQ⟩;obtain⟨n,E,_⟩:=bG bQ n E;refine G.ip o ?_ ?_<;>intro ap;exact G.rt o ⟨by have ax:kM (t.ml.foldl fS<|cH s.bK) y=true:=(by cases ax:kM (t.ml.foldl fS (cH s.bK)) y with|true=>rfl|false=>exact absurd (by rw[bo,ax]<;>rfl) ap);rw[ix,au (by rw[aE];decide),au bm,GM az ax],n⟩;exact G.O o bB<|G.aQ o<|a1 (i3+1) _ ⟨I,r4 L F (by rw[<-A];cases ax:kM (t.ml.foldl fS (cH s.bK)) y with|false=>rfl|true=>exact absurd (by rw[bo,ax];decide) ap),E⟩;exact G.rt o ⟨by obtain rfl:i3=t.ml.length:=I;rw[eQ]at L;rw[ix,au (by rw[aE];decide),au bm,GN L],n⟩
def N3{s:eS}{t:b5}(h:hF t=1):fx s t=1:=by unfold fx;rw[aD (by rw[h];decide),h]
def N4{s:eS}{t:b5}(n:hF t=0)(h:iv t≠0):fx s t=7:=by
 have e:iv t=7:=by
  unfold iv at h⊢;split;rename_i k;rw[aD k]at h;rcases xE t.ab with e|e;exact absurd e h;exact e;rename_i k;rw[au k]at h;exact absurd o h
 unfold fx;rw[au (by rw[n];decide),aD h,e]
def N5{s:eS}{t:b5}(k:hF t=0)(n:iv t=0)(h:ix s.cC t.ml≠0):fx s t=ix s.cC t.ml:=by unfold fx;rw[au (by rw[k];decide),au (by rw[n];decide),aD h]
def N6{s:eS}{t:b5}(k:hF t=0)(n:iv t=0)(r:ix s.cC t.ml=0)(h:jc t≠0):fx s t=jc t:=by unfold fx;rw[au (by rw[k];decide),au (by rw[n];decide),au (by rw[r];decide),aD h]
def xC{s:eS}{t:b5}(k:hF t=0)(n:iv t=0)(r:ix s.cC t.ml=0)(A:jc t=0):fx s t=mi s.jC t.el:=by unfold fx;rw[au (by rw[k];decide),au (by rw[n];decide),au (by rw[r];decide),au (by rw[A];decide)]
def HQ{el:List b1}(h:lU el=0):∀x∈el,¬x.k=bO/\x.d.length<=65536:=fun x r=>by
 have k:=v8 h x r;unfold jj at k;split at k;cases k;rename_i n;split at k;cases k;exact⟨n,by omega⟩
def xJ(l:List b1):(dV l).length=l.length:=dK ..
def HS{l:nP}{el:List b1}{i:Nat}{e:Int}(r:i<el.length)(n:∀x∈el.take i,jj x=0)(he:jj el[i]=e)(ar:e≠0):mi l el=e:=by
 have k:=B2 r n (by rw[he];exact ar);rw[mi,aD (by rw[k,he];exact ar),k,he]
def Je{s:cf}{t:b5}{aX:Nat->Prop}{w0:World}(Y:fV F V s)(aG:bk F V.size)(n:gi aX V t)(ba:bk aX V.size)(ok:s.m.Ok)(B:mz t):
 a8 prog w0 27 #[hV s,hG t] V (fun r K=>r= .int .i64 (fx s.m t)/\an V K):=by
 refine G.bN func27 o fun k=>?_;have ca:=n.m.len;have b8:=n.e.len;have eE:=B.ab;have z2:=B.br;have bl:s.bK.length<=200:=by have:=ok.jl;rwa[show s.m.cC=cH s.bK from o,pX]at this
 have cb:s.el.length<=500:=by have:=ok.mm;rwa[show s.m.jC=dV s.el from o,xJ]at this
 refine G.aR o (Z.bT<|cl s) ?_;rintro v2 K ⟨rfl,vs,bd,_⟩;obtain⟨Y,n,k,_⟩:=cg bd Y n k;refine G.aR o (Z.bT<|cM t) ?_;rintro v3 U ⟨rfl,ae,bf,_⟩;obtain⟨Y,n,vs,k,_⟩:=dZ bf Y n vs k;refine G.aG o ae.T b0 c8 eW o o<|G.O o e7<|G.m9 (v:=(decide (t.bP=false/\t.Y=false))) 1 4 16 12 o (fun aN X=>?_) (fun aN X=>?_) ?_;exact G.aG o ae.T b0 c8 eW o o<|G.O o e7<|X 1 o (by cases ay:t.bP<;>cases aI:t.Y<;>simp_all);exact X 4 o (by cases ay:t.bP<;>simp_all);refine G.fY (v:=(decide ((t.bP=false/\t.Y=false)/\(t.ml.length:Int)=0))) 1 5 22 17 o (fun aq aa=>?_) (fun aq aa=>?_) ?_;exact G.aG o ae.T b0 gn gU o o<|G.O o (bz n.m gg)<|aa 2 o<|decide_eq_decide.2 ⟨fun h=>⟨aq,h⟩,fun h=>h.2⟩;exact aa 5 o ((fG fun h=>aq h.1).symm);refine G.fY (v:=(decide (((t.bP=false/\t.Y=false)/\(t.ml.length:Int)=0)/\(t.el.length:Int)=0))) 1 5 28 23 o (fun av ag=>?_) (fun av ag=>?_) ?_;exact G.a1 o ae.T.iT b0 fo gE o<|G.O o (bz n.e er)<|ag 2 o<|decide_eq_decide.2 ⟨fun h=>⟨av,h⟩,fun h=>h.2⟩;exact ag 5 o ((fG fun h=>av h.1).symm);refine G.ip o ?_ ?_<;>intro ax;exact G.rt o ⟨(bn (Value.int .i64)<|N3 (by unfold hF;rw[aD ⟨ax.1.1.1,ax.1.1.2,lT I,lT I⟩])).symm,k⟩;have A:hF t=0:=by
  unfold hF;rw[au];rintro⟨ay,aI,bg,bh⟩;exact ax ⟨⟨⟨ay,aI⟩,by rw[bg]<;>rfl⟩,by rw[bh]<;>rfl⟩
 refine G.bw 0 o (fun(_:Unit)=>[(2,.pointer (some ⟨V.size,0,none⟩)),(3,.pointer (some ⟨K.size,0,none⟩))])
  (fun(_:Unit) (H:Heap)=>(iv t=0)/\an U H) (fun _ bD=>?_) ?_
 have R:an U U:=W.refl _ _;refine G.aG o ae.T b0 c8 eW o o<|G.m9 (v:=(decide (t.bP=true/\¬t.ab=[]))) 1 4 35 31 o (fun aH ah=>?_) (fun aH ah=>?_) ?_;exact G.aG o ae.T b0 b7 cm o o<|G.ae 0 o kJ<|ah 1 o (by simp[aH]);exact ah 4 o (by simp[aH]);refine G.sp 1 36 o ?_ ?_<;>intro ak;refine G.aG o ae.T b0 b7 cm o o<|G.aC o xy (za t.ab I) ?_;rintro bM bN ⟨rfl,aP⟩;obtain⟨k,R,_⟩:=bG aP k R;refine G.ip o ?_ ?_<;>intro aA;exact G.rt o ⟨(bn (Value.int .i64)<|N4 A (by unfold iv;rw[aD ak];exact aA)).symm,k⟩;exact G.aQ o<|bD () _ ⟨by unfold iv;rw[aD ak];exact sB.1 aA,R⟩;exact G.dP o<|G.aQ o<|bD () _ ⟨by unfold iv;rw[au ak],R⟩;intro _ bo aZ;obtain⟨E,aV⟩:=aZ;obtain⟨Y,n,vs,ae,k,_⟩:=d_ aV Y n vs ae k;refine G.O o (bu vs.T iA ff<|dw _)<|G.O o (bu ae.T gY fe<|cY _)<|G.aC o NK (SU Y.r.any ok.cJ bl ok.bK n.m.any B.ml B.mm) ?_;rintro bP al ⟨rfl,aQ⟩;obtain⟨Y,n,vs,ae,k,_⟩:=d_ aQ Y n vs ae k;refine G.ip o ?_ ?_<;>intro aB;exact G.rt o ⟨(bn (Value.int .i64)<|N5 (s:=s.m) A E aB).symm,k⟩;have N:ix (cH s.bK) t.ml=0:=sB.1 aB
 refine G.bw 0 o (fun(_:Unit)=>[(2,.pointer (some ⟨V.size,0,none⟩)),(3,.pointer (some ⟨K.size,0,none⟩))])
  (fun(_:Unit) (H:Heap)=>(jc t=0)/\an al H) (fun _ am=>?_) ?_
 have Q:an al al:=W.refl _ _;refine G.aG o ae.T b0 c8 eW o o<|G.m9 (v:=(decide (t.Y=true/\¬t.q.k=0))) 1 5 55 50 o (fun aw ai=>?_) (fun aw ai=>?_) ?_;exact G.aK o b0 eK o<|G.a1 o ae.T.uE cd bV cQ o<|ai 2 o (by simp[aw]);exact ai 5 o (by simp[aw]);refine G.ip o ?_ ?_<;>intro ap;refine G.aK o b0 eK o<|G.O o (M.cast (v2:=jJ t.q) (bu ((ae.T.drop 4).take 70) l6 eK (by rw[m6];exact e_ _))<|dk<|m6 t)<|G.aC o NL (OR n.q.any I) ?_;rintro bQ bR ⟨rfl,aR⟩;obtain⟨k,Q,_⟩:=bG aR k Q;refine G.ip o ?_ ?_<;>intro aC;exact G.rt o ⟨(bn (Value.int .i64)<|(N6 (s:=s.m) A E N (by unfold jc;rw[aD ap];exact aC)).trans (by unfold jc;rw[aD ap])).symm,k⟩;exact G.aQ o<|am () _ ⟨by unfold jc;rw[aD ap];exact sB.1 aC,Q⟩;exact G.aQ o<|am () _ ⟨by unfold jc;rw[au ap],Q⟩;intro _ a6 a1;obtain⟨T,ac⟩:=a1;obtain⟨Y,n,vs,ae,k,_⟩:=d_ ac Y n vs ae k
 refine G.bd o (fun(i:Nat)=>[(2,.pointer (some ⟨V.size,0,none⟩)),(3,.pointer (some ⟨K.size,0,none⟩)),(6,.int .i64 (i:Int))])
  (fun(i:Nat) (H:Heap)=>(i<=t.el.length)/\(∀x∈t.el.take i,jj x=0)/\an a6 H)
  (fun(i:Nat)=>t.el.length-i) 0 ⟨I,(fun x h=>by simp at h),W.refl _ _⟩ ?_
 rintro i bS ⟨b9,L,aE⟩ bT aT;obtain⟨Y,n,vs,ae,k,_⟩:=d_ aE Y n vs ae k;refine G.a1 o ae.T.iT b0 fo gE o<|G.O o (bz n.e er)<|G.ip o ?_ ?_<;>intro bA;refine G.a1 o ae.T.iT b0 fo gE o ?_;have S:i<t.el.length:=by omega
 obtain⟨y,C⟩:∃q,q=t.el[i]:=⟨_,o⟩;have bj:y∈t.el:=by rw[C];exact cS S
 refine G.pp o (M.cw n.e i o er dM o o) fun bC aM=>G.aK o hN bE o<|G.O o (M.cast (v2:=b4 y.k) (bu ((aM.T.drop 0).take 32) dj bE (by rw[hU];exact bJ _)) ((by rw[C];exact dk (hU _))))<|G.O o (M.build (v:=b4 bO) o o eN)<|G.ae 0 o (M.cast (v2:= .bool (decide (y.k=bO))) (M.nS o Tryz.eqGuardType40 (fun w=>jH 9998 underlying40 underlying5 db e8 y.k.2 bO.2 w) o o) ((bn Value.bool<|decide_eq_decide.2 ⟨fun e=>ij e,fun e=>bn Subtype.val e⟩)))<|G.ip o (fun P=>?_) fun P=>?_;exact G.rt o ⟨(bn (Value.int .i64)<|(xC (s:=s.m) A E N T).trans (HS S L (by rw[<-C];unfold jj;rw[aD P]) aO)).symm,k⟩;refine G.a1 o ae.T.iT b0 fo gE o<|G.pp o (M.cw n.e i o er dM o o) fun bF aU=>G.aK o hN cZ o<|G.O o (M.cast (v2:=y.v.v) (aY aU.T.og eI) (by rw[C]))<|G.O o (bz (n.d y bj) c_)<|G.ip o (fun a7=>?_) fun a7=>?_;exact G.rt o ⟨(bn (Value.int .i64)<|(xC (s:=s.m) A E N T).trans (HS S L (by rw[<-C];unfold jj;rw[au P,aD I]) aO)).symm,k⟩;exact G.O o bB<|G.aQ o<|aT (i+1) _ ⟨I,r4 L S (by rw[<-C];unfold jj;rw[au P,au I]),aE⟩;obtain rfl:i=t.el.length:=by omega
 rw[eQ]at L;have az:lU t.el=0:=B3 L;have aL:=HQ az;refine G.a1 o vs.T.mR dN fo gE o<|G.a1 o ae.T.iT b0 fo gE o<|G.aC o Fo (Jw Y.e (aG.mono k.size) n.e.any Y.d (aG.mono k.size) (fun y hy=>(n.d y hy).any) I (by have:=B.el;omega) (fun x O=>by have:=(aL x O).2;omega) fun x O=>(aL x O).1) ?_;rintro bU bW ⟨bX,cc,bY,rfl,bm,bq,bH,bt,bI,aK,be⟩;obtain⟨n,ae,k,_⟩:=cg be n ae k;refine G.O o (bz (bm ()) er)<|G.ip o ?_ ?_<;>intro bK;exact G.rt o ⟨(bn (Value.int .i64)<|(xC (s:=s.m) A E N T).trans (by rw[mi,au (by rw[az];decide),aD (by rw[show s.m.jC=dV s.el from o,<-aK,xJ];omega)])).symm,k⟩;have aJ:fx s.m t=0:=(xC (s:=s.m) A E N T).trans (by rw[mi,au (by rw[az];decide),au (by rw[show s.m.jC=dV s.el from o,<-aK,xJ];omega)]);have O:=xL B aJ;have b_:=B.pP;refine G.O o (bu ae.T gY fe<|cY _)<|G.aC o Fe (Gc n (ba.mono k.size) O ⟨eE,z2⟩) ?_;rintro bZ b1 ⟨b2,b6,rfl,aF,bL,bc⟩;obtain⟨k,_⟩:=cv bc k;have bw:=aF.le;exact G.ae 6 o ((M.neq o o o).hp a_)<|G.O o (bz aF.rd c_)<|G.ae 0 o ((jY).hp I)<|G.dP o<|G.rt o ⟨by rw[aJ],k⟩
def aw.nG{aX:Nat->Prop}{h:Nat}(x:∀b,aX b->F b\/h<=b)(d:aw F k)(r:k<=h):aw aX k:=fun b e n=>(x b e).elim (fun e=>d b e n) (fun e=>by omega)
def HH(l:List ir):(dL l).length=l.length:=dK ..
def Jc{s:cf}{t:b5}{bA:Nat->Prop}{w0:World}(Y:fV F V s)(av:bk F V.size)(A:gi bA V t)(cC:bk bA V.size)(ok:s.m.Ok)(aj:fx s.m t=0)(bl:mz t):
 a8 prog w0 28 #[hV s,hG t] V (fun r az=>∃bt:cf,∃a6:Nat->Prop,r=hV bt/\(∀u:Unit,fV a6 az bt)/\bk a6 az.size/\(∀b,a6 b->F b\/V.size<=b)/\bt.m=s.m.ap t/\an V az):=by
 refine G.bN func28 o fun n=>?_;have dO:=bl.bF;have dP:=bl.ml;have dQ:=bl.el;have bN:=HQ (xB aj).jC;have dJ:s.bK.length<=200:=by have:=ok.jl;rwa[show s.m.cC=cH s.bK from o,pX]at this
 have dM:s.el.length<=500:=by have:=ok.mm;rwa[show s.m.jC=dV s.el from o,xJ]at this
 have dF:s.cT.length<=200:=by have aZ:=bn List.length ok.dh;rw[dK,dK,show s.m.cC=cH s.bK from o,show s.m.eT=dL s.cT from o,pX,HH]at aZ;omega
 refine G.aR o (Z.bT<|cl s) ?_;rintro v2 az ⟨rfl,vs,cv,_⟩;obtain⟨Y,A,n,_⟩:=cg cv Y A n;refine G.aR o (Z.bT<|cM t) ?_;rintro v3 aA ⟨rfl,ae,cw,_⟩;obtain⟨Y,A,vs,n,_⟩:=dZ cw Y A vs n;refine G.aR o (Z.bt qY) ?_;rintro v4 E ⟨rfl,B,cx,_⟩;have aI:=aw.new (av.mono n.size);have a9:=U.new n.size;obtain⟨Y,A,vs,ae,n,_⟩:=d_ cx Y A vs ae n;refine G.O o (bu vs.T iA ff<|dw _)<|G.aR o (Z.bt qY) ?_;rintro v5 cX ⟨rfl,k,cA,_⟩;have X:=aw.new (av.mono n.size);have aE:=aw.new (cC.mono n.size);have aF:=ai.new ae.lt;have aG:=ai.new B.lt;have aH:=U.new n.size;obtain⟨Y,A,ae,B,n,_⟩:=d_ cA Y A ae B n;refine G.bl o (S.var k _ (cl s) o o o o (nx) ff (dw _) aO ((ea (dw _).symm))) ?_;rintro aX ⟨k,b4⟩;obtain⟨Y,A,ae,B,n,_⟩:=fT b4 Y X A aE ae aF B aG n aH
 refine G.bw 0 o (fun(K:(List UInt8))=>[(3,.pointer (some ⟨az.size,0,none⟩)),(4,.pointer (some ⟨aA.size,0,none⟩)),(5,.pointer (some ⟨E.size,0,none⟩))])
  (fun(K:(List UInt8)) (H:Heap)=>(Var 59 H E.size (cl {s with ab:=K}))/\(K=if t.bP=true then t.ab else s.ab)/\W (aq [(E.size+1)]) aX H) (fun _ bG=>?_) ?_
 have aY:W (aq [(E.size+1)]) aX aX:=W.refl _ _;refine G.aG o ae.T b0 c8 eW o o<|G.ci o ?_ ?_<;>intro bM;refine G.aG o ae.T b0 b7 cm o o<|G.aK o dN b7 o<|G.bl o (gu k 0 (cl {s with ab:=t.ab}) b7 (by rw[dw];omega) ((Ka))) ?_;rintro di ⟨k,b6⟩;obtain⟨aY,_⟩:=cz b6 aY (ah.r (U.refl (E.size+1) aX.size));exact G.aQ o<|bG t.ab _ ⟨k,by rw[aD bM],aY⟩;exact G.aQ o<|bG s.ab _ ⟨k,by rw[au (by simp[bM])],aY⟩;intro K bF bQ;obtain⟨k,cK,cb⟩:=bQ;obtain⟨Y,A,ae,B,n,_⟩:=fT cb Y X A aE ae aF B aG n aH
 refine G.bd o (fun(bw:Nat×ay×(List eh)×(Nat->Prop)×ay×(List ir)×(Nat->Prop))=>match bw with|(i,Q,ul,al,P,C,R)=>[(3,.pointer (some ⟨az.size,0,none⟩)),(4,.pointer (some ⟨aA.size,0,none⟩)),(5,.pointer (some ⟨E.size,0,none⟩)),(6,.int .i64 (i:Int))])
  (fun(i,Q,ul,al,P,C,R) (H:Heap)=>(i<=t.ml.length)/\Var 59 H E.size (cl {s with ab:=K,fJ:=Q,bK:=ul,c1:=P,cT:=C})/\(∀u:Unit,Rd al H fP 33 Q.v ul)/\bk al H.size/\aw al (E.size+1)/\aw al (aA.size+1)/\(∀u:Unit,Rd R H hL 2 P.v C)/\bk R H.size/\aw R (E.size+1)/\aw R (aA.size+1)/\(∀y∈C,Rd R H gl 65 y.v.v y.l)/\bk R H.size/\aw R (E.size+1)/\aw R (aA.size+1)/\(∀b,al b->F b\/V.size<=b)/\(∀b,R b->F b\/V.size<=b)/\cH ul=(t.ml.take i).foldl fS s.m.cC/\dL C=(t.ml.take i).foldl j9 s.m.eT/\ul.length<=200+i/\W (aq [(E.size+1)]) bF H)
  (fun(i,Q,ul,al,P,C,R)=>t.ml.length-i) (0,s.fJ,s.bK,F,s.c1,s.cT,F) ⟨I,k,(fun _=>Y.r),(av.mono I),X,aI,(fun _=>Y.g),(av.mono I),X,aI,Y.n,(av.mono I),X,aI,(fun b e=>Or.inl e),(fun b e=>Or.inl e),o,o,I,W.refl _ _⟩ ?_
 rintro⟨i,Q,ul,al,P,C,R⟩ a3 ⟨dD,k,hu,da,cy,cU,N,b8,g1,g2,O,bW,bx,fr,ca,bg,aL,aK,dH,aa⟩ cY ch;obtain⟨Y,A,ae,B,n,_⟩:=fT aa Y X A aE ae aF B aG n aH;have ac:=U.refl (E.size+1) bF.size;have dE:C.length=ul.length:=by
  have aZ:=bn List.length (yx (ml:=t.ml.take i) ok.dh);rw[dK,dK,<-aK,<-aL,HH,pX]at aZ;exact aZ
 have cL:∀y∈C,y.l.length<=100:=fun y hy=>Ch (ml:=t.ml.take i) ok.cT (y.n,y.l) (by rw[<-aK];exact dp.2 ⟨y,hy,o⟩);refine G.aG o ae.T b0 gn gU o o<|G.O o (bz A.m gg)<|G.ip o ?_ ?_<;>intro c9;refine G.dc 7 o o aW<|G.aG o k.T dN kE m1 o o<|G.aG o ae.T b0 gn gU o o ?_;have a1:i<t.ml.length:=by omega
 obtain⟨y,aP⟩:∃q,q=t.ml[i]:=⟨_,o⟩;have dI:y∈t.ml:=by rw[aP];exact cS a1
 refine G.pp o (M.cw A.m i o gg fD o o) fun c_ dB=>G.O o (M.cast (v2:= .agg (ep y).toArray) (bu dB.T lI fD<|fF _) (by rw[aP]))<|G.aC o Fp (H9 ul y w0 (hu ()).any I) ?_;rintro du gG ⟨be,cj,rfl,ag,a7,c7⟩;have a_:=ai.app ai.z k.lt a7;have cD:=U.al (U.refl 0 _) a7 n.size;obtain⟨A,ae,k,N,O,aa,_⟩:=f_ c7 A ae k N O aa;have c3:=ag.le;have bO:cH (o3 y ul)=(t.ml.take (i+1)).foldl fS s.m.cC:=by rw[oP a1,<-aP,<-aL];exact Ib ul (by rw[aL];exact oS ok.cJ)
 refine G.aK o dN kE o<|G.bl o (gu k 1 (cl {s with ab:=K,fJ:=be,bK:=o3 y ul,c1:=P,cT:=C}) kE (by rw[dw];omega) ((Du _))) ?_;rintro dj ⟨k,b9⟩;obtain⟨A,ae,N,O,ag,aa,_⟩:=kG b9 A aE ae aF N g1 O bx ag a_.symm aa (ah.r ac);refine G.dc 7 o o aW<|G.aG o k.T dN iP k4 o o<|G.aG o ae.T b0 gn gU o o<|G.pp o (M.cw A.m i o gg fD o o) fun dt bi=>G.O o (M.cast (v2:= .agg (ep y).toArray) (bu bi.T lI fD<|fF _) (by rw[aP]))<|G.aC o NM (Qz y w0 (N ()) (b8.mono I) O (bW.mono I) I cL) ?_;rintro ci dv ⟨bH,bP,cG,rfl,bo,bR,bh,bS,aN,cO,cE⟩;obtain⟨k,ag,aa,_⟩:=cg cE k ag aa;have bC:=(aw.nG aN g1 I);have aT:=(aw.nG aN g2 I);have bE:=(aw.nG aN g1 I);have bD:=(aw.nG aN g2 I);refine G.aK o dN iP o<|G.bl o (gu k 2 (cl {s with ab:=K,fJ:=be,bK:=o3 y ul,c1:=bH,cT:=bP}) iP (by rw[dw];omega) ((zu))) ?_;rintro gF ⟨k,a0⟩;obtain⟨ag,bo,bh,aa,_⟩:=dx a0 ag a_.symm bo bC bh bE aa (ah.r ac);exact G.O o bB<|G.aQ o<|ch (i+1,be,o3 y ul,fun b=>b+1=cj,bH,bP,cG) _ ⟨I,k,(fun _=>ag.rd),(bk.of ag.le),(aw.of a_.symm),(aw.of (ai.app ai.z B.lt a7).symm),bo,(bR.mono I),bC,aT,bh,(bS.mono I),bE,bD,(fun b e=>Or.inr (by have bm:=cD;unfold U at bm;omega)),(fun b e=>(aN b e).elim (bg b) (fun e=>Or.inr I)),bO,by rw[cO (by rw[aK];exact xY ok.fK),aK,oP a1,<-aP],(by rw[<-pX,bO,oP a1];refine ev (Ie) ?_;rw[<-aL,pX];omega),aa⟩;obtain rfl:i=t.ml.length:=by omega
 rw[eQ]at aL aK
 refine G.bw 0 o (fun(bw:dX×(Nat->Prop))=>match bw with|(T,ax)=>[(3,.pointer (some ⟨az.size,0,none⟩)),(4,.pointer (some ⟨aA.size,0,none⟩)),(5,.pointer (some ⟨E.size,0,none⟩))])
  (fun(T,ax) (H:Heap)=>(Var 59 H E.size (cl {s with ab:=K,fJ:=Q,bK:=ul,c1:=P,cT:=C,q:=T}))/\(∀u:Unit,Rd ax H eH 33 T.c4.v T.bF)/\bk ax H.size/\aw ax (E.size+1)/\aw ax (aA.size+1)/\(∀b,ax b->F b\/V.size<=b)/\(T.p=if t.Y=true then(if t.q.k=0 then ga else t.q.p)else s.m.q)/\W (aq [(E.size+1)]) a3 H) (fun _ ba=>?_) ?_
 have L:W (aq [(E.size+1)]) a3 a3:=W.refl _ _;have bf:=U.refl (E.size+1) a3.size;refine G.aG o ae.T b0 c8 eW o o<|G.ci o ?_ ?_<;>intro a4;refine G.O o (M.build (v:=jJ ga) o o eN)<|G.aK o dN eK o<|G.bl o (S.var k _ (cl {s with ab:=K,fJ:=Q,bK:=ul,c1:=P,cT:=C,q:=ga}) rfl rfl rfl rfl ((nw)) eK (e_ _) (by rw[dw];exact hC o) ((zv))) ?_;rintro db ⟨k,bX⟩;obtain⟨A,ae,B,n,L,_⟩:=fT bX A aE ae aF B aG n aH L (ah.r bf);refine G.aK o b0 eK o<|G.a1 o ae.T.uE cd bV cQ o<|G.ip o ?_ ?_<;>intro ce;refine G.aK o b0 eK o<|G.O o (M.cast (v2:=jJ t.q) (bu ((ae.T.drop 4).take 70) l6 eK (by rw[m6];exact e_ _))<|dk<|m6 t)<|G.aK o dN eK o<|G.bl o (S.var k _ (cl {s with ab:=K,fJ:=Q,bK:=ul,c1:=P,cT:=C,q:=t.q}) rfl rfl rfl rfl ((nw)) eK (e_ _) (by rw[dw];exact hC o) ((zv))) ?_;rintro dc ⟨k,bY⟩;obtain⟨A,ae,B,n,L,_⟩:=fT bY A aE ae aF B aG n aH L (ah.r bf);refine G.aR o (Z.cV<|c5 _ (([]:List hz)) pG ib ma) ?_;rintro dy aC ⟨ak,bT,_⟩;have br:=ai.new B.lt;have bq:=ai.new k.lt;have bs:=U.new n.size;have cF:=U.new L.size;obtain⟨A,ae,B,k,n,L,_⟩:=f_ bT A ae B k n L;refine G.aK o b0 eK o<|G.a1 o ae.T.wT cd gz h4 o<|G.aR o (dd ak A.q pG bU bU) ?_;rintro bI dz ⟨cI,ak,bc,bd⟩;have bd:=bd.md;have a2:=ai.app bq k.lt bc;obtain⟨k,L,_⟩:=de bd k bq L (ah.q cF);have dq:=ak.le;rw[gw]at ak;obtain⟨bL,rfl⟩:∃s:ay,bI=s.v:=⟨ck bI,ak.a6.symm⟩;refine G.aK o dN eK o<|G.aK o cd gz o<|G.bl o (gu k 69 (cl {s with ab:=K,fJ:=Q,bK:=ul,c1:=P,cT:=C,q:={t.q with c4:=bL}}) gz (by rw[dw];omega) ((Dv))) ?_;rintro df ⟨k,bZ⟩;obtain⟨ak,L,_⟩:=de bZ ak a2.symm L (ah.r bf);exact G.aQ o<|ba ({t.q with c4:=bL},fun b=>b+1=cI) _ ⟨k,(fun _=>ak.rd),(bk.of ak.le),(aw.of a2.symm),(aw.of (ai.app br B.lt bc).symm),(fun b e=>Or.inr (by have bm:=(U.al bs bc n.size);unfold U at bm;omega)),by rw[aD a4,au I]<;>rfl,L⟩;exact G.aQ o<|ba (ga,fun _=>False) _ ⟨k,(fun _=>Rd.nil _ _ _ _),(fun b e=>e.elim),(fun b e=>e.elim),(fun b e=>e.elim),(fun b e=>e.elim),by rw[aD a4,aD I]<;>rfl,L⟩;exact G.aQ o<|ba (s.q,F) _ ⟨k,(fun _=>Y.q),(av.mono I),X,aI,(fun b e=>Or.inl e),by rw[au (by simp[a4])];rfl,L⟩;rintro⟨T,ax⟩ a5 cc;obtain⟨k,aB,dr,cV,cW,aU,cP,b_⟩:=cc;obtain⟨Y,A,ae,B,hu,N,O,n,_⟩:=kH b_ Y X A aE ae aF B aG hu cy N g1 O bx n aH;refine G.a1 o k.T.mR dN fo gE o<|G.a1 o ae.T.iT b0 fo gE o<|G.aC o Fo (Jw Y.e (av.mono I) A.e.any Y.d (av.mono I) (fun y hy=>(A.d y hy).any) I I (fun x bj=>by have:=(bN x bj).2;omega) fun x bj=>(bN x bj).1) ?_;rintro dA co ⟨aV,aQ,dC,rfl,aR,cZ,aM,c0,aJ,cN,cp⟩;obtain⟨B,k,hu,N,O,aB,n,_⟩:=ja cp B k hu N O aB n;have cq:=(aw.nG aJ X I);have cr:=(aw.nG aJ aI I);have ct:=(aw.nG aJ X I);have cu:=(aw.nG aJ aI I);refine G.aK o dN fo o<|G.bl o (gu k 73 (cl {s with ab:=K,fJ:=Q,bK:=ul,c1:=P,cT:=C,q:=T,dG:=aV,el:=aQ}) fo (by rw[dw];omega) ((Dt))) ?_;rintro dg ⟨k,b1⟩;obtain⟨B,hu,N,O,aB,aR,aM,n,_⟩:=kH b1 B aG hu cy N g1 O bx aB cV aR cq aM ct n aH;refine G.O o (bu k.T iA ff<|dw _)<|G.bl o (S.var B _ (cl {s with ab:=K,fJ:=Q,bK:=ul,c1:=P,cT:=C,q:=T,dG:=aV,el:=aQ}) rfl rfl rfl rfl (nx) ff (dw _) aO ((ea (dw _).symm))) ?_;rintro dh ⟨B,b2⟩;obtain⟨hu,N,O,aB,aR,aM,n,_⟩:=pc b2 hu cU N g2 O fr aB cW aR cr aM cu n a9;exact G.rc o (lo o o B.T iA ff<|dw _) ⟨{s with ab:=K,fJ:=Q,bK:=ul,c1:=P,cT:=C,q:=T,dG:=aV,el:=aQ},_,rfl,(fun _=>(⟨(hu ()).imp (fun b _ e=>ca b e),(N ()).imp (fun b _ e=>bg b e),(fun y hy=>(O y hy).imp (fun b _ e=>bg b e)),(aB ()).imp (fun b _ e=>aU b e),(aR ()).imp (fun b _ e=>((aJ b e).elim Or.inl (fun e=>Or.inr I))),(fun y hy=>(aM y hy).imp (fun b _ e=>((aJ b e).elim Or.inl (fun e=>Or.inr I))))⟩:fV (fun b=>F b\/V.size<=b) _ {s with ab:=K,fJ:=Q,bK:=ul,c1:=P,cT:=C,q:=T,dG:=aV,el:=aQ}).cD),(fun b e=>e.2),(fun b e=>e.1),by show eS.mk K (cH ul) (dL C) T.p (dV aQ)=_;rw[aL,aK,cP,cN,cK]<;>rfl,n⟩
def kT(x:UInt32)(j:Nat):UInt32:=nm x j|||sP x (32-j)
def LA:∀j:Nat,j<32->0<j->(UInt64.ofNat (18446744073709551616-j)&&&UInt64.ofNat 31)=UInt64.ofNat (32-j):=by decide+kernel
def SZ{x:UInt32}{j:Nat}{w0:World}(n:0<j)(A:j<32):
 a8 prog w0 257 #[.int .u32 x.toNat,.int .i64 (-(j:Int))] H (fun r k=>r= .int .u32 (kT x j).toNat/\k=H):=by
 refine G.gq func257 o<|G.ae 2 o (M.conv o ht DO o) ?_;rw[show IntKind.u64.wrap (-(j:Int))=((UInt64.ofNat (18446744073709551616-j)).toNat:Int)by rw[wrap_u64,n9];omega];refine G.O o (M.zX (b:=(UInt64.ofNat 31)) o o o) ?_;rw[LA j A n];refine G.O o (M.rO (32-j) o o o (by rw[n9];omega) I)<|G.O o (M.zx (a:=(UInt64.ofNat 32)) o o o) ?_;rw[show UInt64.ofNat 32-UInt64.ofNat (32-j)=UInt64.ofNat j from BD.1 (by rw[Bo,n9,n9,n9];omega)];exact G.O o (M.rP j o o o (by rw[n9];omega) I)<|G.O o (M.rD o o o)<|G.rt o ⟨by rw[kT,UInt32.or_comm],o⟩
def p4{x:UInt32}(j:Nat){w0:World}(n:0<j)(A:j<32):
 a8 prog w0 255 #[.int .u32 x.toNat,.int .i64 j] H (fun r k=>r= .int .u32 (kT x j).toNat/\k=H):=by
 refine G.gq func255 o<|G.O o (M.neg o o) ?_;rw[IntWalk.i64_in _ I,Int.zero_sub];refine G.aC o Ni (SZ n A) ?_;rintro C B ⟨rfl,rfl⟩;exact G.rt o ⟨o,o⟩
def S8{x:UInt32}{j:Nat}{w0:World}(n:0<j)(A:j<32):
 a8 prog w0 219 #[.int .u32 x.toNat,.int .i64 j] H (fun r k=>r= .int .u32 (kT x j).toNat/\k=H):=by
 exact G.gq func219 o<|G.rd o o aW<|G.O o (M.rP j o o o hd I)<|G.O o eA<|G.O o (M.rO (32-j) o o o hd I)<|G.O o (M.rD o o o)<|G.rt o ⟨o,o⟩
def sW(a b c d:UInt8):UInt32:=sP (UInt32.ofNat a.toNat) 24|||sP (UInt32.ofNat b.toNat) 16|||sP (UInt32.ofNat c.toNat) 8|||UInt32.ofNat d.toNat
def UY{v:Value}{l:List UInt8}{w0:World}(k:b_ H a7 1 v l)(O:4<=l.length):
 a8 prog w0 254 #[v] H (fun r n=>r= .int .u32 (sW l[0] l[1] l[2] l[3]).toNat/\n=H):=by
 exact G.gq func254 o<|G.rd o o aW<|G.pp o (mY k (0) c_ db) fun L C=>G.O o (aY C e8)<|G.O o (M.q8 o kg p6 o)<|G.O o (M.rO (24) o o o hd I)<|G.pp o (mY k (1) c_ db) fun N E=>G.O o (aY E e8)<|G.O o (M.q8 o kg p6 o)<|G.O o (M.rO (16) o o o hd I)<|G.O o (M.rD o o o)<|G.pp o (mY k (2) c_ db) fun F A=>G.O o (aY A e8)<|G.O o (M.q8 o kg p6 o)<|G.O o (M.rO (8) o o o hd I)<|G.O o (M.rD o o o)<|G.pp o (mY k (3) c_ db) fun K B=>G.O o (aY B e8)<|G.O o (M.q8 o kg p6 o)<|G.O o (M.rD o o o)<|G.rt o ⟨o,o⟩
abbrev fw(x:UInt32):Value:= .int .u32 x.toNat
abbrev hR(x:UInt8):Value:= .int .u8 x.toNat
structure h3 where
 a:UInt32
 b:UInt32
 c:UInt32
 d:UInt32
 e:UInt32
 f:UInt32
 g:UInt32
 h:UInt32
abbrev h3.list(s:h3):List UInt32:=[s.a,s.b,s.c,s.d,s.e,s.f,s.g,s.h]
abbrev h3.cells(s:h3):List Value:=[fw s.a,fw s.b,fw s.c,fw s.d,fw s.e,fw s.f,fw s.g,fw s.h]
def yU(s:h3)(k w:UInt32):UInt32:=s.h+(kT s.e 6^^^kT s.e 11^^^kT s.e 25)+(s.e&&&s.f^^^ ~~~s.e&&&s.g)+k+w
def two(s:h3):UInt32:=(kT s.a 2^^^kT s.a 13^^^kT s.a 22)+(s.a&&&s.b^^^s.a&&&s.c^^^s.b&&&s.c)
def uv(s:h3)(k w:UInt32):h3:=⟨yU s k w+two s,s.a,s.b,s.c,s.d+yU s k w,s.e,s.f,s.g⟩
def grow(w:List UInt32):List UInt32:=w++[w.getD (w.length-16) 0+(kT (w.getD (w.length-15) 0) 7^^^kT (w.getD (w.length-15) 0) 18^^^nm (w.getD (w.length-15) 0) 3)+w.getD (w.length-7) 0+(kT (w.getD (w.length-2) 0) 17^^^kT (w.getD (w.length-2) 0) 19^^^nm (w.getD (w.length-2) 0) 10)]
def uz(w0:List UInt32):Nat->List UInt32
 |0=>w0
 |n+1=>grow (uz w0 n)
def qo(b:List UInt8)(n:Nat):List UInt32:=(List.range n).map (fun i=>sW (b.getD (4*i) 0) (b.getD (4*i+1) 0) (b.getD (4*i+2) 0) (b.getD (4*i+3) 0))
def ko:List UInt32:=[0x428a2f98,0x71374491,0xb5c0fbcf,0xe9b5dba5,0x3956c25b,0x59f111f1,0x923f82a4,0xab1c5ed5,0xd807aa98,0x12835b01,0x243185be,0x550c7dc3,0x72be5d74,0x80deb1fe,0x9bdc06a7,0xc19bf174,0xe49b69c1,0xefbe4786,0xfc19dc6,0x240ca1cc,0x2de92c6f,0x4a7484aa,0x5cb0a9dc,0x76f988da,0x983e5152,0xa831c66d,0xb00327c8,0xbf597fc7,0xc6e00bf3,0xd5a79147,0x6ca6351,0x14292967,0x27b70a85,0x2e1b2138,0x4d2c6dfc,0x53380d13,0x650a7354,0x766a0abb,0x81c2c92e,0x92722c85,0xa2bfe8a1,0xa81a664b,0xc24b8b70,0xc76c51a3,0xd192e819,0xd6990624,0xf40e3585,0x106aa070,0x19a4c116,0x1e376c08,0x2748774c,0x34b0bcb5,0x391c0cb3,0x4ed8aa4a,0x5b9cca4f,0x682e6ff3,0x748f82ee,0x78a5636f,0x84c87814,0x8cc70208,0x90befffa,0xa4506ceb,0xbef9a3f7,0xc67178f2]
def zg(s:h3)(w:List UInt32):Nat->h3
 |0=>s
 |n+1=>uv (zg s w n) (ko.getD n 0) (w.getD n 0)
def xb(s t:h3):h3:=⟨s.a+t.a,s.b+t.b,s.c+t.c,s.d+t.d,s.e+t.e,s.f+t.f,s.g+t.g,s.h+t.h⟩
def compress(s:h3)(b:List UInt8):h3:=xb s (zg s (uz (qo b 16) 48) 64)
def S0{w0:World}:
 a8 prog w0 256 #[] H (fun r n=>r= .agg (ko.map fw).toArray/\an H n):=by
 refine G.gq func256 o<|G.aR o (Z.nT o zJ) ?_;rintro K A ⟨rfl,k,C,F,E⟩;have k:Var 314 A H.size (List.replicate 64 (fw 0)):=k;refine G.O o (M.build (v:= .agg (ko.map fw).toArray) o o eN)<|G.bl o (S.var k (ko.map fw) (ko.map fw) o o o o (by intro u hu;obtain⟨x,_,rfl⟩:=dp.1 hu;rfl) C7 o (hC o) aW) ?_;rintro ac ⟨k,B⟩;exact G.rc o (lo o o k.T Li C7 yS) ⟨o,C.trans B (fun _ _ e=>e) (fun b hb e=>by omega)⟩
def j8(w:List UInt32)(j:Nat)(h:j<w.length):(w.map fw)[j]?=some (fw (w.getD j 0)):=by simp[h]
def map_set(w:List UInt32)(j:Nat)(x:UInt32):(w.map fw).set (0+j) (fw x)=(w.set j x).map fw:=by rw[kv,yr]
def wR{α:Type}{w:List α}{j:Nat}{x:α}(h:j<w.length):(w.set j x).take (j+1)=w.take j++[x]:=by
 rw[fc (by simpa using h),List.take_set];rw[vR bU];simp
def getD_take(w:List UInt32)(j k:Nat)(h:j<k):(w.take k).getD j 0=w.getD j 0:=by
 simp[List.getD,List.getElem?_take,h]
def GJ(b:List UInt8)(n:Nat):qo b (n+1)=qo b n++[sW (b.getD (4*n) 0) (b.getD (4*n+1) 0) (b.getD (4*n+2) 0) (b.getD (4*n+3) 0)]:=by
 unfold qo;rw[List.range_succ,hc];rfl
def yP(w:List UInt32)(i:Nat):UInt32:=w.getD (i-16) 0+(kT (w.getD (i-15) 0) 7^^^kT (w.getD (i-15) 0) 18^^^nm (w.getD (i-15) 0) 3)+w.getD (i-7) 0+(kT (w.getD (i-2) 0) 17^^^kT (w.getD (i-2) 0) 19^^^nm (w.getD (i-2) 0) 10)
def G1(w:List UInt32){i:Nat}(n:16<=i)(h:i<=w.length):grow (w.take i)=w.take i++[yP w i]:=by
 unfold grow yP;have k:(w.take i).length=i:=by simp;omega
 rw[k,getD_take w (i-16) i I,getD_take w (i-15) i I,getD_take w (i-7) i I,getD_take w (i-2) i I]
abbrev aj(s:List UInt32)(wt:List UInt8)(n:Nat)(aH:UInt64):List Value:=s.map fw++wt.map hR++[.int .i64 n,.int .u64 aH.toNat]
def qq{s:List UInt32}(Y:s.length=8)(hw:wt.length=64):(aj s wt n vq73z).length=74:=by simp[Y,hw]
def G5{s:List UInt32}(Y:s.length=8){i:Nat}{x:UInt8}(h:wt[i]?=some x):((aj s wt n vq73z).drop 8)[i]?=(a7 x)[0]?/\(a7 x).length=1:=by
 refine⟨?_,o⟩;have k:=(List.getElem?_eq_some_iff.1 h).1;have:(s.map fw).length=8:=by simpa using Y
 rw[aj,ew,mI this,List.getElem?_append_left (by simpa using k)];simp[h]
def x2{s:List UInt32}(Y:s.length=8)(hw:wt.length=64):(aj s wt n vq73z)[72]?=some (.int .i64 n):=by
 rw[aj,List.getElem?_append_right (by simp[Y,hw])];simp[Y,hw]
def G3{s:List UInt32}(Y:s.length=8)(hw:wt.length=64):(aj s wt n vq73z)[73]?=some (.int .u64 vq73z.toNat):=by
 rw[aj,List.getElem?_append_right (by simp[Y,hw])];simp[Y,hw]
def G4{s:List UInt32}{m:Nat}(Y:s.length=8)(hw:wt.length=64):(aj s wt n vq73z).set 72 (.int .i64 m)=aj s wt m vq73z:=by
 rw[aj,n8 _ _ (by simp[Y,hw])];simp[Y,hw]
def PC{s:List UInt32}{be:UInt64}(Y:s.length=8)(hw:wt.length=64):(aj s wt n vq73z).set 73 (.int .u64 be.toNat)=aj s wt n be:=by
 rw[aj,n8 _ _ (by simp[Y,hw])];simp[Y,hw]
def PF{s:List UInt32}(i:Nat)(k:i<s.length):(aj s wt n vq73z)[i]?=some (fw (s.getD i 0)):=by
 rw[aj,ew,List.getElem?_append_left (by simpa using k)];simp[k]
def PD{s:List UInt32}(i:Nat)(k:i<s.length){x:UInt32}:(aj s wt n vq73z).set (0+i) (fw x)=aj (s.set i x) wt n vq73z:=by
 rw[aj,ew,x_ _ _ (by simpa using k),kv,<-ew,aj,yr]
def UX(i:Nat)(h:wt.length=64)(n:i<16)(A:4<=((wt.take 64).drop (4*i)).length):sW ((wt.take 64).drop (4*i))[0] ((wt.take 64).drop (4*i))[1] ((wt.take 64).drop (4*i))[2] ((wt.take 64).drop (4*i))[3]=sW (wt.getD (4*i) 0) (wt.getD (4*i+1) 0) (wt.getD (4*i+2) 0) (wt.getD (4*i+3) 0):=by
 have:∀j,j<4->∀(k:j<((wt.take 64).drop (4*i)).length),((wt.take 64).drop (4*i))[j]=wt.getD (4*i+j) 0:=by
  intro j r k;rw[yn,List.getElem_take];simp[List.getD,show 4*i+j<wt.length by omega]
 rw[this 0 I,this 1 I,this 2 I,this 3 I];rfl
def qe(a b:List UInt32)(i:Nat):List UInt32:=(List.zipWith (·+ ·) (a.take i) (b.take i))++a.drop i
def Ea(a b:List UInt32){i:Nat}(k:a.length=8)(hb:b.length=8)(n:i<=8):(qe a b i).length=8:=by simp[qe,k,hb];omega
def D_(a b:List UInt32)(i:Nat)(k:a.length=8)(hb:b.length=8)(r:i<8):(qe a b i).getD i 0=a.getD i 0:=by
 have n:(List.zipWith (·+ ·) (a.take i) (b.take i)).length=i:=by simp[k,hb];omega
 simp only[qe,List.getD];rw[List.getElem?_append_right I,n,sC,List.getElem?_drop,n6]
def Eb(a b:List UInt32)(i:Nat)(k:a.length=8)(hb:b.length=8)(n:i<8):(qe a b i).set i (a.getD i 0+b.getD i 0)=qe a b (i+1):=by
 have r:(List.zipWith (·+ ·) (a.take i) (b.take i)).length=i:=by simp[k,hb];omega
 unfold qe;rw[n8 _ _ I,r,sC,na (show i<a.length by omega),x9,fc (show i<a.length by omega),fc (show i<b.length by omega),List.zipWith_append bU,ew];simp[List.getD,k,hb,n]
def L4{hb:Nat}{st:h3}{w0:World}(K:Var 338 V hb (aj st.list wt n vq73z))(hw:wt.length=64):
 a8 prog w0 248 #[.pointer (some ⟨hb,0,none⟩)] V (fun r P=>r= .tuple #[]/\Var 338 P hb (aj (compress st wt).list wt 0 vq73z)/\W (fun c=>c=hb) V P):=by
 refine G.gq func248 o ?_;have b4:=K.lt;have a_:st.list.length=8:=rfl;refine G.aR o (Z.nT o zJ) ?_;rintro v2 P ⟨rfl,E,ag,bK,br⟩;have K:=K.aL ag;have E:Var 314 P V.size ((List.replicate 64 (0:UInt32)).map fw):=E;have bL:P.size=V.size+1:=by rw[br];simp
 refine G.bd o (fun(aa:Nat×(List UInt32))=>match aa with|(i,w)=>[(0,.pointer (some ⟨hb,0,none⟩)),(2,.pointer (some ⟨V.size,0,none⟩)),(14,.int .i64 i)])
  (fun(i,w) (H:Heap)=>i<=16/\w.length=64/\w.take i=qo wt i/\Var 314 H V.size (w.map fw)/\W (fun c=>c=V.size) P H)
  (fun(i,w)=>16-i) (0,List.replicate 64 0) ⟨by omega,by simp,o,E,W.refl _ _⟩ ?_
 rintro⟨i,w⟩ H1 ⟨aV,ai,O,E,hm⟩ bg aT;have K:=K.up hm I;refine G.ip o ?_ ?_<;>intro bA;refine G.aK o mV JN o<|G.O o lB<|G.hj (g:=fun v=>v) o (M.wL (F:=fun c=>c=hb) (f:=a7) (xs:=wt) (K.T.drop 8) o K.lt hw (fun i x h=>G5 a_ h) (4*i) (64) o (fun w=> .inl (KC w)) db o (.inr ⟨_,_,_,o,o,by first|rfl|omega⟩) (.inl ⟨o,o⟩) I I aO) fun bN bd=>G.aC o Ng (UY bd.any bU) ?_;rintro bO bP ⟨rfl,rfl⟩;rw[UX i hw I];refine G.O o (dt E.T i kF cN)<|G.bl o (S.df E (0+i) _ o o o o cN bU<|map_set w i _) ?_;rintro bC ⟨E,ay⟩;have hm:=hm.trans ay (fun _ _ e=>e) (fun _ _ e=>e);refine G.O o bB<|G.aQ o<|aT (i+1,w.set i (sW (wt.getD (4*i) 0) (wt.getD (4*i+1) 0) (wt.getD (4*i+2) 0)<|wt.getD (4*i+3) 0)) _ ?_ ?_;exact⟨by omega,by simp[ai],by rw[wR I,GJ,O],E,hm⟩;show 16-(i+1)<16-i;omega;have aZ:i=16:=by omega
 subst aZ
 refine G.bd o (fun(aa:Nat×(List UInt32))=>match aa with|(i,w)=>[(0,.pointer (some ⟨hb,0,none⟩)),(2,.pointer (some ⟨V.size,0,none⟩)),(4,.int .i64 i)])
  (fun(i,w) (H:Heap)=>16<=i/\i<=64/\w.length=64/\w.take i=uz (qo wt 16) (i-16)/\Var 314 H V.size (w.map fw)/\W (fun c=>c=V.size) H1 H)
  (fun(i,w)=>64-i) (16,w) ⟨by omega,by omega,ai,O,E,W.refl _ _⟩ ?_
 rintro⟨i,w⟩ U ⟨aX,aV,ai,O,E,X⟩ bj aH;have K:=K.up X I;refine G.ip o ?_ ?_<;>intro bD;refine G.rd o o aW<|G.O o eA<|G.O o (M.lJ E.T (i-15) o kF cN o o I gj)<|G.O o (aY (E.T.at (i-15)<|j8 w (i-15) I) dY)<|G.O o eA<|G.O o (M.lJ E.T (i-2) o kF cN o o I gj)<|G.O o (aY (E.T.at (i-2)<|j8 w (i-2) I) dY)<|G.cJ o (fun A=>an U A) [29] o ?_;have B:=an.refl U;refine N.bo 0 o B ?_;refine N.bo 1 o B ?_;refine N.t1 2 o (fun A k=>eA) B ?_;refine N.t1 3 o (fun A k=>M.lJ (E.T.aL k) (i-16) o kF cN o o I gj) B ?_;refine N.t1 4 o (fun A k=>aY ((E.T.at (i-16)<|j8 w (i-16) I).aL k) dY) B ?_;refine N.bo 5 o B ?_;refine N.bo 7 o B ?_;refine N.bo 10 o B ?_;refine N.t1 11 o (fun A k=>M.rP (3) o o o hd I) B ?_;refine N.bo 14 o B ?_;refine N.t1 15 o (fun A k=>eA) B ?_;refine N.t1 16 o (fun A k=>M.lJ (E.T.aL k) (i-7) o kF cN o o I gj) B ?_;refine N.t1 17 o (fun A k=>aY ((E.T.at (i-7)<|j8 w (i-7) I).aL k) dY) B ?_;refine N.bo 19 o B ?_;refine N.bo 21 o B ?_;refine N.bo 24 o B ?_;refine N.t1 25 o (fun A k=>M.rP (10) o o o hd I) B ?_;refine N.ba 6 ?_;refine cK pw (p4 7 I I) ?_;rintro bX aK ⟨rfl,rfl⟩;have aA:=B.al (an.refl aK);refine⟨.inr aA,?_⟩;refine N.ba 8 ?_;refine cK pw (p4 18 I I) ?_;rintro bM aL ⟨rfl,rfl⟩;have ac:=aA.al (an.refl aL);refine⟨.inr ac,?_⟩;refine N.t1 9 o (fun A k=>jX) ac ?_;refine N.t1 12 o (fun A k=>jX) ac ?_;refine N.t1 13 o (fun A k=>jW) ac ?_;refine N.t1 18 o (fun A k=>jW) ac ?_;refine N.ba 20 ?_;refine cK pw (p4 17 I I) ?_;rintro bk aM ⟨rfl,rfl⟩;have am:=ac.al (an.refl aM);refine⟨.inr am,?_⟩;refine N.ba 22 ?_;refine cK pw (p4 19 I I) ?_;rintro bl aN ⟨rfl,rfl⟩;have ad:=am.al (an.refl aN);refine⟨.inr ad,?_⟩;refine N.t1 23 o (fun A k=>jX) ad ?_;refine N.t1 26 o (fun A k=>jX) ad ?_;refine N.t1 27 o (fun A k=>jW) ad ?_;refine N.t1 28 o (fun A k=>dt (E.T.aL k) i kF cN) ad ?_;refine N.ba 29 ?_;refine hX o (S.df E (0+i) _ o o o o cN bU<|map_set w i _) ?_;rintro bh ⟨E,ay⟩;refine⟨.inl o,?_⟩;refine G.dn aW ?_;have aE:=ad;refine G.O o bB<|G.aQ o<|aH (i+1,w.set i (yP w i)) _ ?_ ?_;exact⟨by omega,by omega,by simp[ai],by rw[wR I,O,show i+1-16=(i-16)+1 by omega,uz,<-O,G1 w aX I],E,X.trans ay (fun _ _ e=>e) (fun _ _ e=>e)⟩;show 64-(i+1)<64-i;omega;have ax:i=64:=by omega
 subst ax;rw[e5 I]at O;refine G.aK o mV ow o<|G.O o (bu (K.T.take 8) w9 ow o) ?_;have b5:=E.lt;refine G.aR o (Z.nT o DW) ?_;rintro cd bf ⟨rfl,C,bt,bm,bo⟩;obtain⟨K,E,_⟩:=bG bt K E;refine G.bl o (S.var C st.cells st.cells o o o o (by simp[Value.oneCell']) ow o (hC o) o) ?_;rintro bT ⟨C,T⟩;have K:=K.up T I;have E:=E.up T I;refine G.aC o Nh (S0) ?_;rintro bq aP ⟨rfl,ae⟩;obtain⟨K,E,C,_⟩:=cg ae K E C
 refine G.bd o (fun(aa:Nat×h3)=>match aa with|(i,q)=>[(0,.pointer (some ⟨hb,0,none⟩)),(2,.pointer (some ⟨V.size,0,none⟩)),(7,.pointer (some ⟨U.size,0,none⟩)),(72,.agg (ko.map fw).toArray),(73,.int .i64 i)])
  (fun(i,q) (H:Heap)=>i<=64/\q=zg st w i/\Var 315 H U.size q.cells/\W (fun c=>c=U.size) aP H)
  (fun(i,q)=>64-i) (0,st) ⟨by omega,o,C,W.refl _ _⟩ ?_
 rintro⟨i,q⟩ ak ⟨b2,al,C,Q⟩ bw aI;have K:=K.up Q I;have E:=E.up Q I;refine G.ip o ?_ ?_<;>intro bE;refine G.O o (M.z7 i o kF cN dY o o hd I (by rw[List.getElem?_toArray];exact j8 ko i (by simp[ko];omega))) ?_;refine G.cJ o (fun A=>an ak A) [] o ?_;have B:=an.refl ak;refine N.t1 0 o (fun A k=>dt (C.T.aL k) (7) ez cN) B ?_;refine N.t1 1 o (fun A k=>aY ((C.T.drop 7).aL k) dY) B ?_;refine N.t1 2 o (fun A k=>dt (C.T.aL k) (4) ez cN) B ?_;refine N.t1 3 o (fun A k=>aY ((C.T.drop 4).aL k) dY) B ?_;refine N.t1 5 o (fun A k=>dt (C.T.aL k) (4) ez cN) B ?_;refine N.t1 6 o (fun A k=>aY ((C.T.drop 4).aL k) dY) B ?_;refine N.t1 9 o (fun A k=>dt (C.T.aL k) (4) ez cN) B ?_;refine N.t1 10 o (fun A k=>aY ((C.T.drop 4).aL k) dY) B ?_;refine N.t1 14 o (fun A k=>dt (C.T.aL k) (4) ez cN) B ?_;refine N.t1 15 o (fun A k=>aY ((C.T.drop 4).aL k) dY) B ?_;refine N.t1 16 o (fun A k=>dt (C.T.aL k) (5) ez cN) B ?_;refine N.t1 17 o (fun A k=>aY ((C.T.drop 5).aL k) dY) B ?_;refine N.t1 18 o (fun A k=>M.pq o o o) B ?_;refine N.t1 19 o (fun A k=>dt (C.T.aL k) (4) ez cN) B ?_;refine N.t1 20 o (fun A k=>aY ((C.T.drop 4).aL k) dY) B ?_;refine N.t1 21 o (fun A k=>M.Is o o) B ?_;refine N.t1 22 o (fun A k=>dt (C.T.aL k) (6) ez cN) B ?_;refine N.t1 23 o (fun A k=>aY ((C.T.drop 6).aL k) dY) B ?_;refine N.t1 24 o (fun A k=>M.pq o o o) B ?_;refine N.t1 25 o (fun A k=>jX) B ?_;refine N.bo 27 o B ?_;refine N.bo 29 o B ?_;refine N.t1 30 o (fun A k=>dt (E.T.aL k) i kF cN) B ?_;refine N.t1 31 o (fun A k=>aY ((E.T.at i<|j8 w i I).aL k) dY) B ?_;refine N.ba 4 ?_;refine cK pw (p4 6 I I) ?_;rintro bz aQ ⟨rfl,rfl⟩;have aB:=B.al (an.refl aQ);refine⟨.inr aB,?_⟩;refine N.ba 7 ?_;refine cK pw (p4 11 I I) ?_;rintro bQ aR ⟨rfl,rfl⟩;have av:=aB.al (an.refl aR);refine⟨.inr av,?_⟩;refine N.t1 8 o (fun A k=>jX) av ?_;refine N.ba 11 ?_;refine cK pw (p4 25 I I) ?_;rintro bY a5 ⟨rfl,rfl⟩;have L:=av.al (an.refl a5);refine⟨.inr L,?_⟩;refine N.t1 12 o (fun A k=>jX) L ?_;refine N.t1 13 o (fun A k=>jW) L ?_;refine N.t1 26 o (fun A k=>jW) L ?_;refine N.t1 28 o (fun A k=>jW) L ?_;refine N.t1 32 o (fun A k=>jW) L ?_;refine N.t1 33 o (fun A k=>fl) L ?_;refine G.dn aW ?_;have aE:=L;refine G.cJ o (fun A=>an a5 A) [] o ?_;have B:=an.refl a5;refine N.t1 0 o (fun A k=>dt (C.T.aL k) (0) ez cN) B ?_;refine N.t1 1 o (fun A k=>aY (C.T.aL k) dY) B ?_;refine N.t1 3 o (fun A k=>dt (C.T.aL k) (0) ez cN) B ?_;refine N.t1 4 o (fun A k=>aY (C.T.aL k) dY) B ?_;refine N.t1 7 o (fun A k=>dt (C.T.aL k) (0) ez cN) B ?_;refine N.t1 8 o (fun A k=>aY (C.T.aL k) dY) B ?_;refine N.t1 11 o (fun A k=>dt (C.T.aL k) (0) ez cN) B ?_;refine N.t1 12 o (fun A k=>aY (C.T.aL k) dY) B ?_;refine N.t1 13 o (fun A k=>dt (C.T.aL k) (1) ez cN) B ?_;refine N.t1 14 o (fun A k=>aY ((C.T.drop 1).aL k) dY) B ?_;refine N.t1 15 o (fun A k=>M.pq o o o) B ?_;refine N.t1 16 o (fun A k=>dt (C.T.aL k) (0) ez cN) B ?_;refine N.t1 17 o (fun A k=>aY (C.T.aL k) dY) B ?_;refine N.t1 18 o (fun A k=>dt (C.T.aL k) (2) ez cN) B ?_;refine N.t1 19 o (fun A k=>aY ((C.T.drop 2).aL k) dY) B ?_;refine N.t1 20 o (fun A k=>M.pq o o o) B ?_;refine N.t1 21 o (fun A k=>jX) B ?_;refine N.t1 22 o (fun A k=>dt (C.T.aL k) (1) ez cN) B ?_;refine N.t1 23 o (fun A k=>aY ((C.T.drop 1).aL k) dY) B ?_;refine N.t1 24 o (fun A k=>dt (C.T.aL k) (2) ez cN) B ?_;refine N.t1 25 o (fun A k=>aY ((C.T.drop 2).aL k) dY) B ?_;refine N.t1 26 o (fun A k=>M.pq o o o) B ?_;refine N.t1 27 o (fun A k=>jX) B ?_;refine N.ba 2 ?_;refine cK pw (p4 2 I I) ?_;rintro bF aG ⟨rfl,rfl⟩;have az:=B.al (an.refl aG);refine⟨.inr az,?_⟩;refine N.ba 5 ?_;refine cK pw (p4 13 I I) ?_;rintro bH a9 ⟨rfl,rfl⟩;have aq:=az.al (an.refl a9);refine⟨.inr aq,?_⟩;refine N.t1 6 o (fun A k=>jX) aq ?_;refine N.ba 9 ?_;refine cK pw (p4 22 I I) ?_;rintro bI aJ ⟨rfl,rfl⟩;have R:=aq.al (an.refl aJ);refine⟨.inr R,?_⟩;refine N.t1 10 o (fun A k=>jX) R ?_;refine N.t1 28 o (fun A k=>jW) R ?_;refine N.t1 29 o (fun A k=>fl) R ?_;refine G.dn aW ?_;have aE:=R;refine G.O o jW<|G.O o (dt C.T (0) ez cN)<|G.O o (aY C.T dY)<|G.O o (dt C.T (1) ez cN)<|G.O o (aY (C.T.drop 1) dY)<|G.O o (dt C.T (2) ez cN)<|G.O o (aY (C.T.drop 2) dY)<|G.O o (dt C.T (3) ez cN)<|G.O o (aY (C.T.drop 3) dY)<|G.O o jW<|G.O o (dt C.T (4) ez cN)<|G.O o (aY (C.T.drop 4) dY)<|G.O o (dt C.T (5) ez cN)<|G.O o (aY (C.T.drop 5) dY)<|G.O o (dt C.T (6) ez cN)<|G.O o (aY (C.T.drop 6) dY)<|G.O o (M.build (v:= .agg (uv q (ko.getD i 0) (w.getD i 0)).cells.toArray) o o eN)<|G.bl o (S.var C ((uv q (ko.getD i 0)<|w.getD i 0).cells) ((uv q (ko.getD i 0)<|w.getD i 0).cells) o o o o (by simp[Value.oneCell']) ow o (hC o) o) ?_;rintro bR ⟨C,ba⟩;refine G.O o bB<|G.aQ o<|aI (i+1,uv q (ko.getD i 0) (w.getD i 0)) _ ?_ ?_;exact⟨by omega,by rw[al]<;>rfl,C,Q.trans ba (fun _ _ e=>e) (fun _ _ e=>e)⟩;show 64-(i+1)<64-i;omega;have ax:i=64:=by omega
 subst ax;rw[O]at al;have aU:(xb st q).list=(compress st wt).list:=by rw[al];rfl
 refine G.O o (bu C.T w9 ow o) ?_
 refine G.bd o (fun(i:Nat)=>[(0,.pointer (some ⟨hb,0,none⟩)),(160,.agg q.cells.toArray),(161,.int .i64 i)])
  (fun(i:Nat) (H:Heap)=>i<=8/\Var 338 H hb (aj (qe st.list q.list i) wt n vq73z)/\W (fun c=>c=hb) ak H)
  (fun(i:Nat)=>8-i) 0 ⟨by omega,K,W.refl _ _⟩ ?_
 rintro i bZ ⟨a1,K,ah⟩ b0 be;have aw:=Ea st.list q.list o o a1;refine G.ip o ?_ ?_<;>intro bS;refine G.O o (M.z7 i o ez cN dY o o hd I (by rw[List.getElem?_toArray];exact j8 q.list i bU)) ?_;refine G.dc 11 o o aW<|G.aK o mV ow o<|G.O o (dt K.T i ez cN)<|G.O o (aY (K.T.at i<|PF i I) dY) ?_;rw[D_ st.list q.list i o o I];refine G.O o jW<|G.aK o mV ow o<|G.O o (dt K.T i ez cN)<|G.bl o (gu K (0+i) _ cN (by rw[qq aw hw];omega)<|PD i I) ?_;rintro c9 ⟨K,bc⟩;refine G.O o bB<|G.aQ o<|be (i+1) _ ?_ ?_;exact⟨by omega,by rw[<-Eb st.list q.list i o o I];exact K,ah.trans bc (fun _ _ e=>e) (fun _ _ e=>e)⟩;omega;have a6:i=8:=by omega
 subst a6;refine G.aK o mV bV o<|G.bl o (gu K 72 _ bV (by rw[qq aw hw];omega)<|G4 (m:=0) aw hw) ?_;rintro bW ⟨K,aF⟩;refine G.rt o ?_;refine⟨o,by rw[<-aU];exact K,⟨by have:=ag.size;have:=hm.size;have:=X.size;have:=bt.size;have:=T.size;have:=ae.size;have:=Q.size;have:=ah.size;have:=aF.size;omega,fun b b1 aC=>?_⟩⟩;have b6:=ag.size;have b7:=hm.size;have b8:=X.size;have b9:=bt.size;have b_:=T.size;have ca:=ae.size;have cb:=Q.size;have cc:=ah.size;rw[aF.same b I aC,ah.same b I aC,Q.same b I I,ae.same b I (fun e=>e),T.same b I I,bt.same b I (fun e=>e),X.same b I I,hm.same b I I,ag.same b I (fun e=>e)]
def fU:h3:=⟨0x6a09e667,0xbb67ae85,0x3c6ef372,0xa54ff53a,0x510e527f,0x9b05688c,0x1f83d9ab,0x5be0cd19⟩
def fu(s:h3)(b:List UInt8):h3×List UInt8:=if h:b.length<64 then(s,b)else fu (compress s (b.take 64)) (b.drop 64)
termination_by b.length
decreasing_by simp; omega
def oq(s:h3)(b:List UInt8)(h:b.length<64):fu s b=(s,b):=by rw[fu,dif_pos h]
def uw(s:h3)(b:List UInt8)(h:64<=b.length):fu s b=fu (compress s (b.take 64)) (b.drop 64):=by rw[fu,dif_neg I]
def Td:∀(n:Nat) (s:h3) (b:List UInt8),b.length<=n->(fu s b).2.length<64:=by
 intro n;induction n with
 |zero=>intro s b h;rw[oq s b I];simp;omega
 |succ n ih=>
  intro s b h;by_cases hb:b.length<64;rw[oq s b hb];exact hb;rw[uw s b I];exact ih _ _ bU
def S9:∀(n:Nat) (s:h3) (a b:List UInt8),a.length<=n->fu s (a++b)=fu (fu s a).1 ((fu s a).2++b):=by
 intro n;induction n with
 |zero=>intro s a b h;rw[oq s a I]
 |succ n ih=>
  intro s a b h;by_cases k:a.length<64;rw[oq s a k];rw[uw s a I,uw s (a++b) bU,rm I,vC I];exact ih _ _ _ bU
def C5(s:h3)(a b:List UInt8):fu s (a++b)=fu (fu s a).1 ((fu s a).2++b):=S9 _ s a b (dF _)
def JL(s:h3)(b:List UInt8):(fu s b).2.length<64:=Td _ s b (dF _)
def PE{s:List UInt32}{xs:List UInt8}{m:Nat}(Y:s.length=8)(hw:wt.length=64)(h:m+xs.length<=64):eD (aj s wt n vq73z) (8+m) (xs.flatMap a7)=aj s (wt.take m++xs++wt.drop (m+xs.length)) n vq73z:=by
 have k:(s.map fw).length=8:=by simpa using Y
 have r:(xs.flatMap a7).length=xs.length:=by rw[length_flatMap eM,m_]
 have e:∀(wt:List UInt8),aj s wt n vq73z=s.map fw++(wt.map hR++[.int .i64 n,.int .u64 vq73z.toNat]):=fun wt=>by rw[aj,ew]
 rw[eD,r,e,e,vD,e5 I,k,show 8+m-8=m by omega,List.drop_append,pL I,k,gw,show 8+m+xs.length-8=m+xs.length by omega];rw[rm bU,vC bU,tz];simp[hc,vP,yt]
structure nr (H:Heap) (hb:Nat) (m:List UInt8) (aH:UInt64):Prop where
 ex:∃wt:List UInt8,wt.length=64/\Var 338 H hb (aj (fu fU m).1.list wt (fu fU m).2.length aH)/\wt.take (fu fU m).2.length=(fu fU m).2
def nr.aL{hb:Nat}{m:List UInt8}(h:nr H hb m vq73z)(s:an H V):nr V hb m vq73z:=let⟨wt,k,n,r⟩:=h.ex;⟨wt,k,n.aL s,r⟩
def nr.up{hb:Nat}{m:List UInt8}(h:nr H hb m vq73z)(s:W F H V)(A:¬F hb):nr V hb m vq73z:=let⟨wt,k,n,r⟩:=h.ex;⟨wt,k,n.up s A,r⟩
def nr.lt{hb:Nat}{m:List UInt8}(h:nr H hb m vq73z):hb<H.size:=let⟨_,_,k,_⟩:=h.ex;k.lt
def cat(l:List (ay×List UInt8)):List UInt8:=l.flatMap (·.2)
def Fw(l:List (ay×List UInt8))(k:Nat)(h:k<l.length):cat (l.take (k+1))=cat (l.take k)++(l[k]).2:=by
 unfold cat;rw[fc h,j5];simp
def Rg{w0:World}:
 a8 prog w0 227 #[] H (fun r k=>r= .pointer (some ⟨H.size,0,none⟩)/\nr k H.size [] 0/\an H k/\k.size=H.size+1):=by
 refine G.gq func227 o<|G.O o (M.build (v:= .agg (fU.list.map fw).toArray) o o eN)<|G.O o (M.build (v:= .agg (aj fU.list (List.replicate 64 0) 0 0).toArray) o o eN)<|G.aR o (Z.qi o o) ?_;rintro v3 A ⟨rfl,n,ac,B,ad⟩;have n:Var 338 A H.size (aj fU.list (List.replicate 64 0) 0 0):=n;exact G.rt o ⟨o,⟨List.replicate 64 0,by simp,by rw[oq fU [] a_];exact n,by rw[oq fU [] a_];rfl⟩,ac,by rw[ad];simp⟩
def Tg{c x:List UInt8}(ar:(fu fU c).2.length=n)(hb:wt.take n=(fu fU c).2)(hw:wt.length=64)(h:n+x.length<64):fu fU (c++x)=((fu fU c).1,wt.take n++x):=by
 rw[C5,oq _ _ bU,hb]
def Tc{c x:List UInt8}(ar:(fu fU c).2.length=n)(hb:wt.take n=(fu fU c).2)(hw:wt.length=64)(h:n+x.length=64):fu fU (c++x)=(compress (fu fU c).1 (wt.take n++x++wt.drop (n+x.length)),[]):=by
 have k:(wt.take n++x).length=64:=by simp;omega
 rw[C5,<-hb,uw _ _ I,e5 I,pL I,oq _ _ a_,pL (show wt.length<=n+x.length by omega),hD]
def P0{x:List UInt8}(hw:wt.length=64)(h:n+x.length<=64):(wt.take n++x++wt.drop (n+x.length)).length=64/\(wt.take n++x++wt.drop (n+x.length)).take (n+x.length)=wt.take n++x:=by
 have k:(wt.take n++x).length=n+x.length:=by simp;omega
 exact⟨by simp;omega,kP k⟩
def K3{hb:Nat}{O:Value}{m:List UInt8}{l:List (ay×List UInt8)}{w0:World}(Q:nr V hb m vq73z)(aa:Rd (fun b=>b≠hb) V iu 1 O l)(az:∀x∈l,Rd (fun b=>b≠hb) V a7 1 x.1.v x.2):
 a8 prog w0 228 #[.pointer (some ⟨hb,0,none⟩),O] V (fun r ae=>r= .tuple #[]/\nr ae hb (m++cat l) (vq73z+UInt64.ofNat (cat l).length)/\W (fun c=>c=hb) V ae):=by
 refine G.gq func228 o ?_;have aU:=aa.len;refine G.O o (bz aa je) ?_
 refine G.bd o (fun(k:Nat)=>[(0,.pointer (some ⟨hb,0,none⟩)),(7,O),(8,.int .i64 l.length),(9,.int .i64 k)])
  (fun(k:Nat) (H:Heap)=>k<=l.length/\nr H hb (m++cat (l.take k)) (vq73z+UInt64.ofNat (cat (l.take k)).length)/\W (fun c=>c=hb) V H)
  (fun(k:Nat)=>l.length-k) 0 ⟨by omega,by simpa[cat]using Q,W.refl _ _⟩ ?_
 rintro k aI ⟨aR,Q,hm⟩ aB aq;obtain⟨wt,C,B,P⟩:=Q.ex;have U:=aa.up hm (fun _ _ E K=>E K);refine G.ip o ?_ ?_<;>intro aC;refine G.pp o (mY U k je cZ) fun aE al=>G.O o (aY al eI) ?_;have N:=(az l[k] (cS _)).up hm (fun _ _ E K=>E K);have ax:=N.len;refine G.aK o mV zj o<|G.O o (aY (B.T.at 73<|G3 o C) D6)<|G.O o (bz N c_)<|G.O o (M.jh o ht hO o)<|G.O o (M.Ls o o o)<|G.aK o mV zj o<|G.bl o (gu B 73 _ zj (by rw[qq o C];omega)<|PC o C) ?_;rintro aQ ⟨B,ak⟩;have hm:=hm.trans ak (fun _ _ e=>e) (fun _ _ e=>e);have N:=N.up ak (fun _ _ E K=>E K)
 refine G.bd o (fun(aA:Value×(List UInt8)×(List UInt8)×(List UInt8))=>match aA with|(v,r,c,wt)=>[(0,.pointer (some ⟨hb,0,none⟩)),(5,v),(7,O),(8,.int .i64 l.length),(9,.int .i64 k)])
  (fun(v,r,c,wt) (H:Heap)=>wt.length=64/\Var 338 H hb (aj (fu fU c).1.list wt (fu fU c).2.length (vq73z+UInt64.ofNat (cat (l.take k)).length+UInt64.ofNat (l[k]).2.length))/\wt.take (fu fU c).2.length=(fu fU c).2/\Rd (fun b=>b≠hb) H a7 1 v r/\c++r=m++cat (l.take k)++(l[k]).2/\W (fun c=>c=hb) V H)
  (fun(v,r,c,wt)=>r.length) ((l[k]).1.v,(l[k]).2,m++cat (l.take k),wt) ⟨C,B,P,N,o,hm⟩ ?_
 rintro⟨v,r,c,wt⟩ aJ ⟨C,B,P,af,T,hm⟩ aK ag;have ax:=af.len;refine G.O o (bz af c_)<|G.ip o ?_ ?_<;>intro aF;have aw:=JL fU c;obtain⟨n,ar⟩:∃n,(fu fU c).2.length=n:=⟨_,o⟩;rw[ar]at B P aw;obtain⟨A,aT⟩:∃A,min r.length (64-n)=A:=⟨_,o⟩;have X:(r.take A).length=A:=by simp;omega
 obtain⟨L,av⟩:=P0 (x:=r.take A) (n:=n) C I;refine G.dc 9 o o aW<|G.aK o mV JN o<|G.aK o mV bV o<|G.O o (aY (B.T.at 72<|x2 o C) cQ)<|G.ae 0 o ((M.Dd (F:=fun c=>c=hb) (f:=a7) (xs:=wt) (B.T.drop 8) o B.lt C (fun i x h=>G5 o h) n (64) o (fun w=> .inl (KC w)) db o (.inr ⟨_,_,_,o,o,by first|rfl|omega⟩) (.inl ⟨o,o⟩) I I aO).1 _) ?_;rw[au I];refine G.aR o (Z.copy (off:=8+n) B af eM fy o underlying93 db o o (by rw[qq o C];omega) A I) ?_;rintro aL aM ⟨rfl,B,ac⟩;rw[PE o C I]at B;have af:=af.up ac (fun _ _ E K=>E K);have hm:=hm.trans ac (fun _ _ e=>e) (fun _ _ e=>e);refine G.aK o mV bV o<|G.O o (aY (B.T.at 72<|x2 o L) cQ)<|G.O o bB<|G.aK o mV bV o<|G.bl o (gu B 72 (aj (fu fU c).1.list (wt.take n++r.take A++wt.drop (n+(r.take A).length)) (n+A) (vq73z+UInt64.ofNat (cat<|l.take k).length+UInt64.ofNat (l[k]).2.length)) bV (by rw[qq o L];omega) (by rw[<-G4 (m:=n+A) (n:=n) o L,Int.natCast_add])) ?_;rintro aG ⟨B,ai⟩;have af:=af.up ai (fun _ _ E K=>E K);have hm:=hm.trans ai (fun _ _ e=>e) (fun _ _ e=>e);refine G.hj (g:=fun v=>v) o (iG af A _ c_ db (.inr ⟨_,_,_,o,o,by first|rfl|omega⟩) (.inl ⟨o,o⟩)) fun bt S=>?_;rw[eQ]at S;refine G.aK o mV bV o<|G.O o (aY (B.T.at 72<|x2 o L) cQ)<|G.ip o ?_ ?_<;>intro aH;refine G.aC o Nd (L4 B L) ?_;rintro aN aP ⟨rfl,B,ah⟩;have S:=S.up ah (fun _ _ E K=>E K);have hm:=hm.trans ah (fun _ _ e=>e) (fun _ _ e=>e);have R:=Tc (x:=r.take A) (c:=c) (wt:=wt) ar P C I;refine G.aQ o<|ag (bt,r.drop A,c++r.take A,wt.take n++r.take A++wt.drop (n+(r.take A).length)) _ ?_ ?_;exact⟨L,by rw[R];exact B,by rw[R]<;>rfl,S,by rw[ew,hY];exact T,hm⟩
 show(r.drop A).length<r.length;rw[h6];omega
 have R:=Tg (x:=r.take A) (c:=c) (wt:=wt) ar P C I;have U:(wt.take n++r.take A).length=n+A:=by rw[b2,eC];omega
 refine G.aQ o<|ag (bt,r.drop A,c++r.take A,wt.take n++r.take A++wt.drop (n+(r.take A).length)) _ ?_ ?_;exact⟨L,by rw[R];simp only;rw[U];exact B,by rw[R];simp only;rw[U];simpa only[X]using av,S,by rw[ew,hY];exact T,hm⟩
 show(r.drop A).length<r.length;rw[h6];omega
 have N:r=[]:=lT I;subst N;rw[hD]at T;subst T;refine G.O o bB<|G.aQ o<|aq (k+1) _ ?_ ?_;exact⟨by omega,⟨wt,C,by rw[Fw l k I,<-ew,b2,UInt64.ofNat_add,<-UInt64.add_assoc];exact B,by rw[Fw l k I,<-ew];exact P⟩,hm⟩;omega;refine G.rt o ?_;have X:k=l.length:=by omega
 subst X;rw[eQ]at Q;exact⟨o,Q,hm⟩
def p0{x:UInt32}(j:Nat){w0:World}(A:0<j)(k:j<32):a8 prog w0 219 #[.int .u32 x.toNat,.int .i64 j] H (fun r n=>r= .int .u32 (kT x j).toNat/\an H n):=
 (S8 A k).mono fun r aa ⟨k,B⟩=>⟨k,by rw[B];exact an.refl _⟩
def Rr{v:Value}(n:Nat){x:UInt64}{w0:World}(C:aS k 5 V a7 1 v wt)(ar:n<=8)(aB:wt.length<=1099511627776):
 a8 prog w0 115 #[v,.int .i64 n,.int .u64 x.toNat] V (fun r P=>∃v2:Value,∃O:Nat,r=v2/\aS O 5 P a7 1 v2 (wt++dH n x)/\(O=0\/O=k\/V.size<O)/\W (fun c=>c+1=k) V P):=by
 refine G.gq func115 o ?_;have T:=C.le;have K:W (fun c=>c+1=k) V V:=W.refl _ _;refine G.O o eA ?_
 refine G.bd o (fun(X:Nat×Value×Nat×(List UInt8))=>match X with|(j,L,E,ys)=>[(0,L),(2,.int .u64 x.toNat),(7,.int .i64 ((j:Int)-1))])
  (fun(j,L,E,ys) (H:Heap)=>(j<=n)/\aS E 5 H a7 1 L ys/\(E=0\/E=k\/V.size<E)/\ys++dH j x=wt++dH n x/\W (fun c=>c+1=k) V H)
  (fun(j,L,E,ys)=>j) (n,v,k,wt) ⟨I,C,I,o,W.refl _ _⟩ ?_
 rintro⟨j,L,E,ys⟩ ag ⟨az,C,aA,N,F⟩ aa ap;have K:=K.trans F (fun b B A=>A) (fun b B A=>by omega);have ah:=F.size;have T:=C.le;have aC:ys.length+j=wt.length+n:=by have:=bn List.length N;simpa[ft]using this
 refine G.ip o ?_ ?_<;>intro ay;obtain⟨j,rfl⟩:∃q,j=q+1:=⟨j-1,by omega⟩;refine G.O o lB<|G.O o (M.uB (8*j) o o o hd I)<|G.O o (M.r9 o hO kg o)<|G.aR o (Z.cV<|c5 _ ([UInt8.ofNat (mo x (8*j)).toNat]) dv eM fy) ?_;rintro ai ak ⟨Q,ac,_⟩;have K:=K.trans ac (fun b B A=>A) (fun b B A=>A.elim);have C:=C.aL ac
 try have F:=F.trans ac (fun b B A=>A) (fun b B A=>A.elim)
 have al:=ac.size;have aw:=Q.le;refine G.aR o (dd C Q.rd dv gm gm) ?_;rintro U aq ⟨S,R,ae,ad⟩;have K:=K.trans ad (fun b B A=>A) (fun b B A=>by omega)
 try have F:=F.trans ad (fun b B A=>A) (fun b B A=>by omega)
 have av:=ad.size;have ax:=R.le;exact G.O o eA<|G.aQ o<|ap (j,U,S,ys++[UInt8.ofNat (mo x (8*j)).toNat]) _ ⟨I,R,I,by rw[<-N,ew]<;>rfl,F⟩;obtain rfl:j=0:=by omega
 rw[dH,hD]at N;subst N;exact G.rt o ⟨L,E,o,C,I,K⟩
def mM(n:Nat):Nat:=(119-n%64)%64
def gI(n:Nat):List UInt8:=0x80::(List.replicate (mM n) 0++dH 8 (UInt64.ofNat (8*n)))
def RO(m:List UInt8):(m++gI m.length).length%64=0/\(m++gI m.length).length=m.length+mM m.length+9:=by
 have h:(m++gI m.length).length=m.length+mM m.length+9:=by simp[gI,ft];omega
 refine⟨?_,h⟩;rw[h,mM];omega
def o7(s:List UInt32):List UInt8:=(List.range 32).map (fun i=>UInt8.ofNat (nm (s.getD (i/4) 0) (24-8*(i%4))).toNat)
def CC(s:List UInt32):(o7 s).length=32:=by simp[o7]
def sumOf(m:List UInt8):List UInt8:=o7 (fu fU (m++gI m.length)).1.list
def pa(m:List UInt8):(sumOf m).length=32:=CC _
def Ti{j:Nat}{st:h3}(h:fu fU (wt.take (64*j))=(st,[]))(k:64*j+64<=wt.length):fu fU (wt.take (64*(j+1)))=(compress st ((wt.drop (64*j)).take 64),[]):=by
 have e:wt.take (64*(j+1))=wt.take (64*j)++(wt.drop (64*j)).take 64:=by
  rw[show 64*(j+1)=64*j+64 by omega,List.take_add]
 have n:((wt.drop (64*j)).take 64).length=64:=by simp;omega
 rw[e,C5,h];simp only[gw];rw[uw _ _ I,e5 (l:=(wt.drop (64*j)).take 64) I,pL (l:=(wt.drop (64*j)).take 64) I,oq _ _ a_]
def xn(k:List UInt8)(j c:Nat)(aj:c<64)(r:64*j+64<=k.length)(q:Nat)(n:q=64*j+c)(h:q<k.length):k[q]=((k.drop (64*j)).take 64).getD c 0:=by
 subst n;simp[List.getD,aj,h,show c<k.length-64*j by omega]
def BZ{w:List UInt8}{j:Nat}{x:UInt8}:(w.map hR).set (0+j) (hR x)=(w.set j x).map hR:=by rw[kv,yr]
def Dz{w:List UInt8}{i:Nat}{x:UInt8}(h:w.take i=wt.take i)(A:i<w.length)(af:wt[i]?=some x):(w.set i x).take (i+1)=wt.take (i+1):=by
 have k:=(List.getElem?_eq_some_iff.1 af);obtain⟨n,r⟩:=k;rw[wR A,h,fc n,r]
def IJ(s:List UInt32){i:Nat}(h:i<32):(o7 s)[i]?=some (UInt8.ofNat (nm (s.getD (i/4) 0) (24-8*(i%4))).toNat):=by
 simp[o7,h]
def SW{v:Value}{m:List UInt8}{w0:World}(af:b_ V a7 1 v m)(eW:m.length<=1048576):
 a8 prog w0 178 #[v] V (fun r ag=>r= .agg ((sumOf m).map hR).toArray/\W (fun c=>False) V ag):=by
 refine G.gq func178 o ?_;have af:=af.lt;have B:W (fun c=>False) V V:=W.refl _ _;refine G.aR o (Z.bt mZ) ?_;rintro v2 ag ⟨rfl,R,bl,_⟩;have af:=af.aL bl;have B:=B.trans bl (fun b n k=>k) (fun b n k=>k.elim);have eR:=bl.size;have cG:=R.lt;have R:Var 40 ag V.size ((List.replicate 32 (0:UInt8)).map hR):=R;refine G.O o (M.build (v:= .agg (ko.map fw).toArray) o o eN)<|G.aR o (Z.bt zJ) ?_;rintro v3 bW ⟨rfl,P,bm,_⟩;have af:=af.aL bm;have B:=B.trans bm (fun b n k=>k) (fun b n k=>k.elim);obtain⟨R,_⟩:=cv bm R;have cH:=P.lt;have P:Var 314 bW ag.size (List.replicate 64 (fw 0)):=P;refine G.bl o (S.var P (ko.map fw) (ko.map fw) o o o o (by intro u hu;obtain⟨x,_,rfl⟩:=dp.1 hu;rfl) C7 o (hC o) aW) ?_;rintro U ⟨P,aX⟩;have af:=af.up aX (fun b n k aL=>by omega);have B:=B.trans aX (fun b n k=>k) (fun b n k=>by omega);have R:=R.up aX I;have eS:=aX.size;refine G.O o (M.build (v:= .agg (fU.list.map fw).toArray) o o eN)<|G.aR o (Z.bt DW) ?_;rintro v4 bX ⟨rfl,L,bo,_⟩;have af:=af.aL bo;have B:=B.trans bo (fun b n k=>k) (fun b n k=>k.elim);obtain⟨R,P,_⟩:=bG bo R P;have bK:=L.lt;have L:Var 315 bX U.size (List.replicate 8 (fw 0)):=L;refine G.bl o (S.var L (fU.list.map fw) (fU.list.map fw) o o o o (by intro u hu;obtain⟨x,_,rfl⟩:=dp.1 hu;rfl) ow o (hC o) aW) ?_;rintro dl ⟨L,aN⟩;have af:=af.up aN (fun b n k aL=>by omega);have B:=B.trans aN (fun b n k=>k) (fun b n k=>by omega);have R:=R.up aN I;have P:=P.up aN I;have dM:=aN.size;refine G.aR o (Z.cV<|c5 _ (([]:List UInt8)) dv eM fy) ?_;rintro dN dO ⟨bP,c7,_⟩;have af:=af.aL c7;have B:=B.trans c7 (fun b n k=>k) (fun b n k=>k.elim);obtain⟨R,P,L,_⟩:=cg c7 R P L;have bT:=bP.le;refine G.aR o (dd bP af dv gm gm) ?_;rintro dP dQ ⟨dS,bq,dn,aE⟩;have af:=af.up aE (fun b n k aL=>by omega);have B:=B.trans aE (fun b n k=>k) (fun b n k=>by omega);have R:=R.up aE I;have P:=P.up aE I;have L:=L.up aE I;have dT:=aE.size;have br:=bq.le;refine G.aR o (Z.cV<|c5 _ ([(0x80:UInt8)]) dv eM fy) ?_;rintro dU dV ⟨bs,bA,_⟩;have af:=af.aL bA;have B:=B.trans bA (fun b n k=>k) (fun b n k=>k.elim);obtain⟨R,P,L,bq,_⟩:=dZ bA R P L bq;have cI:=bs.le;refine G.aR o (dd bq bs.rd dv gm gm) ?_;rintro ct hJ ⟨bt,ad,dJ,aF⟩;have af:=af.up aF (fun b n k aL=>by omega);have B:=B.trans aF (fun b n k=>k) (fun b n k=>by omega);have R:=R.up aF I;have P:=P.up aF I;have L:=L.up aF I;have dW:=aF.size;have bL:=ad.le
 refine G.bd o (fun(aa:Nat×Value×Nat)=>match aa with|(q,v5,ax)=>[(0,v),(2,.pointer (some ⟨V.size,0,none⟩)),(3,.pointer (some ⟨ag.size,0,none⟩)),(4,.pointer (some ⟨U.size,0,none⟩)),(5,v5)])
  (fun(q,v5,ax) (H:Heap)=>(q<=mM m.length)/\aS ax 5 H a7 1 v5 ([]++m++[0x80]++List.replicate q 0)/\(ax=0\/ax=bt\/hJ.size<ax)/\W (fun c=>c+1=bt) hJ H)
  (fun(q,v5,ax)=>mM m.length-q) (0,ct,bt) ?_ ?_
 rw[show[]++m++[(0x80:UInt8)]=[]++m++[0x80]++List.replicate 0 0 by simp]at ad;exact⟨I,ad,I,W.refl _ _⟩;rintro⟨q,v5,ax⟩ dX cu cF cw;obtain⟨C,ad,d_,X⟩:=cu;have af:=af.up X (fun b n k aL=>by omega);have B:=B.trans X (fun b n k=>k) (fun b n k=>by omega);have R:=R.up X I;have P:=P.up X I;have L:=L.up X I;have dK:=X.size;have bL:=ad.le;have eV:([]++m++[(0x80:UInt8)]++List.replicate q 0).length=m.length+1+q:=by simp;omega
 have eZ:mM m.length=(119-m.length%64)%64:=rfl;refine G.O o (bz ad.rd c_)<|G.O o (M.CQ o o o I)<|G.ip o ?_ ?_<;>intro c8;refine G.aR o (Z.cV<|c5 _ ([(0:UInt8)]) dv eM fy) ?_;rintro ea ec ⟨bQ,a2,_⟩;have B:=B.trans a2 (fun b n k=>k) (fun b n k=>k.elim);have ad:=ad.aL a2
 try have X:=X.trans a2 (fun b n k=>k) (fun b n k=>k.elim)
 have da:=a2.size;have bv:=bQ.le;refine G.aR o (dd ad bQ.rd dv gm gm) ?_;rintro cp ed ⟨cq,bR,dc,bC⟩;have B:=B.trans bC (fun b n k=>k) (fun b n k=>by omega)
 try have X:=X.trans bC (fun b n k=>k) (fun b n k=>by omega)
 have de:=bC.size;have cL:=bR.le;exact G.aQ o<|cw (q+1,cp,cq) _ ⟨I,by rw[List.replicate_succ',<-ew];exact bR,I,X⟩;obtain rfl:q=mM m.length:=by omega
 refine G.O o (bz af c_)<|G.O o (M.cast (v2:= .int .i64 ((8*m.length:Nat):Int)) lB<|di I)<|G.O o (M.jh o ht hO o)<|G.aC o oL (Rr 8 ad I I) ?_;rintro aK T ⟨df,cE,rfl,ad,dg,aO⟩;have B:=B.trans aO (fun b n k=>k) (fun b n k=>by omega);have R:=R.up aO I;have P:=P.up aO I;have L:=L.up aO I;have dh:=aO.size;have bL:=ad.le;have ad:aS cE 5 T a7 1 aK (m++gI m.length):=by simpa[gI]using ad
 obtain⟨eX,eY⟩:=RO m;refine G.aR o (Z.bt zJ) ?_;rintro v6 bI ⟨rfl,E,bS,_⟩;have B:=B.trans bS (fun b n k=>k) (fun b n k=>k.elim);obtain⟨R,P,L,ad,_⟩:=dZ bS R P L ad;have bf:=E.lt;have E:Var 314 bI T.size ((List.replicate 64 (0:UInt32)).map fw):=E
 refine G.bd o (fun(aa:Nat×h3×(List UInt32))=>match aa with|(j,st,w)=>[(2,.pointer (some ⟨V.size,0,none⟩)),(3,.pointer (some ⟨ag.size,0,none⟩)),(4,.pointer (some ⟨U.size,0,none⟩)),(5,aK),(6,.pointer (some ⟨T.size,0,none⟩)),(7,.int .i64 ((64*j:Nat):Int))])
  (fun(j,st,w) (H:Heap)=>(64*j<=(m++gI m.length).length)/\fu fU ((m++gI m.length).take (64*j))=(st,[])/\w.length=64/\Var 315 H U.size (st.list.map fw)/\Var 314 H T.size (w.map fw)/\W (fun c=>c=U.size\/c=T.size) bI H)
  (fun(j,st,w)=>(m++gI m.length).length-64*j) (0,fU,List.replicate 64 0) ⟨I,by rw[Nat.mul_zero,pN,oq fU [] a_],by simp,L,E,W.refl _ _⟩ ?_
 rintro⟨j,st,w⟩ aP ⟨eU,bH,aM,L,E,F⟩ ee cf;have B:=B.trans F (fun b n k=>k) (fun b n k=>by omega);have R:=R.up F I;have P:=P.up F I;have ad:=ad.up F (fun b n k aL=>by omega);have dk:=F.size;have bK:=L.lt;have bf:=E.lt;refine G.O o (bz ad.rd c_)<|G.ip o ?_ ?_<;>intro dq
 refine G.bd o (fun(aa:Nat×(List UInt32))=>match aa with|(i,w)=>[(2,.pointer (some ⟨V.size,0,none⟩)),(3,.pointer (some ⟨ag.size,0,none⟩)),(4,.pointer (some ⟨U.size,0,none⟩)),(5,aK),(6,.pointer (some ⟨T.size,0,none⟩)),(7,.int .i64 ((64*j:Nat):Int)),(8,.int .i64 i)])
  (fun(i,w) (H:Heap)=>(i<=16)/\w.length=64/\w.take i=qo (((m++gI m.length).drop (64*j)).take 64) i/\Var 314 H T.size (w.map fw)/\W (fun c=>c=T.size) aP H)
  (fun(i,w)=>16-i) (0,w) ⟨I,aM,by simp[qo],E,W.refl _ _⟩ ?_
 rintro⟨i,w⟩ cr ⟨aQ,aM,aw,E,ah⟩ ef b4;have B:=B.trans ah (fun b n k=>k) (fun b n k=>by omega);have P:=P.up ah I;have ad:=ad.up ah (fun b n k aL=>by omega);have L:=L.up ah I
 try have F:=F.trans ah (fun b n k=>k) (fun b n k=>by omega)
 have dr:=ah.size;have bf:=E.lt;refine G.ip o ?_ ?_<;>intro du;refine G.dc 43 o o aW<|G.O o lB<|G.O o bB<|G.O o (jP ad (64*j+(4*i+0)) c_ db)<|G.O o (M.cast (v2:= .int .u8 ((((m++gI m.length).drop (64*j)).take 64).getD (4*i+0) 0).toNat) (aY (ad.T (j:=64*j+(4*i+0)) gj) e8) (by rw[<-xn (m++gI m.length) j (4*i+0) I I _ o I]))<|G.O o (M.q8 o kg p6 o)<|G.O o (M.rO (24) o o o hd I)<|G.O o lB<|G.O o bB<|G.O o bB<|G.O o (jP ad (64*j+(4*i+1)) c_ db)<|G.O o (M.cast (v2:= .int .u8 ((((m++gI m.length).drop (64*j)).take 64).getD (4*i+1) 0).toNat) (aY (ad.T (j:=64*j+(4*i+1)) gj) e8) (by rw[<-xn (m++gI m.length) j (4*i+1) I I _ o I]))<|G.O o (M.q8 o kg p6 o)<|G.O o (M.rO (16) o o o hd I)<|G.O o (M.rD o o o)<|G.O o lB<|G.O o bB<|G.O o bB<|G.O o (jP ad (64*j+(4*i+2)) c_ db)<|G.O o (M.cast (v2:= .int .u8 ((((m++gI m.length).drop (64*j)).take 64).getD (4*i+2) 0).toNat) (aY (ad.T (j:=64*j+(4*i+2)) gj) e8) (by rw[<-xn (m++gI m.length) j (4*i+2) I I _ o I]))<|G.O o (M.q8 o kg p6 o)<|G.O o (M.rO (8) o o o hd I)<|G.O o (M.rD o o o)<|G.O o lB<|G.O o bB<|G.O o bB<|G.O o (jP ad (64*j+(4*i+3)) c_ db)<|G.O o (M.cast (v2:= .int .u8 ((((m++gI m.length).drop (64*j)).take 64).getD (4*i+3) 0).toNat) (aY (ad.T (j:=64*j+(4*i+3)) gj) e8) (by rw[<-xn (m++gI m.length) j (4*i+3) I I _ o I]))<|G.O o (M.q8 o kg p6 o)<|G.O o (M.rD o o o)<|G.O o (M.lJ E.T i o kF cN o o I gj)<|G.bl o (S.df E (0+i) _ o o o o cN bU<|map_set w i _) ?_;rintro c3 ⟨E,aZ⟩;have B:=B.trans aZ (fun b n k=>k) (fun b n k=>by omega)
 try have F:=F.trans aZ (fun b n k=>k) (fun b n k=>by omega)
 try have ah:=ah.trans aZ (fun b n k=>k) (fun b n k=>by omega)
 have dw:=aZ.size;exact G.O o bB<|G.aQ o<|b4 (i+1,w.set i (sW ((((m++gI m.length).drop (64*j)).take 64).getD (4*i) 0) ((((m++gI m.length).drop (64*j)).take 64).getD (4*i+1) 0) ((((m++gI m.length).drop (64*j)).take 64).getD (4*i+2) 0)<|(((m++gI m.length).drop (64*j)).take 64).getD (4*i+3) 0)) _ ⟨I,by simp[aM],by rw[wR I,GJ,aw],E,ah⟩;obtain rfl:i=16:=by omega
 refine G.bd o (fun(aa:Nat×(List UInt32))=>match aa with|(i,w)=>[(2,.pointer (some ⟨V.size,0,none⟩)),(3,.pointer (some ⟨ag.size,0,none⟩)),(4,.pointer (some ⟨U.size,0,none⟩)),(5,aK),(6,.pointer (some ⟨T.size,0,none⟩)),(7,.int .i64 ((64*j:Nat):Int)),(9,.int .i64 i)])
  (fun(i,w) (H:Heap)=>(16<=i)/\i<=64/\w.length=64/\w.take i=uz (qo (((m++gI m.length).drop (64*j)).take 64) 16) (i-16)/\Var 314 H T.size (w.map fw)/\W (fun c=>c=T.size) cr H)
  (fun(i,w)=>64-i) (16,w) ⟨I,I,aM,aw,E,W.refl _ _⟩ ?_
 rintro⟨i,w⟩ bi ⟨cz,aQ,aM,aw,E,ac⟩ eg cm;have B:=B.trans ac (fun b n k=>k) (fun b n k=>by omega);have P:=P.up ac I;have L:=L.up ac I
 try have F:=F.trans ac (fun b n k=>k) (fun b n k=>by omega)
 have dx:=ac.size;have bf:=E.lt;refine G.ip o ?_ ?_<;>intro dy;refine G.cJ o (fun K=>an bi K) [] o ?_;have O:=an.refl bi;refine N.bo 0 o O ?_;refine N.t1 1 o (fun K C=>eA) O ?_;refine N.t1 2 o (fun K C=>M.lJ (E.T.aL C) (i-15) o kF cN o o I gj) O ?_;refine N.t1 3 o (fun K C=>aY ((E.T.at (i-15)<|j8 w (i-15) I).aL C) dY) O ?_;refine N.bo 5 o O ?_;refine N.t1 6 o (fun K C=>eA) O ?_;refine N.t1 7 o (fun K C=>M.lJ (E.T.aL C) (i-15) o kF cN o o I gj) O ?_;refine N.t1 8 o (fun K C=>aY ((E.T.at (i-15)<|j8 w (i-15) I).aL C) dY) O ?_;refine N.bo 11 o O ?_;refine N.t1 12 o (fun K C=>eA) O ?_;refine N.t1 13 o (fun K C=>M.lJ (E.T.aL C) (i-15) o kF cN o o I gj) O ?_;refine N.t1 14 o (fun K C=>aY ((E.T.at (i-15)<|j8 w (i-15) I).aL C) dY) O ?_;refine N.t1 15 o (fun K C=>M.rP (3) o o o hd I) O ?_;refine N.ba 4 ?_;refine cK pv (p0 7 I I) ?_;rintro dz b5 ⟨rfl,aI⟩;have B:=B.trans aI (fun b n k=>k) (fun b n k=>k.elim)
 try have F:=F.trans aI (fun b n k=>k) (fun b n k=>k.elim)
 have E:=E.aL aI
 try have ac:=ac.trans aI (fun b n k=>k) (fun b n k=>k.elim)
 have dA:=aI.size;have bY:=O.al aI;refine N.cx bY ?_;refine N.ba 9 ?_;refine cK pv (p0 18 I I) ?_;rintro dC a3 ⟨rfl,aJ⟩;have B:=B.trans aJ (fun b n k=>k) (fun b n k=>k.elim)
 try have F:=F.trans aJ (fun b n k=>k) (fun b n k=>k.elim)
 have E:=E.aL aJ
 try have ac:=ac.trans aJ (fun b n k=>k) (fun b n k=>k.elim)
 have dD:=aJ.size;have bZ:=(an.refl b5).al aJ;refine N.cx bZ ?_;have aR:=an.refl a3;refine N.t1 10 o (fun K C=>jX) aR ?_;refine N.t1 16 o (fun K C=>jX) aR ?_;refine N.t1 17 o (fun K C=>fl) aR ?_;refine G.dn aW ?_;have bF:=aR;refine G.cJ o (fun K=>an a3 K) [] o ?_;have O:=an.refl a3;refine N.bo 0 o O ?_;refine N.t1 1 o (fun K C=>eA) O ?_;refine N.t1 2 o (fun K C=>M.lJ (E.T.aL C) (i-2) o kF cN o o I gj) O ?_;refine N.t1 3 o (fun K C=>aY ((E.T.at (i-2)<|j8 w (i-2) I).aL C) dY) O ?_;refine N.bo 5 o O ?_;refine N.t1 6 o (fun K C=>eA) O ?_;refine N.t1 7 o (fun K C=>M.lJ (E.T.aL C) (i-2) o kF cN o o I gj) O ?_;refine N.t1 8 o (fun K C=>aY ((E.T.at (i-2)<|j8 w (i-2) I).aL C) dY) O ?_;refine N.bo 11 o O ?_;refine N.t1 12 o (fun K C=>eA) O ?_;refine N.t1 13 o (fun K C=>M.lJ (E.T.aL C) (i-2) o kF cN o o I gj) O ?_;refine N.t1 14 o (fun K C=>aY ((E.T.at (i-2)<|j8 w (i-2) I).aL C) dY) O ?_;refine N.t1 15 o (fun K C=>M.rP (10) o o o hd I) O ?_;refine N.ba 4 ?_;refine cK pv (p0 17 I I) ?_;rintro dE b6 ⟨rfl,ay⟩;have B:=B.trans ay (fun b n k=>k) (fun b n k=>k.elim)
 try have F:=F.trans ay (fun b n k=>k) (fun b n k=>k.elim)
 have E:=E.aL ay
 try have ac:=ac.trans ay (fun b n k=>k) (fun b n k=>k.elim)
 have dG:=ay.size;have b0:=O.al ay;refine N.cx b0 ?_;refine N.ba 9 ?_;refine cK pv (p0 19 I I) ?_;rintro d0 b7 ⟨rfl,az⟩;have B:=B.trans az (fun b n k=>k) (fun b n k=>k.elim)
 try have F:=F.trans az (fun b n k=>k) (fun b n k=>k.elim)
 have E:=E.aL az
 try have ac:=ac.trans az (fun b n k=>k) (fun b n k=>k.elim)
 have d1:=az.size;have a9:=(an.refl b6).al az;refine N.cx a9 ?_;have aT:=an.refl b7;refine N.t1 10 o (fun K C=>jX) aT ?_;refine N.t1 16 o (fun K C=>jX) aT ?_;refine N.t1 17 o (fun K C=>fl) aT ?_;refine G.dn aW ?_;have bF:=aT;refine G.dc 15 o o aW<|G.O o eA<|G.O o (M.lJ E.T (i-16) o kF cN o o I gj)<|G.O o (aY (E.T.at (i-16)<|j8 w (i-16) I) dY)<|G.O o jW<|G.O o eA<|G.O o (M.lJ E.T (i-7) o kF cN o o I gj)<|G.O o (aY (E.T.at (i-7)<|j8 w (i-7) I) dY)<|G.O o jW<|G.O o jW<|G.O o (M.lJ E.T i o kF cN o o I gj)<|G.bl o (S.df E (0+i) _ o o o o cN bU<|map_set w i _) ?_;rintro c4 ⟨E,a1⟩;have B:=B.trans a1 (fun b n k=>k) (fun b n k=>by omega)
 try have F:=F.trans a1 (fun b n k=>k) (fun b n k=>by omega)
 try have ac:=ac.trans a1 (fun b n k=>k) (fun b n k=>by omega)
 have d2:=a1.size;exact G.O o bB<|G.aQ o<|cm (i+1,w.set i (yP w i)) _ ⟨I,I,by simp[aM],by rw[wR I,aw,show i+1-16=(i-16)+1 by omega,uz,<-aw,G1 w cz I],E,ac⟩;obtain rfl:i=64:=by omega
 rw[e5 I]at aw;refine G.O o (bu L.T w9 ow o)<|G.aR o (Z.bt DW) ?_;rintro eh d3 ⟨rfl,A,a4,_⟩;have B:=B.trans a4 (fun b n k=>k) (fun b n k=>k.elim);obtain⟨P,L,_⟩:=bG a4 P L
 try have F:=F.trans a4 (fun b n k=>k) (fun b n k=>k.elim)
 obtain⟨E,_⟩:=cv a4 E;have b1:=A.lt;have A:Var 315 d3 bi.size (List.replicate 8 (fw 0)):=A;refine G.bl o (S.var A (st.list.map fw) (st.list.map fw) o o o o (by intro u hu;obtain⟨x,_,rfl⟩:=dp.1 hu;rfl) ow o (hC o) (by rfl)) ?_;rintro b8 ⟨A,aG⟩;have B:=B.trans aG (fun b n k=>k) (fun b n k=>by omega);have P:=P.up aG I;have L:=L.up aG I
 try have F:=F.trans aG (fun b n k=>k) (fun b n k=>by omega)
 have E:=E.up aG I;have d4:=aG.size
 refine G.bd o (fun(aa:Nat×h3)=>match aa with|(i,q)=>[(2,.pointer (some ⟨V.size,0,none⟩)),(3,.pointer (some ⟨ag.size,0,none⟩)),(4,.pointer (some ⟨U.size,0,none⟩)),(5,aK),(6,.pointer (some ⟨T.size,0,none⟩)),(7,.int .i64 ((64*j:Nat):Int)),(12,.pointer (some ⟨bi.size,0,none⟩)),(13,.int .i64 i)])
  (fun(i,q) (H:Heap)=>(i<=64)/\q=zg st w i/\Var 315 H bi.size (q.list.map fw)/\W (fun c=>c=bi.size) b8 H)
  (fun(i,q)=>64-i) (0,st) ⟨I,o,A,W.refl _ _⟩ ?_
 rintro⟨i,q⟩ bw ⟨aQ,C,A,Q⟩ ei fO;have B:=B.trans Q (fun b n k=>k) (fun b n k=>by omega);have P:=P.up Q I;have L:=L.up Q I
 try have F:=F.trans Q (fun b n k=>k) (fun b n k=>by omega)
 have E:=E.up Q I;have d6:=Q.size;have b1:=A.lt;refine G.ip o ?_ ?_<;>intro cP;refine G.cJ o (fun K=>an bw K) [] o ?_;have O:=an.refl bw;refine N.t1 0 o (fun K C=>dt (A.T.aL C) (4) ez cN) O ?_;refine N.t1 1 o (fun K C=>aY ((A.T.drop 4).aL C) dY) O ?_;refine N.t1 3 o (fun K C=>dt (A.T.aL C) (4) ez cN) O ?_;refine N.t1 4 o (fun K C=>aY ((A.T.drop 4).aL C) dY) O ?_;refine N.t1 7 o (fun K C=>dt (A.T.aL C) (4) ez cN) O ?_;refine N.t1 8 o (fun K C=>aY ((A.T.drop 4).aL C) dY) O ?_;refine N.ba 2 ?_;refine cK pv (p0 6 I I) ?_;rintro d7 b9 ⟨rfl,al⟩;have B:=B.trans al (fun b n k=>k) (fun b n k=>k.elim);have P:=P.aL al
 try have F:=F.trans al (fun b n k=>k) (fun b n k=>k.elim)
 obtain⟨E,A,_⟩:=bG al E A
 try have Q:=Q.trans al (fun b n k=>k) (fun b n k=>k.elim)
 have d8:=al.size;have b2:=O.al al;refine N.cx b2 ?_;refine N.ba 5 ?_;refine cK pv (p0 11 I I) ?_;rintro d9 ca ⟨rfl,aq⟩;have B:=B.trans aq (fun b n k=>k) (fun b n k=>k.elim);have P:=P.aL aq
 try have F:=F.trans aq (fun b n k=>k) (fun b n k=>k.elim)
 obtain⟨E,A,_⟩:=bG aq E A
 try have Q:=Q.trans aq (fun b n k=>k) (fun b n k=>k.elim)
 have dH:=aq.size;have ch:=(an.refl b9).al aq;refine N.cx ch ?_;have bM:=an.refl ca;refine N.t1 6 o (fun K C=>jX) bM ?_;refine N.ba 9 ?_;refine cK pv (p0 25 I I) ?_;rintro et a5 ⟨rfl,av⟩;have B:=B.trans av (fun b n k=>k) (fun b n k=>k.elim);have P:=P.aL av
 try have F:=F.trans av (fun b n k=>k) (fun b n k=>k.elim)
 obtain⟨E,A,_⟩:=bG av E A
 try have Q:=Q.trans av (fun b n k=>k) (fun b n k=>k.elim)
 have eu:=av.size;have bb:=bM.al av;refine N.cx bb ?_;have bj:=an.refl a5;refine N.t1 10 o (fun K C=>jX) bj ?_;refine N.t1 11 o (fun K C=>fl) bj ?_;refine G.dn aW ?_;have bF:=bj;refine G.O o (dt A.T (4) ez cN)<|G.O o (aY (A.T.drop 4) dY)<|G.O o (dt A.T (5) ez cN)<|G.O o (aY (A.T.drop 5) dY)<|G.O o (M.pq o o o)<|G.O o (dt A.T (4) ez cN)<|G.O o (aY (A.T.drop 4) dY)<|G.O o (M.Is o o)<|G.O o (dt A.T (6) ez cN)<|G.O o (aY (A.T.drop 6) dY)<|G.O o (M.pq o o o)<|G.O o jX<|G.rd o o aW<|G.O o (dt A.T (7) ez cN)<|G.O o (aY (A.T.drop 7) dY)<|G.O o jW<|G.O o jW<|G.O o (dt P.T i kF cN)<|G.O o (aY (P.T.at i<|j8 ko i (by simp[ko];omega)) dY)<|G.O o jW<|G.O o (M.lJ E.T i o kF cN o o I gj)<|G.O o (aY (E.T.at i<|j8 w i I) dY)<|G.O o jW<|G.cJ o (fun K=>an a5 K) [] o ?_;have O:=an.refl a5;refine N.t1 0 o (fun K C=>dt (A.T.aL C) (0) ez cN) O ?_;refine N.t1 1 o (fun K C=>aY (A.T.aL C) dY) O ?_;refine N.t1 3 o (fun K C=>dt (A.T.aL C) (0) ez cN) O ?_;refine N.t1 4 o (fun K C=>aY (A.T.aL C) dY) O ?_;refine N.t1 7 o (fun K C=>dt (A.T.aL C) (0) ez cN) O ?_;refine N.t1 8 o (fun K C=>aY (A.T.aL C) dY) O ?_;refine N.ba 2 ?_;refine cK pv (p0 2 I I) ?_;rintro ev cb ⟨rfl,aA⟩;have B:=B.trans aA (fun b n k=>k) (fun b n k=>k.elim)
 try have F:=F.trans aA (fun b n k=>k) (fun b n k=>k.elim)
 have A:=A.aL aA
 try have Q:=Q.trans aA (fun b n k=>k) (fun b n k=>k.elim)
 have ey:=aA.size;have cj:=O.al aA;refine N.cx cj ?_;refine N.ba 5 ?_;refine cK pv (p0 13 I I) ?_;rintro hj cc ⟨rfl,aB⟩;have B:=B.trans aB (fun b n k=>k) (fun b n k=>k.elim)
 try have F:=F.trans aB (fun b n k=>k) (fun b n k=>k.elim)
 have A:=A.aL aB
 try have Q:=Q.trans aB (fun b n k=>k) (fun b n k=>k.elim)
 have eC:=aB.size;have dB:=(an.refl cb).al aB;refine N.cx dB ?_;have bN:=an.refl cc;refine N.t1 6 o (fun K C=>jX) bN ?_;refine N.ba 9 ?_;refine cK pv (p0 22 I I) ?_;rintro eE cd ⟨rfl,aC⟩;have B:=B.trans aC (fun b n k=>k) (fun b n k=>k.elim)
 try have F:=F.trans aC (fun b n k=>k) (fun b n k=>k.elim)
 have A:=A.aL aC
 try have Q:=Q.trans aC (fun b n k=>k) (fun b n k=>k.elim)
 have eF:=aC.size;have be:=bN.al aC;refine N.cx be ?_;have bk:=an.refl cd;refine N.t1 10 o (fun K C=>jX) bk ?_;refine N.t1 11 o (fun K C=>fl) bk ?_;refine G.dn aW ?_;have bF:=bk;refine G.O o (dt A.T (0) ez cN)<|G.O o (aY A.T dY)<|G.O o (dt A.T (1) ez cN)<|G.O o (aY (A.T.drop 1) dY)<|G.O o (M.pq o o o)<|G.O o (dt A.T (0) ez cN)<|G.O o (aY A.T dY)<|G.O o (dt A.T (2) ez cN)<|G.O o (aY (A.T.drop 2) dY)<|G.O o (M.pq o o o)<|G.O o jX<|G.O o (dt A.T (1) ez cN)<|G.O o (aY (A.T.drop 1) dY)<|G.O o (dt A.T (2) ez cN)<|G.O o (aY (A.T.drop 2) dY)<|G.O o (M.pq o o o)<|G.O o jX<|G.O o (dt A.T (6) ez cN)<|G.O o (aY (A.T.drop 6) dY)<|G.O o (dt A.T (5) ez cN)<|G.O o (aY (A.T.drop 5) dY)<|G.O o (dt A.T (4) ez cN)<|G.O o (aY (A.T.drop 4) dY)<|G.O o (dt A.T (3) ez cN)<|G.O o (aY (A.T.drop 3) dY)<|G.O o jW<|G.O o (dt A.T (2) ez cN)<|G.O o (aY (A.T.drop 2) dY)<|G.O o (dt A.T (1) ez cN)<|G.O o (aY (A.T.drop 1) dY)<|G.O o (dt A.T (0) ez cN)<|G.O o (aY A.T dY)<|G.O o jW<|G.O o (M.cast (v2:= .int .u32 (yU q (ko.getD i 0) (w.getD i 0)+two q).toNat) jW<|bn (fun z:UInt32=>Value.int .u32 z.toNat)<|UInt32.add_assoc (yU q (ko.getD i 0)<|w.getD i 0) _ _)<|G.O o (dt A.T (7) ez cN)<|G.bl o (S.df A 7 _ o o o o cN a_ o) ?_;rintro cQ ⟨A,a6⟩;have B:=B.trans a6 (fun b n k=>k) (fun b n k=>by omega)
 try have F:=F.trans a6 (fun b n k=>k) (fun b n k=>by omega)
 try have Q:=Q.trans a6 (fun b n k=>k) (fun b n k=>by omega)
 have eG:=a6.size;refine G.O o (dt A.T (6) ez cN)<|G.bl o (S.df A 6 _ o o o o cN a_ o) ?_;rintro cU ⟨A,ba⟩;have B:=B.trans ba (fun b n k=>k) (fun b n k=>by omega)
 try have F:=F.trans ba (fun b n k=>k) (fun b n k=>by omega)
 try have Q:=Q.trans ba (fun b n k=>k) (fun b n k=>by omega)
 have eI:=ba.size;refine G.O o (dt A.T (5) ez cN)<|G.bl o (S.df A 5 _ o o o o cN a_ o) ?_;rintro cV ⟨A,bc⟩;have B:=B.trans bc (fun b n k=>k) (fun b n k=>by omega)
 try have F:=F.trans bc (fun b n k=>k) (fun b n k=>by omega)
 try have Q:=Q.trans bc (fun b n k=>k) (fun b n k=>by omega)
 have eJ:=bc.size;refine G.O o (dt A.T (4) ez cN)<|G.bl o (S.df A 4 _ o o o o cN a_ o) ?_;rintro cW ⟨A,aH⟩;have B:=B.trans aH (fun b n k=>k) (fun b n k=>by omega)
 try have F:=F.trans aH (fun b n k=>k) (fun b n k=>by omega)
 try have Q:=Q.trans aH (fun b n k=>k) (fun b n k=>by omega)
 have el:=aH.size;refine G.O o (dt A.T (3) ez cN)<|G.bl o (S.df A 3 _ o o o o cN a_ o) ?_;rintro cX ⟨A,am⟩;have B:=B.trans am (fun b n k=>k) (fun b n k=>by omega)
 try have F:=F.trans am (fun b n k=>k) (fun b n k=>by omega)
 try have Q:=Q.trans am (fun b n k=>k) (fun b n k=>by omega)
 have em:=am.size;refine G.O o (dt A.T (2) ez cN)<|G.bl o (S.df A 2 _ o o o o cN a_ o) ?_;rintro cY ⟨A,bd⟩;have B:=B.trans bd (fun b n k=>k) (fun b n k=>by omega)
 try have F:=F.trans bd (fun b n k=>k) (fun b n k=>by omega)
 try have Q:=Q.trans bd (fun b n k=>k) (fun b n k=>by omega)
 have gq:=bd.size;refine G.O o (dt A.T (1) ez cN)<|G.bl o (S.df A 1 _ o o o o cN a_ o) ?_;rintro cZ ⟨A,ap⟩;have B:=B.trans ap (fun b n k=>k) (fun b n k=>by omega)
 try have F:=F.trans ap (fun b n k=>k) (fun b n k=>by omega)
 try have Q:=Q.trans ap (fun b n k=>k) (fun b n k=>by omega)
 have eK:=ap.size;refine G.O o (dt A.T (0) ez cN)<|G.bl o (S.df A 0 _ o o o o cN a_ o) ?_;rintro c0 ⟨A,aU⟩;have B:=B.trans aU (fun b n k=>k) (fun b n k=>by omega)
 try have F:=F.trans aU (fun b n k=>k) (fun b n k=>by omega)
 try have Q:=Q.trans aU (fun b n k=>k) (fun b n k=>by omega)
 have eL:=aU.size;exact G.O o bB<|G.aQ o<|fO (i+1,uv q (ko.getD i 0) (w.getD i 0)) _ ⟨I,by rw[C]<;>rfl,A,Q⟩;obtain rfl:i=64:=by omega
 have cy:xb st q=compress st (((m++gI m.length).drop (64*j)).take 64):=by rw[C,aw];rfl
 refine G.bd o (fun(i:Nat)=>[(2,.pointer (some ⟨V.size,0,none⟩)),(3,.pointer (some ⟨ag.size,0,none⟩)),(4,.pointer (some ⟨U.size,0,none⟩)),(5,aK),(6,.pointer (some ⟨T.size,0,none⟩)),(7,.int .i64 ((64*j:Nat):Int)),(12,.pointer (some ⟨bi.size,0,none⟩)),(19,.int .i64 i)])
  (fun(i:Nat) (H:Heap)=>(i<=8)/\Var 315 H U.size ((qe st.list q.list i).map fw)/\W (fun c=>c=U.size) bw H)
  (fun(i:Nat)=>8-i) 0 ⟨I,L,W.refl _ _⟩ ?_
 rintro i cx ⟨aQ,L,ai⟩ ej cl;have B:=B.trans ai (fun b n k=>k) (fun b n k=>by omega)
 try have F:=F.trans ai (fun b n k=>k) (fun b n k=>by omega)
 have E:=E.up ai I;have A:=A.up ai I;have eO:=ai.size;have bK:=L.lt;have eT:=Ea st.list q.list o o aQ;refine G.ip o ?_ ?_<;>intro c1;refine G.dc 9 o o aW<|G.O o (dt L.T i ez cN)<|G.O o (M.cast (v2:= .int .u32 (st.list.getD i 0).toNat) (aY (L.T.at i<|j8 _ i I) dY) (by rw[D_ st.list q.list i o o I]))<|G.O o (dt A.T i ez cN)<|G.O o (aY (A.T.at i<|j8 q.list i bU) dY)<|G.O o jW<|G.O o (dt L.T i ez cN)<|G.bl o (S.df L (0+i) _ o o o o cN bU<|map_set _ i _) ?_;rintro iI ⟨L,aV⟩;have B:=B.trans aV (fun b n k=>k) (fun b n k=>by omega)
 try have F:=F.trans aV (fun b n k=>k) (fun b n k=>by omega)
 try have ai:=ai.trans aV (fun b n k=>k) (fun b n k=>by omega)
 have eP:=aV.size;exact G.O o bB<|G.aQ o<|cl (i+1) _ ⟨I,by rw[<-Eb st.list q.list i o o I];exact L,ai⟩;obtain rfl:i=8:=by omega
 have L:Var 315 cx U.size ((xb st q).list.map fw):=L;exact G.O o bB<|G.aQ o<|cf (j+1,compress st (((m++gI m.length).drop (64*j)).take 64),w) _ ⟨I,Ti bH I,I,cy▸L,E,F⟩;have cA:64*j=(m++gI m.length).length:=by omega
 rw[cA,e5 (dF _)]at bH;have cD:o7 st.list=sumOf m:=by rw[sumOf,bH]
 refine G.aR o (Z.bt mZ) ?_;rintro en bV ⟨rfl,ae,bO,_⟩;have B:=B.trans bO (fun b n k=>k) (fun b n k=>k.elim);obtain⟨R,L,_⟩:=bG bO R L;have a0:=ae.lt;have ae:Var 40 bV aP.size ((List.replicate 32 (0:UInt8)).map hR):=ae
 refine G.bd o (fun(aa:Nat×(List UInt8))=>match aa with|(i,J)=>[(2,.pointer (some ⟨V.size,0,none⟩)),(4,.pointer (some ⟨U.size,0,none⟩)),(20,.pointer (some ⟨aP.size,0,none⟩)),(21,.int .i64 i)])
  (fun(i,J) (H:Heap)=>(i<=32)/\J.length=32/\J.take i=(o7 st.list).take i/\Var 40 H aP.size (J.map hR)/\W (fun c=>c=aP.size) bV H)
  (fun(i,J)=>32-i) (0,List.replicate 32 0) ⟨I,by simp,by simp,ae,W.refl _ _⟩ ?_
 rintro⟨i,J⟩ ep ⟨aQ,cC,bD,ae,ak⟩ er ck;have B:=B.trans ak (fun b n k=>k) (fun b n k=>by omega);have R:=R.up ak I;have L:=L.up ak I;have eQ:=ak.size;have a0:=ae.lt;refine G.ip o ?_ ?_<;>intro cO;refine G.ae 2 o (M.Sb o o o I)<|G.O o (M.lJ L.T (i/4) o ez cN o o I gj)<|G.O o (aY (L.T.at (i/4)<|j8 st.list (i/4) bU) dY)<|G.O o (M.CQ o o o I)<|G.O o lB<|G.O o eA<|G.O o (M.rP (24-8*(i%4)) o o o I I)<|G.O o (M.r9 o p6 kg o)<|G.O o (dt ae.T i kf db)<|G.bl o (S.df ae (0+i) _ o o o o db bU (BZ)) ?_;rintro bh ⟨ae,bg⟩;have B:=B.trans bg (fun b n k=>k) (fun b n k=>by omega)
 try have ak:=ak.trans bg (fun b n k=>k) (fun b n k=>by omega)
 have ex:=bg.size;exact G.O o bB<|G.aQ o<|ck (i+1,J.set i (UInt8.ofNat (nm (st.list.getD (i/4) 0) (24-8*(i%4))).toNat)) _ ⟨I,by simp[cC],Dz bD I (IJ _ I),ae,ak⟩;obtain rfl:i=32:=by omega
 rw[e5 I,e5 (by rw[CC];omega),cD]at bD;subst bD;refine G.O o (bu ae.T dj bE o)<|G.bl o (S.var R ((sumOf m).map hR) ((sumOf m).map hR) o o o o (by intro u hu;obtain⟨x,_,rfl⟩:=dp.1 hu;rfl) bE o (hC o) (by simp[eD,pa])) ?_;rintro dI ⟨R,c9⟩;have B:=B.trans c9 (fun b n k=>k) (fun b n k=>by omega);exact G.rc o (lo o o R.T dj bE yS) ⟨o,B⟩
def Vg:∀w,(zeroValue 338).run prog w= .ok (.agg (aj (List.replicate 8 0) (List.replicate 64 0) 0 0).toArray) w:=fun w=>by kernel_rfl
def TM{cs vs:List Value}(h:cs.length=vs.length):eD cs 0 vs=vs:=by simp[eD,<-h]
def PB{s:List UInt32}:∀u∈aj s wt n vq73z,u.oneCell'=true:=by
 intro u hu;simp only[aj,gR,dp,dI,kN,or_false]at hu;rcases hu with(⟨x,_,rfl⟩|⟨x,_,rfl⟩)|rfl|rfl<;>rfl
def Tf:∀(n:Nat) (s:h3) (b:List UInt8),b.length<=n->(fu s b).2.length=b.length%64:=by
 intro n;induction n with
 |zero=>intro s b h;rw[oq s b I];simp only;omega
 |succ n ih=>
  intro s b h;by_cases hb:b.length<64;rw[oq s b hb];simp only;omega;rw[uw s b I,ih _ _ bU];simp;omega
def Te(s:h3)(b:List UInt8):(fu s b).2.length=b.length%64:=Tf _ s b (dF _)
def RP(z:Nat):(List.replicate (1+z) (0:UInt8)).set 0 0x80=0x80::List.replicate z 0:=by rw[vy,List.replicate_succ,x9]
def RF{s:List UInt32}(i k:Nat)(n:i<8)(r:k<4):(o7 s)[4*i+k]?=some (UInt8.ofNat (nm (s.getD i 0) (24-8*k)).toNat):=by
 rw[IJ s I,show(4*i+k)/4=i by omega,show(4*i+k)%4=k by omega]
def R9{hb:Nat}{m:List UInt8}{w0:World}(aI:nr V hb m (UInt64.ofNat m.length))(b1:m.length<=1099511627776):
 a8 prog w0 229 #[.pointer (some ⟨hb,0,none⟩)] V (fun r U=>r= .agg ((sumOf m).map hR).toArray/\W (fun c=>False) V U):=by
 refine G.gq func229 o ?_;obtain⟨wt,aa,K,aK⟩:=aI.ex;have aV:=JL fU m;have aX:=Te fU m;obtain⟨n,ar⟩:∃n,(fu fU m).2.length=n:=⟨_,o⟩;have aR:=aK;rw[ar]at K aK aV aX;have bc:=K.lt;have bd:=aI.lt;have C:W (fun c=>False) V V:=W.refl _ _;refine G.aR o (Z.bt mZ) ?_;rintro v2 U ⟨rfl,E,aq,_⟩;have K:=K.aL aq;have C:=C.trans aq (fun b B A=>A) (fun b B A=>A.elim);have bl:=aq.size;have a6:=E.lt;have E:Var 40 U V.size ((List.replicate 32 (0:UInt8)).map hR):=E;refine G.O o (bu K.T Lj JO<|qq o aa)<|G.aR o (Z.gA<|Z.nT o Vg) ?_;rintro v3 aM ⟨rfl,F,av,_⟩;have K:=K.aL av;have C:=C.trans av (fun b B A=>A) (fun b B A=>A.elim);obtain⟨E,_⟩:=cv av E;have ba:=F.lt;have F:Var 338 aM U.size (aj (List.replicate 8 0) (List.replicate 64 0) 0 0):=F;refine G.bl o (S.var F (aj (fu fU m).1.list wt n<|UInt64.ofNat m.length) (aj (fu fU m).1.list wt n<|UInt64.ofNat m.length) o o o o (PB) JO (qq o aa) (hC o)<|TM (by rw[qq a_ a_,qq o aa])) ?_;rintro aw ⟨F,ai⟩;have K:=K.up ai I;have C:=C.trans ai (fun b B A=>A) (fun b B A=>by omega);have E:=E.up ai I;have bm:=ai.size;have b2:mM m.length=(119-m.length%64)%64:=rfl;refine G.aK o mV bV o<|G.O o (aY (F.T.at 72<|x2 o aa) cQ)<|G.O o eA<|G.O o (M.CQ o o o I)<|G.O o bB<|G.aR o (Z.cV<|Z.QI (1+mM m.length) ((0:UInt8)) o dv zL o eM fy o o hd I I) ?_;rintro c7 bo ⟨ac,aH,_⟩;have K:=K.aL aH;have C:=C.trans aH (fun b B A=>A) (fun b B A=>A.elim);obtain⟨E,F,_⟩:=bG aH E F;have aP:=ac.le;refine G.O o (jP ac (0) c_ db)<|G.bl o (S.RM ac (0) 0 ((0x80:UInt8)) o o o o db gj aO o) ?_;rintro aB ⟨ac,ad⟩;have K:=K.up ad I;have C:=C.trans ad (fun b B A=>A) (fun b B A=>by omega);have E:=E.up ad I;have F:=F.up ad I;have bq:=ad.size;rw[RP]at ac
 refine G.bd o (fun(ag:Nat×Value×Nat×(List UInt8))=>match ag with|(j,P,T,ys)=>[(0,.pointer (some ⟨hb,0,none⟩)),(2,.pointer (some ⟨V.size,0,none⟩)),(3,.pointer (some ⟨U.size,0,none⟩)),(4,P),(5,.int .i64 (8*(j:Int)-8))])
  (fun(j,P,T,ys) (H:Heap)=>(j<=8)/\aS T 5 H a7 1 P ys/\(T=0\/T=aw.size+1\/aB.size<T)/\ys++dH j (UInt64.ofNat (8*m.length))=(0x80::List.replicate (mM m.length) (0:UInt8))++dH 8 (UInt64.ofNat (8*m.length))/\W (fun c=>c=aw.size) aB H)
  (fun(j,P,T,ys)=>j) (8,c7,aw.size+1,(0x80::List.replicate (mM m.length) (0:UInt8))) ⟨I,ac,I,o,W.refl _ _⟩ ?_
 rintro⟨j,P,T,ys⟩ bt ⟨bZ,ac,b0,ae,N⟩ aZ bD;have K:=K.up N I;have C:=C.trans N (fun b B A=>A) (fun b B A=>by omega);have E:=E.up N I;have F:=F.up N I;have bw:=N.size;have aP:=ac.le;have b6:ys.length+j=mM m.length+9:=by have:=bn List.length ae;simpa[ft]using this
 have b4:mM m.length<64:=by rw[mM];omega
 refine G.ip o ?_ ?_<;>intro bQ;obtain⟨j,rfl⟩:∃q,j=q+1:=⟨j-1,by omega⟩;refine G.aK o mV zj o<|G.O o (aY (K.T.at 73<|G3 o aa) D6)<|G.ae 0 o (M.cast (v2:= .int .u64 (UInt64.ofNat (8*m.length)).toNat) (M.QW (b:=(UInt64.ofNat 8)) o o o) (by rw[<-UInt64.ofNat_mul,ss]))<|G.O o (M.uB (8*j) o o o hd I)<|G.O o (M.r9 o hO kg o)<|G.aR o (Z.cV<|c5 _ ([UInt8.ofNat (mo (UInt64.ofNat (8*m.length)) (8*j)).toNat]) dv eM fy) ?_;rintro bz bA ⟨aC,ak,_⟩;have C:=C.trans ak (fun b B A=>A) (fun b B A=>A.elim);have ac:=ac.aL ak
 try have N:=N.trans ak (fun b B A=>A) (fun b B A=>A.elim)
 have bC:=ak.size;have bf:=aC.le;refine G.aR o (dd ac aC.rd dv gm gm) ?_;rintro bT bF ⟨br,aE,bs,am⟩;have C:=C.trans am (fun b B A=>A) (fun b B A=>by omega)
 try have N:=N.trans am (fun b B A=>A) (fun b B A=>by omega)
 have bH:=am.size;have bg:=aE.le;exact G.O o eA<|G.aQ o<|bD (j,bT,br,ys++[UInt8.ofNat (mo (UInt64.ofNat (8*m.length)) (8*j)).toNat]) _ ⟨I,aE,I,by rw[<-ae,ew]<;>rfl,N⟩;obtain rfl:j=0:=by omega
 rw[dH,hD]at ae;have ae:ys=gI m.length:=by rw[ae];rfl
 subst ae;refine G.aR o (Z.cV<|Z.HE _ ([((ck P,gI m.length):ay×List UInt8)]) o pJ o o o aO aO k_ la (by simp only[dQ,mJ,iu];rw[ac.a6,ac.rd.N0])) ?_;rintro bI bK ⟨aF,az,_⟩;have C:=C.trans az (fun b B A=>A) (fun b B A=>A.elim);obtain⟨E,F,ac,_⟩:=cg az E F ac;have a1:=aF.le;refine G.aC o E4 (K3 (hb:=U.size) (m:=m) (vq73z:=(UInt64.ofNat m.length)) (l:=[((ck P,gI m.length):ay×List UInt8)]) (w0:=w0) ⟨wt,aa,ar▸F,aR⟩ (aF.rd.imp fun b _ h=>by omega) (by intro x aL;simp only[fm]at aL;subst aL;simp only;rw[ac.a6];exact ac.rd.imp (fun b _ h=>by omega))) ?_;rintro bL Q ⟨rfl,aJ,ap⟩;have aT:m++cat [((ck P,gI m.length):ay×List UInt8)]=m++gI m.length:=by simp[cat]
 rw[aT]at aJ;obtain⟨b7,b5,F,bX⟩:=aJ.ex;have C:=C.trans ap (fun b B A=>A) (fun b B A=>by omega);have E:=E.up ap I;have bR:=ap.size;refine G.aR o (Z.bt mZ) ?_;rintro v6 ax ⟨rfl,L,aG,_⟩;have C:=C.trans aG (fun b B A=>A) (fun b B A=>A.elim);obtain⟨E,F,_⟩:=bG aG E F;have aA:=L.lt;have L:Var 40 ax Q.size ((List.replicate 32 (0:UInt8)).map hR):=L;refine G.aK o mV ow o<|G.O o (M.cast (v2:= .agg ((fu fU (m++gI m.length)).1.list.map fw).toArray) (bu (F.T.take 8) w9 ow o) o) ?_
 refine G.bd o (fun(ag:Nat×(List UInt8))=>match ag with|(i,J)=>[(2,.pointer (some ⟨V.size,0,none⟩)),(6,.pointer (some ⟨Q.size,0,none⟩)),(40,.agg ((fu fU (m++gI m.length)).1.list.map fw).toArray),(41,.int .i64 i)])
  (fun(i,J) (H:Heap)=>(i<=8)/\J.length=32/\J.take (4*i)=(o7 (fu fU (m++gI m.length)).1.list).take (4*i)/\Var 40 H Q.size (J.map hR)/\W (fun c=>c=Q.size) ax H)
  (fun(i,J)=>8-i) (0,List.replicate 32 0) ⟨I,by simp,by simp,L,W.refl _ _⟩ ?_
 rintro⟨i,J⟩ aQ ⟨bY,al,R,L,O⟩ bM aN;have C:=C.trans O (fun b B A=>A) (fun b B A=>by omega);have E:=E.up O I;have bS:=O.size;have aA:=L.lt;refine G.ip o ?_ ?_<;>intro bW;refine G.O o (M.z7 i o ez cN dY o o hd I ((by rw[List.getElem?_toArray];exact j8 (fu fU (m++gI m.length)).1.list i bU))) ?_
 refine G.bd o (fun(ag:Nat×(List UInt8))=>match ag with|(k,J)=>[(2,.pointer (some ⟨V.size,0,none⟩)),(6,.pointer (some ⟨Q.size,0,none⟩)),(7,.int .i64 i),(8,.int .u32 ((fu fU (m++gI m.length)).1.list.getD i 0).toNat),(40,.agg ((fu fU (m++gI m.length)).1.list.map fw).toArray),(41,.int .i64 i),(45,.int .i64 k)])
  (fun(k,J) (H:Heap)=>(k<=4)/\J.length=32/\J.take (4*i+k)=(o7 (fu fU (m++gI m.length)).1.list).take (4*i+k)/\Var 40 H Q.size (J.map hR)/\W (fun c=>c=Q.size) aQ H)
  (fun(k,J)=>4-k) (0,J) ⟨I,al,R,L,W.refl _ _⟩ ?_
 rintro⟨k,J⟩ bN ⟨bP,al,R,L,X⟩ bO a0;have C:=C.trans X (fun b B A=>A) (fun b B A=>by omega)
 try have O:=O.trans X (fun b B A=>A) (fun b B A=>by omega)
 have bh:=X.size;have aA:=L.lt;refine G.ip o ?_ ?_<;>intro bj;refine G.O o lB<|G.O o bB<|G.O o lB<|G.O o eA<|G.O o (M.rP (24-8*k) o o o I I)<|G.O o (M.r9 o p6 kg o)<|G.O o (dt L.T (4*i+k) kf db)<|G.bl o (S.df L (0+(4*i+k)) _ o o o o db bU<|BZ (w:=J) (j:=(4*i+k))) ?_;rintro a9 ⟨L,ah⟩;have C:=C.trans ah (fun b B A=>A) (fun b B A=>by omega)
 try have O:=O.trans ah (fun b B A=>A) (fun b B A=>by omega)
 try have X:=X.trans ah (fun b B A=>A) (fun b B A=>by omega)
 have bk:=ah.size;exact G.O o bB<|G.aQ o<|a0 (k+1,J.set (4*i+k) (UInt8.ofNat (nm ((fu fU (m++gI m.length)).1.list.getD i 0) (24-8*k)).toNat)) _ ⟨I,by simp[al],Dz (w:=J) (i:=(4*i+k)) R I (RF i k I I),L,X⟩;obtain rfl:k=4:=by omega
 rw[show 4*i+4=4*(i+1)by omega]at R;exact G.O o bB<|G.aQ o<|aN (i+1,J) _ ⟨I,al,R,L,O⟩;obtain rfl:i=8:=by omega
 rw[e5 I,e5 (by rw[CC];omega),show o7 (fu fU (m++gI m.length)).1.list=sumOf m from rfl]at R;subst R;refine G.O o (bu L.T dj bE o)<|G.bl o (S.var E ((sumOf m).map hR) ((sumOf m).map hR) o o o o (by intro u hu;obtain⟨x,_,rfl⟩:=dp.1 hu;rfl) bE o (by simp[pa]) (by simp[eD,pa])) ?_;rintro bb ⟨E,aU⟩;have C:=C.trans aU (fun b B A=>A) (fun b B A=>by omega);exact G.rc o (lo o o E.T dj bE yS) ⟨o,C⟩
def Ru(n:Nat):(0:UInt64)+UInt64.ofNat n=UInt64.ofNat n:=by simp
def R3{O:Value}{l:List (ay×List UInt8)}{w0:World}(E:b_ H iu 1 O l)(F:∀x∈l,b_ H a7 1 x.1.v x.2)(U:(cat l).length<=1099511627776):
 a8 prog w0 192 #[O] H (fun r M=>r= .agg ((sumOf (cat l)).map hR).toArray/\W (fun c=>False) H M):=by
 refine G.gq func192 o ?_;have E:=E.lt;have F:=fun x C=>(F x C).lt;have B:W (fun c=>False) H H:=W.refl _ _;refine G.aR o (Z.bt mZ) ?_;rintro v2 M ⟨rfl,n,ac,_⟩;have E:=E.aL ac;have F:=fun x C=>(F x C).up ac (fun b A k P=>P);have B:=B.trans ac (fun b A k=>k) (fun b A k=>k.elim);have ae:=ac.size;have ad:=n.lt;have n:Var 40 M H.size ((List.replicate 32 (0:UInt8)).map hR):=n;refine G.aC o Na (Rg) ?_;rintro v4 V ⟨rfl,K,L,T⟩;have E:=E.aL L;have F:=fun x C=>(F x C).up L (fun b A k P=>P);have B:=B.trans L (fun b A k=>k) (fun b A k=>k.elim);obtain⟨n,_⟩:=cv L n;have ag:=K.lt;refine G.aC o E4 (K3 K (E.imp fun b _ h=>by omega) fun x C=>(F x C).imp (fun b _ h=>by omega)) ?_;rintro ah X ⟨rfl,K,N⟩;rw[gw,Ru]at K;have B:=B.trans N (fun b A k=>k) (fun b A k=>by omega);have n:=n.up N I;have ap:=N.size;refine G.aC o Nb (R9 K U) ?_;rintro v9 aa ⟨rfl,Q⟩;have B:=B.trans Q (fun b A k=>k) (fun b A k=>k.elim);obtain⟨n,T⟩:=cv Q n;refine G.bl o (S.var n ((sumOf<|cat l).map hR) ((sumOf<|cat l).map hR) o o o o (by intro u hu;obtain⟨x,_,rfl⟩:=dp.1 hu;rfl) bE o (by simp[pa]) (by simp[eD,pa])) ?_;rintro am ⟨n,R⟩;have B:=B.trans R (fun b A k=>k) (fun b A k=>by omega);exact G.rc o (lo o o n.T dj bE yS) ⟨o,B⟩
abbrev Rec:=List UInt8
def gO:List UInt8:=[83,76,86,71,87,65,76,49]
def l8(n:Nat)(r:Rec):List UInt8:=(sumOf (E.dH 8 (UInt64.ofNat n)++r)).take 8
def gy(n:Nat)(r:Rec):List UInt8:=l7 r.length++(l8 n r++r)
def iC(n:Nat)(r:Rec):List UInt8:=gy n r++[67]
def e9:Nat->List Rec->List UInt8
 |_,[]=>[]
 |n,r::l=>iC n r++e9 (n+1) l
def ek(l:List Rec):List UInt8:=gO++e9 0 l
def vc(n:Nat)(r:Rec):(l8 n r).length=8:=by unfold l8;rw[eC,pa];rfl
def qC(n:Nat)(r:Rec):(gy n r).length=12+r.length:=by unfold gy;rw[b2,b2,vc,pr];omega
def um(n:Nat)(r:Rec):(iC n r).length=13+r.length:=by unfold iC;rw[b2,qC];simp;omega
def vh:∀(a b:List Rec) (n:Nat),e9 n (a++b)=e9 n a++e9 (n+a.length) b
 |[],b,n=>rfl
 |r::a,b,n=>by rw[me,e9,vh a b (n+1),e9,ew,fA,show n+1+a.length=n+(a.length+1)by omega]
def AV(l:List Rec)(r:Rec):ek (l++[r])=ek l++iC l.length r:=by unfold ek;rw[vh,ew];simp[e9]
def Gd:∀(l:List Rec) (n:Nat),(e9 n l).length=(l.map (fun r=>13+r.length)).sum
 |[],n=>rfl
 |r::l,n=>by rw[e9,b2,Gd l,um];simp
def O4(l:List Rec):(ek l).length=8+(l.map (fun r=>13+r.length)).sum:=by unfold ek;rw[b2,Gd];rfl
def dC(b:List UInt8):Nat:=j2 0 (b.take 4)
def fI(n:Nat)(b:List UInt8):Option Rec:=
 if b.length<=12\/1048576<dC b\/b.length-12<=dC b then none
 else if b.getD (12+dC b) 0=67/\(b.drop 4).take 8=l8 n ((b.drop 12).take (dC b))then some ((b.drop 12).take (dC b))else none
def sK{b:List UInt8}{r:Rec}(h:fI n b=some r):r.length=dC b/\13+r.length<=b.length/\r.length<=1048576:=by
 unfold fI at h;split at h;cases h;rename_i k;split at h;have e:=mG h;rw[<-e,eC,h6];omega;cases h
def om:Nat->Nat->List UInt8->List Rec
 |0,_,_=>[]
 |f+1,n,b=>match fI n b with
  |none=>[]
  |some r=>r::om f (n+1) (b.drop (13+r.length))
def CF:∀(f g n:Nat) (b:List UInt8),b.length<=f->b.length<=g->om f n b=om g n b
 |0,0,_,_,_,_=>rfl
 |0,g+1,n,b,h,_=>by
  have:fI n b=none:=by unfold fI;rw[aD (.inl I)]
  simp[om,this]
 |f+1,0,n,b,_,h=>by
  have:fI n b=none:=by unfold fI;rw[aD (.inl I)]
  simp[om,this]
 |f+1,g+1,n,b,k,A=>by
  unfold om;cases h:fI n b with
  |none=>rfl
  |some r=>
   have:=sK h;simp only;rw[CF f g (n+1) _ (by rw[h6];omega) (by rw[h6];omega)]
def mN(n:Nat)(b:List UInt8):List Rec:=om b.length n b
def wx{b:List UInt8}(h:fI n b=none):mN n b=[]:=by
 unfold mN;cases hb:b.length with
 |zero=>rfl
 |succ f=>simp[om,h]
def CH{b:List UInt8}{r:Rec}(h:fI n b=some r):mN n b=r::mN (n+1) (b.drop (13+r.length)):=by
 have k:=sK h;unfold mN;rw[CF b.length (b.length+1) n b (dF _) I,om,h];show r::om b.length (n+1) (b.drop (13+r.length))=_;rw[CF b.length _ (n+1) (b.drop (13+r.length)) (by rw[h6];omega) (dF _)]
def Eu(n:Nat)(r:Rec)(t:List UInt8)(h:r.length<4294967296):dC (gy n r++t)=r.length:=by
 unfold dC gy;rw[ew,kP (pr _),LX h]
def IC(n:Nat){r:Rec}{t:List UInt8}(h:r.length<=1048576):fI n (iC n r++t)=some r:=by
 have e:iC n r++t=l7 r.length++(l8 n r++(r++(67::t))):=by unfold iC gy;simp
 have hb:dC (iC n r++t)=r.length:=by unfold iC;rw[ew,Eu n r _ I]
 have E:(iC n r++t).length=13+r.length+t.length:=by rw[b2,um]
 have k:(iC n r++t).drop 12=r++(67::t):=by
  rw[e,<-ew,mI (by rw[b2,vc,pr])]
 have A:((iC n r++t).drop 4).take 8=l8 n r:=by
  rw[e,mI (pr _),kP (vc _ _)]
 have B:((iC n r++t).drop 12).take r.length=r:=by rw[k,kP rfl]
 have C:(iC n r++t).getD (12+r.length) 0=67:=by
  have:(iC n r++t).getD (12+r.length) 0=((iC n r++t).drop 12).getD r.length 0:=by
   simp only[List.getD_eq_getElem?_getD,List.getElem?_drop]
  rw[this,k];simp[List.getD_eq_getElem?_getD]
 unfold fI;rw[hb,au I,B,A,aD ⟨C,o⟩]
def IS:∀(l:List Rec) (n:Nat) (t:List UInt8),(∀r∈l,r.length<=1048576)->mN n (e9 n l++t)=l++mN (n+l.length) t
 |[],n,t,_=>rfl
 |r::l,n,t,h=>by
  rw[e9,ew,CH (IC n (h r fZ)),mI (um n r),IS l (n+1) t (fun x k=>h x (gx _ k)),me,fA,show n+1+l.length=n+(l.length+1)by omega]
def LU:∀(a b c d:UInt8),l7 (j2 0 [a,b,c,d])=[a,b,c,d]:=fun a b c d=>by
 have k:=a.toNat_lt;have hb:=b.toNat_lt;have aj:=c.toNat_lt;have ab:=d.toNat_lt;simp only[j2,kO,List.foldl_nil,l7,j6,and_true];refine⟨?_,?_,?_,?_⟩<;>(apply qx;rw[tH];omega)
def yW{b:List UInt8}{r:Rec}(h:fI n b=some r):b=iC n r++b.drop (13+r.length):=by
 have k:=sK h;unfold fI at h;split at h;cases h;rename_i C;split at h;rename_i A;have e:=mG h;rw[e,<-k.1]at A;have E:b.take 4=l7 r.length:=by
  rw[k.1];unfold dC
  match b,C with
  |a::b::c::d::t,_=>exact(LU a b c d).symm
 have F:(b.drop 12).take r.length=r:=by rw[k.1];exact e
 have H:b.drop (12+r.length)=67::b.drop (13+r.length):=by
  have B:12+r.length<b.length:=by omega
  rw[na B,show 12+r.length+1=13+r.length by omega];have:=A.1;rw[List.getD_eq_getElem?_getD,List.getElem?_eq_getElem B]at this;rw[show b[12+r.length]=67 from this]
 calc b=b.take 4++b.drop 4:=(hY 4 b).symm
  _=b.take 4++((b.drop 4).take 8++(b.drop 4).drop 8):=bn (fun x=>b.take 4++x) (hY 8 (b.drop 4)).symm
  _=l7 r.length++(l8 n r++b.drop 12):=by rw[E,A.2,nc]
  _=l7 r.length++(l8 n r++(r++(b.drop 12).drop r.length)):=by
   rw[show(b.drop 12)=(b.drop 12).take r.length++(b.drop 12).drop r.length from(hY _ _).symm,F];rw[mI rfl]
  _=iC n r++b.drop (13+r.length):=by rw[nc,H];unfold iC gy;simp
 cases h
def RA{b:List UInt8}{r:Rec}:fI n b=some r↔r.length<=1048576/\∃t,b=iC n r++t:=
 ⟨fun h=>⟨(sK h).2.2,_,yW h⟩,fun⟨h,t,e⟩=>by rw[e];exact IC n h⟩
def hk(b:List UInt8):Nat:=if b.take 8=gO then 0 else 16
def eV(b:List UInt8):List Rec:=if b.take 8=gO then mN 0 (b.drop 8)else[]
def mO(b:List UInt8):Nat:=if b.take 8=gO then(ek (eV b)).length else 0
def Gk(l:List Rec)(t:List UInt8):(ek l++t).take 8=gO:=by unfold ek;rw[ew,kP (show gO.length=8 from o)]
def IP(l:List Rec)(t:List UInt8):hk (ek l++t)=0:=by unfold hk;rw[aD (Gk l t)]
def IQ{l:List Rec}(t:List UInt8)(h:∀r∈l,r.length<=1048576):eV (ek l++t)=l++mN l.length t:=by
 unfold eV;rw[aD (Gk l t)];unfold ek;rw[ew,mI (show gO.length=8 from o),IS l 0 t h,kv]
def RQ{l:List Rec}(h:∀r∈l,r.length<=1048576):eV (ek l)=l:=by
 have:=IQ [] h;rw[hD,wx (by simp[fI]),hD]at this;exact this
def IT:∀(f:Nat) (n:Nat) (b:List UInt8),∀r∈om f n b,r.length<=1048576
 |0,_,_,r,h=>by cases h
 |f+1,n,b,r,h=>by
  unfold om at h;split at h;cases h;rename_i x k;rcases dI.1 h with e|h
  rw[e];exact(sK k).2.2;exact IT f _ _ r h
def wv{b:List UInt8}:∀r∈eV b,r.length<=1048576:=fun r h=>by
 unfold eV at h;split at h;exact IT _ _ _ r h;cases h
def IU:∀(f n:Nat) (b:List UInt8),b.length<=f->∃t,b=e9 n (mN n b)++t/\fI (n+(mN n b).length) t=none
 |0,n,b,h=>by
  have:fI n b=none:=by unfold fI;rw[aD (.inl I)]
  rw[wx this];exact⟨b,o,by simpa using this⟩
 |f+1,n,b,h=>by
  cases k:fI n b with
  |none=>rw[wx k];exact⟨b,o,by simpa using k⟩
  |some r=>
   have B:=sK k;obtain⟨t,e,A⟩:=IU f (n+1) (b.drop (13+r.length)) (by rw[h6];omega);rw[CH k];refine⟨t,?_,by rw[fA,show n+((mN (n+1) (b.drop (13+r.length))).length+1)=n+1+(mN (n+1) (b.drop (13+r.length))).length by omega];exact A⟩;rw[e9,ew,<-e];exact yW k
def CG{b:List UInt8}(h:hk b=0):∃t,b=ek (eV b)++t/\fI (eV b).length t=none:=by
 have n:b.take 8=gO:=by unfold hk at h;split at h;assumption;cases h
 obtain⟨t,e,r⟩:=IU _ 0 (b.drop 8) (dF _);have k:eV b=mN 0 (b.drop 8):=by unfold eV;rw[aD n]
 refine⟨t,?_,by rw[k];simpa using r⟩;rw[k];unfold ek;rw[ew,<-e,<-n,hY]
def IV(b:List UInt8):mO b<=b.length:=by
 unfold mO;split;rename_i h;obtain⟨t,e,_⟩:=CG (b:=b) (by unfold hk;rw[aD h]);have:=bn List.length e;rw[b2]at this;omega;omega
def RR{b:List UInt8}(h:hk b=0)(k:mO b=b.length):b=ek (eV b):=by
 have n:b.take 8=gO:=by unfold hk at h;split at h;assumption;cases h
 unfold mO at k;rw[aD n]at k;obtain⟨t,e,_⟩:=CG h;have:=bn List.length e;rw[b2]at this;have:t=[]:=lT I;rw[this,hD]at e;exact e
def Uu(n:Nat){r:Rec}(k z:Nat)(h:k+z<=12+r.length)(af:r.length<=1048576):fI n ((gy n r).take k++List.replicate z 0)=none:=by
 have E:((gy n r).take k).length=k:=by rw[eC,qC];omega
 have H:((gy n r).take k++List.replicate z (0:UInt8)).length=k+z:=by rw[b2,E,qv]
 unfold fI;by_cases K:k+z<=12;rw[aD (.inl I)];by_cases F:4<=k;have hb:dC ((gy n r).take k++List.replicate z 0)=r.length:=by
  have:((gy n r).take k++List.replicate z (0:UInt8)).take 4=(gy n r).take 4:=by
   rw[rm I,sv,kx F]
  have A:=Eu n r [] I;rw[hD]at A;unfold dC at A⊢;rw[this,A]
 rw[aD (.inr (.inr (by rw[hb,H];omega)))];by_cases C:((gy n r).take k++List.replicate z (0:UInt8)).length<=12\/1048576<dC ((gy n r).take k++List.replicate z 0)\/((gy n r).take k++List.replicate z (0:UInt8)).length-12<=dC ((gy n r).take k++List.replicate z 0);rw[aD C];rw[au C,au];rintro⟨B,_⟩;have:((gy n r).take k++List.replicate z (0:UInt8)).getD (12+dC ((gy n r).take k++List.replicate z 0)) 0=0:=by
  rw[List.getD_eq_getElem?_getD,List.getElem?_append_right I,List.getElem?_replicate];split<;>rfl
 rw[this]at B;cases B
abbrev bp(l:List (ay×Rec)):List Rec:=l.map (·.2)
def AU{l:List (ay×Rec)}{i:Nat}(h:i<l.length):e9 0 (bp (l.take (i+1)))=e9 0 (bp (l.take i))++iC i l[i].2:=by
 have e:(bp (l.take i)).length=i:=by simp;omega
 rw[fc h];unfold bp;rw[hc,vh];unfold bp at e;rw[e];simp[e9]
def O3(l:List (ay×Rec))(i:Nat):(e9 0 (bp (l.take i))).length<=(e9 0 (bp l)).length:=by
 have h:l=l.take i++l.drop i:=(hY i l).symm;have k:bp l=bp (l.take i)++bp (l.drop i):=by unfold bp;rw[<-hc,<-h]
 rw[k,vh,b2];omega
def Ge{l:List (ay×Rec)}{i:Nat}(h:i<l.length):(e9 0 (bp (l.take i))).length+(13+l[i].2.length)<=(e9 0 (bp l)).length:=by
 have:=O3 l (i+1);rw[AU h,b2,um]at this;exact this
def Iy{v:Value}(n:Nat){x:UInt64}{w0:World}(A:aS k 5 V a7 1 v wt)(ar:n<=8)(aE:wt.length<=1099511627776):
 a8 prog w0 175 #[v,.int .i64 n,.int .u64 x.toNat] V (fun r O=>∃v2:Value,∃R:Nat,r=v2/\aS R 5 O a7 1 v2 (wt++E.dH n x)/\U k V.size R/\W (aq [k]) V O):=by
 refine G.bc [k] func175 o fun K=>?_;have P:=U.refl k V.size;have ad:=A.le;refine G.O o eA ?_
 refine G.bd o (fun(al:Nat×Value×Nat×(List UInt8))=>match al with|(j,F,C,ys)=>[(0,F),(2,.int .u64 x.toNat),(7,.int .i64 ((j:Int)-1))])
  (fun(j,F,C,ys) (H:Heap)=>(j<=n)/\aS C 5 H a7 1 F ys/\ys++E.dH j x=wt++E.dH n x/\U k V.size C/\W (aq [k]) V H)
  (fun(j,F,C,ys)=>j) (n,v,k,wt) ⟨I,A,o,U.refl _ _,W.refl _ _⟩ ?_
 rintro⟨j,F,C,ys⟩ ax ⟨aC,A,L,ac,B⟩ av ai;have ak:=U.al P ac K.size;obtain⟨K,_⟩:=cz B K (ah.r P);have ad:=A.le;have aH:=ac;have aF:ys.length+j=wt.length+n:=by have:=bn List.length L;simpa[E.ft]using this
 refine G.ip o ?_ ?_<;>intro aw;obtain⟨j,rfl⟩:∃q,j=q+1:=⟨j-1,by omega⟩;refine G.O o lB<|G.O o (M.uB (8*j) o o o hd I)<|G.O o (M.r9 o hO kg o)<|G.aR o (Z.cV<|c5 _ ([UInt8.ofNat (mo x (8*j)).toNat]) dv eM fy) ?_;rintro ay az ⟨aa,ae,_⟩;obtain⟨A,B,_⟩:=bG ae A B;refine G.aR o (dd A aa.rd dv gm gm) ?_;rintro S aA ⟨T,Q,ag,N⟩;have N:=N.md;have X:=U.al aH ag B.size;obtain⟨B,_⟩:=cz N B (ah.r aH);have aB:=Q.le;exact G.O o eA<|G.aQ o<|ai (j,S,T,ys++[UInt8.ofNat (mo x (8*j)).toNat]) _ ⟨I,Q,by rw[<-L,ew]<;>rfl,X,B⟩;obtain rfl:j=0:=by omega
 rw[E.dH,hD]at L;subst L;exact G.rt o ⟨F,C,o,A,ak,K⟩
def TK{vs cs:List Value}(h:cs.length=vs.length):eD cs 0 vs=vs:=by simp[eD,h]
def FB{s:ay}{w0:World}(af:b_ H a7 1 s.v wt)(az:wt.length<=1099511000000):
 a8 prog w0 138 #[.int .i64 (n:Int),s.v] H (fun r K=>∃t:ay,r=t.v/\Rd (fun b=>H.size<=b) K a7 1 t.v (l8 n wt)/\an H K):=by
 refine G.bN func138 o fun k=>?_;have af:=af.cD;refine G.O o (M.cast (v2:= .int .u64 (UInt64.ofNat n).toNat) (M.jh o ht hO o) o)<|G.aC o EV (Iy 8 (aS.nil eM fy) I a_) ?_;rintro P aa ⟨ai,aA,rfl,A,ak,ad⟩;have af:=af.aA ad (aB.J aw.z);have k:=k.gK ad (ag.cons ah.z ag.nil);have al:=ad.size;have ac:=A.le;rw[gw]at A;obtain⟨O,rfl⟩:∃s:ay,P=s.v:=⟨ck P,A.a6.symm⟩;refine G.aR o (Z.cV<|c5 _ ([(O,E.dH 8 (UInt64.ofNat n)),(s,wt)]) pJ k_ la) ?_;rintro aq av ⟨R,T,_⟩;obtain⟨af,A,k,_⟩:=cg T af A k;refine G.aC o M0 (R3 R.rd.any (fun x N=>by simp only[dI,kN,or_false]at N;rcases N with rfl|rfl;exact A.rd.any;exact af.any) (by simp[cat,E.ft];omega)) ?_;rintro ax W ⟨rfl,V⟩;obtain⟨k,_⟩:=cv V k;rw[show cat [(O,E.dH 8 (UInt64.ofNat n)),(s,wt)]=(E.dH 8 (UInt64.ofNat n)++wt)from by simp[cat]];refine G.aR o (Z.aU mZ<|(List.replicate 32 (0:UInt8)).map hR) ?_;rintro v5 X ⟨rfl,B,aH,_⟩;have am:=U.new k.size;obtain⟨k,_⟩:=cv aH k;refine G.bl o (S.var B ((sumOf (E.dH 8 (UInt64.ofNat n)++wt)).map hR) ((sumOf (E.dH 8 (UInt64.ofNat n)++wt)).map hR) o o o o (by intro u hu;obtain⟨x,_,rfl⟩:=dp.1 hu;rfl) bE (by simp[pa]) (by simp[pa])<|TK (by simp[pa])) ?_;rintro ae ⟨B,Q⟩;obtain⟨k,_⟩:=cz Q k am;refine G.hj (g:=fun v=>v) o (M.wL (F:=fun c=>c=W.size) (f:=a7) (xs:=sumOf (E.dH 8 (UInt64.ofNat n)++wt)) B.T o B.lt (pa _) (fun i x h=>⟨by simp[h],o⟩) (0) (8) o (fun w=> .inl (kf w)) db o (.inl ⟨o,o⟩) (.inr ⟨_,_,_,o,o,by first|rfl|omega⟩) I I aO) fun L C=>?_;rw[mf]at C;obtain⟨aU,rfl⟩:∃s:ay,L=s.v:=⟨ck L,C.a6.symm⟩;exact G.rt o ⟨aU,o,(C.imp fun b _ e=>by omega),k⟩
def KX{s:ay}(rc:List UInt8){w0:World}(af:b_ H a7 1 s.v rc)(av:rc.length<=4294967000):
 a8 prog w0 111 #[.int .i64 (n:Int),s.v] H (fun r E=>∃t:ay,∃k:Nat,r=t.v/\aS k 5 E a7 1 t.v (gy n rc)/\U 0 H.size k/\an H E):=by
 refine G.bN func111 o fun A=>?_;have af:=af.cD;refine G.O o (bz af c_)<|G.O o (M.cast (v2:= .int .u64 (UInt64.ofNat rc.length).toNat) (M.jh o ht hO o) o)<|G.aC o EV (Iy 4 (aS.nil eM fy) I a_) ?_;rintro N W ⟨ae,ax,rfl,B,bt,ad⟩;have af:=af.aA ad (aB.J aw.z);have A:=A.gK ad (ag.cons ah.z ag.nil);have ai:=ad.size;have ac:=B.le;rw[gw]at B;obtain⟨L,rfl⟩:∃s:ay,N=s.v:=⟨ck N,B.a6.symm⟩;rw[Iv I]at B;refine G.aC o EM (FB af.any I) ?_;rintro ak al ⟨F,rfl,C,O⟩;obtain⟨af,B,A,_⟩:=cg O af B A;have C:=C.cD;refine G.aR o (Z.cV<|c5 _ ([(L,l7 rc.length),(F,l8 n rc),(s,rc)]) pJ k_ la) ?_;rintro ap aq ⟨P,Q,_⟩;obtain⟨af,B,C,A,_⟩:=dZ Q af B C A;refine G.aC o ET (FG P.rd.any (fun x K=>by simp only[dI,kN,or_false]at K;rcases K with rfl|rfl|rfl;exact B.rd.any;exact C.any;exact af.any) (by simp[jg,pr,vc];omega)) ?_;rintro X aa ⟨aU,V,rfl,R,S,T⟩;have aH:=U.al (U.refl 0 _) S A.size;have A:=A.al T;exact G.rt o ⟨aU,V,o,by have e:jg [(L,l7 rc.length),(F,l8 n rc),(s,rc)]=gy n rc:=(by simp[jg,gy]);rw[<-e];exact R,aH,A⟩
def O6{s:ay}{l:List (ay×Rec)}{w0:World}(B:b_ V iu 1 s.v l)(E:∀x∈l,b_ V a7 1 x.1.v x.2)(aG:∀x∈l,x.2.length<=1048576)(a_:(e9 0 (bp l)).length<=1099510000000):
 a8 prog w0 129 #[s.v] V (fun r P=>∃t:ay,∃k:Nat,r=t.v/\aS k 5 P a7 1 t.v (ek (bp l))/\U 0 V.size k/\an V P):=by
 refine G.bN func129 o fun C=>?_;have B:=B.cD;have E:=fun x ag=>(E x ag).cD;have aA:bk (fun b=>True/\b<V.size) V.size:=fun b h=>h.2;have bd:=B.len;refine G.aR o (Z.cV<|c5 _ gO dv eM fy) ?_;rintro v6 aK ⟨n,ai,_⟩;have ae:=aw.new (B.c7.mono C.size);have R:=aw.new (aA.mono C.size);have aH:=U.new C.size;obtain⟨B,E,C,_⟩:=cg ai B E C;refine G.aR o (Z.xi n aO o underlying93 underlying5 o) ?_;rintro aJ Q ⟨rfl,n,ak⟩;obtain⟨B,E,C,_⟩:=dg ak B ae E R C aH;refine G.O o (bz B je) ?_
 refine G.bd o (fun(aI:Nat×Value×Nat)=>match aI with|(i,F,L)=>[(3,F),(8,s.v),(9,.int .i64 (l.length:Int)),(10,.int .i64 (i:Int))])
  (fun(i,F,L) (H:Heap)=>(i<=l.length)/\aS L 5 H a7 1 F (gO++e9 0 (bp (l.take i)))/\U (V.size+1) Q.size L/\W (aq [(V.size+1)]) Q H)
  (fun(i,F,L)=>l.length-i) (0,aJ,(V.size+1)) ⟨I,by simpa only[pN,bp,mJ,e9,hD]using n,U.refl _ _,W.refl _ _⟩ ?_
 rintro⟨i,F,L⟩ aV ⟨bc,n,T,A⟩ aL al;have av:=U.al aH T C.size;obtain⟨B,E,C,_⟩:=dg A B ae E R C aH;have ac:=n.le;have S:=T;refine G.ip o ?_ ?_<;>intro aQ;have K:i<l.length:=by omega
 have ba:=Ge K;have bf:=aG l[i] (cS K);have a6:gO.length=8:=rfl;have bg:=qC i l[i].2;refine G.pp o (M.cw B i o je cZ o o) fun aR ap=>G.O o (aY ap.T eI)<|G.aC o EH (KX l[i].2 (E l[i] (cS K)).any I) ?_;rintro aX aZ ⟨a0,a2,rfl,X,aT,aU⟩;obtain⟨n,A,_⟩:=bG aU n A;have a1:=X.le;refine G.aR o (dd n X.rd dv (by simp only[b2];omega) (by simp only[b2];omega)) ?_;rintro a3 a4 ⟨a5,n,aB,N⟩;have N:=N.md;have aa:=U.al S aB A.size;obtain⟨A,_⟩:=cz N A (ah.r S);have ac:=n.le;refine G.aR o (Z.cV<|c5 _ ([(67:UInt8)]) dv eM fy) ?_;rintro aM aN ⟨aC,bt,_⟩;obtain⟨n,A,_⟩:=bG bt n A;refine G.aR o (dd n aC.rd dv (by simp only[b2,ik];omega) (by simp only[b2,ik];omega)) ?_;rintro ax aP ⟨az,n,aE,O⟩;have O:=O.md;have aF:=U.al aa aE A.size;obtain⟨A,_⟩:=cz O A (ah.r aa);have ac:=n.le;exact G.O o bB<|G.aQ o<|al (i+1,ax,az) _ ⟨I,by rw[AU K,<-ew];unfold iC;rw[<-ew];exact n,aF,A⟩;refine G.rt o ?_;have K:i=l.length:=by omega
 rw[K,eQ]at n;obtain⟨so,rfl⟩:∃s:ay,F=s.v:=⟨ck F,n.a6.symm⟩;exact⟨so,L,o,n,av,C⟩
def Gn{s t:ay}{a b:List UInt8}{w0:World}(k:b_ H a7 1 s.v a)(hb:b_ H a7 1 t.v b):
 a8 prog w0 137 #[s.v,t.v] H (fun r n=>r= .bool (decide (a=b))/\an H n):=by
 refine G.bN func137 o fun A=>?_;have k:=k.cD;have hb:=hb.cD;exact G.O o (M.oK k o underlying93 underlying9 underlying5 o)<|G.O o (M.oK hb o underlying93 underlying9 underlying5 o)<|G.ae 0 o (M.ox o o o)<|G.rt o ⟨o,A⟩
end Go.Proofs.YtncnignagcoahaaGreatDoor.E
