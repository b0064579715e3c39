/-
  Contracts of functions of the program, and plain laws: put together of several texts.
-/
import Derived.Test.YtncnignagcoahaaGreatDoorGf
set_option linter.unusedVariables false
set_option linter.unusedSimpArgs false
set_option linter.unusedSectionVars false
set_option linter.defProp false
set_option maxHeartbeats 8000000
set_option maxRecDepth 100000
namespace Go.Proofs.YtncnignagcoahaaGreatDoor.E
open Go.RowKit Go.Proofs.Tryz
variable{n k:Nat}{H V:Heap}{br:Bool}{L:List Rec}{vq33z:List Nat}
def Ob:∀n:Fin 256,decide (((n.1&&&1:Nat):Int)=1)=bX n.1:=by decide+kernel
def Oc:∀n:Fin 256,decide (((n.1&&&2:Nat):Int)=2)=bM n.1:=by decide+kernel
def w2{aX:Nat->Prop}:gi aX H gT:=⟨Rd.nil _ _ _ _,Rd.nil _ _ _ _,Rd.nil _ _ _ _,nofun⟩
def I7{z:bg}(e:(il z).2.e=0):(z.aN 1).1<=3/\(lY (bM (h1 z).1) (rE (kB (bX (h1 z).1) (h1 z).2).2).2).2.e=0:=by
 obtain⟨C,r,_⟩:=IM (bX (h1 z).1) (h1 z).2;obtain⟨E,bo,_⟩:=wh Cf (kB (bX (h1 z).1) (h1 z).2).2;obtain⟨F,B,_⟩:=IN (bM (h1 z).1) (rE (kB (bX (h1 z).1) (h1 z).2).2).2;obtain⟨H,A,_⟩:=wh Ca (lY (bM (h1 z).1) (rE (kB (bX (h1 z).1) (h1 z).2).2).2).2;have n:=(cc.l (cc.hq aO) e).1;have k:=(A.l n).1;exact⟨jS (Ce aO (r.l (bo.l (B.l k).1).1).1),k⟩
def R7{z eE z2 z3 y:bg}{ab:List UInt8}{a:List b9}(gq:n=(z.aN 1).1)(bc:eE=(z.aN 1).2)(r:z2=eE.hq (decide (n<=3)) 16)(h:kB (bX n) z2=(ab,z3))(A:bg.bd jE (z3.aN 2).1 (z3.aN 2).2=(a,y))(e:(il z).2.e=0):(lY (bM n) y).2.e=0:=by
 have k:=(I7 e).2;subst gq bc r;rw[show kB (bX (h1 z).1) (h1 z).2=(ab,z3)from h]at k;rw[show rE z3=(a,y)from A]at k;exact k
def Oq{s:ay}{bs:List UInt8}{F:Nat->Prop}{w0:World}(hb:Rd F V a7 1 s.v bs)(ae:bk F V.size)(aL:bs.length<=1048576):
 a8 prog w0 26 #[s.v] V (fun r O=>∃cr:b5,∃dc:Int,∃aX:Nat->Prop,r= .tuple #[hG cr,.int .i64 dc]/\(∀u:Unit,gi aX O cr)/\bk aX O.size/\(∀b,aX b->V.size<=b)/\((gW bs).2.e=0->l4 cr (gW bs).1)/\(dc=0↔(gW bs).2.e=0)/\an V O):=by
 refine G.bN func26 o fun C=>?_;obtain⟨z,cf⟩:∃q,q=(⟨bs,0⟩:bg):=⟨_,o⟩;have Y:z.c<:+bs:=by rw[cf];exact yq _
 have eQ:=qL (z:=z) (n:=1) aO;have cj:gW bs=il z:=by rw[cf];rfl
 refine G.aR o (Z.aU pg<|cM gT) ?_;rintro v2 O ⟨rfl,E,eR,_⟩;have bf:=U.new C.size;obtain⟨hb,C,_⟩:=bG eR hb C;refine G.O o (M.build (v:= .agg #[s.v,.int .i64 0,.bool false]) o o eN)<|G.aR o (Z.bT ([s.v,.int .i64 0,.bool false])) ?_;rintro d7 Q ⟨rfl,A,dV,_⟩;have R:=aw.new (ae.mono C.size);have aF:=ai.new E.lt;have az:=U.new C.size;obtain⟨hb,E,C,_⟩:=cg dV hb E C;have A:Var 209 Q O.size [s.v,.int .i64 ((cq bs (z).c:Nat):Int),.bool (decide ((z).e≠0))]:=mX A (by rw[cf,show cq bs bs=0 from sC _]<;>rfl);refine G.aR o (Z.aU pg<|cM gT) ?_;rintro v5 fa ⟨rfl,B,bK,_⟩;have aP:=aw.new (ae.mono C.size);have aQ:=ai.new E.lt;have aa:=ai.new A.lt;have a0:=U.new C.size;obtain⟨hb,E,A,C,_⟩:=dZ bK hb E A C;refine G.aC o pA (pD 1 A hb (ae.mono I) R Y aO) ?_;rintro d8 d9 ⟨rfl,A,dN⟩;obtain⟨hb,E,B,C,_⟩:=dx dN hb R E aF B aa.symm C az;obtain⟨bx,bR⟩:∃q,q=(z.aN 1).1:=⟨_,o⟩;rw[<-bR]at eQ;obtain⟨eE,bS⟩:∃q,q=(z.aN 1).2:=⟨_,o⟩;rw[<-bS]at A;have cm:eE.c<:+bs:=bS▸(cc.aN.s).trans Y;refine G.ae 0 o (M.cast (v2:= .int .i64 (bx:Int)) fl (by rw[bR]))<|G.ae 1 o (M.cast (v2:= .bool (decide (3<bx))) jY<|bn Value.bool<|decide_eq_decide.2 I)<|G.ci o ?_ ?_<;>intro bT;have bT:3<bx:=by simpa using bT
 have aE:(gW bs).2.e≠0:=fun e=>by rw[cj]at e;have bh:=(I7 e).1;omega
 refine G.O o (bu B.T gY fe<|cY _)<|G.bl o (S.var E _ (cM gT) o o o o (lP) fe (cY _) aO ((ea (cY _).symm))) ?_;rintro fp ⟨E,br⟩;obtain⟨C,_⟩:=cz br C bf;exact G.rc o (qP o o E.T gY fe (cY _) o) ⟨gT,16,(fun _=>False),o,(fun _=>w2),(fun b e=>e.elim),(fun b e=>e.elim),(fun e=>absurd e aE),⟨nofun,fun e=>absurd e aE⟩,C⟩
 ·
  have bT:¬3<bx:=by simpa using bT
  have df:eE=eE.hq (decide (bx<=3)) 16:=(aD (fB I)).symm;refine G.O o (M.Ec o o o I<|hC o)<|G.ae 0 o (M.cast (v2:= .bool (bX bx)) (M.eql o o o)<|bn Value.bool<|Ob ⟨bx,by omega⟩)<|G.aK o b0 c8 o<|G.bl o (gu B 0 (cM {gT with bP:=bX bx}) c8 (by rw[cY];decide) o) ?_;rintro fq ⟨B,ed⟩;obtain⟨hb,E,A,C,_⟩:=dx ed hb aP E aQ A aa C a0;refine G.O o (M.Ec o o o I<|hC o)<|G.ae 0 o (M.cast (v2:= .bool (bM bx)) (M.eql o o o)<|bn Value.bool<|Oc ⟨bx,by omega⟩)<|G.aK o b0 c8 o<|G.bl o (gu B 3 (cM {gT with bP:=bX bx,Y:=bM bx}) c8 (by rw[cY];decide) o) ?_;rintro ba ⟨B,ee⟩;obtain⟨hb,E,A,C,_⟩:=dx ee hb aP E aQ A aa C a0
  refine G.bw 0 o (fun(aV:(List UInt8)×bg)=>match aV with|(ab,z3)=>[(0,s.v),(2,.pointer (some ⟨V.size,0,none⟩)),(4,.pointer (some ⟨O.size,0,none⟩)),(5,.pointer (some ⟨Q.size,0,none⟩))])
   (fun(ab,z3) (H:Heap)=>(Var 209 H O.size [s.v,.int .i64 ((cq bs (z3).c:Nat):Int),.bool (decide ((z3).e≠0))])/\Var 46 H Q.size (cM ({gT with bP:=bX bx,Y:=bM bx,ab:=ab}))/\(z3.c<:+bs)/\kB (bX bx) eE=(ab,z3)/\W (aq [(O.size+1),(Q.size+1)]) ba H) (fun _ cV=>?_) ?_
  have a1:W (aq [(O.size+1),(Q.size+1)]) ba ba:=W.refl _ _;refine G.aG o B.T b0 c8 eW o o<|G.ci o ?_ ?_<;>intro bq;have bq:bX bx=true:=bq;refine G.aC o va (vg 1 A hb (ae.mono I) R cm aL aO) ?_;rintro fy fY ⟨rfl,A,dO⟩;obtain⟨B,a1,_⟩:=de dO B aa.symm a1 (ah.r (U.refl (O.size+1) ba.size));refine G.aK o b0 b7 o<|G.bl o (gu B 1 (cM {gT with bP:=bX bx,Y:=bM bx,ab:=(eE.cG 1).1}) b7 (by rw[cY];decide) o) ?_;rintro fA ⟨B,a3⟩;obtain⟨A,a1,_⟩:=de a3 A aa a1 (ah.r (U.refl (Q.size+1) ba.size));exact G.aQ o<|cV ((eE.cG 1).1,(eE.cG 1).2) _ ⟨A,B,cc.cG.s.trans cm,aD bq,a1⟩;have bq:bX bx=false:=bq;exact G.aQ o<|cV ([],eE) _ ⟨A,B,cm,au (by simp[bq]),a1⟩
  ·
   rintro⟨ab,z3⟩ fc dA;obtain⟨A,B,c1,dk,bI⟩:=dA;have hb:=hb.aA bI (aB.cons R (aB.J aP));have E:=E.aA bI (ak.cons aF (ak.J aQ));have C:=C.gK bI (ag.cons (ah.q az) (ag.J (ah.q a0)));have ft:=bI.size;refine G.aC o pA (pD 2 A hb (ae.mono I) R c1 aO) ?_;rintro fZ bL ⟨rfl,A,dP⟩;obtain⟨hb,E,B,C,_⟩:=dx dP hb R E aF B aa.symm C az;have eS:=(cc.aN (z:=z3) (n:=2)).s.trans c1;have e2:=oi z3;obtain⟨bZ,cb⟩:∃q,q=(z3.aN 2).1:=⟨_,o⟩;rw[<-cb]at e2;refine G.ae 0 o (M.cast (v2:= .int .i64 (bZ:Int)) fl (by rw[cb])) ?_
   refine G.bd o (fun(aV:Nat×bg×(List b9)×ay×Nat)=>match aV with|(k,y,a,s1,aJ)=>[(0,s.v),(2,.pointer (some ⟨V.size,0,none⟩)),(4,.pointer (some ⟨O.size,0,none⟩)),(5,.pointer (some ⟨Q.size,0,none⟩)),(8,.int .i64 (bZ:Int)),(9,.int .i64 ((bZ-k:Nat):Int))])
    (fun(k,y,a,s1,aJ) (H:Heap)=>(k<=bZ)/\Var 209 H O.size [s.v,.int .i64 ((cq bs (y).c:Nat):Int),.bool (decide ((y).e≠0))]/\Var 46 H Q.size (cM ({gT with bP:=bX bx,Y:=bM bx,ab:=ab,fH:=s1,ml:=a}))/\aS aJ 70 H ep 66 s1.v a/\(y.c<:+bs)/\bg.bd jE (z3.aN 2).1 (z3.aN 2).2=(a++(bg.bd jE k y).1,(bg.bd jE k y).2)/\U 0 bL.size aJ/\ai (O.size+1) aJ/\ai (Q.size+1) aJ/\W (aq [(O.size+1),(Q.size+1)]) bL H)
    (fun(k,y,a,s1,aJ)=>k) (bZ,(z3.aN 2).2,[],dq,0) ⟨I,A,B,(aS.nil fF l9),eS,(by rw[cb];exact tZ),U.refl _ _,ai.z,ai.z,W.refl _ _⟩ ?_ ⟨o,o,o,o,o,(by rw[sC]<;>rfl),trivial⟩
   rintro⟨k,y,a,s1,aJ⟩ a6 ⟨e1,A,B,K,aG,aU,b2,dC,dD,L⟩ gb eI;have eJ:=ai.app ai.z E.lt b2;have gF:=U.al (U.refl 0 _) b2 C.size;have hb:=hb.aA L (aB.cons R (aB.J aP));have E:=E.aA L (ak.cons aF (ak.J aQ));have C:=C.gK L (ag.cons (ah.q az) (ag.J (ah.q a0)));have fu:=L.size;have a4:=K.le;have aA:=dC;have bm:=dD;have ad:=U.refl (O.size+1) bL.size;have cW:=b2;have eZ:=tW aU;refine G.ae 2 o (M.cast (v2:= .bool (decide (0<k))) (M.lss o o o)<|bn Value.bool<|decide_eq_decide.2 I)<|G.fY (v:=(decide (0<k/\y.e=0))) 1 6 46 40 o (fun ca bU=>?_) (fun ca bU=>?_) ?_;exact G.aG o A.T jM c8 eW o o<|G.O o (M.cast (v2:= .bool (decide (y.e=0))) e7<|bn Value.bool a_)<|bU 1 o (by simp[ca]);exact bU 6 o (by simp[ca]);refine G.ip o ?_ ?_<;>intro gG;obtain⟨bd,cp⟩:=gG;have bl:=(cc.cG (z:=y) (n:=1)).s.trans aG;have dr:=(cc.id (z:=(y.cG 1).2)).s.trans bl;have e5:=(cc.id (z:=(y.cG 1).2.id.2)).s.trans dr;refine G.aC o va (vg 1 A hb (ae.mono I) R aG aL aO) ?_;rintro gd hj ⟨rfl,A,aC⟩;obtain⟨hb,B,K,C,L,_⟩:=fT aC hb R B aa.symm K aA.symm C az L (ah.r ad);refine G.O o (M.build (v:=qI ⟨(y.cG 1).1,bO,bO,[]⟩) o o eN)<|G.aR o (Z.bt p9) ?_;rintro gf gg ⟨rfl,al,eL,_⟩;have a5:=aw.new (ae.mono C.size);have aR:=ai.new A.lt;have bo:=ai.new B.lt;have bt:=ai.new K.le;have bA:=U.new L.size;obtain⟨hb,A,B,K,L,_⟩:=d_ eL hb A B K L;refine G.bl o (S.var al _ (ep ⟨(y.cG 1).1,bO,bO,[]⟩) o o o o (l9 _) fD (fF _) aO ((ea (fF _).symm))) ?_;rintro dl ⟨al,dw⟩;obtain⟨hb,A,B,K,L,_⟩:=fT dw hb a5 A aR B bo K bt L (ah.q bA);refine G.aC o tl (tn A hb (ae.mono I) R bl aL) ?_;rintro gh gj ⟨rfl,A,co⟩;obtain⟨hb,B,K,al,L,_⟩:=fT co hb R B aa.symm K aA.symm al aR.symm L (ah.r ad);refine G.aK o dJ bE o<|G.bl o (S.var al _ (ep ⟨(y.cG 1).1,(y.cG 1).2.id.1,bO,[]⟩) o o o o (iY _) bE (bJ _) (by rw[fF];exact hC o) ((Ci _).symm)) ?_;rintro bj ⟨al,dy⟩;obtain⟨hb,A,B,K,L,_⟩:=fT dy hb a5 A aR B bo K bt L (ah.q bA);refine G.aC o tl (tn A hb (ae.mono I) R dr aL) ?_;rintro gk gl ⟨rfl,A,eM⟩;obtain⟨hb,B,K,al,L,_⟩:=fT eM hb R B aa.symm K aA.symm al aR.symm L (ah.r ad);refine G.aK o dJ bE o<|G.bl o (S.var al _ (ep ⟨(y.cG 1).1,(y.cG 1).2.id.1,(y.cG 1).2.id.2.id.1,[]⟩) o o o o (iY _) bE (bJ _) (by rw[fF];exact hC o) ((Ii _))) ?_;rintro dn ⟨al,dz⟩;obtain⟨hb,A,B,K,L,_⟩:=fT dz hb a5 A aR B bo K bt L (ah.q bA);refine G.aC o va (vg 2 A hb (ae.mono I) R e5 aL aO) ?_;rintro em gq ⟨rfl,A,cs⟩;obtain⟨B,K,al,L,_⟩:=dx cs B aa.symm K aA.symm al aR.symm L (ah.r ad);refine G.aK o dJ b7 o<|G.bl o (gu al 65 (ep (jE y).1) b7 (by rw[fF];decide) ((Ij))) ?_;rintro fG ⟨al,a9⟩;obtain⟨A,B,K,L,_⟩:=dx a9 A aR B bo K bt L (ah.q bA);refine G.aG o B.T b0 gn gU o o<|G.O o (bu al.T lI fD<|fF _)<|G.aR o (Z.cV<|c5 _ ([(jE y).1]) sl fF l9) ?_;rintro gm gp ⟨e8,eO,_⟩;obtain⟨A,B,K,L,_⟩:=dZ eO A B K L;refine G.aR o (dd K e8.rd sl (by simp only[ik];omega) (by simp only[ik];omega)) ?_;rintro c3 gr ⟨eT,K,bY,b8⟩;have b8:=b8.md;have bw:=ai.app aA A.lt bY;have cy:=ai.app bm B.lt bY;have fO:=U.al cW bY L.size;obtain⟨A,B,L,_⟩:=dg b8 A aA B bm L (ah.q cW);have a4:=K.le;obtain⟨hK,rfl⟩:∃s:ay,c3=s.v:=⟨ck c3,K.a6.symm⟩;refine G.aK o b0 gn o<|G.bl o (gu B 2 (cM {gT with bP:=bX bx,Y:=bM bx,ab:=ab,fH:=hK,ml:=(a++[(jE y).1])}) gn (by rw[cY];decide) ((DM))) ?_;rintro ds ⟨B,bb⟩;obtain⟨A,K,L,_⟩:=dg bb A aa K cy.symm L (ah.r (U.refl (Q.size+1) bL.size));refine G.O o (M.cast (v2:= .int .i64 ((bZ-(k-1):Nat):Int)) bB<|di I)<|G.aQ o<|eI (k-1,(jE y).2,a++[(jE y).1],hK,eT) _ ?_ ?_;exact⟨I,A,B,K,(Ia).trans aG,tY aU bd cp,fO,bw,cy,L⟩;exact tO bd Nat.one_pos
   ·
    have dj:=tX aU gG
    refine G.bw 0 o (fun(aV:dX×bg×ay×Nat)=>match aV with|(q,z5,s2,aM)=>[(0,s.v),(2,.pointer (some ⟨V.size,0,none⟩)),(4,.pointer (some ⟨O.size,0,none⟩)),(5,.pointer (some ⟨Q.size,0,none⟩))])
     (fun(q,z5,s2,aM) (H:Heap)=>(Var 209 H O.size [s.v,.int .i64 ((cq bs (z5).c:Nat):Int),.bool (decide ((z5).e≠0))])/\Var 46 H Q.size (cM ({gT with bP:=bX bx,Y:=bM bx,ab:=ab,fH:=s1,ml:=a,q:={q with c4:=s2},dG:=dq,el:=[]}))/\aS aM 187 H eH 33 s2.v q.bF/\(z5.c<:+bs)/\lY (bM bx) y=(q,z5)/\U 0 a6.size aM/\ai (O.size+1) aM/\ai (Q.size+1) aM/\W (aq [(O.size+1),(Q.size+1)]) a6 H) (fun _ cC=>?_) ?_
    have ap:W (aq [(O.size+1),(Q.size+1)]) a6 a6:=W.refl _ _;refine G.aG o B.T b0 c8 eW o o<|G.ci o ?_ ?_<;>intro aN;have aN:bM bx=true:=aN;refine G.aK o b0 eK o<|G.aC o NJ (OD A hb (ae.mono I) R aG aL B aa aP rfl) ?_;rintro es gv ⟨fg,e_,eU,eV,rfl,A,B,X,eP,eX,eY,e6,dh,bC⟩;have en:=U.al (U.refl 0 _) eP ap.size;have E:=E.aA bC (ak.cons aF (ak.J aQ));have C:=C.gK bC (ag.cons (ah.q az) (ag.J (ah.q a0)));have ap:=ap.bf bC (ag.cons (ah.r (U.refl (O.size+1) a6.size)) (ag.J (ah.r (U.refl (Q.size+1) a6.size))));have fw:=bC.size;have dW:=X.le;refine G.ci o ?_ ?_<;>intro cX;have aE:(gW bs).2.e≠0:=fun e=>by
     rw[cj]at e;have bh:=R7 bR bS df dk dj e;rw[show lY (bM bx) y=y.e1 from aD aN]at bh;exact dh.2 cX bh
    refine G.O o (M.build (v:=hG gT) o o eN)<|G.bl o (S.var E _ (cM gT) o o o o (lP) fe (cY _) aO ((ea (cY _).symm))) ?_;rintro fJ ⟨E,dB⟩;obtain⟨C,_⟩:=cz dB C bf;exact G.rc o (qP o o E.T gY fe (cY _) o) ⟨gT,16,(fun _=>False),o,(fun _=>w2),(fun b e=>e.elim),(fun b e=>e.elim),(fun e=>absurd e aE),⟨nofun,fun e=>absurd e aE⟩,C⟩;exact G.aQ o<|cC (y.e1.1,e_,eU,eV) _ ⟨A,B,X,e6,(aD aN).trans (Prod.ext o<|dh.1 cX),en,eX,eY,ap⟩;have aN:bM bx=false:=aN;exact G.aQ o<|cC (ga,y,dq,0) _ ⟨A,B,aS.nil ib ma,aG,au (by simp[aN]),(.inl o),ai.z,ai.z,ap⟩
    ·
     rintro⟨q,z5,s2,aM⟩ ff dE;obtain⟨A,B,X,bK,e4,ct,dF,dH,ac⟩:=dE;have er:=ai.app ai.z E.lt ct;have et:=U.al (U.refl 0 _) ct C.size;have hb:=hb.aA ac (aB.cons R (aB.J aP));have E:=E.aA ac (ak.cons aF (ak.J aQ));have K:=K.aA ac (ak.cons aA.symm (ak.J bm.symm));have C:=C.gK ac (ag.cons (ah.q az) (ag.J (ah.q a0)));have d0:=ac.size;have dW:=X.le;have bF:=dF;refine G.aC o pA (pD 2 A hb (ae.mono I) R bK aO) ?_;rintro gw bN ⟨rfl,A,eu⟩;obtain⟨hb,E,K,B,X,C,_⟩:=kG eu hb R E aF K aA.symm B aa.symm X bF.symm C az;have d1:=(cc.aN (z:=z5) (n:=2)).s.trans bK;have e3:=oi z5;obtain⟨aZ,cd⟩:∃q,q=(z5.aN 2).1:=⟨_,o⟩;rw[<-cd]at e3;refine G.ae 0 o (M.cast (v2:= .int .i64 (aZ:Int)) fl (by rw[cd])) ?_
     refine G.bd o (fun(aV:Nat×bg×(List b1)×ay×Nat×(List b1)×(Nat->Prop))=>match aV with|(k,y,a2,aY,aK,av,aX)=>[(0,s.v),(2,.pointer (some ⟨V.size,0,none⟩)),(4,.pointer (some ⟨O.size,0,none⟩)),(5,.pointer (some ⟨Q.size,0,none⟩)),(8,.int .i64 (aZ:Int)),(11,.int .i64 ((aZ-k:Nat):Int))])
      (fun(k,y,a2,aY,aK,av,aX) (H:Heap)=>(k<=aZ)/\Var 209 H O.size [s.v,.int .i64 ((cq bs (y).c:Nat):Int),.bool (decide ((y).e≠0))]/\Var 46 H Q.size (cM ({gT with bP:=bX bx,Y:=bM bx,ab:=ab,fH:=s1,ml:=a,q:={q with c4:=s2},dG:=aY,el:=av}))/\aS aK 104 H cA 33 aY.v av/\(∀y∈av,Rd aX H a7 1 y.v.v y.d)/\bk aX H.size/\aw aX aK/\aw aX (V.size+1)/\aw aX (O.size+1)/\aw aX (Q.size+1)/\aw aX aJ/\aw aX aM/\(∀b,aX b->V.size<=b)/\av.map (fun x=>(x.k,x.d))=a2.map (fun x=>(x.k,x.d))/\(y.c<:+bs)/\bg.bd mj (z5.aN 2).1 (z5.aN 2).2=(a2++(bg.bd mj k y).1,(bg.bd mj k y).2)/\U 0 bN.size aK/\ai (O.size+1) aK/\ai (Q.size+1) aK/\W (aq [(O.size+1),(Q.size+1)]) bN H)
      (fun(k,y,a2,aY,aK,av,aX)=>k) (aZ,(z5.aN 2).2,[],dq,0,[],fun _=>False) ⟨I,A,B,(aS.nil eG iJ),(fun x h=>by cases h),(fun b e=>e.elim),(fun b e=>e.elim),(fun b e=>e.elim),(fun b e=>e.elim),(fun b e=>e.elim),(fun b e=>e.elim),(fun b e=>e.elim),(fun b e=>e.elim),rfl,d1,(by rw[cd];exact tZ),U.refl _ _,ai.z,ai.z,W.refl _ _⟩ ?_ ⟨o,o,o,o,o,(by rw[sC]<;>rfl),trivial⟩
     rintro⟨k,y,a2,aY,aK,av,aX⟩ gx ⟨e1,A,B,N,T,aH,f1,f2,f3,f4,f5,f6,cw,ch,aG,aU,b4,dI,dK,P⟩ ex ev;have ey:=ai.app ai.z E.lt b4;have ez:=U.al (U.refl 0 _) b4 C.size;have hb:=hb.aA P (aB.cons R (aB.J aP));have E:=E.aA P (ak.cons aF (ak.J aQ));have K:=K.aA P (ak.cons aA.symm (ak.J bm.symm));have X:=X.aA P (ak.cons bF.symm (ak.J dH.symm));have C:=C.gK P (ag.cons (ah.q az) (ag.J (ah.q a0)));have d3:=P.size;have be:=N.le;have bH:=dI;have cD:=dK;have cx:=U.refl (O.size+1) bN.size;have cE:=b4;have eZ:=tW aU;have gA:av.length=a2.length:=by have bh:=bn List.length ch;simpa using bh
     refine G.ae 2 o (M.cast (v2:= .bool (decide (0<k))) (M.lss o o o)<|bn Value.bool<|decide_eq_decide.2 I)<|G.fY (v:=(decide (0<k/\y.e=0))) 1 6 85 79 o (fun b6 bW=>?_) (fun b6 bW=>?_) ?_;exact G.aG o A.T jM c8 eW o o<|G.O o (M.cast (v2:= .bool (decide (y.e=0))) e7<|bn Value.bool a_)<|bW 1 o (by simp[b6]);exact bW 6 o (by simp[b6]);refine G.ip o ?_ ?_<;>intro c0;obtain⟨bd,cp⟩:=c0;have bl:=(cc.id (z:=y)).s.trans aG;have gz:(y.id.2.cG 4).1.length<=bs.length:=Kv bl;refine G.aC o tl (tn A hb (ae.mono I) R aG aL) ?_;rintro gy d4 ⟨rfl,A,cF⟩;obtain⟨hb,E,K,X,B,N,T,C,_⟩:=kH cF hb R E aF K aA.symm X bF.symm B aa.symm N bH.symm T f3 C az;obtain⟨P,_⟩:=cz cF P (ah.r cx);refine G.O o (M.build (v:= .agg (cA ⟨y.id.1,dq,[]⟩).toArray) o o (by intro w;exact EA _))<|G.aR o (Z.bt pf) ?_;rintro fQ fR ⟨rfl,aI,cG,_⟩;have eA:=aw.new (ae.mono C.size);have eC:=ai.new E.lt;have eD:=ai.new K.le;have ef:=ai.new X.le;have c7:=ai.new A.lt;have cH:=ai.new B.lt;have cI:=ai.new N.le;have cK:=(aw.new (aH.mono I):aw _ (d4.size+1));have eg:=U.new C.size;have cL:=U.new P.size;obtain⟨hb,E,K,X,A,B,N,T,_⟩:=hr cG hb E K X A B N T;obtain⟨C,P,_⟩:=bG cG C P;refine G.bl o (S.var aI _ (cA ⟨y.id.1,dq,[]⟩) o o o o (iJ _) dM (eG _) aO ((ea (eG _).symm))) ?_;rintro fL ⟨aI,cu⟩;obtain⟨hb,E,K,X,A,B,N,T,_⟩:=kH cu hb eA E eC K eD X ef A c7 B cH N cI T cK;obtain⟨C,P,_⟩:=de cu C eg P (ah.q cL);refine G.aC o va (vg 4 A hb (ae.mono I) R bl aL aO) ?_;rintro fS d5 ⟨rfl,A,cN⟩;obtain⟨E,K,X,B,N,T,aI,C,_⟩:=kH cN E aF K aA.symm X bF.symm B aa.symm N bH.symm T f3 aI c7.symm C az;obtain⟨P,_⟩:=cz cN P (ah.r cx);refine G.aR o (Z.zw o underlying9 underlying93 underlying5 o I) ?_;rintro ho fU ⟨ax,eh,fM⟩;have ei:=ai.new A.lt;have cO:=ai.new B.lt;have cP:=ai.new N.le;have ej:=ai.new aI.lt;obtain⟨A,B,N,T,aI,P,_⟩:=f_ eh A B N T aI P;obtain⟨bQ,rfl⟩:∃s:ay,ho=s.v:=⟨ck ho,ax.a6.symm⟩;refine G.aK o hN cZ o<|G.bl o (gu aI 32 (cA (⟨y.id.1,bQ,(y.id.2.cG 4).1⟩:b1)) cZ (by rw[eG];decide) ((H4 _))) ?_;rintro fN ⟨aI,dY⟩;obtain⟨A,B,N,T,ax,P,_⟩:=kG dY A c7 B cH N cI T cK ax ej.symm P (ah.q cL);refine G.a1 o B.T.iT b0 fo gE o<|G.O o (bu aI.T lH dM<|eG _)<|G.aR o (Z.cV<|c5 _ ([(⟨y.id.1,bQ,(y.id.2.cG 4).1⟩:b1)]) lS eG iJ) ?_;rintro fV fW ⟨e9,eF,_⟩;obtain⟨A,B,N,T,ax,P,_⟩:=f_ eF A B N T ax P;refine G.aR o (dd N e9.rd lS (by simp only[ik];omega) (by simp only[ik];omega)) ?_;rintro da fX ⟨d6,N,bc,b_⟩;have b_:=b_.md;have dQ:=ai.app bH A.lt bc;have cv:=ai.app cD B.lt bc;have dS:=aw.app f1 (aH.mono I) bc;have dT:=ai.app cP.symm ax.le bc;have dU:=U.al cE bc P.size;obtain⟨A,B,T,ax,P,_⟩:=fT b_ A bH B cD T f1 ax cP.symm P (ah.q cE);have be:=N.le;obtain⟨db,rfl⟩:∃s:ay,da=s.v:=⟨ck da,N.a6.symm⟩;refine G.aK o b0 fo o<|G.bl o (gu B 74 (cM {gT with bP:=bX bx,Y:=bM bx,ab:=ab,fH:=s1,ml:=a,q:={q with c4:=s2},dG:=db,el:=(av++[(⟨y.id.1,bQ,(y.id.2.cG 4).1⟩:b1)])}) fo (by rw[cY];decide) ((DL))) ?_;rintro fh ⟨B,bi⟩;obtain⟨A,N,T,ax,P,_⟩:=fT bi A aa N cv.symm T f4 ax cO.symm P (ah.r (U.refl (Q.size+1) bN.size));refine G.O o (M.cast (v2:= .int .i64 ((aZ-(k-1):Nat):Int)) bB<|di I)<|G.aQ o<|ev (k-1,(mj y).2,a2++[(mj y).1],db,d6,av++[(⟨y.id.1,bQ,(y.id.2.cG 4).1⟩:b1)],fun b=>aX b\/b+1=(d5.size+1)) _ ?_ ?_;exact⟨I,A,B,N,wM T (fun b e=> .inl e) (ax.rd.imp (fun b _ e=> .inr e)),bk.e0 (aH.mono I) ax.le,aw.e0 dS dT.symm,aw.e0 f2 (ai.new E.lt),aw.e0 f3 ei,aw.e0 f4 cO,aw.e0 f5 (ai.new K.le),aw.e0 f6 (ai.new X.le),po cw (U.new C.size),by rw[hc,ch,hc]<;>rfl,(H2).trans aG,tY aU bd cp,dU,dQ,cv,P⟩;exact tO bd Nat.one_pos
     ·
      have dp:=cj.trans (I6 bR bS df dk dj e4 (tX aU c0));have cl:(gW bs).2.e=(y.hq (decide (y.c.length=0)) 15).e:=by rw[dp]
      obtain⟨gB,gH⟩:=wz aG;refine G.aG o A.T jM c8 eW o o<|G.ip o ?_ ?_<;>intro cU;have aE:(gW bs).2.e≠0:=fun e=>cU (cc.l (cc.hq aO) (cl▸e)).1;refine G.O o (M.build (v:=hG gT) o o eN)<|G.bl o (S.var E _ (cM gT) o o o o (lP) fe (cY _) aO ((ea (cY _).symm))) ?_;rintro fj ⟨E,aT⟩;obtain⟨C,_⟩:=cz aT C bf;exact G.rc o (qP o o E.T gY fe (cY _) o) ⟨gT,14,(fun _=>False),o,(fun _=>w2),(fun b e=>e.elim),(fun b e=>e.elim),(fun e=>absurd e aE),⟨nofun,fun e=>absurd e aE⟩,C⟩
      ·
       refine G.aG o A.T jM bV cQ o o<|G.O o (bz hb c_)<|G.ae 0 o (M.cast (v2:= .bool (decide (¬y.c.length=0))) (M.lss o o o)<|bn Value.bool<|decide_eq_decide.2 I)<|G.ip o ?_ ?_<;>intro bD;have aE:(gW bs).2.e≠0:=fun e=>bD (jS (Ce aO (cl▸e)));refine G.O o (M.build (v:=hG gT) o o eN)<|G.bl o (S.var E _ (cM gT) o o o o (lP) fe (cY _) aO ((ea (cY _).symm))) ?_;rintro fk ⟨E,ec⟩;obtain⟨C,_⟩:=cz ec C bf;exact G.rc o (qP o o E.T gY fe (cY _) o) ⟨gT,15,(fun _=>False),o,(fun _=>w2),(fun b e=>e.elim),(fun b e=>e.elim),(fun e=>absurd e aE),⟨nofun,fun e=>absurd e aE⟩,C⟩
       ·
        have e0:(gW bs).2.e=0:=by rw[cl,show y.hq (decide (y.c.length=0)) 15=y from aD (fB (hB bD))];exact (hB cU)
        refine G.O o (bu B.T gY fe<|cY _)<|G.bl o (S.var E _ (cM {gT with bP:=bX bx,Y:=bM bx,ab:=ab,fH:=s1,ml:=a,q:={q with c4:=s2},dG:=aY,el:=av}) rfl rfl rfl rfl (lP) fe (cY _) aO ((ea (cY _).symm))) ?_;rintro fm ⟨E,c9⟩;obtain⟨K,X,N,T,C,_⟩:=fT c9 K eJ.symm X er.symm N ey.symm T f2 C bf;exact G.rc o (qP o o E.T gY fe (cY _) o) ⟨{gT with bP:=bX bx,Y:=bM bx,ab:=ab,fH:=s1,ml:=a,q:={q with c4:=s2},dG:=aY,el:=av},0,(fun b=>aX b\/b+1=aK\/b+1=aM\/b+1=aJ),rfl,(fun _=>⟨K.rd.imp (fun b _ e=> .inr (.inr (.inr e))),X.rd.imp (fun b _ e=> .inr (.inr (.inl e))),N.rd.imp (fun b _ e=> .inr (.inl e)),fun y hy=>(T y hy).imp (fun b _ e=> .inl e)⟩),(fun b e=>by have dt:=K.le;have du:=X.le;have dv:=N.le;rcases e with e|e|e|e;exact jT (aH b e) I;all_goals omega),(fun b e=>by have dt:=gF;have du:=et;have dv:=ez;unfold U at dt du dv;rcases e with e|e|e|e;exact cw b e;all_goals omega),(fun _=>by rw[dp];exact⟨o,o,o,o,o,ch⟩),⟨fun _=>e0,fun _=>rfl⟩,C⟩
def Sq{D:ao}{p:av}{i:Nat}{x:List UInt8}(ab:D.dead=false)(ar:cR p=true)(n:ax D.now p=some i)(r:(aM D.fs i).now=x):D.fC p=0/\D.cB p=x:=by
 have k:D.fC p=0:=by unfold ao.fC;rw[ab];simp[ao.look,ar,n]
 exact⟨k,by unfold ao.cB;rw[aD k,pd n,r]⟩
def GG{fs:List fg}{i j:Nat}{x:fg}:aM (fs.set i x) j=if j=i/\i<fs.length then x else aM fs j:=by
 unfold aM;by_cases k:i<fs.length;by_cases e:j=i;rw[aD ⟨e,k⟩,e,List.getD_eq_getElem?_getD,List.getElem?_set_self k];rfl;rw[au (fun h=>e h.1),List.getD_eq_getElem?_getD,List.getElem?_set_ne (ku e),<-List.getD_eq_getElem?_getD];rw[au (fun h=>k h.2),vR I]
def Uw{a b:List UInt8}{f:UInt8->Bool}(h:∀x∈a,f x=true):(a++b).takeWhile f=a++b.takeWhile f:=by
 induction a with
 |nil=>rfl
 |cons x a ih=>rw[me,List.takeWhile_cons,aD (h x fZ),ih (fun y hy=>h y (gx _ hy)),me]
def PG(p:av):nz (dR p)=nz p:=by
 unfold nz dR;have h:((p++[46,110,101,119]).reverse.takeWhile (fun c=>decide (c≠47))).length=4+(p.reverse.takeWhile (fun c=>decide (c≠47))).length:=by
  rw[By,Uw aO,b2];rfl
 rw[h,b2,fA,fA,fA,fA,ie];rw[rm I];congr 1;omega
def OJ{p:av}(h:cR p=true)(k:cR (dR p)=true):bI (dR p)=bI p:=by unfold bI;rw[aD h,aD k,PG]
def new_ne(p:av):dR p≠p:=fun e=>by have:=bn List.length e;rw[qK]at this;omega
structure One (cap en:Nat) (p:av) (x:List UInt8) (D:ao):Prop where
 dead:D.dead=false
 left:D.left=0
 cap:D.cap=cap
 en:D.en=en
 aL:∃i,D.now=[(p,i)]/\i<D.fs.length/\(aM D.fs i).now=x
def RB{R:List UInt8}(k:12+dC R<R.length)(B:dC R<=1048576)(A:gy n ((R.drop 12).take (dC R))=R.take (12+dC R))(r:R.getD (12+dC R) 0=67):fI n R=some ((R.drop 12).take (dC R)):=by
 have C:((R.drop 12).take (dC R)).length=dC R:=by rw[eC,h6];omega
 refine RA.2 ⟨by omega,R.drop (13+dC R),?_⟩
 conv=>lhs;rw[<-hY (12+dC R) R,<-A,na k]
 rw[A_ k]at r;rw[r,show 12+dC R+1=13+dC R by omega];unfold iC;simp
def RC{R:List UInt8}(B:gy n ((R.drop 12).take (dC R))≠R.take (12+dC R)):fI n R=none:=by
 cases h:fI n R with
 |none=>rfl
 |some r=>
  exfalso;apply B;have e:=yW h;have C:=sK h;have af:r.length<4294967296:=by omega
  have hb:dC R=r.length:=C.1.symm
  have k:R=gy n r++(67::R.drop (13+r.length)):=by conv=>lhs;rw[e]
                                                  unfold iC;simp
  have A:(R.drop 12).take r.length=r:=by
   rw[k];unfold gy;rw[<-ew (l7 r.length),ew (l7 r.length++l8 n r),mI (by rw[b2,pr,vc]),kP rfl]
  rw[hb,A]
  conv=>rhs;rw[k]
  rw[kP (qC n r)]
def CP{s:ay}(rc:List UInt8){w0:World}(af:b_ H a7 1 s.v rc)(bS:rc.length<=1000000):
 a8 prog w0 119 #[.int .i64 (n:Int),s.v] H (fun r aR=>∃t:ay,∃k:Nat,r=t.v/\aS k 5 aR a7 1 t.v (gy n rc)/\U 0 H.size k/\an H aR):=by
 refine G.bN func119 o fun A=>?_;have af:=af.cD;have aM:=af.c7;refine G.O o (M.cast (v2:= .int .u64 (UInt64.ofNat n).toNat) (M.jh o ht hO o) o)<|G.aC o oL (E.pU 0 _ [] 8 (UInt64.ofNat n) w0 _ (aS.nil eM fy) I a_) ?_;rintro v9 bA ⟨be,bU,rfl,ad,aV,aL⟩;have bq:=aw.app aw.z (aM.mono A.size) aV;have a2:=U.al (U.refl 0 _) aV A.size;have af:=af.aA aL (aB.J aw.z);have A:=A.gK aL (ag.cons ah.z ag.nil);have bI:=aL.size;have bF:=ad.le;rw[gw]at ad;obtain⟨bV,rfl⟩:∃s:ay,v9=s.v:=⟨ck v9,ad.a6.symm⟩;refine G.aR o (dd ad af dv (by rw[E.ft];omega) (by rw[E.ft];omega)) ?_;rintro bK bi ⟨bL,a1,a3,bf⟩;obtain⟨af,A,_⟩:=de bf af bq A a2;have bH:=a1.le;refine G.aC o MW (SW a1.rd.any (by rw[b2,E.ft];omega)) ?_;rintro aT a4 ⟨rfl,bg⟩;obtain⟨af,A,_⟩:=bG bg af A;obtain⟨F,bX,bM,K,L,N,O,P,aJ,aK,ap,aU,aA,aC,aE,aF,aG,aI,Q,R,T,V,W,X,aa,ae,ak,al,aq,av,ax,az,ba⟩:∃F bX bM K L N O P aJ aK ap aU aA aC aE aF aG aI Q R T V W X aa ae ak al aq av ax az:UInt8,sumOf (E.dH 8 (UInt64.ofNat n)++rc)=[F,bX,bM,K,L,N,O,P,aJ,aK,ap,aU,aA,aC,aE,aF,aG,aI,Q,R,T,V,W,X,aa,ae,ak,al,aq,av,ax,az]:=qB (pa _);have bu:l8 n rc=[F,bX,bM,K,L,N,O,P]:=by unfold l8;rw[ba];rfl
 rw[ba];refine G.aR o (Z.aU mZ<|(List.replicate 32 (0:UInt8)).map hR) ?_;rintro v5 bw ⟨rfl,B,a5,_⟩;have bc:=aw.new (aM.mono A.size);have bd:=U.new A.size;obtain⟨af,A,_⟩:=bG a5 af A;refine G.bl o (S.var B (([F,bX,bM,K,L,N,O,P,aJ,aK,ap,aU,aA,aC,aE,aF,aG,aI,Q,R,T,V,W,X,aa,ae,ak,al,aq,av,ax,az]:List UInt8).map hR) (([F,bX,bM,K,L,N,O,P,aJ,aK,ap,aU,aA,aC,aE,aF,aG,aI,Q,R,T,V,W,X,aa,ae,ak,al,aq,av,ax,az]:List UInt8).map hR) o o o o (by intro u hu;obtain⟨x,_,rfl⟩:=dp.1 hu;rfl) bE o aO o) ?_;rintro bB ⟨B,bo⟩;obtain⟨af,A,_⟩:=de bo af bc A bd;refine G.O o (bz af c_)<|G.O o (M.cast (v2:= .int .u64 (UInt64.ofNat rc.length).toNat) (M.jh o ht hO o) o)<|G.aC o oL (E.pU 0 _ [] 4 (UInt64.ofNat rc.length) w0 _ (aS.nil eM fy) I a_) ?_;rintro aX bD ⟨bC,bN,rfl,C,aH,aN⟩;have bt:=aw.app aw.z (aM.mono A.size) aH;have am:=U.al (U.refl 0 _) aH A.size;obtain⟨af,B,_⟩:=de aN af aw.z B ai.z;have A:=A.gK aN (ag.cons ah.z ag.nil);have c9:=aN.size;have ac:=C.le;rw[gw]at C;obtain⟨bO,rfl⟩:∃s:ay,aX=s.v:=⟨ck aX,C.a6.symm⟩;rw[Iv I]at C;refine G.O o (dt B.T (0) kf db)<|G.O o (aY B.T e8)<|G.O o (dt B.T (1) kf db)<|G.O o (aY (B.T.drop 1) e8)<|G.O o (dt B.T (2) kf db)<|G.O o (aY (B.T.drop 2) e8)<|G.O o (dt B.T (3) kf db)<|G.O o (aY (B.T.drop 3) e8)<|G.O o (dt B.T (4) kf db)<|G.O o (aY (B.T.drop 4) e8)<|G.O o (dt B.T (5) kf db)<|G.O o (aY (B.T.drop 5) e8)<|G.O o (dt B.T (6) kf db)<|G.O o (aY (B.T.drop 6) e8)<|G.O o (dt B.T (7) kf db)<|G.O o (aY (B.T.drop 7) e8)<|G.aR o (Z.cV<|c5 _ (([F,bX,bM,K,L,N,O,P]:List UInt8)) dv eM fy) ?_;rintro bP bT ⟨bh,bj,_⟩;obtain⟨af,C,A,_⟩:=cg bj af C A;refine G.aR o (dd C bh.rd dv (by rw[pr];simp) (by rw[pr];simp)) ?_;rintro br bs ⟨bQ,C,bk,aP⟩;have aP:=aP.md;have a6:=U.al am bk A.size;obtain⟨af,A,_⟩:=de aP af bt A am;have ac:=C.le;refine G.aR o (dd C af dv (by rw[b2,pr];simp;omega) (by rw[b2,pr];simp;omega)) ?_;rintro aZ bR ⟨dB,C,bl,aQ⟩;have aQ:=aQ.md;have bm:=U.al a6 bl A.size;have A:=A.gK aQ (ag.J (ah.q a6));refine G.rt o ?_;obtain⟨so,rfl⟩:∃s:ay,aZ=s.v:=⟨ck aZ,C.a6.symm⟩;exact⟨so,dB,o,by unfold gy;rw[bu,<-ew];exact C,bm,A⟩
def SA{s:ay}{l:List (ay×Rec)}{w0:World}(B:b_ V iu 1 s.v l)(E:∀x∈l,b_ V a7 1 x.1.v x.2)(aG:∀x∈l,x.2.length<=1000000)(a1:(e9 0 (bp l)).length<=1099510000000):
 a8 prog w0 157 #[s.v] V (fun r P=>∃t:ay,∃k:Nat,r=t.v/\aS k 5 P a7 1 t.v (ek (bp l))/\U 0 V.size k/\an V P):=by
 refine G.bN func157 o fun C=>?_;have B:=B.cD;have E:=fun x ag=>(E x ag).cD;have aA:bk (fun b=>True/\b<V.size) V.size:=fun b h=>h.2;have ba:=B.len;refine G.aR o (Z.cV<|c5 _ gO dv eM fy) ?_;rintro v5 aJ ⟨n,ai,_⟩;have aa:=aw.new (B.c7.mono C.size);have ae:=aw.new (aA.mono C.size);have aH:=U.new C.size;obtain⟨B,E,C,_⟩:=cg ai B E C;refine G.aR o (Z.xi n aO o underlying93 underlying5 o) ?_;rintro v6 Q ⟨rfl,n,ak⟩;obtain⟨B,E,C,_⟩:=dg ak B aa E ae C aH
 refine G.bd o (fun(aI:Nat×Value×Nat)=>match aI with|(i,F,L)=>[(0,s.v),(3,F),(4,.int .i64 (i:Int))])
  (fun(i,F,L) (H:Heap)=>(i<=l.length)/\aS L 5 H a7 1 F (gO++e9 0 (bp (l.take i)))/\U (V.size+1) Q.size L/\W (aq [(V.size+1)]) Q H)
  (fun(i,F,L)=>l.length-i) (0,v6,(V.size+1)) ⟨I,by simpa only[pN,bp,mJ,e9,hD]using n,U.refl _ _,W.refl _ _⟩ ?_
 rintro⟨i,F,L⟩ aQ ⟨a_,n,S,A⟩ aK al;have av:=U.al aH S C.size;obtain⟨B,E,C,_⟩:=dg A B aa E ae C aH;have ac:=n.le;have R:=S;refine G.O o (bz B je)<|G.ip o ?_ ?_<;>intro aM;have K:i<l.length:=by omega
 have a6:=Ge K;have bc:=aG l[i] (cS K);have aZ:gO.length=8:=rfl;have bd:=qC i l[i].2;refine G.pp o (M.cw B i o je cZ o o) fun aN aB=>G.O o (aY aB.T eI)<|G.aC o Ak (CP l[i].2 (E l[i] (cS K)).any I) ?_;rintro aR aT ⟨aV,a0,rfl,T,aP,ap⟩;obtain⟨n,A,_⟩:=bG ap n A;have aX:=T.le;refine G.aR o (dd n T.rd dv (by simp only[b2];omega) (by simp only[b2];omega)) ?_;rintro bq a2 ⟨a3,n,aU,N⟩;have N:=N.md;have X:=U.al R aU A.size;obtain⟨A,_⟩:=cz N A (ah.r R);have ac:=n.le;refine G.aR o (Z.cV<|c5 _ ([(67:UInt8)]) dv eM fy) ?_;rintro a4 a5 ⟨aC,aE,_⟩;obtain⟨n,A,_⟩:=bG aE n A;refine G.aR o (dd n aC.rd dv (by simp only[b2,ik];omega) (by simp only[b2,ik];omega)) ?_;rintro ax aL ⟨az,n,bt,O⟩;have O:=O.md;have aF:=U.al X bt A.size;obtain⟨A,_⟩:=cz O A (ah.r X);have ac:=n.le;exact G.O o bB<|G.aQ o<|al (i+1,ax,az) _ ⟨I,by rw[AU K,<-ew];unfold iC;rw[<-ew];exact n,aF,A⟩;refine G.rt o ?_;have K:i=l.length:=by omega
 rw[K,eQ]at n;obtain⟨so,rfl⟩:∃s:ay,F=s.v:=⟨ck F,n.a6.symm⟩;exact⟨so,L,o,n,av,C⟩
def Uc(b:List UInt8)(i j n:Nat):(b.take (i+(j+n))).drop (i+j)=((b.drop i).drop j).take n:=by
 rw[nc,<-zA,sm]
def IW{b:List UInt8}(h:¬b.take 8=gO):hk b=16/\mO b=0/\eV b=[]:=by
 unfold hk mO eV;rw[au h,au h,au h];exact⟨o,o,o⟩
def jG{c:UInt8}:pV c=true↔(97<=c.toNat/\c.toNat<=122)\/(48<=c.toNat/\c.toNat<=57)\/c.toNat=46\/c.toNat=95\/c.toNat=45\/c.toNat=47:=by
 have h:∀n:Fin 256,(pV (UInt8.ofNat n.val)=decide ((97<=n.val/\n.val<=122)\/(48<=n.val/\n.val<=57)\/n.val=46\/n.val=95\/n.val=45\/n.val=47)):=by decide+kernel
 have:=h ⟨c.toNat,c.toNat_lt⟩;simp only[Bq]at this;rw[this,decide_eq_true_iff]
def wo(l:List UInt8)(q:Nat):Prop:=pV (l.getD q 0)=true/\¬((l.getD q 0).toNat=47/\(q=0\/q=l.length-1\/(l.getD (q-1) 0).toNat=47))
def e4{l:List UInt8}{q:Nat}(h:q<l.length):l.getD q 0=l[q]:=by rw[List.getD_eq_getElem?_getD,List.getElem?_eq_getElem h];rfl
def wg{c:UInt8}:c.toNat=47↔c=47:=⟨fun h=>qx h,fun h=>by rw[h];rfl⟩
def yL(l:List UInt8):cR l=true↔1<=l.length/\l.length<=100/\∀q,q<l.length->wo l q:=by
 unfold cR zo wo;simp only[ob,lf,sq,List.mem_range,tI,wg];constructor;rintro⟨⟨⟨A,B⟩,n⟩,F⟩;refine⟨A,B,fun q k=>⟨by rw[e4 k];exact n _ (cS k),?_⟩⟩;rintro⟨bc,C⟩;have r:=F q k;have E:(q==0||q==l.length-1||l.getD (q-1) 0==47)=true:=by simpa[or_assoc]using C
 rw[bc,E]at r;simp at r;rintro⟨A,B,n⟩;refine⟨⟨⟨A,B⟩,fun x H=>?_⟩,fun q k=>?_⟩;obtain⟨q,k,rfl⟩:=vT H;have:=(n q k).1;rwa[e4 k]at this;have r:=(n q k).2;cases hb:(l.getD q 0==47&&(q==0||q==l.length-1||l.getD (q-1) 0==47))with
 |false=>rfl
 |true=>
  exfalso;simp only[ob,vx,beq_iff_eq,or_assoc]at hb;exact r hb
def G6{l:List UInt8}(E:k<l.length)(C:l[k]=47)(F:∀q,q<l.length->k<q->(l.getD q 0).toNat≠47):nz l=l.take k:=by
 have e:l=l.take k++l[k]::l.drop (k+1):=by rw[<-na E,hY]
 have n:=bn List.reverse e;rw[By,List.reverse_cons,ew]at n;unfold nz;have B:(l.reverse.takeWhile (fun c=>decide (c≠47))).length=l.length-(k+1):=by
  rw[n,BA,List.singleton_append,List.takeWhile_cons_of_neg (by simp[C])];simp;intro a A;rw[Bz]at A;obtain⟨q,H,rfl⟩:=vT A;rw[h6]at H;have r:=F (k+1+q) I I;rw[e4 I]at r;rw[yn];exact fB fun h=>r<|wg.2 h
 rw[B];congr 1;omega
def G7{l:List UInt8}(B:∀q,q<l.length->(l.getD q 0).toNat≠47):nz l=[]:=by
 have A:l.reverse.takeWhile (fun c=>decide (c≠47))=l.reverse:=by
  have:=BA (p:=fun c:UInt8=>decide (c≠47)) (l₁:=l.reverse) (l₂:=[]) (fun a n=>by
   rw[Bz]at n;obtain⟨q,r,rfl⟩:=vT n;have k:=B q r;rw[e4 r]at k;exact fB fun h=>k<|wg.2 h)
  simpa using this
 unfold nz;rw[A,vJ,show l.length-1-l.length=0 by omega,pN]
def qJ{l:List UInt8}(h:¬(1<=l.length/\l.length<=100/\∀q,q<l.length->wo l q)):cR l=false:=by
 cases hb:cR l with
 |false=>rfl
 |true=>exact absurd ((yL l).1 hb) h
def qQ{l:List UInt8}{w0:World}(aB:l.length<=4294967280):
 a8 prog w0 75 #[aJ l] V (fun r U=>r= .bool (cR l)/\an V U):=by
 refine G.bN func75 o fun C=>G.O o (hn e6) (G.sp 2 8 o (fun g8=>?_) fun g8=>?_);exact G.it o<|G.rt o ⟨bn Value.bool (qJ fun h=>by obtain⟨ah,M,ai⟩:=h;omega).symm,C⟩;refine G.O o (hn e6)<|G.ip o ?_ ?_<;>intro az;exact G.rt o ⟨bn Value.bool (qJ fun h=>by obtain⟨ah,M,ai⟩:=h;omega).symm,C⟩
 refine G.bd o (fun(i:Nat)=>[(0,aJ l),(3,.int .i64 (i:Int))])
  (fun(i:Nat) (H:Heap)=>(i<=l.length)/\(∀q,q<l.length->q<i->wo l q)/\an V H)
  (fun(i:Nat)=>l.length-i) 0 ⟨I,(fun q h M=>absurd M I),W.refl _ _⟩ ?_
 rintro i K ⟨aA,T,L⟩ al a2;obtain⟨C,_⟩:=cv L C;refine G.O o (hn e6)<|G.ip o ?_ ?_<;>intro a3;have k:i<l.length:=by omega
 refine G.bw 0 o (fun(_:Unit)=>[(0,aJ l),(3,.int .i64 (i:Int))])
  (fun(_:Unit) (H:Heap)=>(wo l i)/\an K H) (fun _ A=>?_) ?_
 have n:an K K:=W.refl _ _;refine G.O o (l1 i e6) ?_
 refine G.bw 0 o (fun(_:Unit)=>[(0,aJ l),(3,.int .i64 (i:Int)),(4,.int .u8 (l[i].toNat:Int))])
  (fun(_:Unit) (H:Heap)=>(¬(l[i].toNat=47/\(i=0\/i=l.length-1\/(l.getD (i-1) 0).toNat=47)))/\an K H) (fun _ Q=>?_) ?_
 have R:an K K:=W.refl _ _;refine G.sp 3 24 o ?_ ?_<;>intro a4;refine G.sp 3 27 o ?_ ?_<;>intro a5;exact G.it o<|G.rt o ⟨bn Value.bool (qJ fun h=>(h.2.2 i k).2 ⟨by rw[e4 k];omega,by first|(left;omega)|(right;left;omega)|(right;right;rw[e4 I];omega)⟩).symm,C⟩;refine G.O o (hn e6)<|G.O o eA<|G.sp 3 34 o ?_ ?_<;>intro aq;exact G.it o<|G.rt o ⟨bn Value.bool (qJ fun h=>(h.2.2 i k).2 ⟨by rw[e4 k];omega,by first|(left;omega)|(right;left;omega)|(right;right;rw[e4 I];omega)⟩).symm,C⟩;refine G.O o eA<|G.O o (l1 (i-1) e6)<|G.ip o ?_ ?_<;>intro av;exact G.rt o ⟨bn Value.bool (qJ fun h=>(h.2.2 i k).2 ⟨by rw[e4 k];omega,by first|(left;omega)|(right;left;omega)|(right;right;rw[e4 I];omega)⟩).symm,C⟩;exact G.aQ o<|Q () _ ⟨(fun h=>by obtain⟨bc,E⟩:=h;rcases E with E|E|E<;>first|omega|(rw[e4 I]at E;omega)),R⟩;exact G.dP o<|G.aQ o<|Q () _ ⟨(fun h=>by obtain⟨bc,E⟩:=h;rcases E with E|E|E<;>first|omega|(rw[e4 I]at E;omega)),R⟩;intro _ ax ae;obtain⟨B,aa⟩:=ae;obtain⟨C,n,_⟩:=bG aa C n;refine G.sp 3 44 o ?_ ?_<;>intro aw;refine G.sp 7 51 o ?_ ?_<;>intro X;refine G.sp 9 60 o ?_ ?_<;>intro N;refine G.sp 4 64 o ?_ ?_<;>intro bt;refine G.sp 4 68 o ?_ ?_<;>intro O;refine G.ip o ?_ ?_<;>intro P;exact G.rt o ⟨bn Value.bool (qJ fun h=>by have F:=(jG).1 (h.2.2 i k).1;rw[e4 k]at F;simp at*;omega).symm,C⟩;exact G.aQ o<|A () _ ⟨(⟨by rw[e4 k];exact(jG).2 (by simp at*;omega),fun h=>B (by rw[e4 k]at h;exact h)⟩),n⟩;exact G.dP o<|G.aQ o<|A () _ ⟨(⟨by rw[e4 k];exact(jG).2 (by simp at*;omega),fun h=>B (by rw[e4 k]at h;exact h)⟩),n⟩;exact G.dP o<|G.aQ o<|A () _ ⟨(⟨by rw[e4 k];exact(jG).2 (by simp at*;omega),fun h=>B (by rw[e4 k]at h;exact h)⟩),n⟩;exact G.dP o<|G.aQ o<|A () _ ⟨(⟨by rw[e4 k];exact(jG).2 (by simp at*;omega),fun h=>B (by rw[e4 k]at h;exact h)⟩),n⟩;refine G.sp 5 56 o ?_ ?_<;>intro Z;refine G.sp 4 60 o ?_ ?_<;>intro N;refine G.sp 4 64 o ?_ ?_<;>intro bt;refine G.sp 4 68 o ?_ ?_<;>intro O;refine G.ip o ?_ ?_<;>intro P;exact G.rt o ⟨bn Value.bool (qJ fun h=>by have F:=(jG).1 (h.2.2 i k).1;rw[e4 k]at F;simp at*;omega).symm,C⟩;exact G.aQ o<|A () _ ⟨(⟨by rw[e4 k];exact(jG).2 (by simp at*;omega),fun h=>B (by rw[e4 k]at h;exact h)⟩),n⟩;exact G.dP o<|G.aQ o<|A () _ ⟨(⟨by rw[e4 k];exact(jG).2 (by simp at*;omega),fun h=>B (by rw[e4 k]at h;exact h)⟩),n⟩;exact G.dP o<|G.aQ o<|A () _ ⟨(⟨by rw[e4 k];exact(jG).2 (by simp at*;omega),fun h=>B (by rw[e4 k]at h;exact h)⟩),n⟩;exact G.dP o<|G.aQ o<|A () _ ⟨(⟨by rw[e4 k];exact(jG).2 (by simp at*;omega),fun h=>B (by rw[e4 k]at h;exact h)⟩),n⟩;exact G.dP o<|G.aQ o<|A () _ ⟨(⟨by rw[e4 k];exact(jG).2 (by simp at*;omega),fun h=>B (by rw[e4 k]at h;exact h)⟩),n⟩;refine G.sp 4 48 o ?_ ?_<;>intro a9;refine G.sp 3 51 o ?_ ?_<;>intro X;refine G.sp 9 60 o ?_ ?_<;>intro N;refine G.sp 4 64 o ?_ ?_<;>intro bt;refine G.sp 4 68 o ?_ ?_<;>intro O;refine G.ip o ?_ ?_<;>intro P;exact G.rt o ⟨bn Value.bool (qJ fun h=>by have F:=(jG).1 (h.2.2 i k).1;rw[e4 k]at F;simp at*;omega).symm,C⟩;exact G.aQ o<|A () _ ⟨(⟨by rw[e4 k];exact(jG).2 (by simp at*;omega),fun h=>B (by rw[e4 k]at h;exact h)⟩),n⟩;exact G.dP o<|G.aQ o<|A () _ ⟨(⟨by rw[e4 k];exact(jG).2 (by simp at*;omega),fun h=>B (by rw[e4 k]at h;exact h)⟩),n⟩;exact G.dP o<|G.aQ o<|A () _ ⟨(⟨by rw[e4 k];exact(jG).2 (by simp at*;omega),fun h=>B (by rw[e4 k]at h;exact h)⟩),n⟩;exact G.dP o<|G.aQ o<|A () _ ⟨(⟨by rw[e4 k];exact(jG).2 (by simp at*;omega),fun h=>B (by rw[e4 k]at h;exact h)⟩),n⟩;refine G.sp 5 56 o ?_ ?_<;>intro Z;refine G.sp 4 60 o ?_ ?_<;>intro N;refine G.sp 4 64 o ?_ ?_<;>intro bt;refine G.sp 4 68 o ?_ ?_<;>intro O;refine G.ip o ?_ ?_<;>intro P;exact G.rt o ⟨bn Value.bool (qJ fun h=>by have F:=(jG).1 (h.2.2 i k).1;rw[e4 k]at F;simp at*;omega).symm,C⟩;exact G.aQ o<|A () _ ⟨(⟨by rw[e4 k];exact(jG).2 (by simp at*;omega),fun h=>B (by rw[e4 k]at h;exact h)⟩),n⟩;exact G.dP o<|G.aQ o<|A () _ ⟨(⟨by rw[e4 k];exact(jG).2 (by simp at*;omega),fun h=>B (by rw[e4 k]at h;exact h)⟩),n⟩;exact G.dP o<|G.aQ o<|A () _ ⟨(⟨by rw[e4 k];exact(jG).2 (by simp at*;omega),fun h=>B (by rw[e4 k]at h;exact h)⟩),n⟩;exact G.dP o<|G.aQ o<|A () _ ⟨(⟨by rw[e4 k];exact(jG).2 (by simp at*;omega),fun h=>B (by rw[e4 k]at h;exact h)⟩),n⟩;exact G.dP o<|G.aQ o<|A () _ ⟨(⟨by rw[e4 k];exact(jG).2 (by simp at*;omega),fun h=>B (by rw[e4 k]at h;exact h)⟩),n⟩;exact G.dP o<|G.aQ o<|A () _ ⟨(⟨by rw[e4 k];exact(jG).2 (by simp at*;omega),fun h=>B (by rw[e4 k]at h;exact h)⟩),n⟩;intro _ ay ag;obtain⟨ak,aH⟩:=ag;obtain⟨L,_⟩:=cv aH L;exact G.O o bB<|G.aQ o<|a2 (i+1) _ ⟨I,(fun q h M=>by rcases sn q i with S|S;exact T q h S;(obtain rfl:q=i:=by omega);exact ak),L⟩;refine G.rt o ?_;obtain rfl:i=l.length:=by omega
 exact⟨bn Value.bool ((yL l).2 ⟨by omega,by omega,fun q h=>T q h h⟩).symm,C⟩
def uj{l:List UInt8}{w0:World}(P:l.length<=4294967280):
 a8 prog w0 160 #[aJ l] V (fun r K=>r=aJ (bI l)/\an V K):=by
 refine G.bN func160 o fun n=>G.aC o qj (qQ P) ?_;rintro v5 L ⟨rfl,ap⟩;obtain⟨n,_⟩:=cv ap n;refine G.O o e7<|G.ci o ?_ ?_<;>intro A;exact G.rt o ⟨by rw[bI,au (by simpa using A)]<;>rfl,n⟩;refine G.O o (hn e6)<|G.O o (M.cast (v2:= .int .i64 ((l.length:Nat)-1:Int)) eA o) ?_
 refine G.bd o (fun(k:Nat)=>[(0,aJ l),(3,.int .i64 ((k:Int)-1))])
  (fun(k:Nat) (H:Heap)=>(k<=l.length)/\(∀q,q<l.length->k<=q->(l.getD q 0).toNat≠47)/\an L H)
  (fun(k:Nat)=>k) l.length ⟨I,fun q h B=>absurd B I,W.refl _ _⟩ ?_
 rintro k T ⟨U,C,E⟩ Q N;obtain⟨n,_⟩:=cv E n;refine G.ip o ?_ ?_<;>intro R;have F:k-1<l.length:=by omega
 refine G.O o (l1 (k-1) e6)<|G.ip o ?_ ?_<;>intro S;exact G.O o (M.Ds (0) (k-1) o e6 o (.inl ⟨o,o⟩) (.inr ⟨_,_,_,o,o,I⟩) I I)<|G.rt o ⟨by rw[bI,aD (by simpa using A),G6 F (wg.1 I) (fun q h B=>C q h I)];simp,n⟩;refine G.O o eA<|G.aQ o<|N (k-1) _ ?_;exact⟨I,fun q h B=>by
   by_cases O:k<=q;exact C q h O;obtain rfl:q=k-1:=by omega
   rw[e4 F];omega,E⟩
 exact G.rt o ⟨by rw[bI,aD (by simpa using A),G7 (fun q h=>C q h I)]<;>rfl,n⟩
abbrev h5(fb:List Nat)(x:av×Nat):List Value:=[aJ x.1,fX fb x.2]
def ra(x:av×Nat):(h5 vq33z x).length=2:=rfl
def vl(x:av×Nat):∀u∈h5 vq33z x,u.oneCell'=true:=by
 intro u hu;simp only[dI,kN,or_false]at hu;rcases hu with rfl|rfl<;>rfl
abbrev xR(s:ay):List Value:=[s.v]
def xS(s:ay):(xR s).length=1:=rfl
def xT(s:ay):∀u∈xR s,u.oneCell'=true:=by intro u hu;simp only[fm]at hu;subst hu;rfl
abbrev vk(x:av×Nat):List Value:=[ptr x.2]
def Gq(x:av×Nat):(vk x).length=1:=rfl
def Gr(x:av×Nat):∀u∈vk x,u.oneCell'=true:=by intro u hu;simp only[fm]at hu;subst hu;rfl
abbrev se(y:kr):List Value:=[.bool (!y.1.b),y.2.v]
def sf(y:kr):(se y).length=2:=rfl
def vm(y:kr):∀u∈se y,u.oneCell'=true:=by
 intro u hu;simp only[dI,kN,or_false]at hu;rcases hu with rfl|rfl<;>rfl
def CN{α:Type}{F:Nat->Prop}{f g:α->List Value}{v:Value}{l:List α}(h:Rd F H f n v l)(N:∀x∈l,f x=g x):Rd F H g n v l:=by
 obtain⟨a,cap,E,K,L,M⟩:=h.ex;refine⟨⟨a,cap,E,K,L,fun O=>?_⟩⟩;obtain⟨ad,bc,r,A,B,C⟩:=M O;exact⟨ad,bc,r,A,B,fun i x k=>by rw[<-N x (yc k)];exact C i x k⟩
abbrev ei(l:ca)(p:av):ca:=l.filter (fun x=>decide (bI x.1=p))
def qG(l:ca)(p q:av):ax (ei l p) q=if bI q=p then ax l q else none:=by
 rw[yG (f:=fun k=>decide (bI k=p))];by_cases h:bI q=p<;>simp[h]
def q9{l:ca}(h:cX l){p:av}:cX (ei l p):=h.filter _
def AP{a b:ca}{p:av}(k:cX a)(hb:cX b)(h:∀q,bI q=p->ax a q=ax b q):ei a p=ei b p:=by
 refine s8 (q9 k) (q9 hb) fun q=>?_;rw[qG,qG];by_cases e:bI q=p;rw[aD e,aD e,h q e];rw[au e,au e]
def F5{l:ca}(h:cX l){p:av}(ar:∀q,bI q=p->ax l q=none):ei l p=[]:=by
 refine s8 (q9 h) List.Pairwise.nil fun q=>?_;rw[qG];by_cases e:bI q=p;rw[aD e,ar q e];rfl;rw[au e];rfl
def uO(c:dy)(p:av):Prop:=(∀i,c.f=some i->bI c.n=p)/\(c.g≠[]->bI c.g=p)
def F2{l:ca}(h:cX l){c:dy}{p:av}(aj:uO c p):ei (c.ap l) p=c.ap (ei l p):=by
 refine s8 (q9<|r5 h c) (r5 (q9 h) c) fun q=>?_;rw[qG,ng,ng,qG];by_cases e:bI q=p;rw[aD e,aD e];rw[au e,au e,xh aj.1 aj.2 e]
def F3{p:av}:∀(cs:List dy) {l:ca},cX l->(∀c∈cs,uO c p)->ei (iX cs l) p=iX cs (ei l p)
 |[],_,_,_=>rfl
 |c::cs,l,h,aj=>by
  show ei (iX cs (c.ap l)) p=iX cs (c.ap (ei l p));rw[F3 cs (r5 h c) (fun d ab=>aj d (gx _ ab)),F2 h (aj c fZ)]
def F4{now stays:ca}(h:cX now)(Y:cX stays)(n:av):ei (merge now stays n) n=ei now n:=
 AP (s9 Y n) h (fun q k=>by rw[oe h,aD k])
def N9{D:ao}(r:∀c∈D.log,∀i,c.f=some i->bI c.n=c.dir){p:av}{c:dy}(h:c∈D.c0 p):uO c p:=by
 have:=pC h;exact⟨fun i n=>by rw[r c this.1 i n];exact this.2,fun k=>by rw[AO k];exact this.2⟩
def nf{l:ca}(h:cX l){x:av×Nat}(k:x∈l):ax l x.1=some x.2:=o0 h.nodup (show(x.1,x.2)∈l from k)
section
variable {ρ ρ' : Nat -> gD} {fb : List Nat} {H aa : Heap} {D D' : ao} {p : av} {bh k i b : Nat} {a6 b3 bv dr : ay} {bD : List ay} {x : fg} {l : List kr} {S : Nat -> Prop}
structure pn (ρ:Nat->gD) (fb:List Nat) (H:Heap) (D:ao) (p:av) (bh:Nat) (b3 a6 bv:ay) (k:Nat) (bD:List ay):Prop where
 rd:ρ bh= .dir p
 bS:Var 139 H bh [aJ p,b3.v,a6.v,bv.v]
 ar:Rd (fun c=>ρ c= .du) H (h5 fb) 2 b3.v (ei D.now p)
 Y:Rd (fun c=>ρ c= .du) H (h5 fb) 2 a6.v (ei D.stays p)
 aj:aS k 136 H xR 1 bv.v bD
 c9:bD.length=(D.c0 p).length
 hb:∀j (h:j<bD.length),Rd (fun c=>ρ c= .du) H (h5 fb) 2 bD[j].v (iX ((D.c0 p).take (j+1)) (ei D.stays p))
 iy:ei D.now p=iX (D.c0 p) (ei D.stays p)
 rc:∀c,c+1=k->ρ c= .lK p
structure mw (ρ:Nat->gD) (H:Heap) (i b:Nat) (x:fg) (b3 a6 dr:ay) (k:Nat) (l:List kr):Prop where
 cC:ρ b= .dE i
 eL:Var 147 H b [b3.v,a6.v,dr.v]
 ar:Rd (fun c=>ρ c= .du) H a7 1 b3.v x.now
 Y:Rd (fun c=>ρ c= .du) H a7 1 a6.v x.stays
 hw:aS k 224 H se 2 dr.v l
 lw:l.map (·.1)=x.w
 ab:∀y∈l,Rd (fun c=>ρ c= .du) H a7 1 y.2.v y.1.d
 hl:∀c,c+1=k->ρ c= .k2 i
def pn.al(h:pn ρ fb H D p bh b3 a6 bv k bD)(r:Ext ρ ρ')(s:W S H aa)(n:∀c,S c->ρ c≠ .dir p/\ρ c≠ .lK p/\ρ c≠ .du)
 (ar:ei D'.now p=ei D.now p)(Y:ei D'.stays p=ei D.stays p)(aj:D'.c0 p=D.c0 p):pn ρ' fb aa D' p bh b3 a6 bv k bD where
 rd:=r.of h.rd a_
 bS:=h.bS.up s (fun e=>(n _ e).1 h.rd)
 ar:=by rw[ar];exact gX h.ar r s fun c e=>(n c e).2.2
 Y:=by rw[Y];exact gX h.Y r s fun c e=>(n c e).2.2
 aj:=h.aj.up s (fun b _ e hb=>(n b hb).2.1 (h.rc b e))
 c9:=by rw[aj];exact h.c9
 hb:=fun j A=>by rw[aj,Y];exact gX (h.hb j A) r s fun c e=>(n c e).2.2
 iy:=by rw[ar,Y,aj];exact h.iy
 rc:=fun c e=>r.of (h.rc c e) a_
def mw.al(h:mw ρ H i b x b3 a6 dr k l)(r:Ext ρ ρ')(s:W S H aa)(n:∀c,S c->ρ c≠ .dE i/\ρ c≠ .k2 i/\ρ c≠ .du):mw ρ' aa i b x b3 a6 dr k l where
 cC:=r.of h.cC a_
 eL:=h.eL.up s (fun e=>(n _ e).1 h.cC)
 ar:=gX h.ar r s (fun c e=>(n c e).2.2)
 Y:=gX h.Y r s (fun c e=>(n c e).2.2)
 hw:=h.hw.up s (fun b _ e hb=>(n b hb).2.1 (h.hl b e))
 lw:=h.lw
 ab:=fun y hy=>gX (h.ab y hy) r s (fun c e=>(n c e).2.2)
 hl:=fun c e=>r.of (h.hl c e) a_
structure dT where
 ρ:Nat->gD
 fb:List Nat
 bj:ca
 ho:ay
structure bR (K:List Nat) (g:dT) (H:Heap) (b:Nat) (D:ao):Prop where
 dz:∀c,c+1∈K↔g.ρ c≠ .out
 lt:∀c,g.ρ c≠ .out->c<H.size
 eJ:g.ρ b= .fs
 cr:Var 86 H b [.int .i64 D.cap,.int .i64 D.en,g.ho.v,.int .i64 D.ops,.int .i64 D.left,.bool D.dead]
 h7:D.left<=9223372036854775807
 jB:D.cap<=9223372036854775807
 jD:D.en<=9223372036854775807
 ab:Rd (fun c=>g.ρ c= .du) H vk 1 g.ho.v g.bj
 kL:cX g.bj
 qM:∀x∈g.bj,x.1.length<=4294967280
 eZ:∀p bh,ax g.bj p=some bh->∃b3 a6 bv k bD,pn g.ρ g.fb H D p bh b3 a6 bv k bD
 abs:∀p,ax g.bj p=none->(∀q,bI q=p->ax D.now q=none/\ax D.stays q=none)/\D.c0 p=[]
 len:g.fb.length=D.fs.length
 dE:∀i,i<D.fs.length->∃b3 a6 dr k l,mw g.ρ H i (g.fb.getD i 0) (aM D.fs i) b3 a6 dr k l
 ids:(∀p i,ax D.now p=some i->i<D.fs.length)/\(∀p i,ax D.stays p=some i->i<D.fs.length)/\(∀c∈D.log,∀i,c.f=some i->i<D.fs.length)
variable {K jw : List Nat} {g : dT} {ks : List Nat}
def bR.aT(h:bR K g H b D):pj K H.size:=fun k n=>by
 rcases qu k with e|this;omega;have r:=h.lt (k-1) ((h.dz (k-1)).1 (by rw[BB this];exact n));omega
def bR.up(h:bR K g H b D)(s:W S H aa)(n:∀c,S c->g.ρ c= .out):bR K g aa b D:=
 {h with
  lt:=fun c e=>jT (h.lt c e) s.size
  cr:=h.cr.up s (fun e=>by have:=n _ e;rw[h.eJ]at this;cases this)
  ab:=gX h.ab (Ext.refl _) s (fun c e=>by rw[n c e];simp)
  eZ:=fun p bh e=>by
   obtain⟨b3,a6,bv,k,bD,ab⟩:=h.eZ p bh e;exact⟨b3,a6,bv,k,bD,ab.al (Ext.refl _) s (fun c aj=>by rw[n c aj];simp) o o o⟩
  dE:=fun i A=>by
   obtain⟨b3,a6,dr,k,l,r⟩:=h.dE i A;exact⟨b3,a6,dr,k,l,r.al (Ext.refl _) s (fun c aj=>by rw[n c aj];simp)⟩}
def bR.aL(h:bR K g H b D)(s:an H aa):bR K g aa b D:=h.up s (fun c e=>e.elim)
def bR.role(h:bR K g H b D){c:Nat}(aj:c+1∉K):g.ρ c= .out:=kQ (fun e=>aj ((h.dz c).2 e))
def bR.aA(h:bR K g H b D)(s:W (aq ks) H aa)(d:cF K ks):bR K g aa b D:=h.up s (fun c e=>h.role (fun k=>d (c+1) k (c+1) e c o o))
instance:cO (bR K g H b D) H aa (bR K g aa b D):=⟨fun s h=>h.aL s⟩
instance:cP (bR K g H b D) H aa (bR K g aa b D) (uQ K):=⟨fun s h d=>h.aA s (cF.cons d cF.nil)⟩
def bR.mem(h:bR K g H b D){c:Nat}{r:gD}(e:g.ρ c=r)(af:r≠ .out):c+1∈K:=(h.dz c).2 (by rw[e];exact af)
def bR.mg{r:gD}(h:bR K g H b D)(n:∀c,c+1=k->g.ρ c=r)(af:r≠ .out):gN K k:=fun c e=>h.mem (n c e) af
def bR.lg{c:Nat}{r:gD}(h:bR K g H b D)(e:g.ρ c=r)(af:r≠ .out):gN K (c+1):=gN.of (h.mem e af)
def bR.ms(h:bR K g H b D)(s:W S H aa)(k:∀c,S c->g.ρ c≠ .out):W (aq K) H aa:=s.weaken (fun c _ e=>(h.dz c).2 (k c e))
def bR.pS(h:bR K g H b D)(n:ak k K):∀c,c+1=k->g.ρ c= .out:=fun c e=>h.role (fun hm=>n (c+1) hm c e o)
def bR.wm{A:Nat}(h:bR K g H b D)(B:U k H.size A){r:gD}(af:∀c,c+1=k->g.ρ c=r):∀c,c+1=A->g.ρ c= .out\/g.ρ c=r:=fun c e=>by
 rcases B with n|n|n;omega;exact .inr (af c I);exact .inl (kQ fun C=>by have:=h.lt c C;omega)
def bR.Et(h:bR K g H b D):bk (fun c=>g.ρ c= .du) H.size:=fun c e=>h.lt c (by rw[e];simp)
def bR.fz{α:Type}{e:TypeId}{f:α->List Value}{sz:Nat}{v:Value}{m:List α}(h:bR K g H b D)(C:aS k e H f sz v m)(B:ak k K):bR (k::K) {g with ρ:=eg g.ρ k .du} H b D:=by
 have n:Ext g.ρ (eg g.ρ k .du):=Ext.eg (fun c e=> .inl (h.pS B c e));have s:W (fun _=>False) H H:=W.refl _ _
 exact{h with
  dz:=m8 h.dz a_,lt:=nd h.lt (dF _) C.le,eJ:=n.of h.eJ a_
  ab:=gX h.ab n s (fun c e=>e.elim)
  eZ:=fun p bh e=>by
   obtain⟨b3,a6,bv,k,bD,ab⟩:=h.eZ p bh e;exact⟨b3,a6,bv,k,bD,ab.al n s (fun c aj=>aj.elim) o o o⟩
  dE:=fun i A=>by
   obtain⟨b3,a6,dr,k,l,r⟩:=h.dE i A;exact⟨b3,a6,dr,k,l,r.al n s (fun c aj=>aj.elim)⟩}
def IK{α:Type}{e:TypeId}{f:α->List Value}{sz:Nat}{v:Value}{m:List α}(n:aS k e H f sz v m):Rd (fun c=>eg ρ k .du c= .du) H f sz v m:=n.rd.imp (fun c _ e=>lv e)
def bR.rN(h:bR K g H b D)(s:W (aq [b+1]) H aa)
 (E:Var 86 aa b [.int .i64 D.cap,.int .i64 D.en,g.ho.v,.int .i64 D'.ops,.int .i64 D'.left,.bool D'.dead])(C:D'.left<=9223372036854775807)
 (r:D'.cap=D.cap/\D'.en=D.en/\D'.fs=D.fs/\D'.now=D.now/\D'.stays=D.stays/\D'.log=D.log):bR K g aa b D':=by
 obtain⟨cap,en,fs,now,stays,log,ops,left,dead⟩:=D';obtain⟨rfl,rfl,rfl,rfl,rfl,rfl⟩:=r;have n:∀c,aq [b+1] c->g.ρ c= .fs:=fun c e=>by
  have:c=b:=by simpa[aq]using e
  rw[this];exact h.eJ
 exact{h with
  lt:=fun c e=>jT (h.lt c e) s.size,cr:=E,h7:=C
  ab:=gX h.ab (Ext.refl _) s (fun c e=>by rw[n c e];simp)
  eZ:=fun p bh e=>by
   obtain⟨b3,a6,bv,k,bD,ab⟩:=h.eZ p bh e;exact⟨b3,a6,bv,k,bD,ab.al (Ext.refl _) s (fun c aj=>by rw[n c aj];simp) o o o⟩
  dE:=fun i B=>by
   obtain⟨b3,a6,dr,k,l,A⟩:=h.dE i B;exact⟨b3,a6,dr,k,l,A.al (Ext.refl _) s (fun c aj=>by rw[n c aj];simp)⟩}
def bR.rL(h:bR K g H b D)(s:W S H aa)(C:∀c,S c->g.ρ c= .dir p\/g.ρ c= .lK p\/g.ρ c= .out)(E:Ext g.ρ ρ')(dz:∀c,c+1∈jw↔ρ' c≠ .out)(lt:∀c,ρ' c≠ .out->c<aa.size)
 (L:ax g.bj p=some bh)(ab:∃b3 a6 bv k bD,pn ρ' g.fb aa D' p bh b3 a6 bv k bD)
 (P:D'.cap=D.cap/\D'.en=D.en/\D'.fs=D.fs/\D'.ops=D.ops/\D'.left=D.left/\D'.dead=D.dead)
 (B:cX D.now/\cX D.stays/\cX D'.now/\cX D'.stays)
 (ar:∀q,bI q≠p->ax D'.now q=ax D.now q)(Y:∀q,bI q≠p->ax D'.stays q=ax D.stays q)(aj:∀n,n≠p->D'.c0 n=D.c0 n)
 (ids:(∀p i,ax D'.now p=some i->i<D'.fs.length)/\(∀p i,ax D'.stays p=some i->i<D'.fs.length)/\(∀c∈D'.log,∀i,c.f=some i->i<D'.fs.length)):bR jw {g with ρ:=ρ'} aa b D':=by
 obtain⟨cap,en,fs,now,stays,log,ops,left,dead⟩:=D';obtain⟨rfl,rfl,rfl,rfl,rfl,rfl⟩:=P
 exact{
  dz:=dz,lt:=lt,eJ:=E.of h.eJ a_
  cr:=h.cr.up s (fun e=>by have:=C _ e;rw[h.eJ]at this;simp at this)
  h7:=h.h7,jB:=h.jB,jD:=h.jD
  ab:=gX h.ab E s (fun c e=>by rcases C c e with e|e|e<;>(rw[e];simp))
  kL:=h.kL
  qM:=h.qM
  eZ:=fun q F e=>by
   by_cases A:q=p;subst A;have:F=bh:=mG (e.symm.trans L);subst this;exact ab;obtain⟨b3,a6,bv,k,bD,ab⟩:=h.eZ q F e;refine⟨b3,a6,bv,k,bD,ab.al E s (fun c aj=>?_) (AP B.2.2.1 B.1 (fun r af=>ar r (by rw[af];exact A))) (AP B.2.2.2 B.2.1 (fun r af=>Y r (by rw[af];exact A))) (aj q A)⟩;rcases C c aj with e|e|e<;>(rw[e];simp[ku A])
  abs:=fun q e=>by
   have A:q≠p:=fun M=>by subst M;rw[L]at e;cases e
   obtain⟨N,O⟩:=h.abs q e;exact⟨fun r af=>by rw[ar r (by rw[af];exact A),Y r (by rw[af];exact A)];exact N r af,by rw[aj q A];exact O⟩
  len:=h.len
  dE:=fun i R=>by
   obtain⟨b3,a6,dr,k,l,Q⟩:=h.dE i R;refine⟨b3,a6,dr,k,l,Q.al E s (fun c aj=>?_)⟩;rcases C c aj with e|e|e<;>(rw[e];simp)
  ids:=ids}
def bR.rM{y:fg}(h:bR K g H b D)(L:i<D.fs.length)(s:W S H aa)(n:∀c,S c->g.ρ c= .dE i\/g.ρ c= .k2 i\/g.ρ c= .out)(r:Ext g.ρ ρ')(dz:∀c,c+1∈jw↔ρ' c≠ .out)(lt:∀c,ρ' c≠ .out->c<aa.size)
 (A:∃b3 a6 dr k l,mw ρ' aa i (g.fb.getD i 0) y b3 a6 dr k l):bR jw {g with ρ:=ρ'} aa b (D.fk i y):=by
 have B:(D.fk i y).fs.length=D.fs.length:=by simp[ao.fk]
 exact{
  dz:=dz,lt:=lt,eJ:=r.of h.eJ a_
  cr:=h.cr.up s (fun e=>by have:=n _ e;rw[h.eJ]at this;simp at this)
  h7:=h.h7,jB:=h.jB,jD:=h.jD
  ab:=gX h.ab r s (fun c e=>by rcases n c e with e|e|e<;>(rw[e];simp))
  kL:=h.kL
  qM:=h.qM
  eZ:=fun q F e=>by
   obtain⟨b3,a6,bv,k,bD,ab⟩:=h.eZ q F e;refine⟨b3,a6,bv,k,bD,ab.al r s (fun c aj=>?_) o o o⟩;rcases n c aj with e|e|e<;>(rw[e];simp)
  abs:=h.abs,len:=by rw[B];exact h.len
  dE:=fun j C=>by
   rw[B]at C;by_cases E:j=i;subst E;have e:aM (D.fk j y).fs j=y:=by simp[aM,ao.fk,List.getD,C]
   rw[e];exact A;have e:aM (D.fk i y).fs j=aM D.fs j:=by simp[aM,ao.fk,List.getD,List.getElem?_set,ku E]
   rw[e];obtain⟨b3,a6,dr,k,l,A⟩:=h.dE j C;refine⟨b3,a6,dr,k,l,A.al r s (fun c aj=>?_)⟩;rcases n c aj with e|e|e<;>(rw[e];simp[ku E])
  ids:=by rw[B];exact h.ids}
def LG{m:Nat}{cs:List dy}{l:ca}(r:cX l)(k:∀p i,ax l p=some i->i<m)(n:∀c∈cs,∀i,c.f=some i->i<m):∀x∈iX cs l,x.2<m:=fun x A=>
 uZ cs l k n x.1 x.2 (nf (u2 r cs) A)
def bR.Cr{x:Nat}(h:bR K g H b D)(N:cX D.now)(C:cX D.stays)(F:Var 147 H x [.slice none 0 0,.slice none 0 0,.slice none 0 0])(U:ak (x+1) K):
 bR ((x+1)::K) {g with ρ:=gC g.ρ x (.dE D.fs.length),fb:=g.fb++[x]} H b {D with fs:=D.fs++[⟨[],[],[]⟩]}:=by
 have T:g.ρ x= .out:=h.role (fun R=>U (x+1) R x o o);have he:Ext g.ρ (gC g.ρ x (.dE D.fs.length)):=Ext.gC T;have E:∀i,i<D.fs.length->(g.fb++[x]).getD i 0=g.fb.getD i 0:=fun i P=>by simp[List.getD,List.getElem?_append_left (show i<g.fb.length by rw[h.len];exact P)]
 have s:W (fun _=>False) H H:=W.refl _ _;have r:∀y:av×Nat,y.2<D.fs.length->h5 g.fb y=h5 (g.fb++[x]) y:=fun y hy=>by show[_,fX _ _]=[_,fX _ _];rw[fX,fX,E _ hy]
 exact{
  dz:=qp h.dz a_,lt:=qE h.lt (dF _) F.lt,eJ:=he.of h.eJ a_,cr:=h.cr
  h7:=h.h7,jB:=h.jB,jD:=h.jD,ab:=gX h.ab he s (fun c e=>e.elim),kL:=h.kL,qM:=h.qM
  eZ:=fun q L e=>by
   obtain⟨b3,a6,bv,k,bD,ab⟩:=h.eZ q L e;have n:=ab.al (D':=D) he s (fun c aj=>aj.elim) o o o;refine⟨b3,a6,bv,k,bD,{n with ar:=CN n.ar (fun y hy=>r y ?_),Y:=CN n.Y (fun y hy=>r y ?_),hb:=fun j A=>CN (n.hb j A) (fun y hy=>r y ?_)}⟩;exact h.ids.1 y.1 y.2<|nf N (iK.1 hy).1;exact h.ids.2.1 y.1 y.2<|nf C (iK.1 hy).1;refine LG (q9 C) (fun p i e=>h.ids.2.1 p i ?_) (fun c aj=>h.ids.2.2 c (pC<|ky aj).1) y hy;rw[qG]at e;split at e;exact e;cases e
  abs:=h.abs
  len:=by simp[h.len]
  dE:=fun j A=>by
   by_cases B:j<D.fs.length;obtain⟨b3,a6,dr,k,l,O⟩:=h.dE j B;have e:aM (D.fs++[⟨[],[],[]⟩]) j=aM D.fs j:=by simp[aM,List.getD,List.getElem?_append_left B]
   rw[E j B];refine⟨b3,a6,dr,k,l,?_⟩;show mw _ H j _ (aM (D.fs++[⟨[],[],[]⟩]) j) _ _ _ _ _;rw[e];exact O.al he s fun c aj=>aj.elim;have Q:j=D.fs.length:=by simp at A;omega
   subst Q;have e:aM (D.fs++[⟨[],[],[]⟩]) D.fs.length=⟨[],[],[]⟩:=by simp[aM,List.getD]
   have M:(g.fb++[x]).getD D.fs.length 0=x:=by rw[<-h.len];simp[List.getD]
   refine⟨⟨none,0,0⟩,⟨none,0,0⟩,⟨none,0,0⟩,0,[],?_⟩;show mw _ H _ ((g.fb++[x]).getD D.fs.length 0) (aM (D.fs++[⟨[],[],[]⟩]) D.fs.length) _ _ _ _ _;rw[e,M];exact{cC:=qX,eL:=F,ar:=Rd.nil _ _ _ _,Y:=Rd.nil _ _ _ _,hw:=aS.nil sf vm,lw:=rfl,ab:=fun y hy=>(by cases hy),hl:=fun c e=>I}
  ids:=by
   have S:({D with fs:=D.fs++[⟨[],[],[]⟩]}:ao).fs.length=D.fs.length+1:=by simp
   rw[S];exact⟨fun p i e=>tL (h.ids.1 p i e),fun p i e=>tL (h.ids.2.1 p i e),fun c aj i e=>tL (h.ids.2.2 c aj i e)⟩}
def bR.Cq{fq:Nat}{B:ay}(h:bR K g H b D)(R:cX D.now)(S:cX D.stays)(ah:ax g.bj p=none)(al:p.length<=4294967280)(P:Var 139 H bh [aJ p,.slice none 0 0,.slice none 0 0,.slice none 0 0])(N:aS fq 135 H vk 1 B.v (hM g.bj p bh))
 (az:ak (bh+1) K)(ae:ak fq K)(ag:ai (bh+1) fq)(s:W (aq [b+1]) H aa)(av:Var 86 aa b [.int .i64 D.cap,.int .i64 D.en,B.v,.int .i64 D.ops,.int .i64 D.left,.bool D.dead]):
 bR (fq::(bh+1)::K) {g with ρ:=eg (gC g.ρ bh (.dir p)) fq .du,bj:=hM g.bj p bh,ho:=B} aa b D:=by
 have Q:g.ρ bh= .out:=h.role (fun Z=>az (bh+1) Z bh o o);have ok:∀c,c+1=fq->g.ρ c= .out/\c≠bh:=fun c e=>⟨h.pS ae c e,fun L=>ag c I e⟩;have T:Ext g.ρ (gC g.ρ bh (.dir p)):=Ext.gC Q;have M:Ext (gC g.ρ bh (.dir p)) (eg (gC g.ρ bh (.dir p)) fq .du):=Ext.eg (fun c e=> .inl (by rw[qW (ok c e).2];exact(ok c e).1));have he:=T.trans M;have A:∀c,aq [b+1] c->g.ρ c= .fs:=fun c e=>by
  have:c=b:=by simpa[aq]using e
  rw[this];exact h.eJ
 obtain⟨C,E⟩:=h.abs p ah;have O:∀c,g.ρ c= .out->¬aq [b+1] c:=fun c e L=>by have:=A c L;rw[e]at this;cases this
 have aA:∀c,aq [b+1] c->g.ρ c≠ .du:=fun c e=>by rw[A c e];simp
 exact{
  dz:=m8 (qp h.dz a_) a_,lt:=nd (qE h.lt s.size (jT P.lt s.size)) (dF _) (ev N.le s.size),eJ:=he.of h.eJ a_
  cr:=av,h7:=h.h7,jB:=h.jB,jD:=h.jD
  ab:=(N.up s (fun c _ e=>O c (ok c e).1)).rd.imp (fun c _ e=>lv e)
  kL:=s_ h.kL
  qM:=fun x aw=>(HP aw).elim (fun e=>by rw[e];exact al) (h.qM x)
  eZ:=fun q F e=>by
   have e:ax (hM g.bj p bh) q=some F:=e;rw[rv]at e;by_cases n:q=p;rw[aD n]at e;have e:=mG e;subst e;subst n;have bx:=F5 R (fun r af=>(C r af).1);have fr:=F5 S (fun r af=>(C r af).2);refine⟨⟨none,0,0⟩,⟨none,0,0⟩,⟨none,0,0⟩,0,[],?_⟩
   exact{rd:=M.of qX a_,bS:=P.up s (O _ Q),ar:=by rw[bx];exact Rd.nil _ _ _ _,Y:=by rw[fr];exact Rd.nil _ _ _ _
         aj:=aS.nil xS xT,c9:=by rw[E];rfl,hb:=fun j X=>absurd X (nB _),iy:=by rw[bx,fr,E];rfl,rc:=fun c e=>I}
   rw[au n]at e;obtain⟨b3,a6,bv,k,bD,ab⟩:=h.eZ q F e;exact⟨b3,a6,bv,k,bD,ab.al he s (fun c aj=>by rw[A c aj];simp) o o o⟩
  abs:=fun q e=>by
   have e:ax (hM g.bj p bh) q=none:=e;rw[rv]at e;by_cases n:q=p;rw[aD n]at e;cases e;rw[au n]at e;exact h.abs q e
  len:=h.len
  dE:=fun i V=>by
   obtain⟨b3,a6,dr,k,l,U⟩:=h.dE i V;exact⟨b3,a6,dr,k,l,U.al he s (fun c aj=>by rw[A c aj];simp)⟩
  ids:=h.ids}
def bR.lK{c:dy}{A:Nat}{c1 C:ay}(h:bR K g H b D)(E:cX D.now)(M:cX D.stays)(ah:ax g.bj p=some bh)(ab:pn g.ρ g.fb H D p bh b3 a6 bv k bD)(s:W (aq [bh+1,k]) H aa)(ai:Var 139 aa bh [aJ p,c1.v,a6.v,C.v])(aj:aS A 136 aa xR 1 C.v (bD++[c1]))(ag:U k H.size A)
 (S:Rd (fun c=>g.ρ c= .du) H (h5 g.fb) 2 c1.v (c.ap (ei D.now p)))(O:c.dir=p)(L:uO c p)(P:∀i,c.f=some i->i<D.fs.length):bR (A::K) {g with ρ:=eg g.ρ A (.lK p)} aa b (D.change c):=by
 have N:∀x,aq [bh+1,k] x->g.ρ x= .dir p\/g.ρ x= .lK p:=fun x e=>by
  have:x+1=bh+1\/x+1=k:=by simpa[aq]using e
  rcases this with e|e;exact .inl (by rw[show x=bh by omega];exact ab.rd);exact .inr (ab.rc x e)
 have r:Ext g.ρ (eg g.ρ A (.lK p)):=Ext.eg (h.wm ag ab.rc);have B:∀x,aq [bh+1,k] x->g.ρ x≠ .du:=fun x e=>by rcases N x e with e|e<;>(rw[e];simp)
 have F:(D.change c).c0 p=D.c0 p++[c]:=by simp[ao.c0,ao.change,O]
 have V:ei (D.change c).now p=c.ap (ei D.now p):=F2 E L;have T:iX (D.c0 p++[c]) (ei D.stays p)=c.ap (ei D.now p):=by rw[Ed,ab.iy];rfl
 refine h.rL s (fun x e=>(N x e).elim .inl (fun e=> .inr (.inl e))) r (m8 h.dz a_) (nd h.lt s.size aj.le) ah ⟨c1,a6,C,A,bD++[c1],?_⟩ ⟨o,o,o,o,o,o⟩ ⟨E,M,r5 E c,M⟩ (fun q X=>?_) (fun q X=>rfl) (fun n ar=>?_) ⟨fun q i e=>?_,h.ids.2.1,fun x ak i e=>?_⟩
 exact{rd:=r.of ab.rd a_,bS:=ai,ar:=by rw[V];exact gX S r s B,Y:=gX ab.Y r s B
       aj:=aj,c9:=by rw[F];simp[ab.c9]
       hb:=fun j Z=>by
        rw[F];show Rd _ aa _ 2 _ (iX _ (ei D.stays p));by_cases R:j<bD.length;have bc:(bD++[c1])[j]=bD[j]:=by simp[List.getElem_append_left R]
        rw[bc,rm (by rw[<-ab.c9];omega)];exact gX (ab.hb j R) r s B;have ae:j=bD.length:=by simp at Z;omega
        subst ae;rw[e5 (by simp[ab.c9]),T];simpa using gX S r s B
       iy:=by rw[V,F];exact T.symm
       rc:=fun x e=>lv e}
 show ax (c.ap D.now) q=ax D.now q;rw[ng];exact xh L.1 L.2 X;simp[ao.c0,ao.change,O,ku ar];have e:ax (c.ap D.now) q=some i:=e;exact uZ [c] D.now h.ids.1 (fun d ab i Q=>by rw[fm.1 ab]at Q;exact P i Q) q i e;rcases gR.1 ak with hm|hm;exact h.ids.2.2 x hm i e;rw[fm.1 hm]at e;exact P i e
def bR.xI(h:bR K g H b D)(r:cX D.now)(A:cX D.stays)(O:ax g.bj p=some bh)(ab:pn g.ρ g.fb H D p bh b3 a6 bv k bD)(s:W (aq [bh+1]) H aa)(P:Var 139 aa bh [aJ p,b3.v,b3.v,.slice none 0 0]):bR K g aa b (D.nL p):=by
 have B:∀x,aq [bh+1] x->g.ρ x= .dir p:=fun x e=>by
  have:x=bh:=by simpa[aq]using e
  rw[this];exact ab.rd
 have M:∀x,aq [bh+1] x->g.ρ x≠ .du:=fun x e=>by rw[B x e];simp
 have L:∀q,ax (D.nL p).stays q=if bI q=p then ax D.now q else ax D.stays q:=fun q=>oe r p q;have E:ei (D.nL p).stays p=ei D.now p:=F4 r A p;have C:(D.nL p).c0 p=[]:=by unfold ao.nL ao.c0;rw[pO,rn];intro c _;simp
 refine h.rL (ρ':=g.ρ) s (fun x e=> .inl (B x e)) (Ext.refl _) h.dz (fun c e=>jT (h.lt c e) s.size) O ⟨b3,b3,⟨none,0,0⟩,0,[],?_⟩ ⟨o,o,o,o,o,o⟩ ⟨r,A,r,s9 A p⟩ (fun q F=>rfl) (fun q F=>by rw[L,au F]) (fun n ar=>?_) ⟨h.ids.1,fun q i e=>?_,fun c aj i e=>h.ids.2.2 c (iK.1 aj).1 i e⟩;exact{rd:=ab.rd,bS:=P,ar:=gX ab.ar (Ext.refl _) s M,Y:=by rw[E];exact gX ab.ar (Ext.refl _) s M,aj:=aS.nil xS xT,c9:=by rw[C];rfl,hb:=fun j N=>absurd N (nB _),iy:=by rw[E,C];rfl,rc:=fun c e=>I};unfold ao.nL ao.c0;rw[pO];refine tM fun c _=>?_;by_cases e:c.dir=n;simp[e,ar];simp[e];rw[L]at e;split at e;exact h.ids.1 q i e;exact h.ids.2.1 q i e
def bR.Pr{w:cn}{aL:List UInt8}{P sd Q:ay}{B fq n bi:Nat}(h:bR K g H b D)(X:i<D.fs.length)(A:mw g.ρ H i (g.fb.getD i 0) (aM D.fs i) b3 a6 dr k l)(e:g.fb.getD i 0=bi)(s:W (aq [bi+1,k]) H aa)(Z:Var 147 aa bi [P.v,a6.v,Q.v])(hw:aS n 224 aa se 2 Q.v (l++[(w,sd)]))(C:U k H.size n)
 (ab:aS fq 5 aa a7 1 sd.v w.d)(T:ak fq (n::K))(ar:aS B 5 aa a7 1 P.v aL)(M:ak B (fq::n::K)):
 bR (B::fq::n::K) {g with ρ:=eg (eg (eg g.ρ n (.k2 i)) fq .du) B .du} aa b (D.fk i ⟨aL,(aM D.fs i).stays,(aM D.fs i).w++[w]⟩):=by
 subst e;have R:∀x,aq [g.fb.getD i 0+1,k] x->g.ρ x= .dE i\/g.ρ x= .k2 i:=fun x e=>by
  have:x+1=g.fb.getD i 0+1\/x+1=k:=by simpa[aq]using e
  rcases this with e|e;exact .inl (by rw[show x=g.fb.getD i 0 by omega];exact A.cC);exact .inr (A.hl x e)
 have ae:Ext g.ρ (eg g.ρ n (.k2 i)):=Ext.eg (h.wm C A.hl);have L:∀c,c+1=fq->c+1≠n/\g.ρ c= .out:=fun c e=>by
  have F:c+1≠n:=fun r=>T n fZ c e r;exact⟨F,h.pS (fun k C=>T k (gx _ C)) c e⟩
 have N:∀c,c+1=B->c+1≠fq/\c+1≠n/\g.ρ c= .out:=fun c e=>by
  have F:c+1≠fq:=fun r=>M fq fZ c e r;have V:c+1≠n:=fun r=>M n (gx _ fZ) c e r;exact⟨F,V,h.pS (fun k C=>M k (gx _ (gx _ C))) c e⟩
 have ag:Ext (eg g.ρ n (.k2 i)) (eg (eg g.ρ n (.k2 i)) fq .du):=Ext.eg (fun c e=> .inl (by rw[uH (L c e).1];exact(L c e).2));have O:Ext (eg (eg g.ρ n (.k2 i)) fq .du) (eg (eg (eg g.ρ n (.k2 i)) fq .du) B .du):=Ext.eg (fun c e=> .inl (by rw[uH (N c e).1,uH (N c e).2.1];exact(N c e).2.2));have E:=(ae.trans ag).trans O;have S:∀c,aq [g.fb.getD i 0+1,k] c->g.ρ c≠ .du:=fun c e=>by rcases R c e with e|e<;>(rw[e];simp)
 refine h.rM X s (fun x e=>(R x e).elim .inl (fun e=> .inr (.inl e))) E (m8 (m8 (m8 h.dz a_) a_) a_) (nd (nd (nd h.lt s.size hw.le) (dF _) ab.le) (dF _) ar.le) ⟨P,a6,Q,n,l++[(w,sd)],?_⟩
 exact{cC:=E.of A.cC a_,eL:=Z,ar:=ar.rd.imp (fun c _ e=>lv e),Y:=gX A.Y E s S,hw:=hw,lw:=by rw[hc,A.lw];rfl
       ab:=fun y hy=>by
        rcases gR.1 hy with hy|hy;exact gX (A.ab y hy) E s S;rw[fm.1 hy];exact ab.rd.imp fun c _ e=>O.of (lv e) a_
       hl:=fun c e=>O.of (by rw[uH (fun r=>(L c r).1 e)];exact lv e) a_}
def bR.fsync{bi:Nat}(h:bR K g H b D)(B:i<D.fs.length)(n:mw g.ρ H i (g.fb.getD i 0) (aM D.fs i) b3 a6 dr k l)(e:g.fb.getD i 0=bi)(s:W (aq [bi+1]) H aa)(C:Var 147 aa bi [b3.v,b3.v,.slice none 0 0]):bR K g aa b (D.uD i):=by
 subst e;have r:∀x,aq [g.fb.getD i 0+1] x->g.ρ x= .dE i:=fun x e=>by
  have:x=g.fb.getD i 0:=by simpa[aq]using e
  rw[this];exact n.cC
 have A:∀c,aq [g.fb.getD i 0+1] c->g.ρ c≠ .du:=fun c e=>by rw[r c e];simp
 refine h.rM (ρ':=g.ρ) B s (fun x e=> .inl (r x e)) (Ext.refl _) h.dz (fun c e=>jT (h.lt c e) s.size) ⟨b3,b3,⟨none,0,0⟩,0,[],?_⟩;exact{cC:=n.cC,eL:=C,ar:=gX n.ar (Ext.refl _) s A,Y:=gX n.ar (Ext.refl _) s A,hw:=aS.nil sf vm,lw:=rfl,ab:=fun y hy=>(by cases hy),hl:=fun c e=>I}
def mw.mC{n bi:Nat}(h:mw ρ H i n x b3 a6 dr k l)(e:n=bi):Var 147 H bi [b3.v,a6.v,dr.v]:=e▸h.eL
def bR.rq{n bi:Nat}(h:bR K g H b D)(r:mw g.ρ H i n x b3 a6 dr k l)(e:n=bi):gN K (bi+1):=e▸h.lg r.cC a_
def mw.ne{n bi:Nat}(h:mw ρ H i n x b3 a6 dr k l)(e:n=bi):ai (bi+1) k:=fun c B A=>by
 have r:=h.hl c A;rw[show c=n by omega,h.cC]at r;cases r
def pn.ne(h:pn ρ fb H D p bh b3 a6 bv k bD):ai (bh+1) k:=fun c A r=>by
 have n:=h.rc c r;rw[show c=bh by omega,h.rd]at n;cases n
def bR.AK{picks:List Int}{at_:Nat}{c4:ay}(h:bR K g H b D)(A:cX D.now)(C:cX D.stays)(T:ax g.bj p=some bh)(ab:pn g.ρ g.fb H D p bh b3 a6 bv k bD)(R:∀c∈D.log,∀i,c.f=some i->bI c.n=c.dir)(s:W (aq [bh+1,k]) H aa)
 (U:Var 139 aa bh [aJ p,c4.v,c4.v,.slice none 0 0])(M:Rd (fun c=>g.ρ c= .du) H (h5 g.fb) 2 c4.v (ei (eF picks D (D.stays,at_) p).1 p)):bR K g aa b (oA picks D at_ p):=by
 have E:∀x,aq [bh+1,k] x->g.ρ x= .dir p\/g.ρ x= .lK p:=fun x e=>by
  have:x+1=bh+1\/x+1=k:=by simpa[aq]using e
  rcases this with e|e;exact .inl (by rw[show x=bh by omega];exact ab.rd);exact .inr (ab.rc x e)
 have N:∀x,aq [bh+1,k] x->g.ρ x≠ .du:=fun x e=>by rcases E x e with e|e<;>(rw[e];simp)
 have O:∀c∈(D.c0 p).take (gJ picks at_ ((D.c0 p).length+1)),c.dir=p/\∀i,c.f=some i->bI c.n=c.dir:=fun c aj=>by
  have:=pC (ky aj);exact⟨this.2,R c this.1⟩
 have r:cX (eF picks D (D.stays,at_) p).1:=by rw[m3];exact u2 C _
 have S:∀q,bI q≠p->ax (eF picks D (D.stays,at_) p).1 q=ax D.stays q:=fun q B=>by rw[m3];exact u0 B _ _ O
 have L:ei (oA picks D at_ p).now p=ei (eF picks D (D.stays,at_) p).1 p:=F4 r A p;have F:(oA picks D at_ p).c0 p=[]:=by unfold oA ao.c0;rw[pO,rn];intro c _;simp
 have hid:∀q i,ax (eF picks D (D.stays,at_) p).1 q=some i->i<D.fs.length:=by
  rw[m3];exact uZ _ _ h.ids.2.1 fun c aj i P=>h.ids.2.2 c (pC<|ky aj).1 i P
 refine h.rL (ρ':=g.ρ) s (fun x e=>(E x e).elim .inl (fun e=> .inr (.inl e))) (Ext.refl _) h.dz (fun c e=>jT (h.lt c e) s.size) T ⟨c4,c4,⟨none,0,0⟩,0,[],?_⟩ ⟨o,o,o,o,o,o⟩ ⟨A,C,s9 A p,r⟩ (fun q B=>?_) S (fun n ar=>?_) ⟨fun q i e=>?_,hid,fun c aj i e=>h.ids.2.2 c (iK.1 aj).1 i e⟩;exact{rd:=ab.rd,bS:=U,ar:=by rw[L];exact gX M (Ext.refl _) s N,Y:=gX M (Ext.refl _) s N,aj:=aS.nil xS xT,c9:=by rw[F];rfl,hb:=fun j Q=>absurd Q (nB _),iy:=by rw[L,F];rfl,rc:=fun c e=>I};show ax (merge _ D.now p) q=_;rw[oe r,au B];unfold oA ao.c0;rw[pO];refine tM fun c _=>?_;by_cases e:c.dir=n;simp[e,ar];simp[e];have e:ax (merge (eF picks D (D.stays,at_) p).1 D.now p) q=some i:=e;rw[oe r]at e;split at e;exact hid q i e;exact h.ids.1 q i e
def bR.new(cap en:Nat)(k:Var 86 H b [.int .i64 cap,.int .i64 en,.slice none 0 0,.int .i64 0,.int .i64 0,.bool false])(aj:cap<=9223372036854775807)(r:en<=9223372036854775807):
 bR [b+1] ⟨gC (fun _=> .out) b .fs,[],[],⟨none,0,0⟩⟩ H b (ao.empty cap en) where
 dz:=qp (K:=[]) (ρ:=fun _=> .out) (fun c=>by simp) a_
 lt:=qE (H:=H) (fun c h=>absurd o h) (dF _) k.lt
 eJ:=by show gC (fun _=>gD.out) b .fs b=_;exact qX
 cr:=k
 h7:=by simp[ao.empty]
 jB:=aj
 jD:=r
 ab:=Rd.nil _ _ _ _
 kL:=List.Pairwise.nil
 qM:=nofun
 eZ:=fun p bh e=>(by cases e)
 abs:=fun p _=>⟨fun q _=>⟨o,o⟩,o⟩
 len:=rfl
 dE:=fun i n=>(by simp[ao.empty]at n)
 ids:=⟨fun p i e=>(by cases e),fun p i e=>(by cases e),fun c aj=>(by cases aj)⟩
end
def HN{l:ca}{p:av}{i:Nat}(h:i<l.length):ey (l.take (i+1)) p=if l[i].1=p then ey (l.take i) p else ey (l.take i) p++[l[i]]:=by
 unfold ey;rw[fc h,vQ];by_cases e:l[i].1=p;rw[aD e];simp[e];rw[au e];simp[e]
def HW:∀{l:ca} {p:av} {i:Nat} (h:i<l.length),(∀q (h:q<l.length),q<i->¬l[q].1=p)->l[i].1=p->ax l p=some l[i].2
 |x::l,p,0,_,_,e=>by
  have e:x.1=p:=e;show(if p=x.1 then some x.2 else _)=_;rw[aD e.symm];rfl
 |x::l,p,i+1,h,ar,e=>by
  have k:¬x.1=p:=ar 0 (qz _) (qz _);show(if p=x.1 then some x.2 else ax l p)=_;rw[au (fun q=>k q.symm)];exact HW (BH h) (fun q r n=>ar (q+1) (qA r)<|qA n) e
def HX:∀{l:ca} {p:av},(∀q (h:q<l.length),¬l[q].1=p)->ax l p=none
 |[],_,_=>rfl
 |x::l,p,h=>by
  have k:¬x.1=p:=h 0 (qz _);show(if p=x.1 then some x.2 else ax l p)=_;rw[au (fun q=>k q.symm)];exact HX fun q n=>h (q+1)<|qA n
def Ct:∀{m:ca} {p:av} {i k:Nat},(∀x∈m,¬x.1=p)->k<=m.length->(∀q (h:q<m.length),q<k->blt m[q].1 p)->(∀h:k<m.length,¬blt m[k].1 p)->m.take k++[(p,i)]++m.drop k=hM m p i
 |[],p,i,k,_,B,_,_=>by simp[hM]
 |x::m,p,i,0,ar,_,_,n=>by
  have r:¬blt x.1 p:=n (qz _);have C:¬x.1=p:=ar x fZ;unfold hM;rw[au r,au C];rfl
 |x::m,p,i,k+1,ar,B,A,n=>by
  have r:blt x.1 p:=A 0 (qz _) (qz _);have:=Ct (m:=m) (p:=p) (i:=i) (k:=k) (fun y hy=>ar y (gx _ hy)) (Nat.le_of_succ_le_succ B) (fun q E h=>A (q+1) (qA E) (qA h)) (fun h=>n (qA h));unfold hM;rw[aD r,<-this];rfl
def Rl{l:ca}(h:cX l)(p:av)(i:Nat):hM (ey l p) p i=hM l p i:=by
 refine s8 (s_<|z_ h) (s_ h) fun q=>?_;rw[rv,rv];by_cases e:q=p;rw[aD e,aD e];rw[au e,au e,mK,au e]
def QM{l:ca}{p:av}:∀x∈ey l p,¬x.1=p:=fun x k=>by
 have:=(iK.1 k).2;simpa using this
def B1(l:ca)(p:av):(ey l p).length<=l.length:=nD _ _
def It:∀{m:ca} {p:av},(∀x∈m,¬x.1=p)->∀i:Nat,(hM m p i).length=m.length+1
 |[],_,_,_=>rfl
 |x::m,p,h,i=>by
  have k:¬x.1=p:=h x fZ;unfold hM;rw[au k];split;rw[fA,It (fun y hy=>h y (gx _ hy)) i];rfl;rfl
def Jt{v:Value}{l:ca}(p:av)(w0:World)(k:b_ V (h5 vq33z) 2 v l):
 a8 prog w0 200 #[v,aJ p] V (fun r K=>r= .pointer (lQ vq33z (ax l p))/\an V K):=by
 refine G.bN func200 o fun n=>?_;have k:=k.cD;have aa:=k.len
 refine G.bd o (fun(i:Nat)=>[(0,v),(1,aJ p),(5,.int .i64 (i:Int))])
  (fun(i:Nat) (H:Heap)=>(i<=l.length)/\(∀q (h:q<l.length),q<i->¬l[q].1=p)/\an V H)
  (fun(i:Nat)=>l.length-i) 0 ⟨I,(fun q h B=>absurd B (nB _)),W.refl _ _⟩ ?_
 rintro i U ⟨Z,E,F⟩ R N;obtain⟨k,n,_⟩:=bG F k n;refine G.O o (bz k mq)<|G.ip o ?_ ?_<;>intro X;have P:i<l.length:=by omega
 obtain⟨y,C⟩:∃q,q=l[i]:=⟨_,o⟩;refine G.pp o (M.cw k i o mq nI o o) fun S ac=>G.aK o rS b7 o<|G.O o (M.cast (v2:=aJ y.1) (aY (ac.T.drop 0) cm) (by rw[C]))<|G.ae 1 o (M.ox o o o)<|G.ip o (fun A=>?_) fun A=>?_;exact G.pp o (M.cw k i o mq nI o o) fun T L=>G.aK o rS C6 o<|G.O o (M.cast (v2:= .pointer (lQ vq33z (ax l p))) (aY (L.T.drop 1) zP) (by rw[HW P E (by rw[<-C];exact A)];rfl))<|G.rt o ⟨o,n⟩;exact G.O o bB<|G.aQ o<|N (i+1) _ ⟨I,(fun q h B=>by rcases sA.1 B with O|rfl;exact E q h O;rw[<-C];exact A),F⟩;exact G.rt o ⟨by rw[HX (fun q Q=>E q Q I)]<;>rfl,n⟩
def KW{v:Value}{l:ca}{p:av}{w0:World}(A:b_ V (h5 vq33z) 2 v l)(aF:l.length<=1099511627776):
 a8 prog w0 97 #[v,aJ p] V (fun r N=>∃s2:ay,∃R:Nat,r=s2.v/\aS R 144 N (h5 vq33z) 2 s2.v (ey l p)/\U 0 V.size R/\an V N):=by
 refine G.bN func97 o fun E=>?_;have A:=A.cD
 refine G.bd o (fun(ak:Nat×ay×Nat)=>match ak with|(i,s1,B)=>[(0,v),(1,aJ p),(5,s1.v),(6,.int .i64 (i:Int))])
  (fun(i,s1,B) (H:Heap)=>(i<=l.length)/\aS B 144 H (h5 vq33z) 2 s1.v (ey (l.take i) p)/\U 0 V.size B/\an V H)
  (fun(i,s1,B)=>l.length-i) (0,⟨none,0,0⟩,0) ⟨I,aS.nil (ra) (vl),U.refl _ _,W.refl _ _⟩ ?_
 rintro⟨i,s1,B⟩ az ⟨aE,k,O,n⟩ al aU;have S:=U.al (U.refl 0 _) O E.size;obtain⟨A,E,_⟩:=bG n A E;have ac:=k.le;have K:=O;have ah:=B1 (l.take i) p;rw[eC]at ah;refine G.O o (bz A mq)<|G.ip o ?_ ?_<;>intro aq;have Q:i<l.length:=by omega
 obtain⟨y,C⟩:∃q,q=l[i]:=⟨_,o⟩;refine G.pp o (M.cw A i o mq nI o o) fun aw aa=>G.aK o rS b7 o<|G.O o (M.cast (v2:=aJ y.1) (aY (aa.T.drop 0) cm) (by rw[C]))<|G.ae 1 o kJ<|G.ip o (fun L=>?_) fun L=>?_;refine G.pp o (M.cw A i o mq nI o o) fun ax ae=>G.O o (M.cast (v2:= .agg (h5 vq33z y).toArray) (bu ae.T zQ nI ((ra _))) (by rw[C]))<|G.aR o (Z.cV<|c5 _ ([y]) tD (ra) (vl)) ?_;rintro aA aB ⟨ai,aH,_⟩;obtain⟨k,n,_⟩:=bG aH k n;refine G.aR o (dd k ai.rd tD bU bU) ?_;rintro P aC ⟨T,k,am,F⟩;have F:=F.md;have ag:=U.al K am n.size;obtain⟨n,_⟩:=cz F n K;have ac:=k.le;obtain⟨X,rfl⟩:∃s:ay,P=s.v:=⟨ck P,k.a6.symm⟩;exact G.O o bB<|G.aQ o<|aU (i+1,X,T) _ ⟨I,by rw[HN Q,<-C,au L];exact k,ag,n⟩;exact G.O o bB<|G.aQ o<|aU (i+1,s1,B) _ ⟨I,by rw[HN Q,<-C,aD (by simpa using L)];exact k,K,n⟩;obtain rfl:i=l.length:=by omega
 rw[eQ]at k;exact G.rt o ⟨s1,B,o,k,S,E⟩
def DR{v:Value}{l:ca}(p:av)(i:Nat)(w0:World)(F:b_ V (h5 vq33z) 2 v l)(bh:l.length<=549755813888)(aL:cX l):
 a8 prog w0 38 #[v,.agg (h5 vq33z ((p,i):av×Nat)).toArray] V (fun r P=>∃s2:ay,∃ak:Nat,r=s2.v/\aS ak 144 P (h5 vq33z) 2 s2.v (hM l p i)/\U 0 V.size ak/\an V P):=by
 refine G.bN func38 o fun n=>?_;have F:=F.cD;have bj:=B1 l p;refine G.aR o (Z.bT<|h5 vq33z ((p,i):av×Nat)) ?_;rintro v3 aT ⟨rfl,B,aq,_⟩;obtain⟨F,n,_⟩:=bG aq F n;refine G.aG o B.T rS b7 cm o o<|G.aC o Ft (KW (vq33z:=vq33z) (v:=v) (l:=l) (p:=p) (w0:=w0) F.any I) ?_;rintro a_ am ⟨Q,ba,rfl,A,a6,aE⟩;obtain⟨B,n,_⟩:=bG aE B n;have ap:=A.le
 refine G.bw 1 o (fun(k:Nat)=>[(0,Q.v),(3,.pointer (some ⟨V.size,0,none⟩)),(5,.int .i64 (k:Int))])
  (fun(k:Nat) (H:Heap)=>(k<=(ey l p).length)/\(∀q (h:q<(ey l p).length),q<k->blt (ey l p)[q].1 p)/\(∀h:k<(ey l p).length,¬blt (ey l p)[k].1 p)/\an am H) (fun _ R=>?_) ?_
 have K:an am am:=W.refl _ _
 refine G.bd o (fun(k:Nat)=>[(0,Q.v),(3,.pointer (some ⟨V.size,0,none⟩)),(5,.int .i64 (k:Int))])
  (fun(k:Nat) (H:Heap)=>(k<=(ey l p).length)/\(∀q (h:q<(ey l p).length),q<k->blt (ey l p)[q].1 p)/\an am H)
  (fun(k:Nat)=>(ey l p).length-k) 0 ⟨I,(fun q h O=>absurd O (nB _)),W.refl _ _⟩ ?_
 rintro k bc ⟨ae,E,T⟩ aV aw;obtain⟨B,A,K,_⟩:=cg T B A K;refine G.rd o o aW<|G.O o (bz A.rd mq)<|G.sp 2 15 o ?_ ?_<;>intro a7;have bg:k<(ey l p).length:=by omega
 refine G.O o (jP A k mq nI)<|G.O o (M.fieldAddr (A.T (j:=k) gj) o rS o o b7 aO o)<|G.O o (M.cast (v2:=aJ (ey l p)[k].1) (aY ((A.T (j:=k) gj).drop 0) cm) o)<|G.aG o B.T rS b7 cm o o<|G.ae 0 o (M.De o o o)<|G.ci o ?_ ?_<;>intro aU;exact G.O o bB<|G.aQ o<|aw (k+1) _ ⟨I,(fun q h O=>by rcases sA.1 O with aK|rfl;exact E q h aK;exact aU),T⟩;exact G.aQ o<|R k _ ⟨I,E,(fun _=>by unfold blt;simpa using aU),K⟩;exact G.dP o<|G.aQ o<|R k _ ⟨I,E,(fun h=>absurd h I),K⟩;intro k aC ad;obtain⟨ae,E,aM,ac⟩:=ad;obtain⟨B,A,n,_⟩:=cg ac B A n;refine G.hj (g:=fun v=>v) o (iG A.rd (0) k mq nI (.inl ⟨o,o⟩) (.inr ⟨_,_,_,o,o,by first|rfl|omega⟩)) fun bd aQ=>?_;have aN:aS 0 144 aC (h5 vq33z) 2 (.slice none 0 0) []:=aS.nil (ra (vq33z:=vq33z)) (vl (vq33z:=vq33z));refine G.aR o (dd aN aQ tD bU bU) ?_;rintro bf a0 ⟨bq,on,X,C⟩;have C:=C.md;have ax:=ai.app ai.z A.le X;have aa:=U.al (U.refl 0 _) X n.size;obtain⟨B,A,_⟩:=de C B ai.z A ai.z;have n:=n.gK C (ag.cons ah.z ag.nil);have a2:=C.size;have aB:=on.le;refine G.O o (bu B.T zQ nI ((ra _)))<|G.aR o (Z.cV<|c5 _ ([((p,i):av×Nat)]) tD (ra) (vl)) ?_;rintro a3 a4 ⟨aP,aF,_⟩;obtain⟨A,on,n,_⟩:=cg aF A on n;refine G.aR o (dd on aP.rd tD bU bU) ?_;rintro a5 aX ⟨aZ,on,aG,L⟩;have L:=L.md;have aH:=U.al aa aG n.size;obtain⟨A,n,_⟩:=de L A ax n aa;have aB:=on.le;refine G.hj (g:=fun v=>v) o (iG A.rd k ((ey l p).length) mq nI (.inr ⟨_,_,_,o,o,by first|rfl|omega⟩) (.inl ⟨o,o⟩)) fun a1 aR=>G.aR o (dd on aR tD bU bU) ?_;rintro S a9 ⟨az,on,aI,N⟩;have N:=N.md;have al:=U.al aH aI n.size;have n:=n.gK N (ag.J (ah.q aH));rw[gw,mf,eQ]at on;obtain⟨aA,rfl⟩:∃s:ay,S=s.v:=⟨ck S,on.a6.symm⟩;exact G.rt o ⟨aA,az,o,by rw[<-Rl aL,<-Ct QM ae E aM];exact on,al,n⟩
def q0(g g2:dT)(p:av):Prop:=(ax g.bj p≠none->g2.bj=g.bj)/\g2.bj.length<=g.bj.length+1
def xH(p:av):(bI p).length<=p.length:=by
 unfold bI;split;unfold nz;rw[eC];omega;simp
def q0.refl(g:dT)(p:av):q0 g g p:=⟨fun _=>rfl,nC _⟩
def FZ{m:ca}{p:av}(A:cX m)(C:k<m.length)(F:∀q (h:q<m.length),q<k->blt m[q].1 p)(H:¬blt m[k].1 p):m[k].1=p↔ax m p≠none:=by
 constructor;intro e h;rw[<-e,nf A (cS C)]at h;cases h;intro h;cases E:ax m p with
 |none=>exact absurd E h
 |some z=>
  obtain⟨j,B,e⟩:=vT (ru E);have bc:m[j].1=p:=by rw[e]
  rcases BM j k with n|n|n;have:=F j B n;rw[bc]at this;exact absurd this (ps);subst n;exact bc;have r:blt m[k].1 m[j].1:=(BF.1 A) k j C B n;rw[bc]at r;exact absurd r H
def F1{m:ca}{p:av}(B:¬k<m.length)(r:∀q (h:q<m.length),q<k->blt m[q].1 p):ax m p=none:=by
 cases A:ax m p with
 |none=>rfl
 |some z=>
  obtain⟨j,n,e⟩:=vT (ru A);have:=r j n I;have bc:m[j].1=p:=by rw[e]
  rw[bc]at this;exact absurd this (ps)
def F0{m:ca}{p:av}(h:ax m p=none):∀x∈m,¬x.1=p:=fun x k e=>by
 have:(ax m p).isSome=true:=gM.2 (dp.2 ⟨x,k,e⟩);rw[h]at this;cases this
def CO{w0:World}{l:az}{J:Oper}{g:dT}{b:Nat}{D:ao}{x y:Operand}{t:TypeId}(h:bR vq33z g H b D)(c1:Nat)(B:J.op= .store t x y)(C:aI l x=some (.pointer (some ⟨b,4,none⟩)))(hy:aI l y=some (.int .i64 (c1:Int)))(Y:∀w,(sizeOf t).run prog w= .ok 1 w)(A:c1<=9223372036854775807):
 S prog w0 n l H J (fun aa=>bR vq33z g aa b {D with left:=c1}/\W (aq vq33z) H aa):=
 (S.df h.cr 4 _ B C hy o Y a_ o).mono fun aa ⟨r,k⟩=>⟨h.rN k.eU r A ⟨o,o,o,o,o,o⟩,h.ms k (fun c e=>by rw[e,h.eJ];simp)⟩
def Jh{w0:World}{l:az}{J:Oper}{g:dT}{b:Nat}{D:ao}{x y:Operand}{t:TypeId}(h:bR vq33z g H b D)(dd2q:Bool)(A:J.op= .store t x y)(B:aI l x=some (.pointer (some ⟨b,5,none⟩)))(hy:aI l y=some (.bool dd2q))(Y:∀w,(sizeOf t).run prog w= .ok 1 w):
 S prog w0 n l H J (fun aa=>bR vq33z g aa b {D with dead:=dd2q}/\W (aq vq33z) H aa):=
 (S.df h.cr 5 _ A B hy o Y a_ o).mono fun aa ⟨r,k⟩=>⟨h.rN k.eU r h.h7 ⟨o,o,o,o,o,o⟩,h.ms k (fun c e=>by rw[e,h.eJ];simp)⟩
def Ji{w0:World}{l:az}{J:Oper}{g:dT}{b:Nat}{D:ao}{x y:Operand}{t:TypeId}(h:bR vq33z g H b D)(A:J.op= .store t x y)(B:aI l x=some (.pointer (some ⟨b,3,none⟩)))(hy:aI l y=some (.int .i64 ((D.ops+1:Nat):Int)))(Y:∀w,(sizeOf t).run prog w= .ok 1 w):
 S prog w0 n l H J (fun aa=>bR vq33z g aa b {D with ops:=D.ops+1}/\W (aq vq33z) H aa):=
 (S.df h.cr 3 _ A B hy o Y a_ o).mono fun aa ⟨r,k⟩=>⟨h.rN k.eU r h.h7 ⟨o,o,o,o,o,o⟩,h.ms k (fun c e=>by rw[e,h.eJ];simp)⟩
def Se{D:ao}(h:D.dead=true):D.begin=(false,D):=by unfold ao.begin;rw[aD h]
def Sf{D:ao}(h:D.dead=false)(k:D.left=1):D.begin=(false,{D with left:=0,dead:=true}):=by unfold ao.begin;rw[au (by simp[h]),aD k]
def Jd{D:ao}(h:D.dead=false)(k:D.left≠1):D.begin=(true,{D with left:=D.left-1,ops:=D.ops+1}):=by unfold ao.begin;rw[au (by simp[h]),au k]
def zf{g:dT}{b:Nat}{D:ao}(p:av){w0:World}(n:bR vq33z g V b D)(bo:cX D.now)(bu:cX D.stays)(b6:g.bj.length<=1099511627776)(bC:p.length<=4294967280):
 a8 prog w0 201 #[ptr b,aJ p] V (fun r aA=>∃aB:List Nat,∃g2:dT,∃bh:Nat,r=ptr bh/\bR aB g2 aA b D/\aF vq33z V.size aB/\ax g2.bj p=some bh/\g2.fb=g.fb/\q0 g g2 p/\W (aq vq33z) V aA):=by
 refine G.bc vq33z func201 o fun A=>?_;have Q:=aF.refl vq33z V.size;have bS:=n.aT
 refine G.bw 2 o (fun(k:Nat)=>[(0,ptr b),(1,aJ p),(5,.int .i64 (k:Int))])
  (fun(k:Nat) (H:Heap)=>(k<=g.bj.length)/\(∀q (h:q<g.bj.length),q<k->blt g.bj[q].1 p)/\(∀h:k<g.bj.length,¬blt g.bj[k].1 p)/\an V H) (fun _ aC=>?_) ?_
 have L:an V V:=W.refl _ _
 refine G.bd o (fun(k:Nat)=>[(0,ptr b),(1,aJ p),(5,.int .i64 (k:Int))])
  (fun(k:Nat) (H:Heap)=>(k<=g.bj.length)/\(∀q (h:q<g.bj.length),q<k->blt g.bj[q].1 p)/\an V H)
  (fun(k:Nat)=>g.bj.length-k) 0 ⟨I,(fun q h ae=>absurd ae (nB _)),W.refl _ _⟩ ?_
 rintro k bX ⟨aL,C,aG⟩ bO aM;obtain⟨n,L,_⟩:=bG aG n L;refine G.aG o n.cr.T hW l0 mB o o<|G.O o (bz n.ab mW)<|G.sp 2 15 o ?_ ?_<;>intro bQ;refine G.aG o n.cr.T hW l0 mB o o ?_;have K:k<g.bj.length:=by omega
 obtain⟨y,E⟩:∃q,q=g.bj[k]:=⟨_,o⟩;have az:ax g.bj y.1=some y.2:=by rw[E];exact nf n.kL<|cS K
 obtain⟨bI,bN,bl,bF,bk,al⟩:=n.eZ _ _ az;refine G.pp o (mY n.ab k mW p1) fun bW bd=>G.O o (M.cast (v2:=ptr y.2) (aY bd q1) (by rw[E]))<|G.aG o al.bS.T jL b7 cm o o<|G.ae 1 o (M.De o o o)<|G.ci o (fun P=>?_) fun P=>?_;exact G.O o bB<|G.aQ o<|aM (k+1) _ ⟨I,(fun q h ae=>by rcases sA.1 ae with bm|rfl;exact C q h bm;rw[<-E];exact P),aG⟩;exact G.aQ o<|aC k _ ⟨I,C,(fun _=>by rw[<-E];unfold blt;simpa using P),L⟩;exact G.dP o<|G.aQ o<|aC k _ ⟨I,C,(fun h=>absurd h I),L⟩;intro k ac bc;obtain⟨aL,C,aw,a7⟩:=bc;obtain⟨n,A,_⟩:=bG a7 n A;refine G.aG o n.cr.T hW l0 mB o o<|G.O o (bz n.ab mW)<|G.fY (v:=(decide (ax g.bj p≠none))) 2 13 51 38 o (fun aN O=>?_) (fun aN O=>?_) ?_;refine G.aG o n.cr.T hW l0 mB o o ?_;have K:k<g.bj.length:=by omega
 obtain⟨y,E⟩:∃q,q=g.bj[k]:=⟨_,o⟩;have az:ax g.bj y.1=some y.2:=by rw[E];exact nf n.kL<|cS K
 obtain⟨bI,bN,bl,bF,bk,al⟩:=n.eZ _ _ az;exact G.pp o (mY n.ab k mW p1) fun be aO=>G.O o (M.cast (v2:=ptr y.2) (aY aO q1) (by rw[E]))<|G.aG o al.bS.T jL b7 cm o o<|G.ae 1 o (M.ox o o o)<|O 1 o<|decide_eq_decide.2 (by rw[E];exact FZ n.kL K C (aw K));exact O 13 o (fG fun h=>h<|F1 I C).symm;refine G.ip o ?_ ?_<;>intro aa;have R:k<g.bj.length:=kQ (fun h=>aa (F1 h C));have bA:=(FZ n.kL R C (aw R)).2 aa;have aP:ax g.bj p=some g.bj[k].2:=by rw[<-bA];exact nf n.kL<|cS R
 exact G.aG o n.cr.T hW l0 mB o o<|G.pp o (mY n.ab k mW p1) fun c7 aQ=>G.O o (aY aQ q1)<|G.rt o ⟨vq33z,g,g.bj[k].2,o,n,Q,aP,o,q0.refl g p,A⟩;have N:ax g.bj p=none:=kQ aa;refine G.O o (M.build (v:= .agg #[aJ p,.slice none 0 0,.slice none 0 0,.slice none 0 0]) o o eN)<|G.aR o (Z.bT ([aJ p,.slice none 0 0,.slice none 0 0,.slice none 0 0])) ?_;rintro c9 a0 ⟨rfl,B,aR,_⟩;have bf:=ak.gf n.aT;have bg:=U.new A.size;obtain⟨n,A,_⟩:=bG aR n A;refine G.aG o n.cr.T hW l0 mB o o<|G.hj (g:=fun v=>v) o (iG n.ab (0) k mW p1 (.inl ⟨o,o⟩) (.inr ⟨_,_,_,o,o,by first|rfl|omega⟩)) fun bY bL=>?_;have bH:aS 0 135 a0 vk 1 (.slice none 0 0) []:=aS.nil Gq Gr;refine G.aR o (dd bH bL x7 bU bU) ?_;rintro bZ bT ⟨bi,on,T,F⟩;have F:=F.md;have bq:ak bi vq33z:=ak.ia ak.gv n.aT T;have a2:=ai.app ai.z B.lt T;have a3:=U.al (U.refl 0 _) T A.size;obtain⟨n,B,_⟩:=de F n (fL ak.gv) B ai.z;have A:=A.bf F (ag.cons ah.z ag.nil);have br:=F.size;have aH:=on.le;refine G.aR o (Z.cV<|c5 _ ([((p,ac.size):av×Nat)]) x7 Gq Gr) ?_;rintro bs b0 ⟨bK,aT,_⟩;obtain⟨n,B,on,A,_⟩:=dZ aT n B on A;refine G.aR o (dd on bK.rd x7 bU bU) ?_;rintro b1 b2 ⟨bj,on,am,X⟩;have X:=X.md;have aI:ak bj vq33z:=ak.ia bq n.aT am;have bt:=ai.app a2 B.lt am;have aK:=U.al a3 am A.size;obtain⟨n,B,A,_⟩:=dg X n (fL bq) B a2 A (ah.q a3);have aH:=on.le;refine G.aG o n.cr.T hW l0 mB o o<|G.hj (g:=fun v=>v) o (iG n.ab k g.bj.length mW p1 (.inr ⟨_,_,_,o,o,by first|rfl|omega⟩) (.inl ⟨o,o⟩)) fun b4 bM=>G.aR o (dd on bM x7 bU bU) ?_;rintro a4 b5 ⟨bD,on,ap,aU⟩;have aU:=aU.md;have aV:ak bD vq33z:=ak.ia aI n.aT ap;have aX:=ai.app bt B.lt ap;have aZ:=U.al aK ap A.size;obtain⟨n,B,A,_⟩:=dg aU n (fL aI) B bt A (ah.q aK);rw[gw,mf,eQ,Ct (F0 N) aL C aw]at on;obtain⟨bV,rfl⟩:∃s:ay,a4=s.v:=⟨ck a4,on.a6.symm⟩;refine G.aK o hW l0 o<|G.bl o (S.df n.cr 2 _ o o o o l0 a_ o) ?_;rintro bP ⟨bE,aE⟩;have ba:=n.ms aE (fun c e=>by rw[e,n.eJ];simp);have A:=A.bf ba (ag.bA Q (by intro k bw;simp[bw]));have a1:=aF.cons bg Q;have a6:=aF.cons aZ a1;have n:=n.Cq bo bu N bC B on bf aV aX aE.eU bE;exact G.rt o ⟨_,_,ac.size,o,n,a6,by show ax (hM g.bj p _) p=_;rw[rv,aD rfl],o,⟨fun h=>absurd N h,Nat.le_of_eq (It (F0 N) _)⟩,A⟩
def Jf{g:dT}{b:Nat}{D:ao}{p:av}(c1:ay)(c:dy){w0:World}(E:bR vq33z g H b D)(aE:cX D.now)(aG:cX D.stays)(X:ax g.bj p=some n)(aM:Rd (fun c=>g.ρ c= .du) H (h5 g.fb) 2 c1.v (c.ap (ei D.now p)))(aI:c.dir=p)(aL:uO c p)(aK:∀i,c.f=some i->i<D.fs.length)(a1:D.log.length<=1099511627776):
 a8 prog w0 202 #[ptr n,c1.v] H (fun r O=>∃P:List Nat,∃g2:dT,r= .tuple #[]/\bR P g2 O b (D.change c)/\aF vq33z H.size P/\(g2.fb=g.fb/\g2.bj=g.bj)/\W (aq vq33z) H O):=by
 refine G.bc vq33z func202 o fun B=>?_;have L:=aF.refl vq33z H.size;have aR:=E.aT;obtain⟨a7,ae,aC,K,aY,C⟩:=E.eZ _ n X;have aZ:=C.c9;have a6:(D.c0 p).length<=D.log.length:=nD _ _;have A:W (aq [(n+1),K]) H H:=W.refl _ _;have lg:gN vq33z (n+1):=(E.lg C.rd a_);have bS:=C.bS;have aT:=bS.lt;have dm:ah vq33z H.size (n+1):=ag.at (ag.bA L (by intro k N;simp[N])) lg;have T:=U.refl (n+1) H.size;have aa:gN vq33z K:=(E.mg C.rc a_);have aj:=C.aj;have al:=aj.le;have az:ah vq33z H.size K:=ag.at (ag.bA L (by intro k N;simp[N])) aa;have aU:=U.refl K H.size;have M:ai (n+1) K:=C.ne;refine G.aK o jL kV o<|G.bl o (S.df bS 1 ([aJ p,c1.v,ae.v,aC.v]) o o o o kV a_ o) ?_;rintro aX ⟨bS,ac⟩;have ac:=ac.eU;obtain⟨aj,_⟩:=cz ac aj M.symm;have B:=B.bf ac (ag.cons dm ag.nil);obtain⟨A,_⟩:=cz ac A (ah.r T);refine G.aG o bS.T jL p2 w7 o o<|G.aR o (Z.cV<|c5 _ ([c1]) G_ xS xT) ?_;rintro aO aP ⟨aN,aw,_⟩;obtain⟨bS,aj,B,A,_⟩:=dZ aw bS aj B A;refine G.aR o (dd aj aN.rd G_ bU bU) ?_;rintro V aQ ⟨aA,aj,Q,ad⟩;have ad:=ad.md;have aH:=ai.app M bS.lt Q;have R:=U.al aU Q A.size;have bS:=bS.aA ad (ak.J M);have B:=B.bf ad (ag.cons az ag.nil);obtain⟨A,_⟩:=cz ad A (ah.r aU);have al:=aj.le;obtain⟨aB,rfl⟩:∃s:ay,V=s.v:=⟨ck V,aj.a6.symm⟩;refine G.aK o jL p2 o<|G.bl o (S.df bS 3 ([aJ p,c1.v,ae.v,aB.v]) o o o o p2 a_ o) ?_;rintro aV ⟨bS,F⟩;have F:=F.eU;obtain⟨aj,_⟩:=cz F aj aH.symm;have B:=B.bf F (ag.cons dm ag.nil);obtain⟨A,_⟩:=cz F A (ah.r T);have am:aF vq33z H.size (aA::vq33z):=(aF.app L aa R I);have E:=E.lK aE aG X C A bS aj R aM aI aL aK;exact G.rt o ⟨_,_,o,E,am,⟨o,o⟩,B⟩
def CW{g:dT}{b:Nat}{D:ao}{p:av}{w0:World}(n:bR vq33z g H b D)(O:cX D.now)(P:cX D.stays)(R:g.bj.length<=1099511627776)(U:p.length<=4294967280):
 a8 prog w0 155 #[ptr b,aJ p] H (fun r B=>∃C:List Nat,∃g2:dT,r= .pointer (lQ g2.fb (ax D.now p))/\bR C g2 B b D/\aF vq33z H.size C/\g2.fb=g.fb/\q0 g g2 (bI p)/\W (aq vq33z) H B):=by
 refine G.bc vq33z func155 o fun A=>?_;have E:=aF.refl vq33z H.size;have aa:=n.aT;refine G.aC o ti (uj U) ?_;rintro ay V ⟨rfl,K⟩;obtain⟨n,A,_⟩:=bG K n A;refine G.aC o xv (zf (bI p) n O P R (by first|omega|(have:=xH p;omega))) ?_;rintro az X ⟨Z,g8,bh,rfl,n,ac,Q,L,S,M⟩;have N:=aF.al E ac A.size;have A:=A.bf M (ag.bA E (by intro k T;simp[T]));obtain⟨al,aw,ai,ak,ah,F⟩:=n.eZ _ bh Q;refine G.aG o F.bS.T jL kV oG o o<|G.aC o E0 (Jt p w0 F.ar.any) ?_;rintro ae aH ⟨rfl,ad⟩;obtain⟨n,A,_⟩:=bG ad n A;exact G.rt o ⟨_,g8,by rw[qG,aD rfl],n,N,L,S,A⟩
def y_{g:dT}{b:Nat}{D:ao}{w0:World}(n:bR vq33z g H b D)(ae:D.ops<=1099511627776):
 a8 prog w0 179 #[ptr b] H (fun r L=>r= .bool D.begin.1/\bR vq33z g L b D.begin.2/\W (aq vq33z) H L):=by
 refine G.bc vq33z func179 o fun A=>?_;have E:=aF.refl vq33z H.size;have F:=n.aT;have aa:=n.h7;refine G.aG o n.cr.T hW c8 eW o o<|G.ci o ?_ ?_<;>intro K;refine G.rt o ?_;have B:=Se (D:=D) K;exact⟨by rw[B],by rw[B];exact n,A⟩;refine G.aG o n.cr.T hW bV cQ o o<|G.ip o ?_ ?_<;>intro X;refine G.aG o n.cr.T hW bV cQ o o<|G.O o (M.cast (v2:= .int .i64 ((D.left-1:Nat):Int)) eA<|di I)<|G.aK o hW bV o<|G.bl o (CO n (D.left-1) o o o bV I) ?_;rintro Z ⟨n,ad⟩;have A:=A.bf ad (ag.bA E (by intro k C;simp[C]));have S:=ad.size;have F:=n.aT;refine G.aK o hW bV o<|G.O o (M.cast (v2:= .int .i64 ((D.left-1:Nat):Int)) (aY (n.cr.T.drop 4) cQ) o)<|G.ip o ?_ ?_<;>intro Q;refine G.aK o hW c8 o<|G.bl o (Jh n true o o o c8) ?_;rintro R ⟨n,N⟩;have A:=A.bf N (ag.bA E (by intro k C;simp[C]));have T:=N.size;have F:=n.aT;refine G.rt o ?_;have B:=Sf (D:=D) (by simpa using K) I;have P:D.left-1=0:=by omega
 rw[P]at n;exact⟨by rw[B],by rw[B];exact n,A⟩;refine G.aK o hW bV o<|G.O o (M.cast (v2:= .int .i64 (D.ops:Int)) (aY (n.cr.T.drop 3) cQ) o)<|G.O o (M.cast (v2:= .int .i64 ((D.ops+1:Nat):Int)) bB<|di I)<|G.aK o hW bV o<|G.bl o (Ji n o o o bV) ?_;rintro O ⟨n,ac⟩;have A:=A.bf ac (ag.bA E (by intro k C;simp[C]));have U:=ac.size;have F:=n.aT;refine G.rt o ?_;have B:=Jd (D:=D) (by simpa using K) I;exact⟨by rw[B],by rw[B];first|exact n|(rw[show D.left-1=D.left from by omega];exact n),A⟩;refine G.aK o hW bV o<|G.O o (M.cast (v2:= .int .i64 (D.ops:Int)) (aY (n.cr.T.drop 3) cQ) o)<|G.O o (M.cast (v2:= .int .i64 ((D.ops+1:Nat):Int)) bB<|di I)<|G.aK o hW bV o<|G.bl o (Ji n o o o bV) ?_;rintro O ⟨n,ac⟩;have A:=A.bf ac (ag.bA E (by intro k C;simp[C]));have V:=ac.size;have F:=n.aT;refine G.rt o ?_;have B:=Jd (D:=D) (by simpa using K) I;exact⟨by rw[B],by rw[B];first|exact n|(rw[show D.left-1=D.left from by omega];exact n),A⟩
def S5{g:dT}{b:Nat}{D:ao}(n:Int){w0:World}(A:bR vq33z g H b D)(ar:n<=9223372036854775807):
 a8 prog w0 14 #[ptr b,.int .i64 n] H (fun r C=>r= .tuple #[]/\bR vq33z g C b (D.stop n.toNat)/\W (aq vq33z) H C):=by
 refine G.bc vq33z func14 o fun B=>?_;have ac:=A.aT;refine G.O o (M.cast (v2:= .int .i64 (n.toNat:Int)) (M.qF o o o)<|di I)<|G.aK o hW bV o<|G.bl o (CO A n.toNat o o o bV I) ?_;rintro ad ⟨A,E⟩;have B:=B.bf E (ag.bA (aF.refl vq33z H.size) (by intro k F;simp[F]));exact G.rt o ⟨o,A,B⟩
def SV(cap en:Nat){w0:World}(aj:cap<=9223372036854775807)(F:en<=9223372036854775807):
 a8 prog w0 7 #[.int .i64 (cap:Int),.int .i64 (en:Int)] H (fun r A=>∃K:List Nat,∃g:dT,∃b:Nat,r= .tuple #[ptr b,.int .i64 0]/\bR K g A b (ao.empty cap en)/\aF [] H.size K/\g.bj=[]/\an H A):=by
 refine G.bN func7 o fun k=>G.ae 3 o ((M.lss o o o).hp I) (G.ae 2 o ((M.lss o o o).hp I)<|G.dP o<|G.O o (M.build (v:= .agg #[.int .i64 cap,.int .i64 en,.slice none 0 0,.int .i64 0,.int .i64 0,.bool false]) o o eN)<|G.aR o (Z.qi o o) ?_);rintro O C ⟨rfl,n,B,L,N⟩;have E:=U.new k.size;have k:=k.al B;have n:Var 86 C H.size ([.int .i64 cap,.int .i64 en,.slice none 0 0,.int .i64 0,.int .i64 0,.bool false]):=n;exact G.rt o ⟨_,_,_,o,(bR.new cap en n aj F),(aF.cons E<|aF.refl [] _),o,k⟩
def S2{g:dT}{b:Nat}{D:ao}(p:av){w0:World}(n:bR vq33z g H b D)(aK:cX D.now)(aN:cX D.stays)(aO:g.bj.length<=1099511627776)(aA:p.length<=4294967280)(aL:∀i,(aM D.fs i).now.length<=1099511627776):
 a8 prog w0 76 #[ptr b,aJ p] H (fun r O=>∃P:List Nat,∃g2:dT,∃s:ay,∃k:Nat,r= .tuple #[s.v,.int .i64 (D.fC p:Int)]/\bR P g2 O b D/\aF vq33z H.size P/\aS k 5 O a7 1 s.v (D.cB p)/\U 0 H.size k/\ak k P/\g2.fb=g.fb/\q0 g g2 (bI p)/\W (aq vq33z) H O):=by
 refine G.bc vq33z func76 o fun A=>?_;have F:=aF.refl vq33z H.size;have aH:=n.aT;refine G.aG o n.cr.T hW c8 eW o o<|G.ci o ?_ ?_<;>intro L;refine G.rt o ?_;have B:D.fC p=11:=by unfold ao.fC;rw[aD L]
 have C:D.cB p=[]:=by unfold ao.cB;rw[au I]
 exact⟨vq33z,g,⟨none,0,0⟩,0,by rw[B]<;>rfl,n,F,by rw[C];exact aS.nil eM fy,U.refl _ _,ak.gv,o,q0.refl g _,A⟩;refine G.aC o qj (qQ aA) ?_;rintro aR aT ⟨rfl,aI⟩;obtain⟨n,A,_⟩:=bG aI n A;refine G.O o e7<|G.ci o ?_ ?_<;>intro Q;refine G.rt o ?_;have B:D.fC p=7:=by unfold ao.fC ao.look;rw[au (by simpa using L),au (by simpa using Q)]
 have C:D.cB p=[]:=by unfold ao.cB;rw[au I]
 exact⟨vq33z,g,⟨none,0,0⟩,0,by rw[B]<;>rfl,n,F,by rw[C];exact aS.nil eM fy,U.refl _ _,ak.gv,o,q0.refl g _,A⟩;refine G.aC o An (CW n aK aN aO aA) ?_;rintro aU aV ⟨aB,R,rfl,n,ad,T,az,V⟩;have aa:=aF.al F ad A.size;have A:=A.bf V (ag.bA F (by intro k aP;simp[aP]));have aX:=V.size;have aH:=n.aT;refine G.ae 2 o nN<|G.ci o ?_ ?_<;>intro K;have aQ:ax D.now p=none:=by
  cases S:ax D.now p with
  |none=>rfl
  |some i=>rw[S]at K;cases K
 refine G.rt o ?_;have B:D.fC p=2:=by unfold ao.fC ao.look;rw[au (by simpa using L),aD (by simpa using Q),aQ];rfl
 have C:D.cB p=[]:=by unfold ao.cB;rw[au I]
 exact⟨_,R,⟨none,0,0⟩,0,by rw[B]<;>rfl,n,aa,by rw[C];exact aS.nil eM fy,U.refl _ _,ak.gv,T,az,A⟩;obtain⟨i,N⟩:∃i,ax D.now p=some i:=by
  cases S:ax D.now p with
  |some i=>exact⟨i,o⟩
  |none=>rw[S]at K;cases K
 have a_:=aL i;refine G.aR o (Z.cV<|c5 _ (([]:List UInt8)) dv eM fy) ?_;rintro aY aZ ⟨E,ap,_⟩;have bt:=ak.gf n.aT;have ae:=U.new A.size;obtain⟨n,A,_⟩:=bG ap n A;obtain⟨b3,a6,dr,kw,lw,aw⟩:=n.dE i (n.ids.1 p i N);refine G.ae 0 o (M.cast (v2:=fX R.fb i) gh (by rw[N]<;>rfl))<|G.aG o aw.eL.T kX cZ eI o o<|G.aR o (dd E aw.ar dv bU bU) ?_;rintro ai a1 ⟨al,E,X,ac⟩;have ac:=ac.md;have aC:ak al aB:=ak.ia bt n.aT X;have aE:=U.al ae X A.size;obtain⟨n,A,_⟩:=de ac n (fL bt) A (ah.q ae);obtain⟨aG,rfl⟩:∃s:ay,ai=s.v:=⟨ck ai,E.a6.symm⟩;rw[gw]at E;refine G.rt o ?_;have B:D.fC p=0:=by unfold ao.fC ao.look;rw[au (by simpa using L),aD (by simpa using Q),N];rfl
 have C:D.cB p=(aM D.fs i).now:=by unfold ao.cB ao.dO;rw[aD B,N]
 exact⟨_,R,aG,al,by rw[B]<;>rfl,n,aa,by rw[C];exact E,aE,aC,T,az,A⟩
def Tj{g:dT}{b:Nat}{D:ao}(n:bR vq33z g H b D)(r:cX D.now):((g.bj.map (·.1)).map (m5 D)).sum=D.used:=
 AN D.fs _ n.kL.nodup D.now (fun x B=>by
  have k:=nf r B;rw[<-gM];cases A:ax g.bj (bI x.1)with
  |some _=>rfl
  |none=>rw[((n.abs _ A).1 x.1 o).1]at k;cases k)
def sc(D:ao)(l:ca):Nat:=((l.map (·.1)).map (m5 D)).sum
def OL{D:ao}{l:ca}{i:Nat}(h:i<l.length):sc D (l.drop i)=m5 D l[i].1+sc D (l.drop (i+1)):=by
 unfold sc;rw[na h,dQ,dQ,iB]
def UH{fs:List fg}{l:ca}{i:Nat}(h:i<l.length):kI fs (l.drop i)=(aM fs l[i].2).now.length+kI fs (l.drop (i+1)):=by
 unfold kI;rw[na h,dQ,iB]
def UI{fs:List fg}{l:ca}{i:Nat}(h:¬i<l.length):kI fs (l.drop i)=0:=by
 unfold kI;rw[pL I];rfl
def OM{D:ao}{l:ca}{i:Nat}(h:¬i<l.length):sc D (l.drop i)=0:=by
 unfold sc;rw[pL I];rfl
def Tk{g:dT}{b:Nat}{D:ao}{w0:World}(k:bR vq33z g V b D)(N:cX D.now)(aF:D.used<=4611686018427387904):
 a8 prog w0 218 #[ptr b] V (fun r R=>r= .int .i64 (D.used:Int)/\an V R):=by
 refine G.bN func218 o fun F=>?_;have ac:=k.aT;have aH:=k.ab.len
 refine G.bd o (fun(K:Nat×Nat)=>match K with|(i,n)=>[(0,ptr b),(3,.int .i64 (n:Int)),(4,.int .i64 (i:Int))])
  (fun(i,n) (H:Heap)=>(i<=g.bj.length)/\n+sc D (g.bj.drop i)=D.used/\an V H)
  (fun(i,n)=>g.bj.length-i) (0,0) ?_ ?_
 exact⟨I,by rw[mf,kv];exact (Tj k N),W.refl _ _⟩;rintro⟨i,n⟩ S T aq U;obtain⟨aJ,aL,B⟩:=T;obtain⟨k,F,_⟩:=bG B k F;refine G.aG o k.cr.T hW l0 mB o o<|G.O o (bz k.ab mW)<|G.ip o ?_ ?_<;>intro av;have P:i<g.bj.length:=by omega
 obtain⟨y,C⟩:∃q,q=g.bj[i]:=⟨_,o⟩;have ak:ax g.bj y.1=some y.2:=by rw[C];exact nf k.kL<|cS P
 have ah:=OL (D:=D) P;rw[<-C]at ah
 refine G.bd o (fun(K:Nat×Nat)=>match K with|(j,m)=>[(0,ptr b),(3,.int .i64 (m:Int)),(4,.int .i64 (i:Int)),(5,.int .i64 (j:Int))])
  (fun(j,m) (H:Heap)=>(j<=(ei D.now y.1).length)/\m+kI D.fs ((ei D.now y.1).drop j)+sc D (g.bj.drop (i+1))=D.used/\an S H)
  (fun(j,m)=>(ei D.now y.1).length-j) (0,n) ?_ ?_
 exact⟨I,by rw[mf];have ag:m5 D y.1=kI D.fs (ei D.now y.1):=rfl;omega,W.refl _ _⟩;rintro⟨j,m⟩ aA X aB aa;obtain⟨aK,aN,L⟩:=X;obtain⟨k,B,_⟩:=bG L k B;refine G.aG o k.cr.T hW l0 mB o o ?_;obtain⟨aT,aX,aE,aP,aC,A⟩:=k.eZ _ _ ak;have aI:=A.ar.len;refine G.pp o (mY k.ab i mW p1) fun aw am=>G.O o (M.cast (v2:=ptr y.2) (aY am q1) (by rw[C]))<|G.aG o A.bS.T jL kV oG o o<|G.O o (bz A.ar mq)<|G.ip o (fun Z=>?_) fun Z=>?_;have Q:j<(ei D.now y.1).length:=by omega
 obtain⟨z,E⟩:∃q,q=(ei D.now y.1)[j]:=⟨_,o⟩;have al:ax D.now z.1=some z.2:=nf N (iK.1 (by rw[E];exact cS Q:z∈(ei D.now y.1))).1;obtain⟨aR,aV,aZ,aO,aQ,O⟩:=k.dE _ (k.ids.1 _ _ al);have ai:=UH (fs:=D.fs) Q;rw[<-E]at ai;exact G.aG o k.cr.T hW l0 mB o o<|G.pp o (mY k.ab i mW p1) fun ay aU=>G.O o (M.cast (v2:=ptr y.2) (aY aU q1) (by rw[C]))<|G.aG o A.bS.T jL kV oG o o<|G.pp o (mY A.ar j mq nI) fun az ae=>G.aK o rS C6 o<|G.O o (M.cast (v2:=fX g.fb z.2) (aY (ae.drop 1) zP) (by rw[E]))<|G.aG o O.eL.T kX cZ eI o o<|G.O o (bz O.ar c_)<|G.O o (M.cast (v2:= .int .i64 ((m+(aM D.fs z.2).now.length:Nat):Int)) bB<|di I)<|G.O o bB<|G.aQ o<|aa (j+1,m+(aM D.fs z.2).now.length) _ ⟨I,by omega,L⟩;exact G.O o bB<|G.aQ o<|U (i+1,m) _ ⟨I,by have ag:=UI (fs:=D.fs) (l:=ei D.now y.1) (i:=j) I;omega,B⟩;have aG:=OM (D:=D) (l:=g.bj) (i:=i) I;exact G.rt o ⟨by rw[show n=D.used by omega],F⟩
def BW{D:ao}{p:av}{i:Nat}(h:cR p=true)(k:ax D.now p=some i):D.look p=0:=by unfold ao.look;rw[aD h,k];rfl
def HF{D:ao}{p:av}(h:cR p=true)(k:ax D.now p=none):D.look p=2:=by unfold ao.look;rw[aD h,k];rfl
def SJ{v:Value}{l:ca}{p:av}{w0:World}(n:b_ H (h5 vq33z) 2 v (ei l (bI p))):a8 prog w0 200 #[v,aJ p] H (fun r k=>r= .pointer (lQ vq33z (ax l p))/\an H k):=by
 have h:=Jt p w0 n;rwa[qG,aD rfl]at h
def Qn{D:ao}{p:av}(h:cR p=false):D.look p=7:=by unfold ao.look;rw[au (by simp[h])]
def C2{g:dT}{b:Nat}{D:ao}(p:av){w0:World}(n:bR vq33z g H b D)(bc:g.bj.length<=549755813888)(aI:p.length<=4294967280)(aC:hP 274877906944 D):
 a8 prog w0 120 #[ptr b,aJ p] H (fun r ak=>∃al:List Nat,∃g2:dT,r= .int .i64 ((D.sync p).1:Int)/\bR al g2 ak b ((D.sync p).2)/\aF vq33z H.size al/\g2.bj.length<=g.bj.length+2/\W (aq vq33z) H ak):=by
 refine G.bc vq33z func120 o fun A=>?_;have F:=aF.refl vq33z H.size;have ad:=n.aT;have bf:=aC.op;obtain⟨D1,Q⟩:∃D1,D1=D.begin.2:=⟨_,o⟩;have X:=aC.begin;rw[<-Q]at X;refine G.aC o xu (y_ n I) ?_;rintro bk aT ⟨rfl,n,bt⟩;have A:=A.bf bt (ag.bA F (by intro k K;simp[K]));have aY:=bt.size;rw[<-Q]at n;refine G.O o e7<|G.ci o ?_ ?_<;>intro aB;refine G.rt o ?_;have aE:=Dx (p:=p) (show D.begin.1=false by simpa using aB);exact⟨vq33z,g,by rw[aE]<;>rfl,by rw[aE];rw[Q]at n;exact n,F,vN _ _,A⟩;have aO:D.begin.1=true:=by simpa using aB
 have B:=Dy (p:=p) aO;rw[<-Q]at B;refine G.aC o qj (qQ aI) ?_;rintro aZ a1 ⟨rfl,aM⟩;obtain⟨n,A,_⟩:=bG aM n A;refine G.O o e7<|G.ci o ?_ ?_<;>intro V;refine G.rt o ?_;have E:=Qn (D:=D1) (p:=p) (by simpa using V);exact⟨vq33z,g,by rw[B,E]<;>rfl,by rw[B];rw[au I];exact n,F,by omega,A⟩;refine G.aC o An (CW n X.dm X.gP I aI) ?_;rintro a6 aH ⟨ay,P,rfl,n,aL,aU,aN,aw⟩;have am:=aF.al F aL A.size;have A:=A.bf aw (ag.bA F (by intro k K;simp[K]));have a7:=aw.size;have ad:=n.aT;have bd:=aN.2;refine G.ae 2 o nN<|G.ci o ?_ ?_<;>intro O;have aP:ax D1.now p=none:=by
  cases ai:ax D1.now p with
  |none=>rfl
  |some i=>rw[ai]at O;cases O
 refine G.rt o ?_;have E:=HF (by simpa using V) aP;exact⟨_,P,by rw[B,E]<;>rfl,by rw[B];rw[au I];exact n,am,by omega,A⟩;obtain⟨i,R⟩:∃i,ax D1.now p=some i:=by
  cases ai:ax D1.now p with
  |some i=>exact⟨i,o⟩
  |none=>rw[ai]at O;cases O
 have aG:=n.ids.1 p i R;obtain⟨bi,Z,aa⟩:∃bi,P.fb.getD i 0=bi/\ .pointer (lQ P.fb (ax D1.now p))=ptr bi:=⟨_,o,by rw[R]<;>rfl⟩;obtain⟨T,bj,aR,bg,bh,ae⟩:=n.dE i aG;have L:W (aq [(bi+1)]) aH aH:=W.refl _ _;have aQ:gN ay (bi+1):=(n.rq ae Z);have C:=ae.mC Z;have ba:=C.lt;have az:ah vq33z H.size (bi+1):=ag.at (ag.bA am (by intro k K;simp[K])) aQ;have aA:=U.refl (bi+1) aH.size;refine G.ae 0 o (M.cast (v2:=ptr bi) gh aa)<|G.ae 0 o (M.cast (v2:=ptr bi) gh aa)<|G.aG o C.T kX cZ eI o o<|G.aK o kX cZ o<|G.bl o (S.df C 1 ([T.v,T.v,aR.v]) o o o o cZ a_ o) ?_;rintro aV ⟨C,N⟩;have N:=N.eU;have A:=A.bf N (ag.cons az ag.nil);obtain⟨L,_⟩:=cz N L (ah.r aA);refine G.ae 0 o (M.cast (v2:=ptr bi) gh aa)<|G.aK o kX ov o<|G.bl o (S.df C 2 ([T.v,T.v,.slice none 0 0]) o o o o ov a_ o) ?_;rintro aX ⟨C,ac⟩;have ac:=ac.eU;have A:=A.bf ac (ag.cons az ag.nil);obtain⟨L,_⟩:=cz ac L (ah.r aA);have aK:aF vq33z H.size ay:=am;have n:=n.fsync aG ae Z L C;have ad:=n.aT;refine G.rt o ?_;have E:=BW (by simpa using V) R;exact⟨_,P,by rw[B,E]<;>rfl,by rw[B];simp only[E,if_true,R,tN];exact n,aK,by omega,A⟩
def S7{g:dT}{b:Nat}{D:ao}(p:av){w0:World}(n:bR vq33z g V b D)(a7:g.bj.length<=549755813888)(aP:p.length<=4294967280)(aB:hP 274877906944 D):
 a8 prog w0 159 #[ptr b,aJ p] V (fun r aa=>∃ae:List Nat,∃g2:dT,r= .int .i64 ((D.iS p).1:Int)/\bR ae g2 aa b ((D.iS p).2)/\aF vq33z V.size ae/\g2.bj.length<=g.bj.length+2/\W (aq vq33z) V aa):=by
 refine G.bc vq33z func159 o fun A=>?_;have B:=aF.refl vq33z V.size;have ak:=n.aT;have bc:=aB.op;obtain⟨D1,P⟩:∃D1,D1=D.begin.2:=⟨_,o⟩;have E:=aB.begin;rw[<-P]at E;refine G.aC o xu (y_ n I) ?_;rintro bg R ⟨rfl,n,aw⟩;have A:=A.bf aw (ag.bA B (by intro k K;simp[K]));have aV:=aw.size;rw[<-P]at n;refine G.O o e7<|G.ci o ?_ ?_<;>intro aA;refine G.rt o ?_;have aE:=Da (p:=p) (show D.begin.1=false by simpa using aA);exact⟨vq33z,g,by rw[aE]<;>rfl,by rw[aE];rw[P]at n;exact n,B,vN _ _,A⟩;have aO:D.begin.1=true:=by simpa using aA
 have L:=Db (p:=p) aO;rw[<-P]at L
 refine G.bw 0 o (fun(_:Unit)=>[(0,ptr b),(1,aJ p)])
  (fun(_:Unit) (H:Heap)=>(lL p=0)/\an R H) (fun _ bt=>?_) ?_
 have O:an R R:=W.refl _ _;refine G.ae 1 o kJ<|G.sp 1 11 o ?_ ?_<;>intro T;refine G.aC o qj (qQ aP) ?_;rintro aX aY ⟨rfl,am⟩;obtain⟨n,A,O,_⟩:=cg am n A O;refine G.O o e7<|G.ci o ?_ ?_<;>intro C;refine G.rt o ?_;have F:lL p=7:=by unfold lL;rw[aD ⟨T,by simpa using C⟩]
 exact⟨vq33z,g,by rw[L,F]<;>rfl,by rw[L,F];exact n,B,by omega,A⟩;exact G.aQ o<|bt () _ ⟨AM (fun h=>by first|exact absurd h.1 T|(rw[h.2]at C;cases C)),O⟩;exact G.dP o<|G.aQ o<|bt () _ ⟨AM (fun h=>by first|exact absurd h.1 T|(rw[h.2]at C;cases C)),O⟩;intro _ aH aK;obtain⟨F,ad⟩:=aK;obtain⟨n,A,_⟩:=bG ad n A;refine G.aC o xv (zf p n E.dm E.gP I (by first|omega|(have:=xH p;omega))) ?_;rintro aZ X ⟨ax,aG,bh,rfl,n,aL,aC,aR,aN,al⟩;have ay:=aF.al B aL A.size;have A:=A.bf al (ag.bA B (by intro k K;simp[K]));have a1:=al.size;have ak:=n.aT;have ba:=aN.2;obtain⟨Q,bf,aM,bd,a6,Z⟩:=n.eZ _ bh aC;have M:W (aq [(bh+1)]) X X:=W.refl _ _;have aQ:gN ax (bh+1):=(n.lg Z.rd a_);have bS:=Z.bS;have ap:=bS.lt;have az:ah vq33z V.size (bh+1):=ag.at (ag.bA ay (by intro k K;simp[K])) aQ;have ai:=U.refl (bh+1) X.size;refine G.aG o bS.T jL kV oG o o<|G.aK o jL kV o<|G.bl o (S.df bS 2 ([aJ p,Q.v,Q.v,aM.v]) o o o o kV a_ o) ?_;rintro aT ⟨bS,N⟩;have N:=N.eU;have A:=A.bf N (ag.cons az ag.nil);obtain⟨M,_⟩:=cz N M (ah.r ai);refine G.aK o jL p2 o<|G.bl o (S.df bS 3 ([aJ p,Q.v,Q.v,.slice none 0 0]) o o o o p2 a_ o) ?_;rintro aU ⟨bS,ac⟩;have ac:=ac.eU;have A:=A.bf ac (ag.cons az ag.nil);obtain⟨M,_⟩:=cz ac M (ah.r ai);have aI:aF vq33z V.size ax:=ay;have n:=n.xI E.dm E.gP aC Z M bS;have ak:=n.aT;exact G.rt o ⟨_,aG,by rw[L,F]<;>rfl,by rw[L,F];exact n,aI,by omega,A⟩
def S3{g:dT}{b:Nat}{D:ao}(p q:av){w0:World}(n:bR vq33z g V b D)(cb:g.bj.length<=549755813888)(T:p.length<=4294967280)(aP:q.length<=4294967280)(aI:hP 274877906944 D):
 a8 prog w0 158 #[ptr b,aJ p,aJ q] V (fun r ae=>∃ah:List Nat,∃g2:dT,r= .int .i64 ((D.rename p q).1:Int)/\bR ah g2 ae b ((D.rename p q).2)/\aF vq33z V.size ah/\g2.bj.length<=g.bj.length+2/\W (aq vq33z) V ae):=by
 refine G.bc vq33z func158 o fun A=>?_;have K:=aF.refl vq33z V.size;have P:=n.aT;have ck:=aI.op;obtain⟨D1,S⟩:∃D1,D1=D.begin.2:=⟨_,o⟩;have C:=aI.begin;rw[<-S]at C;refine G.aC o xu (y_ n I) ?_;rintro b4 Z ⟨rfl,n,ay⟩;have A:=A.bf ay (ag.bA K (by intro k L;simp[L]));have b5:=ay.size;rw[<-S]at n;refine G.O o e7<|G.ci o ?_ ?_<;>intro aC;refine G.rt o ?_;have aM:=CS (p:=p) (q:=q) (show D.begin.1=false by simpa using aC);exact⟨vq33z,g,by rw[aM]<;>rfl,by rw[aM];rw[S]at n;exact n,K,vN _ _,A⟩;have bo:D.begin.1=true:=by simpa using aC
 have B:=CT (p:=p) (q:=q) bo;rw[<-S]at B
 refine G.bw 0 o (fun(_:Unit)=>[(0,ptr b),(1,aJ p),(2,aJ q)])
  (fun(_:Unit) (H:Heap)=>(cR p=true/\cR q=true)/\an Z H) (fun _ aT=>?_) ?_
 have ad:an Z Z:=W.refl _ _;refine G.aC o qj (qQ T) ?_;rintro bT br ⟨rfl,bf⟩;obtain⟨n,A,ad,_⟩:=cg bf n A ad;refine G.O o e7<|G.sb 1 15 o ?_ ?_<;>intro bA;refine G.it o<|G.rt o ?_;have E:=zb (D:=D1) (p:=p) (q:=q) (by cases aE:cR p<;>cases aG:cR q<;>simp_all);exact⟨vq33z,g,by rw[B,E]<;>rfl,by rw[B,E];exact n,K,by omega,A⟩;refine G.aC o qj (qQ aP) ?_;rintro bs b6 ⟨rfl,bg⟩;obtain⟨n,A,ad,_⟩:=cg bg n A ad;refine G.O o e7<|G.ci o ?_ ?_<;>intro bE;refine G.rt o ?_;have E:=zb (D:=D1) (p:=p) (q:=q) (by cases aE:cR p<;>cases aG:cR q<;>simp_all);exact⟨vq33z,g,by rw[B,E]<;>rfl,by rw[B,E];exact n,K,by omega,A⟩;exact G.aQ o<|aT () _ ⟨by cases aE:cR p<;>cases aG:cR q<;>simp_all,ad⟩;intro _ bF bc;obtain⟨F,ac⟩:=bc;obtain⟨n,A,_⟩:=bG ac n A;refine G.aC o ti (uj T) ?_;rintro b7 bv ⟨rfl,aV⟩;obtain⟨n,A,_⟩:=bG aV n A;refine G.aC o ti (uj aP) ?_;rintro b9 b_ ⟨rfl,aX⟩;obtain⟨n,A,_⟩:=bG aX n A;refine G.ae 0 o kJ<|G.ip o ?_ ?_<;>intro ai;refine G.rt o ?_;have E:=Jm (D:=D1) (p:=p) (q:=q) F.1 F.2 (by simpa using ai);exact⟨vq33z,g,by rw[B,E]<;>rfl,by rw[B,E];exact n,K,by omega,A⟩;have aN:bI p=bI q:=by simpa using ai
 have N:=CR (D:=D1) F.1 F.2 aN;refine G.aC o An (CW n C.dm C.gP I T) ?_;rintro ca bH ⟨dB,al,rfl,n,bd,be,bl,az⟩;have bt:=aF.al K bd A.size;have A:=A.bf az (ag.bA K (by intro k L;simp[L]));have bK:=az.size;have P:=n.aT;have cd:=bl.2;refine G.ae 2 o nN<|G.ci o ?_ ?_<;>intro R;have bz:ax D1.now p=none:=by
  cases aa:ax D1.now p with
  |none=>rfl
  |some i=>rw[aa]at R;cases R
 refine G.rt o ?_;have X:=HF F.1 bz;exact⟨_,al,by rw[B,N,X]<;>rfl,by rw[B,N];rw[au (fun h=>by omega)];exact n,bt,by omega,A⟩;obtain⟨i,O⟩:∃i,ax D1.now p=some i:=by
  cases aa:ax D1.now p with
  |some i=>exact⟨i,o⟩
  |none=>rw[aa]at R;cases R
 have bu:=n.ids.1 p i O;refine G.ae 2 o kJ<|G.ip o ?_ ?_<;>intro aw;refine G.aC o ti (uj T) ?_;rintro bL bM ⟨rfl,aY⟩;obtain⟨n,A,_⟩:=bG aY n A;refine G.aC o xv (zf (bI p) n C.dm C.gP I (by first|omega|(have:=xH p;omega))) ?_;rintro bN bO ⟨bq,Q,bh,rfl,n,aH,aL,aZ,bm,am⟩;have c7:=aF.al bt aH A.size;have A:=A.bf am (ag.bA bt (by intro k L;simp[L]));have bP:=am.size;have P:=n.aT;have cf:=bm.2;obtain⟨cp,cq,b8,cm,b2,aK⟩:=n.eZ _ bh aL;have cl:(ei D1.now (bI p)).length<=D1.now.length:=nD _ _;have ch:=B1 (ei D1.now (bI p)) p;have cj:=C.nl;have cc:=C.eT;have aQ:p≠[]:=Co F.1;refine G.aG o aK.bS.T jL kV oG o o<|G.aC o Ft (KW aK.ar.any I) ?_;rintro bQ bS ⟨b0,bU,rfl,aR,b1,a1⟩;obtain⟨n,A,_⟩:=bG a1 n A;have bB:=aR.le;refine G.ae 1 o (M.cast (v2:=fX Q.fb i) gh (by rw[O,aZ]<;>rfl))<|G.O o (M.build (v:= .agg (h5 Q.fb ((q,i):av×Nat)).toArray) o o eN)<|G.aC o Av (DR q i w0 aR.rd.any I<|z_<|q9 C.dm) ?_;rintro bV bW ⟨bi,a6,rfl,on,aA,a7⟩;have bj:ak a6 bq:=ak.ia ak.gv n.aT aA;have bD:=U.al (U.refl 0 _) aA A.size;obtain⟨n,A,_⟩:=bG a7 n A;have bC:=on.le;have bw:=IK (ρ:=Q.ρ) on;have ap:=aF.cons bD c7;have n:=n.fz on bj;have P:=n.aT;refine G.aC o E1 (Jf bi ⟨p,q,some i⟩ n C.dm C.gP aL (by show Rd _ _ _ _ _ (hM (if p=[]then _ else _) q i);rw[au aQ];exact bw) (by simp[dy.dir,aQ]) ⟨fun j aO=>aN.symm,fun _=>rfl⟩ (fun j aO=>by cases aO;exact bu) I) ?_;rintro bX bY ⟨bZ,bk,rfl,n,aU,a_,aB⟩;have ba:=aF.al ap aU A.size;have A:=A.bf aB (ag.bA ap (by intro k L;simp[L]));have c9:=aB.size;have P:=n.aT;refine G.rt o ?_;have X:=BW F.1 O;exact⟨_,bk,by rw[B,N,X]<;>rfl,by rw[B,N];rw[aD ⟨X,by simpa using aw⟩,O];exact n,ba,by rw[a_.2];show Q.bj.length<=_;omega,A⟩;refine G.rt o ?_;exact⟨_,al,by rw[B,N,(BW F.1 O)]<;>rfl,by rw[B,N];rw[au (fun h=>h.2 (by simpa using aw))];exact n,bt,by omega,A⟩
def Ry(d b:List UInt8):cn.on ⟨true,d⟩ b d.length=b++d:=by simp[cn.on]
def Rx(d b:List UInt8):cn.on ⟨false,d⟩ b d.length=d:=by simp[cn.on]
def Tp{D:ao}{p:av}{i:Nat}{w:cn}(h:ax D.now p=some i)(k:i<D.fs.length):D.fk i ⟨w.on (D.dO p) w.d.length,(aM D.fs i).stays,(aM D.fs i).w++[w]⟩=D.write p w:=by
 rw[pd h];unfold ao.write ao.make;rw[h]
def To{D:ao}{p:av}{w:cn}(h:ax D.now p=none):(hE D p).fk D.fs.length ⟨w.on (D.dO p) w.d.length,(aM (hE D p).fs D.fs.length).stays,(aM (hE D p).fs D.fs.length).w++[w]⟩=D.write p w:=by
 rw[uJ h];unfold ao.write ao.make;rw[h];show(hE D p).fk D.fs.length _=(hE D p).fk D.fs.length _;have e:=wb D p;simp only[hE]at e⊢;simp[e]
def Jz{g:dT}{b:Nat}{D:ao}{p:av}{sd:ay}{d:List UInt8}{bb:Bool}{F:Nat->Prop}{w0:World}(A:bR vq33z g V b D)(ab:Rd F V a7 1 sd.v d)(bl:bk F V.size)(b4:aB F vq33z)(fB:g.bj.length<=549755813888)(dq:p.length<=4294967280)(df:hP 274877906944 D)(fD:d.length<=274877906944):
 a8 prog w0 177 #[ptr b,aJ p,sd.v,.bool (!bb)] V (fun r cd=>∃cf:List Nat,∃g2:dT,r= .int .i64 ((D.lay p (⟨bb,d⟩:cn)).1:Int)/\bR cf g2 cd b ((D.lay p (⟨bb,d⟩:cn)).2)/\aF vq33z V.size cf/\g2.bj.length<=g.bj.length+2/\W (aq vq33z) V cd):=by
 refine G.bc vq33z func177 o fun B=>?_;have bf:=aF.refl vq33z V.size;have aV:=A.aT;have fQ:=df.op;obtain⟨D1,bK⟩:∃D1,D1=D.begin.2:=⟨_,o⟩;have P:=df.begin;rw[<-bK]at P;refine G.aC o xu (y_ (vq33z:=vq33z) (g:=g) (b:=b) (D:=D) (w0:=w0) A I) ?_;rintro fk fl ⟨rfl,A,bO⟩;have ab:=ab.aA bO b4;have B:=B.bf bO (ag.bA bf (by intro k aa;simp[aa]));have dl:=bO.size;rw[<-bK]at A;refine G.O o e7<|G.ci o ?_ ?_<;>intro cx;refine G.rt o ?_;have dj:=yA (p:=p) (w:=(⟨bb,d⟩:cn)) (show D.begin.1=false by simpa using cx);exact⟨vq33z,g,by rw[dj]<;>rfl,by rw[dj];rw[bK]at A;exact A,bf,vN _ _,B⟩;have eD:D.begin.1=true:=by simpa using cx
 have aG:=BT (p:=p) (w:=(⟨bb,d⟩:cn)) eD;rw[<-bK]at aG;refine G.aC o qj (qQ (l:=p) (w0:=w0) dq) ?_;rintro dn fm ⟨rfl,dS⟩;obtain⟨A,ab,B,_⟩:=cg dS A ab B;refine G.O o e7<|G.ci o ?_ ?_<;>intro cy;refine G.rt o ?_;have aK:D1.iL p (⟨bb,d⟩:cn)=7:=Hx (by simpa using cy);exact⟨vq33z,g,by rw[aG,aK]<;>rfl,by rw[aG];simp only[aK];exact A,bf,by omega,B⟩;refine G.aC o ti (uj (l:=p) (w0:=w0) dq) ?_;rintro fo hK ⟨rfl,dU⟩;obtain⟨A,ab,B,_⟩:=cg dU A ab B;refine G.aC o xv (zf (vq33z:=vq33z) (g:=g) (b:=b) (D:=D1) (bI p) (w0:=w0) A P.dm P.gP I (by first|omega|(have:=xH p;omega))) ?_;rintro ds fp ⟨aA,am,bh,rfl,A,cp,b8,eX,eC,bP⟩;have cU:=aB.cb b4 (bl.mono B.size) cp;have bE:=aF.al bf cp B.size;have ab:=ab.aA bP b4;have B:=B.bf bP (ag.bA bf (by intro k aa;simp[aa]));have fq:=bP.size;have aV:=A.aT;have fG:=eC.2;obtain⟨eK,gb,eV,fW,eT,dh⟩:=A.eZ _ bh b8;have fV:(ei D1.now (bI p)).length<=D1.now.length:=nD _ _;have fM:=P.nl;have fF:=P.eT;have b9:cR p=true:=by simpa using cy
 refine G.aG o dh.bS.T jL kV oG o o<|G.aC o E0 (SJ (vq33z:=am.fb) (v:=eK.v) (l:=D1.now) (p:=p) (w0:=w0) dh.ar.any) ?_;rintro ho b1 ⟨rfl,dV⟩;obtain⟨A,ab,B,_⟩:=cg dV A ab B
 refine G.bw 1 o (fun(ws:ay)=>[(0,ptr b),(1,aJ p),(2,sd.v),(3,.bool (!bb)),(9,ptr bh),(10,.pointer (lQ am.fb<|ax D1.now p)),(11,ws.v)])
  (fun(ws:ay) (H:Heap)=>(Rd (fun c=>am.ρ c= .du) H a7 1 ws.v (D1.dO p))/\(D1.dO p).length<=274877906945/\an b1 H) (fun _ bq=>?_) ?_
 have cq:an b1 b1:=W.refl _ _;refine G.ae 1 o (M.uh o aW aW o o)<|G.ci o ?_ ?_<;>intro a2;obtain⟨i,aH⟩:∃i,ax D1.now p=some i:=by
  cases K:ax D1.now p with
  |some i=>exact⟨i,o⟩
  |none=>rw[K]at a2;cases a2
 have aE:=A.ids.1 p i aH;obtain⟨eQ,gf,gi,fZ,f_,dk⟩:=A.dE i aE;exact G.ae 0 o (M.cast (v2:=fX am.fb i) gh (by rw[aH]<;>rfl))<|G.aG o dk.eL.T kX cZ eI o o<|G.aQ o<|bq eQ _ ⟨by rw[pd aH];exact dk.ar,by rw[pd aH];exact P.aL i,cq⟩;have bN:ax D1.now p=none:=by
  cases K:ax D1.now p with
  |none=>rfl
  |some i=>rw[K]at a2;cases a2
 exact G.aQ o<|bq ⟨none,0,0⟩ _ ⟨by rw[uJ bN];exact Rd.nil _ _ _ _,by rw[uJ bN];simp,cq⟩;intro ws aU dG;obtain⟨eF,fU,bt⟩:=dG;obtain⟨A,ab,B,_⟩:=cg bt A ab B;have al:=eF;have cw:bk (fun c=>am.ρ c= .du) aU.size:=A.Et;refine G.aR o (Z.cV<|c5 _ (([]:List UInt8)) dv eM fy) ?_;rintro ft fu ⟨C,dW,_⟩;have cV:=ak.gf A.aT;have cW:=aw.new (bl.mono B.size);have cX:=(aw.new (cw.mono I):aw _ (aU.size+1));have cY:=U.new B.size;obtain⟨A,ab,al,B,_⟩:=dZ dW A ab al B;refine G.aR o (dd C ab dv bU bU) ?_;rintro c0 a3 ⟨aT,C,bo,bQ⟩;have bQ:=bQ.md;have c1:ak aT aA:=ak.ia cV A.aT bo;have ea:=aw.app cW (bl.mono B.size) bo;have dX:=aw.app cX (cw.mono I) bo;have a4:=U.al cY bo B.size;obtain⟨A,ab,al,B,_⟩:=dx bQ A (fL cV) ab cW al cX B (ah.q cY);have dz:=C.le;obtain⟨ec,rfl⟩:∃s:ay,c0=s.v:=⟨ck c0,C.a6.symm⟩;rw[gw]at C
 refine G.bw 0 o (fun(cc:ay×Nat)=>match cc with|(aQ,a1)=>[(0,ptr b),(1,aJ p),(2,sd.v),(3,.bool (!bb)),(9,ptr bh),(10,.pointer (lQ am.fb<|ax D1.now p)),(11,ws.v),(12,aQ.v)])
  (fun(aQ,a1) (H:Heap)=>(aS a1 5 H a7 1 aQ.v (cn.on (⟨bb,d⟩:cn) (D1.dO p) d.length))/\U aT a3.size a1/\W (aq [aT]) a3 H) (fun _ a5=>?_) ?_
 have ac:W (aq [aT]) a3 a3:=W.refl _ _;refine G.O o e7<|G.ci o ?_ ?_<;>intro cA;refine G.aR o (Z.cV<|c5 _ (([]:List UInt8)) dv eM fy) ?_;rintro fw fA ⟨az,dY,_⟩;have ch:=U.new ac.size;obtain⟨ab,al,ac,_⟩:=cg dY ab al ac;refine G.aR o (dd az al dv bU bU) ?_;rintro c3 e2 ⟨e3,az,dH,bS⟩;have bS:=bS.md;have cj:=U.al ch dH ac.size;obtain⟨ab,ac,_⟩:=de bS ab (aw.new (bl.mono B.size)) ac (ah.q ch);have dA:=az.le;obtain⟨e4,rfl⟩:∃s:ay,c3=s.v:=⟨ck c3,az.a6.symm⟩;rw[gw]at az;refine G.aR o (dd az ab dv I I) ?_;rintro c4 e5 ⟨ed,az,bX,bW⟩;have bW:=bW.md;have bM:=U.al cj bX ac.size;obtain⟨ac,_⟩:=cz bW ac (ah.q cj);have dA:=az.le;obtain⟨ee,rfl⟩:∃s:ay,c4=s.v:=⟨ck c4,az.a6.symm⟩;exact G.aQ o<|a5 (ee,ed) _ ⟨by have b6:bb=true:=(by simpa using cA);subst b6;rw[Ry];exact az,(U.z bM),ac⟩;exact G.aQ o<|a5 (ec,aT) _ ⟨by have b6:bb=false:=(by simpa using cA);subst b6;rw[Rx];exact C,(U.refl aT a3.size),ac⟩;rintro⟨aQ,a1⟩ cv du;obtain⟨C,cm,dE⟩:=du;have cl:ak a1 aA:=ak.ia c1 A.aT cm;have dI:=U.al a4 cm B.size;obtain⟨A,ab,al,B,_⟩:=dx dE A (fL c1) ab ea al dX B (ah.q a4);have dz:=C.le;have fS:=P.us;have fN:(cn.on (⟨bb,d⟩:cn) (D1.dO p) d.length).length<=274877906945+274877906944:=by have b5:=yT (⟨bb,d⟩:cn) (D1.dO p) d.length;omega
 refine G.O o (bz C.rd c_)<|G.aG o A.cr.T hW bV cQ o o<|G.ip o ?_ ?_<;>intro e0;refine G.rt o ?_;have aK:D1.iL p (⟨bb,d⟩:cn)=5:=BR b9 (show D1.en<(cn.on (⟨bb,d⟩:cn) (D1.dO p) d.length).length by omega);exact⟨_,am,by rw[aG,aK]<;>rfl,by rw[aG];simp only[aK];exact A,bE,by omega,B⟩;refine G.cJ o (fun X=>an cv X) [] o ?_;have ae:=an.refl cv;refine N.bo 0 o ae ?_;refine N.bo 2 o ae ?_;refine N.t1 3 o (fun X K=>bz (al.aL K) c_) ae ?_;refine N.bo 5 o ae ?_;refine N.t1 6 o (fun X K=>bz (C.rd.aL K) c_) ae ?_;refine N.bo 8 o ae ?_;refine N.bx 9 o ae ?_;refine N.aK 10 hW bV ae ?_;refine N.t1 11 o (fun X K=>aY ((A.cr.T.drop 0).aL K) cQ) ae ?_;refine N.ba 1 ?_;refine cK M8 (Tk (vq33z:=aA) (g:=am) (b:=b) (D:=D1) (w0:=w0) A P.dm I) ?_;rintro e6 R ⟨rfl,a9⟩;obtain⟨A,ab,C,B,_⟩:=dZ a9 A ab C B;have dD:=ae.al a9;refine N.cx dD ?_;have bC:=an.refl R;refine N.t1 4 o (fun X K=>eA) bC ?_;refine N.t1 7 o (fun X K=>bB) bC ?_;refine N.t1 12 o (fun X K=>jY) bC ?_;refine G.dn aW ?_;have fR:=bC;refine G.ip o ?_ ?_<;>intro ff;refine G.rt o ?_;have aK:D1.iL p (⟨bb,d⟩:cn)=12:=BQ b9 (show ¬D1.en<(cn.on (⟨bb,d⟩:cn) (D1.dO p) d.length).length by omega) (show D1.cap+(D1.dO p).length<D1.used+(cn.on (⟨bb,d⟩:cn) (D1.dO p) d.length).length by omega);exact⟨_,am,by rw[aG,aK]<;>rfl,by rw[aG];simp only[aK];exact A,bE,by omega,B⟩
 refine G.bw 0 o (fun(cc:(List Nat)×dT×ao×Nat×Nat)=>match cc with|(aN,lR,aI,i,bi)=>[(2,sd.v),(3,.bool (!bb)),(10,ptr bi),(12,aQ.v)])
  (fun(aN,lR,aI,i,bi) (H:Heap)=>(bR aN lR H b aI)/\i<aI.fs.length/\lR.fb.getD i 0=bi/\(aM aI.fs i).w.length<=274877906945/\aI.fk i ⟨(cn.on (⟨bb,d⟩:cn) (D1.dO p) d.length),(aM aI.fs i).stays,(aM aI.fs i).w++[(⟨bb,d⟩:cn)]⟩=D1.write p (⟨bb,d⟩:cn)/\lR.bj.length<=am.bj.length/\aF aA R.size aN/\W (aq aA) R H) (fun _ cC=>?_) ?_
 have ad:W (aq aA) R R:=W.refl _ _;have cu:=aF.refl aA R.size;refine G.ae 1 o nN<|G.ci o ?_ ?_<;>intro bH;have bN:ax D1.now p=none:=by
  cases K:ax D1.now p with
  |none=>rfl
  |some i=>rw[K]at bH;cases bH
 have dr:=A.len;refine G.O o (M.build (v:= .agg #[.slice none 0 0,.slice none 0 0,.slice none 0 0]) o o eN)<|G.aR o (Z.bT ([.slice none 0 0,.slice none 0 0,.slice none 0 0])) ?_;rintro e8 eY ⟨rfl,eL,gF,_⟩;have ce:=ak.gf A.aT;have eh:=U.new ad.size;obtain⟨A,ad,_⟩:=bG gF A ad;have A:=A.Cr P.dm P.gP eL ce;have aV:=A.aT;obtain⟨eO,gd,eW,fY,eU,di⟩:=A.eZ _ bh b8;refine G.aG o di.bS.T jL kV oG o o<|G.O o (M.cast (v2:= .agg (h5 (am.fb++[R.size]) ((p,D1.fs.length):av×Nat)).toArray) (M.build (v:= .agg #[aJ p,ptr R.size]) o o eN) (by simp[h5,List.getD,<-dr]))<|G.aC o Av (DR (vq33z:=(am.fb++[R.size])) (v:=eO.v) (l:=(ei D1.now (bI p))) p D1.fs.length w0 di.ar.any I<|q9 P.dm) ?_;rintro e9 e_ ⟨dd2q,ev,rfl,cb,dB,gG⟩;have ci:ak ev ((R.size+1)::aA):=ak.ia ak.gv A.aT dB;have ej:=U.al (U.refl 0 _) dB ad.size;obtain⟨A,ad,_⟩:=bG gG A ad;have be:=cb.le;have eE:=IK (ρ:=gC am.ρ R.size (.dE D1.fs.length)) cb;have c7:=aF.cons ej (aF.cons eh cu);have A:=A.fz cb ci;have aV:=A.aT;refine G.aC o E1 (Jf (b:=b) (p:=(bI p)) (n:=bh) dd2q ⟨[],p,some D1.fs.length⟩ (w0:=w0) A P.dm P.gP b8 eE (by simp[dy.dir]) ⟨fun j dp=>rfl,fun h=>absurd o h⟩ (fun j dp=>by cases dp;simp) (by show D1.log.length<=_;omega)) ?_;rintro fa iI ⟨c8,bF,rfl,A,d_,cD,cE⟩;have en:=aF.al c7 d_ ad.size;have ad:=ad.bf cE (ag.bA c7 (by intro k aa;simp[aa]));have fg:=cE.size;have aV:=A.aT;obtain⟨i,bL⟩:∃i,i=D1.fs.length:=⟨_,o⟩;have aE:i<(hE D1 p).fs.length:=by rw[bL];exact t_ D1 p
 have ey:bF.fb.getD i 0=R.size:=by rw[cD.1,bL];simp[List.getD,<-dr]
 obtain⟨bi,aL,b7⟩:∃bi,bF.fb.getD i 0=bi/\ptr R.size=ptr bi:=⟨_,ey,o⟩;have bm:(aM (hE D1 p).fs i).w.length<=274877906945:=by rw[bL,wb];simp
 have A:bR c8 bF iI b (hE D1 p):=A;refine G.aQ o (cC (c8,bF,hE D1 p,i,bi) _ ?_) ⟨o,o,(by first|rfl|exact bn some b7),o,trivial⟩;exact⟨A,aE,aL,bm,by subst bL;exact To bN,by rw[cD.2];exact dF _,en,ad⟩;obtain⟨i,aH⟩:∃i,ax D1.now p=some i:=by
  cases K:ax D1.now p with
  |some i=>exact⟨i,o⟩
  |none=>rw[K]at bH;cases bH
 have aE:=A.ids.1 p i aH;have fT:=pd aH;obtain⟨bi,aL,b7⟩:∃bi,am.fb.getD i 0=bi/\ .pointer (lQ am.fb (ax D1.now p))=ptr bi:=⟨_,o,by rw[aH]<;>rfl⟩;have bm:=P.w i;refine G.aQ o (cC (aA,am,D1,i,bi) _ ?_) ⟨o,o,(by first|rfl|exact bn some b7),o,trivial⟩;exact⟨A,aE,aL,bm,Tp aH aE,dF _,cu,ad⟩;rintro⟨aN,lR,aI,i,bi⟩ bA dw;obtain⟨A,aE,aL,bm,ez,fH,ap,bu⟩:=dw;have aC:=aB.cb cU (bl.mono B.size) ap;have bY:=ak.cb cl C.le ap;have bZ:=aF.al bE ap B.size;have ab:=ab.aA bu cU;have C:=C.aA bu cl;have B:=B.bf bu (ag.bA bE (by intro k aa;simp[aa]));have fh:=bu.size;have aV:=A.aT;obtain⟨ga,dt,eR,Q,eJ,aP⟩:=A.dE i aE;have fJ:eJ.length<=274877906945:=by have b5:=bn List.length aP.lw;rw[dK]at b5;rw[b5];exact bm
 have O:W (aq [(bi+1),Q]) bA bA:=W.refl _ _;have b_:gN aN (bi+1):=(A.rq aP aL);have L:=aP.mC aL;have eS:=L.lt;have bD:=ak.at bY b_;have cF:ah vq33z V.size (bi+1):=ag.at (ag.bA bZ (by intro k aa;simp[aa])) b_;have c9:=U.refl (bi+1) bA.size;have ca:gN aN Q:=(A.mg aP.hl a_);have hw:=aP.hw;have dC:=hw.le;have cG:=ak.at bY ca;have co:ah vq33z V.size Q:=ag.at (ag.bA bZ (by intro k aa;simp[aa])) ca;have cH:=U.refl Q bA.size;have a6:ai (bi+1) Q:=aP.ne aL;refine G.aK o kX cZ o<|G.bl o (S.df L 0 ([aQ.v,dt.v,eR.v]) o o o o cZ a_ o) ?_;rintro aX ⟨L,bj⟩;have bj:=bj.eU;obtain⟨ab,C,hw,_⟩:=dg bj ab (aB.at aC b_) C bD hw a6.symm;have B:=B.bf bj (ag.cons cF ag.nil);obtain⟨O,_⟩:=cz bj O (ah.r c9);refine G.cJ o (fun X=>W (aq [Q]) aX X) [12,13,14] o ?_;have E:W (aq [Q]) aX aX:=W.refl _ _;refine N.bo 0 o E ?_;refine N.bo 1 o E ?_;refine N.bx 2 o E ?_;refine N.t1 3 o (fun X K=>M.fieldAddr (L.aA K<|ak.J a6).T o kX o o ov aO o) E ?_;refine N.t1 4 o (fun X K=>aY ((L.aA K<|ak.J a6).T.drop 2) s3) E ?_;refine N.bo 5 o E ?_;refine N.bo 7 o E ?_;refine N.ba 6 ?_;refine eP o (Z.cV<|c5 _ (([]:List UInt8)) dv eM fy) ?_;rintro fc bT ⟨T,ep,_⟩;have br:=ai.new C.le;have bs:=ai.new L.lt;have cI:=ai.new hw.le;have cL:=U.new B.size;have cN:=U.new O.size;have cs:=U.new E.size;obtain⟨ab,C,L,hw,B,O,E,_⟩:=ja ep ab C L hw B O E;refine N.aN E (ag.cons (ah.r<|U.refl Q aX.size)<|ag.J<|ah.q cs) ?_;have E:W (aq [Q,(aX.size+1)]) bT bT:=W.refl _ _;have cO:=U.refl (aX.size+1) bT.size;refine N.ba 8 ?_;refine eP o (dd T ab dv gm gm) ?_;rintro da aR ⟨bd,T,aZ,b0⟩;have b0:=b0.md;have bw:=ai.app br C.le aZ;have fO:=ai.app bs L.lt aZ;have cP:=ai.app cI hw.le aZ;have er:=U.al cL aZ B.size;have et:=U.al cN aZ O.size;have eu:=U.al cO aZ E.size;obtain⟨C,L,hw,B,O,E,_⟩:=kG b0 C br L bs hw cI B (ah.q cL) O (ah.q cN) E (ah.r cO);have e1:=T.le;obtain⟨db,rfl⟩:∃s:ay,da=s.v:=⟨ck da,T.a6.symm⟩;rw[gw]at T;refine N.aN E (ag.cons (ah.r<|U.refl Q bT.size)<|ag.J<|ah.r eu) ?_;have E:W (aq [Q,bd]) aR aR:=W.refl _ _;refine N.t1 9 o (fun X K=>M.build (v:= .agg (se ((⟨bb,d⟩:cn),db)).toArray) o o eN) E ?_;refine N.ba 10 ?_;refine eP o (Z.cV<|c5 _ ([((⟨bb,d⟩:cn),db)]) Ha sf vm) ?_;rintro fe a0 ⟨ef,eg,_⟩;have dJ:=U.new E.size;obtain⟨C,L,hw,T,B,O,E,_⟩:=ja eg C L hw T B O E;refine N.aN E (ag.cons (ah.r<|U.refl Q aR.size)<|ag.cons (ah.r<|U.refl bd aR.size)<|ag.J<|ah.q dJ) ?_;have E:W (aq [Q,bd,(aR.size+1)]) a0 a0:=W.refl _ _;have cr:=U.refl Q a0.size;refine N.ba 11 ?_;refine eP o (dd hw ef.rd Ha gm gm) ?_;rintro b2 fj ⟨eG,hw,ba,bc⟩;have bc:=bc.md;have dM:=ai.app cG C.le ba;have dN:=ai.app a6 L.lt ba;have dO:=ai.app cP.symm T.le ba;have ct:=U.al cH ba O.size;have dP:=U.al cr ba E.size;obtain⟨C,L,T,_⟩:=dg bc C cG L a6 T cP.symm;have B:=B.bf bc (ag.cons co ag.nil);obtain⟨O,E,_⟩:=de bc O (ah.r cH) E (ah.r cr);have dC:=hw.le;refine N.aN E (ag.cons (ah.r dP)<|ag.cons (ah.r<|U.refl bd a0.size)<|ag.J<|ah.r<|U.refl (aR.size+1) a0.size) ?_;refine N.ba 12 ?_;refine hH o mu (.inl o) ?_;refine N.ba 13 ?_;refine hH o (M.hh L.T o kX o ov) (.inl o) ?_;refine N.ba 14 ?_;refine hX o (S.df L 2 ([aQ.v,dt.v,b2]) o o o hw.rd.sJ ov a_ o) ?_;rintro eZ ⟨L,bg⟩;have bg:=bg.eU;obtain⟨C,hw,T,_⟩:=dg bg C bD hw dN.symm T fO.symm;have B:=B.bf bg (ag.cons cF ag.nil);obtain⟨O,_⟩:=cz bg O (ah.r c9);refine⟨.inl o,?_⟩;refine G.dn aW ?_;obtain⟨gg,rfl⟩:∃s:ay,b2=s.v:=⟨ck b2,hw.a6.symm⟩;have dQ:aF vq33z V.size (a1::(bd::(eG::aN))):=(aF.cons dI ((aF.cons er ((aF.app bZ ca ct I)))));have A:=A.Pr aE aP aL O L hw ct T (ak.cons dO (ak.ud A.aT et)) C (ak.cons bw (ak.cons dM bY));have aV:=A.aT;refine G.rt o ?_;have dc:D1.iL p (⟨bb,d⟩:cn)=0:=BP b9 (show ¬D1.en<(cn.on (⟨bb,d⟩:cn) (D1.dO p) d.length).length by omega) (show ¬D1.cap+(D1.dO p).length<D1.used+(cn.on (⟨bb,d⟩:cn) (D1.dO p) d.length).length by omega);exact⟨_,_,by rw[aG,dc]<;>rfl,by rw[aG];simp only[dc,if_true];rw[<-ez];exact A,dQ,by show lR.bj.length<=_;omega,B⟩
def Tn{g:dT}{b:Nat}{D:ao}(p:av){sd:ay}{d:List UInt8}{F:Nat->Prop}{w0:World}(n:bR vq33z g H b D)(ab:Rd F H a7 1 sd.v d)(O:bk F H.size)(P:aB F vq33z)(R:g.bj.length<=549755813888)(U:p.length<=4294967280)(Q:hP 274877906944 D)(S:d.length<=274877906944):
 a8 prog w0 156 #[ptr b,aJ p,sd.v] H (fun r B=>∃C:List Nat,∃g2:dT,r= .int .i64 ((D.lay p ⟨false,d⟩).1:Int)/\bR C g2 B b ((D.lay p ⟨false,d⟩).2)/\aF vq33z H.size C/\g2.bj.length<=g.bj.length+2/\W (aq vq33z) H B):=by
 refine G.bc vq33z func156 o fun A=>?_;have E:=aF.refl vq33z H.size;have ac:=n.aT;refine G.aC o EW (Jz (vq33z:=vq33z) (g:=g) (b:=b) (D:=D) (p:=p) (sd:=sd) (d:=d) (bb:=false) (F:=F) (w0:=w0) n ab (O.mono I) P R U Q S) ?_;rintro V X ⟨aH,M,rfl,n,K,ad,L⟩;have N:=aF.al E K A.size;have A:=A.bf L (ag.bA E (by intro k T;simp[T]));exact G.rt o ⟨_,M,o,n,N,ad,A⟩
def Jb{g:dT}{b:Nat}{D:ao}(p:av){sd:ay}{d:List UInt8}{F:Nat->Prop}{w0:World}(n:bR vq33z g H b D)(ab:Rd F H a7 1 sd.v d)(O:bk F H.size)(P:aB F vq33z)(R:g.bj.length<=549755813888)(U:p.length<=4294967280)(Q:hP 274877906944 D)(S:d.length<=274877906944):
 a8 prog w0 118 #[ptr b,aJ p,sd.v] H (fun r B=>∃C:List Nat,∃g2:dT,r= .int .i64 ((D.lay p ⟨true,d⟩).1:Int)/\bR C g2 B b ((D.lay p ⟨true,d⟩).2)/\aF vq33z H.size C/\g2.bj.length<=g.bj.length+2/\W (aq vq33z) H B):=by
 refine G.bc vq33z func118 o fun A=>?_;have E:=aF.refl vq33z H.size;have ac:=n.aT;refine G.aC o EW (Jz (vq33z:=vq33z) (g:=g) (b:=b) (D:=D) (p:=p) (sd:=sd) (d:=d) (bb:=true) (F:=F) (w0:=w0) n ab (O.mono I) P R U Q S) ?_;rintro V X ⟨aH,M,rfl,n,K,ad,L⟩;have N:=aF.al E K A.size;have A:=A.bf L (ag.bA E (by intro k T;simp[T]));exact G.rt o ⟨_,M,o,n,N,ad,A⟩
def R2{picks:List Int}{m:Nat}(ar:n<picks.length):gJ picks n m=k1 picks[n] m:=by
 unfold gJ k1;rw[aD ar,List.getD_eq_getElem?_getD,List.getElem?_eq_getElem ar,tN]
def I1{w:cn}{b:List UInt8}(h:w.d.length=0):w.part b k=(if w.b=true then b else[]):=by
 unfold cn.part cn.on;rw[aD (.inr h),lT h];simp
def I0{w:cn}{b:List UInt8}(h:k<w.d.length):w.part b k=(if w.b=true then b else[])++w.d.take (k+1):=by
 unfold cn.part cn.on;rw[aD (.inl h),kx I]
def IY{w:cn}{b:List UInt8}(h:¬k<w.d.length)(n:¬w.d.length=0):w.part b k=(if w.b=true then b else[])++w.d.take (k-w.d.length)++List.replicate (2*w.d.length-k) 0:=by
 unfold cn.part cn.on;rw[au (fun e=>e.elim h n),show w.d.length-(k-w.d.length)=2*w.d.length-k by omega]
def sL{α:Type}{e:TypeId}{f:α->List Value}{v:Value}{l m:List α}(h:aS k e H f n v l)(q:l=m):aS k e H f n v m:=q▸h
def vv{D:ao}{b:Nat}{g:dT}{α:Type}{f:α->List Value}{v:Value}{m:List α}(h:bR vq33z g H b D)(E:jZ k H f n v m)(C:∀c,c+1=k->g.ρ c= .du\/g.ρ c= .out):bR (k::vq33z) {g with ρ:=eg g.ρ k .du} H b D:=by
 have r:Ext g.ρ (eg g.ρ k .du):=Ext.eg (fun c e=>(C c e).symm);have s:W (fun _=>False) H H:=W.refl _ _
 exact{h with
  dz:=m8 h.dz a_,lt:=nd h.lt (dF _) E.le,eJ:=r.of h.eJ a_
  ab:=gX h.ab r s (fun c e=>e.elim)
  eZ:=fun p bh e=>by
   obtain⟨b3,a6,bv,k,bD,ab⟩:=h.eZ p bh e;exact⟨b3,a6,bv,k,bD,ab.al r s (fun c aj=>aj.elim) o o o⟩
  dE:=fun i B=>by
   obtain⟨b3,a6,dr,k,l,A⟩:=h.dE i B;exact⟨b3,a6,dr,k,l,A.al r s (fun c aj=>aj.elim)⟩}
def vq{g:dT}(r:∀c,g.ρ c≠ .out->c<n)(hb:∀c,c+1=k->g.ρ c= .du\/n<=c):∀c,c+1=k->g.ρ c= .du\/g.ρ c= .out:=
 fun c e=>(hb c e).imp id (fun h=>kQ (fun q=>by have:=r c q;omega))
def wk{D:ao}{b:Nat}{g:dT}(h:bR vq33z g H b D)(hb:∀c,c+1=k->g.ρ c= .du\/n<=c):aF vq33z n (k::vq33z):=aF.FH (aF.refl _ _) (by
 rcases qu k with e|e;exact .inl e;rcases hb (k-1) I with r|r;have:=h.mem r a_;rw[show k-1+1=k by omega]at this;exact .inr (.inl this);exact .inr (.inr I))
def Jx{hf:ay}{picks:List Int}(m:Nat){w0:World}(k:b_ H nv 1 hf.v picks)(hm:0<m/\m<=4611686018427387904)(K:∀x∈picks,-9223372036854775808<=x/\x<=9223372036854775807):
 a8 prog w0 37 #[hf.v,.int .i64 (n:Int),.int .i64 (m:Int)] H (fun r E=>r= .int .i64 ((gJ picks n m:Nat):Int)/\an H E):=by
 refine G.bN func37 o fun A=>?_;have k:=k.cD;have P:=k.len;refine G.O o (bz k sU)<|G.ip o ?_ ?_<;>intro L;exact G.rt o ⟨by rw[I4 I]<;>rfl,A⟩;have B:n<picks.length:=by omega
 have Q:=K picks[n] (cS B);have aU:=yu picks[n] (show(0:Int)<m by omega);have O:=BK picks[n] (show(0:Int)<m by omega);have C:=R2 (m:=m) B;refine G.pp o (M.cw k n o sU bV o o) fun N F=>G.O o (aY F.T cQ)<|G.O o (M.rem o o o I)<|G.ip o (fun am=>?_) fun am=>?_;exact G.O o bB<|G.rt o ⟨by rw[C,KU hm.1 I],A⟩;exact G.rt o ⟨by rw[C,KV hm.1 I],A⟩
def Tm{g:dT}{b:Nat}{D:ao}{i:Nat}{w0:World}(B:bR vq33z g V b D)(O:i<D.fs.length)(ae:(aM D.fs i).w.length<=549755813888)(P:∀y∈(aM D.fs i).w,y.d.length<=549755813888)(ai:hg (aM D.fs i).w<=2305843009213693952):
 a8 prog w0 40 #[fX g.fb i] V (fun r N=>r= .int .i64 ((hg (aM D.fs i).w:Nat):Int)/\an V N):=by
 refine G.bN func40 o fun F=>?_;have ac:=B.aT;have Z:∀c,g.ρ c≠ .out->c<V.size:=B.lt;obtain⟨b3,a6,dr,kw,lw,k⟩:=B.dE i O;have E:=k.lw;have aa:lw.length=(aM D.fs i).w.length:=by rw[<-E,dK]
 have L:=KP lw;rw[E]at L;have A:=k.ab;have n:=k.eL;have R:=n.lt;have hw:=k.hw;have ad:=hw.le
 refine G.bd o (fun(i1:Nat)=>[(0,fX g.fb i),(3,.int .i64 ((1+((lw.take i1).map (fun y=>y.1.ways)).sum:Nat):Int)),(4,.int .i64 (i1:Int))])
  (fun(i1:Nat) (H:Heap)=>(i1<=lw.length)/\an V H)
  (fun(i1:Nat)=>lw.length-i1) 0 ⟨I,W.refl _ _⟩ ?_
 rintro i1 T ⟨X,K⟩ Q am;obtain⟨A,n,hw,F,_⟩:=dZ K A n hw F;refine G.aG o n.T kX ov s3 o o<|G.O o (bz hw.rd wX)<|G.ip o ?_ ?_<;>intro S;have C:i1<lw.length:=by omega
 have ag:=KQ C;have ah:=KO lw (i1+1);have U:=P lw[i1].1 (by rw[<-E];exact dp.2 ⟨_,cS C,o⟩);exact G.aG o n.T kX ov s3 o o<|G.O o (jP hw i1 wX zk)<|G.O o (M.fieldAddr (hw.T (j:=i1) gj) o uG o o cZ aO o)<|G.O o (aY ((hw.T (j:=i1) gj).drop 1) eI)<|G.O o (bz (A lw[i1] (cS C)) c_)<|G.O o (M.cast (v2:= .int .i64 ((2*lw[i1].1.d.length:Nat):Int)) lB<|di I)<|G.O o (M.cast (v2:= .int .i64 (lw[i1].1.ways:Int)) (M.qF o o o)<|di (by unfold cn.ways;omega))<|G.O o (M.cast (v2:= .int .i64 ((1+((lw.take (i1+1)).map (fun y=>y.1.ways)).sum:Nat):Int)) bB<|di I)<|G.O o bB<|G.aQ o<|am (i1+1) _ ⟨I,K⟩;obtain rfl:i1=lw.length:=by omega
 have A:=k.ab;have n:=k.eL;have hw:=k.hw;exact G.rt o ⟨by rw[L,eQ],F⟩
def Tl{g:dT}{b:Nat}{D:ao}{i:Nat}(j4:Nat){w0:World}(n:bR vq33z g V b D)(cA:i<D.fs.length)(da:j4<=4611686018427387904)(dh:(aM D.fs i).w.length<=549755813888)(cD:∀y∈(aM D.fs i).w,y.d.length<=549755813888)(cC:∀j,(hs ((aM D.fs i).w.take j) (aM D.fs i).stays).length<=549755813888):
 a8 prog w0 39 #[fX g.fb i,.int .i64 (j4:Int)] V (fun r aV=>∃bt:List Nat,∃g2:dT,∃s:ay,r=s.v/\bR bt g2 aV b D/\aF vq33z V.size bt/\Rd (fun c=>g2.ρ c= .du) aV a7 1 s.v (im (aM D.fs i).w (aM D.fs i).stays j4)/\(g2.fb=g.fb/\g2.bj=g.bj)/\W (aq vq33z) V aV):=by
 refine G.bc vq33z func39 o fun A=>?_;have cI:=n.aT;have aL:∀c,g.ρ c≠ .out->c<V.size:=n.lt;obtain⟨b3,a6,dr,kw,lw,aI⟩:=n.dE i cA;have bm:=aI.lw;have df:lw.length=(aM D.fs i).w.length:=by rw[<-bm,dK]
 obtain⟨fM,aA,bo⟩:=Jj aI.Y;obtain⟨L,al⟩:∃L,L=im (aM D.fs i).w (aM D.fs i).stays j4:=⟨_,o⟩;have K:=aI.ab;have ad:bk (fun c=>g.ρ c= .du) V.size:=n.Et;have aB:=aI.eL;have cH:=aB.lt;have hw:=aI.hw;have cK:=hw.le;have hb:=aA;have b9:=hb.le;refine G.aG o aB.T kX cZ eI o o<|G.ip o ?_ ?_<;>intro cO;refine G.rt o ?_;have P:L=(aM D.fs i).stays:=by rw[al,show j4=0 by omega,KL]
 exact⟨(fM::vq33z),{g with ρ:=eg g.ρ fM .du},a6,rfl,vv n ((by rw[P];exact hb:jZ fM _ a7 1 a6.v L)) (vq aL (fun c e=> .inl (bo c e))),wk n (fun c e=> .inl (bo c e)),by rw[<-al];exact((by rw[P];exact hb:jZ fM _ a7 1 a6.v L)).rd.imp (fun c _ e=>lv e),⟨o,o⟩,A⟩;refine G.O o (M.cast (v2:= .int .i64 ((j4-1:Nat):Int)) eA<|di I) ?_
 refine G.bd o (fun(bq:Nat×Nat×ay×Nat×(List UInt8))=>match bq with|(i2,k,X,R,bD)=>[(0,fX g.fb i),(1,.int .i64 (k:Int)),(5,X.v),(6,.int .i64 (i2:Int))])
  (fun(i2,k,X,R,bD) (H:Heap)=>(i2<=lw.length)/\jZ R H a7 1 X.v bD/\(∀c,c+1=R->g.ρ c= .du\/V.size<=c)/\bD=hs ((aM D.fs i).w.take i2) (aM D.fs i).stays/\im ((aM D.fs i).w.drop i2) bD (k+1)=L/\k<=j4/\U fM V.size R/\an V H)
  (fun(i2,k,X,R,bD)=>lw.length-i2) (0,j4-1,a6,fM,(aM D.fs i).stays) ?_ ?_
 exact⟨I,hb,fun c e=> .inl (bo c e),o,by rw[show j4-1+1=j4 by omega];exact al.symm,by omega,U.refl _ _,W.refl _ _⟩;rintro⟨i2,k,X,R,bD⟩ bU b_ cU a2;obtain⟨c9,hb,b2,b4,aN,dc,a3,ac⟩:=b_;obtain⟨n,K,aB,hw,A,_⟩:=d_ ac n K aB hw A;have b9:=hb.le;have cz:=cC i2;rw[<-b4]at cz;refine G.aG o aB.T kX ov s3 o o<|G.O o (bz hw.rd wX)<|G.ip o ?_ ?_<;>intro cL;have aJ:i2<lw.length:=by omega
 have aK:i2<(aM D.fs i).w.length:=by omega
 have T:(aM D.fs i).w[i2]=lw[i2].1:=by simp only[<-bm,od]
 have c4:=cD lw[i2].1 (by rw[<-bm];exact dp.2 ⟨_,cS aJ,o⟩);refine G.aG o aB.T kX ov s3 o o<|G.O o (jP hw i2 wX zk)<|G.O o (bu (hw.T (j:=i2) gj) Lg zk<|sf _)<|G.aR o (Z.bt U9) ?_;rintro O cG ⟨rfl,O,ca,_⟩;have cb:=ak.gf n.aT;have cc:=(aw.new (ad.mono I):aw _ (bU.size+1));have cd:=ai.new hb.le;have cp:=U.new A.size;have cx:=U.new ac.size;obtain⟨n,K,hb,A,ac,_⟩:=d_ ca n K hb A ac;refine G.bl o (S.var O _ (se lw[i2]) o o o o (vm lw[i2]) zk (sf _) aO ((zp (sf _).symm))) ?_;rintro bd ⟨O,b6⟩;obtain⟨n,K,hb,A,ac,_⟩:=fT b6 n (fL cb) K cc hb cd A (ah.q cp) ac cx;refine G.aG o O.T uG cZ eI o o<|G.O o (bz (K lw[i2] (cS aJ)) c_) ?_
 refine G.bw 1 o (fun(bq:ay×(List UInt8)×(Nat->Prop))=>match bq with|(sz,aG,aP)=>[(0,fX g.fb i),(1,.int .i64 (k:Int)),(6,.int .i64 (i2:Int)),(7,.pointer (some ⟨bU.size,0,none⟩)),(8,.int .i64 (lw[i2].1.d.length:Int)),(9,sz.v)])
  (fun(sz,aG,aP) (H:Heap)=>(∀u:Unit,Rd aP H a7 1 sz.v aG)/\bk aP H.size/\((lw[i2].1.b=true/\aG=bD)\/(lw[i2].1.b=false/\aG=[]))/\aG.length<=bD.length/\an bd H) (fun _ bw=>?_) ?_
 have bO:an bd bd:=W.refl _ _;refine G.aG o O.T uG c8 eW o o<|G.O o e7<|G.ci o ?_ ?_<;>intro b1;have B:lw[i2].1.b=true:=by simpa using b1
 exact G.aQ o<|bw (X,bD,fun c=>c+1=R) _ ⟨(fun _=>hb.rd),(bk.of hb.le),.inl ⟨B,o⟩,dF _,bO⟩;have B:lw[i2].1.b=false:=by simpa using b1
 exact G.aQ o<|bw (⟨none,0,0⟩,[],fun _=>False) _ ⟨(fun _=>Rd.nil _ _ _ _),nofun,.inr ⟨B,o⟩,gH _,bO⟩;rintro⟨sz,aG,aP⟩ aa b8;obtain⟨aE,cN,av,dg,b7⟩:=b8;obtain⟨n,K,O,A,ac,_⟩:=d_ b7 n K O A ac;refine G.O o (M.cast (v2:= .int .i64 ((2*lw[i2].1.d.length:Nat):Int)) lB<|di I)<|G.O o (M.cast (v2:= .int .i64 (lw[i2].1.ways:Int)) (M.qF o o o)<|di (by unfold cn.ways;omega))<|G.ip o ?_ ?_<;>intro cP;refine G.aR o (Z.cV<|c5 _ (([]:List UInt8)) dv eM fy) ?_;rintro gG ci ⟨C,cq,_⟩;have bV:=ak.gf n.aT;have cr:=(aw.new (ad.mono I):aw _ (aa.size+1));have bi:=ai.new O.lt;have bA:=U.new A.size;obtain⟨n,K,O,aE,A,_⟩:=d_ cq n K O aE A;refine G.aR o (dd C (aE ()) dv rB rB) ?_;rintro bW cV ⟨aH,C,bC,aU⟩;have aU:=aU.md;have bf:ak aH vq33z:=ak.ia bV n.aT bC;have az:=U.al bA bC A.size;obtain⟨n,K,O,A,_⟩:=dx aU n (fL bV) K cr O bi A (ah.q bA);have bc:=C.le;obtain⟨bl,rfl⟩:∃s:ay,bW=s.v:=⟨ck bW,C.a6.symm⟩;refine G.ip o ?_ ?_<;>intro cQ;refine G.rt o ?_;have P:L=lw[i2].1.part bD k:=by rw[<-aN,uK aK,au I,aD (by simp only[T];omega),yf];simp only[T]
 exact⟨(aH::vq33z),{g with ρ:=eg g.ρ aH .du},bl,rfl,vv n ((sL C (by rw[P,I1 I];(rcases av with⟨B,F⟩|⟨B,F⟩<;>rw[F]<;>simp[B])):aS aH 5 _ a7 1 bl.v L).q) (vq aL (fun c e=> .inr (by have Q:=az;unfold U at Q;omega))),wk n (fun c e=> .inr (by have Q:=az;unfold U at Q;omega)),by rw[<-al];exact((sL C (by rw[P,I1 I];(rcases av with⟨B,F⟩|⟨B,F⟩<;>rw[F]<;>simp[B])):aS aH 5 _ a7 1 bl.v L).q).rd.imp (fun c _ e=>lv e),⟨o,o⟩,A⟩;refine G.ip o ?_ ?_<;>intro gF;refine G.aG o O.T uG cZ eI o o<|G.O o (M.cast (v2:= .int .i64 ((k+1:Nat):Int)) bB<|di I)<|G.hj (g:=fun v=>v) o (iG (K lw[i2] (cS aJ)) (0) (k+1) c_ db (.inl ⟨o,o⟩) (.inr ⟨_,_,_,o,o,by first|rfl|omega⟩)) fun cW cF=>G.aR o (dd C cF dv rB rB) ?_;rintro bX aC ⟨aQ,C,ct,bg⟩;have bg:=bg.md;have bE:=U.al az ct A.size;obtain⟨n,A,_⟩:=de bg n (fL bf) A (ah.q az);have bc:=C.le;obtain⟨bT,rfl⟩:∃s:ay,bX=s.v:=⟨ck bX,C.a6.symm⟩;refine G.rt o ?_;have P:L=lw[i2].1.part bD k:=by rw[<-aN,uK aK,au I,aD (by simp only[T];omega),yf];simp only[T]
 exact⟨(aQ::vq33z),{g with ρ:=eg g.ρ aQ .du},bT,rfl,vv n ((sL C (by rw[P,I0 I];(rcases av with⟨B,F⟩|⟨B,F⟩<;>rw[F]<;>simp[B])):aS aQ 5 _ a7 1 bT.v L).q) (vq aL (fun c e=> .inr (by have Q:=bE;unfold U at Q;omega))),wk n (fun c e=> .inr (by have Q:=bE;unfold U at Q;omega)),by rw[<-al];exact((sL C (by rw[P,I0 I];(rcases av with⟨B,F⟩|⟨B,F⟩<;>rw[F]<;>simp[B])):aS aQ 5 _ a7 1 bT.v L).q).rd.imp (fun c _ e=>lv e),⟨o,o⟩,A⟩;refine G.aG o O.T uG cZ eI o o<|G.O o (M.cast (v2:= .int .i64 ((k-lw[i2].1.d.length:Nat):Int)) eA<|di I)<|G.hj (g:=fun v=>v) o (M.slice (K lw[i2] (cS aJ)) (0) (k-lw[i2].1.d.length) o c_ db o (.inl ⟨o,o⟩) (.inr ⟨_,_,_,o,o,by first|rfl|omega⟩) I (by unfold cn.ways at*;omega)) fun cX cE=>G.aR o (dd C cE dv rB rB) ?_;rintro bY cY ⟨ce,C,bF,bh⟩;have bh:=bh.md;have cu:ak ce vq33z:=ak.ia bf n.aT bF;have bG:=U.al az bF A.size;obtain⟨n,A,_⟩:=de bh n (fL bf) A (ah.q az);have bc:=C.le;obtain⟨co,rfl⟩:∃s:ay,bY=s.v:=⟨ck bY,C.a6.symm⟩;refine G.O o (M.cast (v2:= .int .i64 ((2*lw[i2].1.d.length:Nat):Int)) lB<|di I)<|G.O o (M.cast (v2:= .int .i64 ((2*lw[i2].1.d.length-k:Nat):Int)) eA<|di (by unfold cn.ways at*;omega))<|G.aR o (Z.z6 (m:=2*lw[i2].1.d.length-k) C (0:UInt8) o dv underlying3 zL o aO o o gm gm) ?_;rintro bZ c0 ⟨aR,C,cv,bj⟩;have bj:=bj.md;have bH:=U.al bG cv A.size;obtain⟨n,A,_⟩:=de bj n (fL cu) A (ah.q bG);have bc:=C.le;obtain⟨bv,rfl⟩:∃s:ay,bZ=s.v:=⟨ck bZ,C.a6.symm⟩;refine G.rt o ?_;have P:L=lw[i2].1.part bD k:=by rw[<-aN,uK aK,au I,aD (by simp only[T];omega),yf];simp only[T]
 exact⟨(aR::vq33z),{g with ρ:=eg g.ρ aR .du},bv,rfl,vv n ((sL C (by rw[P,IY I I];(rcases av with⟨B,F⟩|⟨B,F⟩<;>rw[F]<;>simp[B])):aS aR 5 _ a7 1 bv.v L).q) (vq aL (fun c e=> .inr (by have Q:=bH;unfold U at Q;omega))),wk n (fun c e=> .inr (by have Q:=bH;unfold U at Q;omega)),by rw[<-al];exact((sL C (by rw[P,IY I I];(rcases av with⟨B,F⟩|⟨B,F⟩<;>rw[F]<;>simp[B])):aS aR 5 _ a7 1 bv.v L).q).rd.imp (fun c _ e=>lv e),⟨o,o⟩,A⟩;refine G.O o (M.cast (v2:= .int .i64 ((2*lw[i2].1.d.length:Nat):Int)) lB<|di I)<|G.O o (M.cast (v2:= .int .i64 (lw[i2].1.ways:Int)) (M.qF o o o)<|di (by unfold cn.ways;omega))<|G.O o (M.cast (v2:= .int .i64 ((k-lw[i2].1.ways:Nat):Int)) eA<|di I)<|G.cJ o (fun ax=>an aa ax) [] o ?_;have E:an aa aa:=W.refl _ _;refine N.bo 1 o E ?_;refine N.aK 3 uG cZ E ?_;refine N.t1 4 o (fun ax aA=>aY ((O.T.drop 1).aL aA) eI) E ?_;refine N.ba 0 ?_;refine eP o (Z.cV<|c5 _ (([]:List UInt8)) dv eM fy) ?_;rintro c1 aT ⟨ae,cw,_⟩;have cf:=(aw.new (ad.mono I):aw _ (aa.size+1));have bI:=U.new A.size;have bK:=U.new ac.size;have cg:=U.new E.size;obtain⟨K,aE,A,ac,E,_⟩:=d_ cw K aE A ac E;refine⟨.inr E,N.narrow (SH2:=fun ax=>W (aq [(aa.size+1)]) aT ax) (fun ax aA=>(W.bf (ks:=[]) (E.nE []) aA (ag.J (ah.q cg))).nil) ?_⟩;have E:W (aq [(aa.size+1)]) aT aT:=W.refl _ _;have bL:=U.refl (aa.size+1) aT.size;refine N.ba 2 ?_;refine eP o (dd ae (aE ()) dv rB rB) ?_;rintro c3 ba ⟨bP,ae,aX,aZ⟩;have aZ:=aZ.md;have ch:=U.al bI aX A.size;have bM:=U.al bK aX ac.size;have cj:=U.al bL aX E.size;obtain⟨K,A,ac,E,_⟩:=dx aZ K cf A (ah.q bI) ac bK E (ah.r bL);have b5:=ae.le;refine N.aN E (ag.J<|ah.r cj) ?_;have E:W (aq [bP]) ba ba:=W.refl _ _;have bN:=U.refl bP ba.size;refine N.ba 5 ?_;refine eP o (dd ae (K lw[i2] (cS aJ)) dv gm gm) ?_;rintro b0 bQ ⟨bS,ae,a1,a_⟩;have a_:=a_.md;have cl:=U.al bM a1 ac.size;have cm:=U.al bN a1 E.size;obtain⟨ac,E,_⟩:=de a_ ac bM E (ah.r bN);have b5:=ae.le;obtain⟨cy,rfl⟩:∃s:ay,b0=s.v:=⟨ck b0,ae.a6.symm⟩;refine N.aN E (ag.J<|ah.r cm) ?_;have E:W (aq [bS]) bQ bQ:=W.refl _ _;refine N.t1 6 o (fun ax aA=>fl) E ?_;exact G.dn aW<|G.O o bB<|G.aQ o<|a2 (i2+1,k-lw[i2].1.ways,cy,bS,lw[i2].1.on bD lw[i2].1.d.length) _ ⟨I,(sL ae (by rcases av with⟨B,F⟩|⟨B,F⟩<;>rw[F]<;>simp[cn.on,B])).q,fun c e=> .inr (by have Q:=(U.al ch a1 A.size);unfold U at Q;omega),by rw[IA aK,<-b4];simp only[T],by rw[<-aN,uK aK,au I,au (by simp only[T];omega),show k+1-(aM D.fs i).w[i2].ways=k-lw[i2].1.ways+1 from by simp only[T];omega];simp only[T],I,(U.z cl),ac⟩;refine G.rt o ?_;have P:L=bD:=by rw[<-aN,pL I];rfl
 exact⟨(R::vq33z),{g with ρ:=eg g.ρ R .du},X,rfl,vv n ((by rw[P];exact hb:jZ R _ a7 1 X.v L)) (vq aL b2),wk n b2,by rw[<-al];exact((by rw[P];exact hb:jZ R _ a7 1 X.v L)).rd.imp (fun c _ e=>lv e),⟨o,o⟩,A⟩
def jz(fs:List fg):Prop:=∀i,hs (aM fs i).w (aM fs i).stays=(aM fs i).now
def jz.nil:jz []:=fun i=>rfl
def jz.set{fs:List fg}(h:jz fs){x:fg}(r:hs x.w x.stays=x.now):jz (fs.set k x):=fun i=>by
 by_cases n:k<fs.length;by_cases e:i=k;subst e;have:aM (fs.set i x) i=x:=by simp[aM,List.getD,n]
 rw[this];exact r;have:aM (fs.set k x) i=aM fs i:=by simp[aM,List.getD,List.getElem?_set,ku e]
 rw[this];exact h i;rw[vR I];exact h i
def jz.add{fs:List fg}(h:jz fs):jz (fs++[⟨[],[],[]⟩]):=fun i=>by
 rcases BM i fs.length with e|e|e;have:aM (fs++[⟨[],[],[]⟩]) i=aM fs i:=by simp[aM,List.getD,List.getElem?_append_left e]
 rw[this];exact h i;subst e;have:aM (fs++[⟨[],[],[]⟩]) fs.length=⟨[],[],[]⟩:=by simp[aM,List.getD]
 rw[this];rfl;have:aM (fs++[⟨[],[],[]⟩]) i=⟨[],[],[]⟩:=by unfold aM;rw[List.getD_eq_getElem?_getD,List.getElem?_eq_none bU];rfl
 rw[this];rfl
def jz.mE(picks:List Int):∀(L:ca) (s:List fg×Nat),jz s.1->jz (L.foldl (hS picks) s).1
 |[],_,h=>h
 |x::L,s,h=>by
  rw[kO];refine jz.mE picks L _ ?_;unfold hS;simp only;split;exact h;exact h.set o
def jz.OB{D:ao}(h:jz D.fs)(picks:List Int):jz (D.mE picks).fs:=jz.mE picks _ (D.fs,_) h
def ON{picks:List Int}{D:ao}{at_:Nat}{p:av}(k:cX D.stays)(n:∀c∈D.log,∀i,c.f=some i->bI c.n=c.dir):ei (eF picks D (D.stays,at_) p).1 p=iX ((D.c0 p).take (gJ picks at_ ((D.c0 p).length+1))) (ei D.stays p):=by
 rw[m3,F3 _ k (fun c aj=>N9 n (ky aj))]
def Rj{a b:ca}(n:cX a)(h:∀q,(ax a q).isSome=true->(ax b q).isSome=true):a.length<=b.length:=by
 have:=mn (b:=b.map (·.1)) n.nodup (fun k r=>gM.1 (h k (gM.2 r)));rwa[dK,dK]at this
def zW{l:ca}{j:Nat}(h:j<l.length)(q:av):q∈(l.take (j+1)).map (·.1)↔q∈(l.take j).map (·.1)\/q=l[j].1:=by
 rw[fc h,hc,gR];simp
def Lv{bZ aH bD:ca}{y q:av}{j:Nat}(r:cX bZ)(h:j<(ei bZ y).length)(A:∀q,ax bD q=if q∈((ei bZ y).take j).map (·.1)then ax bZ q else ax aH q):ax (hM bD (ei bZ y)[j].1 (ei bZ y)[j].2) q=if q∈((ei bZ y).take (j+1)).map (·.1)then ax bZ q else ax aH q:=by
 have hm:=nf r (iK.1 (cS h)).1;rw[rv,A];by_cases e:q=(ei bZ y)[j].1;rw[aD e,aD ((zW h q).2 (.inr e)),e,hm];rw[au e];by_cases k:q∈((ei bZ y).take j).map (·.1);rw[aD k,aD ((zW h q).2 (.inl k))];rw[au k,au (fun n=>((zW h q).1 n).elim k e)]
def Lw{aH bD bZ:ca}{L:List av}{i:Nat}{y:av}(B:i<L.length)(hy:L[i]=y)(A:∀q,ax aH q=if bI q∈L.take i then ax bZ q else none)(C:∀q,ax bD q=if q∈(ei bZ y).map (·.1)then ax bZ q else ax aH q):∀q,ax bD q=if bI q∈L.take (i+1)then ax bZ q else none:=fun q=>by
 have n:bI q∈L.take (i+1)↔bI q∈L.take i\/bI q=y:=by rw[fc B,gR,fm,hy]
 have r:q∈(ei bZ y).map (·.1)↔bI q=y/\(ax bZ q).isSome=true:=by
  rw[<-gM,qG];by_cases e:bI q=y<;>simp[e]
 rw[C];by_cases e:bI q=y;rw[aD (n.2 (.inr e))];by_cases k:q∈(ei bZ y).map (·.1);rw[aD k];rw[au k,A];have:ax bZ q=none:=by
  cases E:ax bZ q with
  |none=>rfl
  |some v=>exact absurd (r.2 ⟨e,by rw[E];rfl⟩) k
 rw[this];simp;rw[au (fun h=>e (r.1 h).1),A];by_cases k:bI q∈L.take i;rw[aD k,aD (n.2 (.inl k))];rw[au k,au (fun h=>(n.1 h).elim k e)]
def T9{aH bD bZ:ca}{L:List av}{i j:Nat}{y:av}(k:∀q,ax aH q=if bI q∈L.take i then ax bZ q else none)(n:∀q,ax bD q=if q∈((ei bZ y).take j).map (·.1)then ax bZ q else ax aH q):∀q,(ax bD q).isSome=true->(ax bZ q).isSome=true:=fun q h=>by
 rw[n]at h;split at h;exact h;rw[k]at h;split at h;exact h;cases h
def Ou{picks:List Int}{fs:List fg}{a:Nat}{x:av×Nat}{b:List UInt8}(hw:(aM fs x.2).w≠[])(hb:b=im (aM fs x.2).w (aM fs x.2).stays (gJ picks a (hg (aM fs x.2).w))):(fs.set x.2 ⟨b,b,[]⟩,a+1)=hS picks (fs,a) x:=by
 unfold hS;simp only;rw[au hw,hb]
def Ov{picks:List Int}{fs:List fg}{a:Nat}{x:av×Nat}(r:x.2<fs.length)(hw:(aM fs x.2).w=[])(h:jz fs):(fs.set x.2 ⟨(aM fs x.2).stays,(aM fs x.2).stays,[]⟩,a)=hS picks (fs,a) x:=by
 unfold hS;simp only;rw[aD hw];have k:=h x.2;rw[hw]at k;have k:(aM fs x.2).stays=(aM fs x.2).now:=k;have e:(⟨(aM fs x.2).stays,(aM fs x.2).stays,[]⟩:fg)=aM fs x.2:=by
  cases n:aM fs x.2 with
  |mk bq a2 a3=>
   rw[n]at k hw;simp only at k hw⊢;rw[hw,k]
 rw[e];have:aM fs x.2=fs[x.2]:=by unfold aM;rw[List.getD_eq_getElem?_getD,List.getElem?_eq_getElem r];rfl
 rw[this,List.set_getElem_self]
def CV{g:dT}{b i:Nat}{D:ao}{r:fg}{b3 a6 dr:ay}{lw:List kr}(h:bR vq33z g H b D)(E:i<D.fs.length)(B:mw g.ρ H i (g.fb.getD i 0) (aM D.fs i) b3 a6 dr k lw)(s:W (fun c=>c=g.fb.getD i 0) H V)(F:∃(b3 a6 dr:ay) (k:Nat) (l:List kr),Var 147 V (g.fb.getD i 0) [b3.v,a6.v,dr.v]/\Rd (fun c=>g.ρ c= .du) H a7 1 b3.v r.now/\Rd (fun c=>g.ρ c= .du) H a7 1 a6.v r.stays/\(∀c,c+1=k->g.ρ c= .k2 i)/\aS k 224 H se 2 dr.v l/\l.map (·.1)=r.w/\∀y∈l,Rd (fun c=>g.ρ c= .du) H a7 1 y.2.v y.1.d):bR vq33z g V b (D.fk i r)/\W (aq vq33z) H V:=by
 have n:∀c,c=g.fb.getD i 0->g.ρ c= .dE i:=fun c e=>by rw[e];exact B.cC
 have A:∀c,c=g.fb.getD i 0->g.ρ c≠ .du:=fun c e=>by rw[n c e];simp
 obtain⟨M,T,U,K,L,N,O,P,C,Q,R,S⟩:=F;refine⟨h.rM (ρ':=g.ρ) E s (fun x e=> .inl (n x e)) (Ext.refl _) h.dz (fun c e=>jT (h.lt c e) s.size) ⟨M,T,U,K,L,?_⟩,h.ms s (fun c e=>by rw[n c e];simp)⟩;exact{cC:=B.cC,eL:=N,ar:=gX O (Ext.refl _) s A,Y:=gX P (Ext.refl _) s A,hw:=Q.up s (fun c _ e aj=>by have:=n c aj;rw[C c e]at this;cases this),lw:=R,ab:=fun y hy=>gX (S y hy) (Ext.refl _) s A,hl:=C}
def SI{w0:World}{l:az}{J:Oper}{g:dT}{b i bi:Nat}{D:ao}{x y:Operand}{t:TypeId}{aL:List UInt8}{A:ay}(h:bR vq33z g H b D)(B:i<D.fs.length)(e:g.fb.getD i 0=bi)(af:Rd (fun c=>g.ρ c= .du) H a7 1 A.v aL)(F:J.op= .store t x y)(K:aI l x=some (.pointer (some ⟨bi,1,none⟩)))(hy:aI l y=some A.v)(Y:∀w,(sizeOf t).run prog w= .ok 1 w):
 S prog w0 n l H J (fun aa=>bR vq33z g aa b (D.fk i ⟨(aM D.fs i).now,aL,(aM D.fs i).w⟩)/\W (aq vq33z) H aa):=by
 subst e;obtain⟨b3,a6,dr,k,lw,r⟩:=h.dE i B;exact(S.df r.eL 1 _ F K hy o Y a_ o).mono fun aa ⟨C,E⟩=>CV h B r E ⟨b3,A,dr,k,lw,C,r.ar,af,r.hl,r.hw,r.lw,r.ab⟩
def SF{w0:World}{l:az}{J:Oper}{g:dT}{b i bi:Nat}{D:ao}{x y:Operand}{t:TypeId}{aL:List UInt8}{A:ay}(h:bR vq33z g H b D)(B:i<D.fs.length)(e:g.fb.getD i 0=bi)(af:Rd (fun c=>g.ρ c= .du) H a7 1 A.v aL)(F:J.op= .store t x y)(K:aI l x=some (.pointer (some ⟨bi,0,none⟩)))(hy:aI l y=some A.v)(Y:∀w,(sizeOf t).run prog w= .ok 1 w):
 S prog w0 n l H J (fun aa=>bR vq33z g aa b (D.fk i ⟨aL,(aM D.fs i).stays,(aM D.fs i).w⟩)/\W (aq vq33z) H aa):=by
 subst e;obtain⟨b3,a6,dr,k,lw,r⟩:=h.dE i B;exact(S.df r.eL 0 _ F K hy o Y a_ o).mono fun aa ⟨C,E⟩=>CV h B r E ⟨A,a6,dr,k,lw,C,af,r.Y,r.hl,r.hw,r.lw,r.ab⟩
def SE{w0:World}{l:az}{J:Oper}{g:dT}{b i bi:Nat}{D:ao}{x y:Operand}{t:TypeId}(h:bR vq33z g H b D)(A:i<D.fs.length)(e:g.fb.getD i 0=bi)(E:J.op= .store t x y)(F:aI l x=some (.pointer (some ⟨bi,2,none⟩)))(hy:aI l y=some (.slice none 0 0))(Y:∀w,(sizeOf t).run prog w= .ok 1 w):
 S prog w0 n l H J (fun aa=>bR vq33z g aa b (D.fk i ⟨(aM D.fs i).now,(aM D.fs i).stays,[]⟩)/\W (aq vq33z) H aa):=by
 subst e;obtain⟨b3,a6,dr,k,lw,r⟩:=h.dE i A;exact(S.df r.eL 2 _ E F hy o Y a_ o).mono fun aa ⟨B,C⟩=>CV h A r C ⟨b3,a6,⟨none,0,0⟩,0,[],B,r.ar,r.Y,fun c e=>I,aS.nil sf vm,o,fun y hy=>(by cases hy)⟩
def lC(x:fg):Prop:=x.now.length<=65536/\x.stays.length<=65536/\(∀y∈x.w,y.d.length<=65536)/\∀j,(hs (x.w.take j) x.stays).length<=65536
def lC.nil:lC ⟨[],[],[]⟩:=⟨gH _,gH _,nofun,fun j=>by simp[hs]⟩
def lC.flat{l:List UInt8}(h:l.length<=65536):lC ⟨l,l,[]⟩:=⟨h,h,nofun,fun j=>by simpa[hs]using h⟩
structure eu (n:Nat) (D:ao):Prop where
 dm:cX D.now
 gP:cX D.stays
 eT:D.log.length<=n
 op:D.ops<=n
 aG:D.fs.length<=n
 oR:∀i,(aM D.fs i).w.length<=n
 f:∀i,lC (aM D.fs i)
 un:∃fW:List av,fW.length<=n/\oE fW D.now/\oE fW D.stays/\∀c∈D.log,∀i,c.f=some i->c.n∈fW
 iM:∀c∈D.log,∀i,c.f=some i->bI c.n=c.dir
 fQ:D.en<=65536
 wf:jz D.fs
def eu.mono{m:Nat}{D:ao}(h:eu n D)(hm:n<=m):eu m D:=⟨h.dm,h.gP,ev h.eT hm,ev h.op hm,ev h.aG hm,fun i=>ev (h.oR i) hm,h.f,by obtain⟨fW,k,r⟩:=h.un;exact⟨fW,ev k hm,r⟩,h.iM,h.fQ,h.wf⟩
def eu.bs{D:ao}(h:eu n D):b8 (n+65536) D:=
 ⟨h.dm,h.gP,by have:=h.eT;omega,by have:=h.op;omega,by have:=h.aG;omega,fun i=>⟨by have:=(h.f i).1;omega,by have:=(h.f i).2.1;omega,by have:=h.oR i;omega,fun y hy=>by have:=(h.f i).2.2.1 y hy;omega,fun j=>by have:=(h.f i).2.2.2 j;omega⟩,by obtain⟨fW,r,k⟩:=h.un;exact⟨fW,by omega,k⟩,h.iM⟩
def eu.empty(cap en:Nat)(hm:en<=65536):eu 0 (ao.empty cap en):=
 ⟨List.Pairwise.nil,List.Pairwise.nil,dF _,dF _,dF _,fun i=>by show(List.getD [] i (⟨[],[],[]⟩:fg)).w.length<=0;simp,fun i=>by show lC (List.getD [] i _);simpa using lC.nil,⟨[],dF _,nofun,nofun,nofun⟩,nofun,hm,jz.nil⟩
def eu.begin{D:ao}(h:eu n D):eu (n+1) D.begin.2:=by
 obtain⟨bc,E,k,B,C,A,F⟩:=td D;have r:=h.mono (nC n);exact⟨by rw[B];exact h.dm,by rw[C];exact h.gP,by rw[A];exact r.eT,by have:=h.op;omega,by rw[k];exact r.aG,by rw[k];exact r.oR,by rw[k];exact h.f,by rw[B,C,A];exact r.un,by rw[A];exact h.iM,by rw[E];exact h.fQ,by rw[k];exact h.wf⟩
def A1(fs:List fg)(k:Nat)(x:fg)(i:Nat):aM (fs.set k x) i=x\/aM (fs.set k x) i=aM fs i:=by
 by_cases h:i=k/\k<fs.length;left;rw[GG,aD h];right;rw[GG,au h]
def eu.put{D:ao}(h:eu n D)(i:Nat){x:fg}(r:lC x)(hw:x.w.length<=n)(k:hs x.w x.stays=x.now):eu n (D.fk i x):=
 ⟨h.dm,h.gP,h.eT,h.op,by rw[re];exact h.aG,fun j=>by
  rcases A1 D.fs i x j with e|e
  show(aM (D.fs.set i x) j).w.length<=n;rw[e];exact hw
  show(aM (D.fs.set i x) j).w.length<=n;rw[e];exact h.oR j,fun j=>by
  rcases A1 D.fs i x j with e|e;show lC (aM (D.fs.set i x) j);rw[e];exact r;show lC (aM (D.fs.set i x) j);rw[e];exact h.f j,h.un,h.iM,h.fQ,h.wf.set k⟩
def eu.change{D:ao}(h:eu n D)(c:dy)(ab:∀i,c.f=some i->bI c.n=c.dir):eu (n+1) (D.change c):=by
 obtain⟨fW,F,B,C,E⟩:=h.un;refine⟨r5 h.dm c,h.gP,by show(D.log++[c]).length<=_;have:=h.eT;simp;omega,n4 h.op,n4 h.aG,fun i=>n4 (h.oR i),h.f,⟨c.n::fW,by simp;omega,Bf (fun q A=>gx _ (B q A)) (fun _ _=>fZ),fun q A=>gx _ (C q A),fun d k i r=>?_⟩,fun d k i r=>?_,h.fQ,h.wf⟩;rcases gR.1 k with k|k;exact gx _<|E d k i r;rw[fm.1 k];exact fZ;rcases gR.1 k with k|k;exact h.iM d k i r;rw[fm.1 k]at r⊢;exact ab i r
def GF(fs:List fg)(i:Nat):aM (fs++[⟨[],[],[]⟩]) i=aM fs i\/aM (fs++[⟨[],[],[]⟩]) i=⟨[],[],[]⟩:=by
 rcases BM i fs.length with e|e|e;left;simp[aM,List.getD,List.getElem?_append_left e];right;subst e;simp[aM,List.getD];right;unfold aM;rw[List.getD_eq_getElem?_getD,List.getElem?_eq_none bU];rfl
def eu.zT{D:ao}(h:eu n D):eu (n+1) ({D with fs:=D.fs++[⟨[],[],[]⟩]}:ao):=
 ⟨h.dm,h.gP,n4 h.eT,n4 h.op,by have:=h.aG;simp;omega,fun i=>by
  rcases GF D.fs i with e|e
  show(aM (D.fs++[_]) i).w.length<=_;rw[e];exact n4<|h.oR i
  show(aM (D.fs++[_]) i).w.length<=_;rw[e];exact gH _,fun i=>by
  rcases GF D.fs i with e|e;show lC (aM (D.fs++[_]) i);rw[e];exact h.f i;show lC (aM (D.fs++[_]) i);rw[e];exact lC.nil,(h.mono<|nC _).un,h.iM,h.fQ,h.wf.add⟩
def eu.make{D:ao}(h:eu n D)(p:av):eu (n+2) (D.make p).1:=by
 unfold ao.make;split;exact h.mono I;exact h.zT.change _ fun i _=>by simp[dy.dir]
def QH(D:ao)(p:av):(aM (D.make p).1.fs (D.make p).2).now=D.dO p:=by
 unfold ao.make ao.dO;split;rename_i i h;rfl
 show(aM (D.fs++[_]) D.fs.length).now=[];simp[aM,List.getD]
def eu.write{D:ao}(h:eu n D)(p:av)(w:cn)(B:(w.on (D.dO p) w.d.length).length<=65536):eu (n+3) (D.write p w):=by
 have r:=h.make p;have A:=QH D p;unfold ao.write;generalize D.make p=m at r A⊢;obtain⟨d2,i⟩:=m;simp only at r A;have hw:=rC w (aM d2.fs i).now;rw[<-A]at B;have C:=r.wf i;refine(r.mono (nC _)).put i ⟨B,(r.f i).2.1,fun y hy=>?_,fun j=>?_⟩ (by have:=r.oR i;show((aM d2.fs i).w++[w]).length<=_;simp;omega) ?_;rcases gR.1 hy with hy|hy;exact(r.f i).2.2.1 y hy;rw[fm.1 hy];omega
 show(hs (((aM d2.fs i).w++[w]).take j) (aM d2.fs i).stays).length<=_
 rw[vD];by_cases F:j<=(aM d2.fs i).w.length;rw[show j-(aM d2.fs i).w.length=0 by omega,pN,hD];exact(r.f i).2.2.2 j;obtain⟨k,E⟩:∃k,j-(aM d2.fs i).w.length=k+1:=⟨j-(aM d2.fs i).w.length-1,by omega⟩
 rw[E,e5 I];have e:hs ((aM d2.fs i).w++[w].take (k+1)) (aM d2.fs i).stays=w.on (hs (aM d2.fs i).w (aM d2.fs i).stays) w.d.length:=by
  unfold hs;rw[oc,vH,BL];rfl
 rw[e,C];exact B;show hs ((aM d2.fs i).w++[w]) (aM d2.fs i).stays=w.on (aM d2.fs i).now w.d.length;rw[<-C];unfold hs;rw[oc];rfl
def Qc{D:ao}{p:av}{w:cn}(h:D.iL p w=0):cR p=true/\(w.on (D.dO p) w.d.length).length<=D.en:=by
 unfold ao.iL at h;split at h;cases h;rename_i ar;split at h;cases h;exact⟨by cases q:cR p with|true=>rfl|false=>exact absurd q ar,by omega⟩
def eu.lay{D:ao}(h:eu n D)(p:av)(w:cn):eu (n+4) (D.lay p w).2:=by
 unfold ao.lay;have k:=h.begin;simp only;split;exact k.mono I;simp only;split;rename_i r;exact(k.write p w (ev (Qc r).2 k.fQ)).mono I;exact k.mono I
def eu.sync{D:ao}(h:eu n D)(p:av):eu (n+1) (D.sync p).2:=by
 unfold ao.sync;have k:=h.begin;simp only;split;exact k;simp only;split;exact k.put _ (lC.flat (k.f _).1) (gH _) o;exact k
def eu.rename{n:Nat}{D:ao}(h:eu n D)(a b:av):eu (n+2) (D.rename a b).2:=by
 exact Lb
def eu.iS{D:ao}(h:eu n D)(p:av):eu (n+1) (D.iS p).2:=by
 unfold ao.iS;have k:=h.begin;simp only;split;exact k;simp only;split;obtain⟨fW,bc,A,B,C⟩:=k.un;refine⟨k.dm,s9 k.gP _,ev (nD _ _) k.eT,k.op,k.aG,k.oR,k.f,⟨fW,bc,A,fun q r=>?_,fun c aj=>C c (iK.1 aj).1⟩,fun c aj=>k.iM c (iK.1 aj).1,k.fQ,k.wf⟩;have r:(ax (merge D.begin.2.now D.begin.2.stays p) q).isSome=true:=r;rw[oe k.dm]at r;split at r;exact A q r;exact B q r;exact k
def eu.stop{D:ao}(h:eu n D)(k:Nat):eu n (D.stop k):=⟨h.dm,h.gP,h.eT,h.op,h.aG,h.oR,h.f,h.un,h.iM,h.fQ,h.wf⟩
def FM{n:Nat}(picks:List Int):∀(L:ca) (s:List fg×Nat),(∀i,lC (aM s.1 i)/\(aM s.1 i).w.length<=n)->∀i,lC (aM (L.foldl (hS picks) s).1 i)/\(aM (L.foldl (hS picks) s).1 i).w.length<=n
 |[],s,h=>h
 |x::L,s,h=>by
  rw[kO];refine FM picks L _ fun i=>?_;unfold hS;simp only;split;exact h i;have k:=KM (n:=65536) (aM s.1 x.2).w (aM s.1 x.2).stays (gJ picks s.2 (hg (aM s.1 x.2).w)) (h x.2).1.2.2.2;rcases A1 s.1 x.2 ⟨im (aM s.1 x.2).w (aM s.1 x.2).stays (gJ picks s.2 (hg (aM s.1 x.2).w)),im (aM s.1 x.2).w (aM s.1 x.2).stays (gJ picks s.2 (hg (aM s.1 x.2).w)),[]⟩ i with e|e;rw[e];exact⟨lC.flat k,gH _⟩;rw[e];exact h i
def eu.mE{D:ao}(h:eu n D)(picks:List Int):eu n (D.mE picks):=by
 obtain⟨fW,A,E,B,C⟩:=h.un;obtain⟨k,r⟩:=FK (picks:=picks) C D.sa (D.stays,0) B h.gP;have aj:=FM (n:=n) picks (D.m4 picks).1 (D.fs,(D.m4 picks).2) (fun i=>⟨h.f i,h.oR i⟩);exact⟨r,r,gH _,h.op,by show(D.qk picks).1.length<=n;unfold ao.qk;rw[xF];exact h.aG,fun i=>(aj i).2,fun i=>(aj i).1,⟨fW,A,k,k,nofun⟩,nofun,h.fQ,h.wf.OB picks⟩
def Ah{k:Nat}:∀{fs:List my} {bZ:Nat} {D:ao},(∀f∈fs,∀bZ D,eu bZ D->eu (bZ+k) (f D).2)->eu bZ D->eu (bZ+k*fs.length) (cE fs D).2
 |[],bZ,D,_,h=>by simpa[cE]using h
 |f::fs,bZ,D,r,h=>by
  have n:=r f fZ bZ D h;unfold cE;split;have:=Ah (fs:=fs) (fun g A=>r g (gx _ A)) n;rw[fA];exact this.mono (by rw[yv];omega);rw[fA];exact n.mono (by rw[yv];omega)
def Ps{p:av}{l:List Rec}:∀f∈gd p l,∀bZ D,eu bZ D->eu (bZ+4) (f D).2:=by
 intro f k bZ D h;simp only[gd,dI,kN,or_false]at k;rcases k with rfl|rfl|rfl|rfl;exact h.lay _ _;exact(h.sync _).mono I;exact(h.rename _ _).mono I;exact(h.iS _).mono I
def LB{p:av}{r:Rec}:∀f∈dU p n r,∀bZ D,eu bZ D->eu (bZ+4) (f D).2:=by
 intro f k bZ D h;simp only[dU,dI,kN,or_false]at k;rcases k with rfl|rfl|rfl|rfl;exact h.lay _ _;exact(h.sync _).mono I;exact h.lay _ _;exact(h.sync _).mono I
def Af{D:ao}(h:eu n D){p:av}{l:List Rec}:eu (n+16) (e3 D p l).2:=(Ah (Ps) h).mono (by simp[gd])
def Ex{D:ao}(h:eu n D)(p:av):eu (n+16) (c2 D p).2.2:=by
 unfold c2;split;exact h.mono I;split;exact Af h;split;exact h.mono I;split;exact h.mono I;split;exact Af h;exact h.mono I
def iq(D:ao)(p:av)(c:List UInt8):Prop:=∃i,ax D.now p=some i/\(aM D.fs i).now=c
def hI(D:ao):Prop:=∀p i,ax D.now p=some i->i<D.fs.length
def iq.read{D:ao}{p:av}{c:List UInt8}(h:iq D p c)(ab:D.dead=false)(ar:cR p=true):D.fC p=0/\D.cB p=c:=by
 obtain⟨i,k,n⟩:=h;exact Sq ab ar k n
def iq.KK{D:ao}{p:av}{c:List UInt8}(h:iq D p c):D.dO p=c:=by
 obtain⟨i,k,n⟩:=h;rw[pd k,n]
def iq.begin{D:ao}{p:av}{c:List UInt8}(h:iq D p c):iq D.begin.2 p c:=by
 obtain⟨bc,B,k,n,_⟩:=td D;obtain⟨i,r,A⟩:=h;exact⟨i,by rw[n];exact r,by rw[k];exact A⟩
def hI.begin{D:ao}(h:hI D):hI D.begin.2:=by
 obtain⟨bc,A,n,r,_⟩:=td D;intro q i k;rw[r]at k;rw[n];exact h q i k
def xj{D:ao}(h:D.begin.1=false):D.begin.2.dead=true:=by
 unfold ao.begin at h⊢;split;assumption;rename_i k;rw[au k]at h;split;rfl;rename_i n;rw[au n]at h;cases h
def tc{D:ao}(h:D.dead=true):D.begin=(false,D):=by unfold ao.begin;rw[aD h]
def U1{D:ao}{p:av}(hid:hI D)(w:cn):iq (D.write p w) p (w.on (D.dO p) w.d.length)/\hI (D.write p w)/\(D.write p w).dead=D.dead:=by
 cases n:ax D.now p with
 |some i=>
  have r:=hid p i n;rw[<-DU n r];rw[oO r,wA];refine⟨⟨i,n,?_⟩,fun q j k=>?_,o⟩;rw[pd n,oO r];rw[re];exact hid q j k
 |none=>
  rw[<-DT n];rw[oO (t_ D p),wA];refine⟨⟨D.fs.length,?_,?_⟩,fun q j k=>?_,o⟩;show ax ((⟨[],p,some D.fs.length⟩:dy).ap D.now) p=_;rw[ng];simp[dy.at];rw[oO (t_ D p)];simp only[wb];rw[uJ n];rw[re];have k:ax ((⟨[],p,some D.fs.length⟩:dy).ap D.now) q=some j:=k;rw[ng]at k;have A:=t_ D p;simp only[dy.at]at k;split at k;cases k;exact A;simp at k;have:=hid q j k;omega
def BS{D:ao}{p:av}(hid:hI D)(w:cn):((D.lay p w).1≠0/\hI (D.lay p w).2/\((D.lay p w).2.dead=true\/(D.dead=false/\∀q c,iq D q c->iq (D.lay p w).2 q c)))\/((D.lay p w).1=0/\hI (D.lay p w).2/\(D.lay p w).2.dead=false/\D.dead=false/\iq (D.lay p w).2 p (w.on (D.dO p) w.d.length)):=by
 cases hb:D.begin.1 with
 |false=>rw[yA hb];exact .inl ⟨oY 10,hid.begin,.inl (xj hb)⟩
 |true=>
  have ab:D.dead=false:=by
   cases B:D.dead with
   |false=>rfl
   |true=>rw[tc B]at hb;cases hb
  have A:=(q4 hb).2;rw[BT hb];by_cases h:D.begin.2.iL p w=0;rw[aD h,h];obtain⟨k,C,E⟩:=U1 (p:=p) hid.begin w;have hw:D.begin.2.dO p=D.dO p:=by
   obtain⟨bc,F,n,r,_⟩:=td D;unfold ao.dO;rw[n,r]
  rw[hw]at k;exact .inr ⟨o,C,by rw[E];exact A,ab,k⟩;rw[au h];exact .inl ⟨h,hid.begin,.inr ⟨ab,fun q c aj=>aj.begin⟩⟩
def Dw{D:ao}{p:av}{c:List UInt8}(hid:hI D)(ar:cR p=true)(h:iq D p c):((D.sync p).1≠0/\(D.sync p).2.dead=true/\hI (D.sync p).2)\/((D.sync p).1=0/\hI (D.sync p).2/\(D.sync p).2.dead=false/\D.dead=false/\iq (D.sync p).2 p c):=by
 cases hb:D.begin.1 with
 |false=>rw[Dx hb];exact .inl ⟨oY 10,xj hb,hid.begin⟩
 |true=>
  have ab:D.dead=false:=by
   cases C:D.dead with
   |false=>rfl
   |true=>rw[tc C]at hb;cases hb
  obtain⟨i,k,r⟩:=h.begin;have n:D.begin.2.look p=0:=by unfold ao.look;rw[aD ar,k];rfl
  have A:=hid.begin p i k;rw[Dy hb,aD n,n,k,tN];refine .inr ⟨o,fun q j B=>by unfold ao.uD;rw[re];exact hid.begin q j B,(q4 hb).2,ab,i,k,?_⟩;unfold ao.uD;rw[oO A];exact r
def Sy{D:ao}{p:av}{c:List UInt8}(hid:hI D)(bx:cR p=true)(fr:cR (dR p)=true)(h:iq D (dR p) c):((D.rename (dR p) p).1≠0/\(D.rename (dR p) p).2.dead=true/\hI (D.rename (dR p) p).2)\/((D.rename (dR p) p).1=0/\hI (D.rename (dR p) p).2/\(D.rename (dR p) p).2.dead=false/\D.dead=false/\iq (D.rename (dR p) p).2 p c):=by
 cases hb:D.begin.1 with
 |false=>rw[CS hb];exact .inl ⟨oY 10,xj hb,hid.begin⟩
 |true=>
  have ab:D.dead=false:=by
   cases E:D.dead with
   |false=>rfl
   |true=>rw[tc E]at hb;cases hb
  obtain⟨i,n,A⟩:=h.begin;have C:D.begin.2.look (dR p)=0:=by unfold ao.look;rw[aD fr,n];rfl
  have B:=hid.begin _ i n;have r:D.begin.2.oo (dR p) p=0:=by rw[CR fr bx (OJ bx fr)];exact C
  rw[CT hb,aD ⟨r,new_ne p⟩,r,n,tN];refine .inr ⟨o,fun q j k=>?_,(q4 hb).2,ab,i,?_,A⟩;have k:ax ((⟨dR p,p,some i⟩:dy).ap D.begin.2.now) q=some j:=k;rw[ng]at k;simp only[dy.at]at k;split at k;cases k;exact B;split at k;cases k;exact hid.begin q j k;show ax ((⟨dR p,p,some i⟩:dy).ap D.begin.2.now) p=_;rw[ng];simp[dy.at]
def Tw{D:ao}{p:av}{c:List UInt8}(hid:hI D){d:av}(k:lL d=0)(h:iq D p c):((D.iS d).1≠0/\(D.iS d).2.dead=true/\hI (D.iS d).2)\/((D.iS d).1=0/\hI (D.iS d).2/\(D.iS d).2.dead=false/\D.dead=false/\iq (D.iS d).2 p c):=by
 cases hb:D.begin.1 with
 |false=>rw[Da hb];exact .inl ⟨oY 10,xj hb,hid.begin⟩
 |true=>
  have ab:D.dead=false:=by
   cases n:D.dead with
   |false=>rfl
   |true=>rw[tc n]at hb;cases hb
  rw[Db hb,aD k,k];exact .inr ⟨o,hid.begin,(q4 hb).2,ab,h.begin⟩
def Hw{P:Nat->Prop}:∀n,(∃q,q<n/\P q)->∃k,k<n/\P k/\∀q,q<n->k<q->¬P q
 |0,⟨q,h,_⟩=>absurd h (nB _)
 |n+1,⟨q,h,B⟩=>by
  by_cases ar:P n;exact⟨n,Nat.lt_succ_self _,ar,fun q C A=>absurd A I⟩;have K:q≠n:=fun e=>ar (e▸B);obtain⟨k,C,A,E⟩:=Hw n ⟨q,by omega,B⟩;exact⟨k,by omega,A,fun r H F=>by
   by_cases e:r=n;rw[e];exact ar;exact E r I F⟩
def OI(p:av):lL (bI p)=0:=by
 refine AM fun h=>?_;obtain⟨K,L⟩:=h;have ar:cR p=true:=by
  cases q:cR p with
  |true=>rfl
  |false=>exact absurd (by unfold bI;rw[au (by rw[q];decide)]) K
 have ab:bI p=nz p:=by unfold bI;rw[aD ar]
 obtain⟨P,Q,H⟩:=(E.yL p).1 ar;by_cases Y:∃q,q<p.length/\(p.getD q 0).toNat=47;obtain⟨k,B,C,O⟩:=Hw p.length Y;have N:p[k]=47:=by rw[E.e4 B]at C;exact E.wg.1 C
 have bP:=E.G6 B N O;have j4:k≠0:=fun e=>(H k B).2 ⟨C,.inl e⟩;have hlen:(p.take k).length=k:=by rw[eC];omega
 have F:∀q,q<k->(p.take k).getD q 0=p.getD q 0:=fun q r=>by
  rw[List.getD_eq_getElem?_getD,List.getD_eq_getElem?_getD,List.getElem?_take_of_lt r]
 have hb:cR (p.take k)=true:=(E.yL _).2 ⟨by omega,by omega,fun q r=>by
  rw[hlen]at r;obtain⟨bo,M⟩:=H q I;refine⟨by rw[F q r];exact bo,fun aj=>?_⟩;obtain⟨A,n⟩:=aj;rw[F q r]at A;rw[hlen]at n;rcases n with n|n|n;exact M ⟨A,.inl n⟩;exact(H k B).2 ⟨C,.inr (.inr (by rw[<-n];exact A))⟩;rw[F (q-1) I]at n;exact M ⟨A,.inr (.inr n)⟩⟩
 rw[ab,bP,hb]at L;cases L;have bP:=E.G7 (l:=p) (fun q r e=>Y ⟨q,r,e⟩);exact K (by rw[ab,bP])
def Pt{D:ao}{p:av}{l:List Rec}(ab:D.dead=true):e3 D p l=(11,D):=by
 have h:D.lay (dR p) ⟨false,ek l⟩=(11,D):=by rw[yA (by rw[tc ab]),tc ab]
 unfold e3 gd cE;simp only[h,au (show ¬(11:Nat)=0 by decide)]
def A5{D:ao}{p:av}(hid:hI D)(bx:cR p=true)(fr:cR (dR p)=true)(l:List Rec):
 ((e3 D p l).1≠0/\hI (e3 D p l).2/\((e3 D p l).2.dead=true\/(D.dead=false/\∀q c,iq D q c->iq (e3 D p l).2 q c)))\/((e3 D p l).1=0/\hI (e3 D p l).2/\(e3 D p l).2.dead=false/\D.dead=false/\iq (e3 D p l).2 p (ek l)):=by
 unfold e3 gd;rw[cE];rcases BS (p:=dR p) hid ⟨false,ek l⟩with⟨bq,a2,a3⟩|⟨bq,a2,a3,a4,a5⟩;rw[au bq];exact .inl ⟨bq,a2,a3⟩;rw[aD bq];rw[show cn.on ⟨false,ek l⟩ (D.dO (dR p)) (ek l).length=ek l from by simp[cn.on]]at a5;generalize (D.lay (dR p) ⟨false,ek l⟩).2=D1 at a2 a3 a5⊢;rw[cE];rcases Dw a2 fr a5 with⟨bX,bM,r⟩|⟨bX,bM,r,H,B⟩;rw[au bX];exact .inl ⟨bX,r,.inl bM⟩;rw[aD bX];generalize (D1.sync (dR p)).2=E at bM r B⊢;rw[cE];rcases Sy bM bx fr B with⟨k,n,A⟩|⟨k,n,A,K,C⟩;rw[au k];exact .inl ⟨k,A,.inl n⟩;rw[aD k];generalize (E.rename (dR p) p).2=F at n A C⊢;rw[C4];rcases Tw n (OI p) C with⟨d1,d2,d3⟩|⟨d1,d2,d3,d4,d5⟩;exact .inl ⟨d1,d3,.inl d2⟩;exact .inr ⟨d1,d2,d3,a4,d5⟩
def Ei{D:ao}{p:av}{r:Rec}(hid:hI D)(bx:cR p=true)(aj:D.dead=false->iq D p (ek L)):
 ((cE (dU p L.length r) D).1≠0/\hI (cE (dU p L.length r) D).2/\((cE (dU p L.length r) D).2.dead=true\/iq (cE (dU p L.length r) D).2 p (ek L)\/iq (cE (dU p L.length r) D).2 p (ek L++gy L.length r)))\/((cE (dU p L.length r) D).1=0/\hI (cE (dU p L.length r) D).2/\(cE (dU p L.length r) D).2.dead=false/\iq (cE (dU p L.length r) D).2 p (ek (L++[r]))):=by
 unfold dU;rw[cE];rcases BS (p:=p) hid ⟨true,gy L.length r⟩with⟨bq,a2,a3⟩|⟨bq,a2,a3,a4,a5⟩;rw[au bq];exact .inl ⟨bq,a2,a3.imp id (fun h=> .inl (h.2 _ _<|aj h.1))⟩;rw[aD bq];rw[(aj a4).KK,show cn.on ⟨true,gy L.length r⟩ (ek L) (gy L.length r).length=ek L++gy L.length r from by simp[cn.on]]at a5;generalize (D.lay p ⟨true,gy L.length r⟩).2=D1 at a2 a3 a5⊢;rw[cE];rcases Dw a2 bx a5 with⟨bX,bM,A⟩|⟨bX,bM,A,K,B⟩;rw[au bX];exact .inl ⟨bX,A,.inl bM⟩;rw[aD bX];generalize (D1.sync p).2=F at bM A B⊢;rw[cE];rcases BS (p:=p) bM ⟨true,[67]⟩with⟨k,n,C⟩|⟨k,n,C,M,E⟩;rw[au k];exact .inl ⟨k,n,C.imp id (fun h=> .inr (h.2 _ _ B))⟩;rw[aD k];rw[B.KK,show cn.on ⟨true,[67]⟩ (ek L++gy L.length r) ([67]:List UInt8).length=ek (L++[r])from by rw[AV];simp[cn.on,iC]]at E;generalize (F.lay p ⟨true,[67]⟩).2=H at n C E⊢;rw[C4];rcases Dw n bx E with⟨d1,d2,d3⟩|⟨d1,d2,d3,d4,d5⟩;exact .inl ⟨d1,d3,.inl d2⟩;exact .inr ⟨d1,d2,d3,d5⟩
structure lD (D:ao) (p:av) (L:List Rec) (br:Bool):Prop where
 bx:cR p=true
 fr:cR (dR p)=true
 af:∀r∈L,r.length<=1048576
 c:D.dead=false->iq D p (ek L)\/(br=true/\∃r:Rec,r.length<=1048576/\iq D p (ek L++gy L.length r))
def lD.par{D:ao}{p:av}(h:lD D p L br)(ab:D.dead=false):D.fC p=0/\hk (D.cB p)=0/\eV (D.cB p)=L:=by
 rcases h.c ab with aj|⟨_,r,af,aj⟩;obtain⟨n,k⟩:=aj.read ab h.bx;refine⟨n,?_,?_⟩;rw[k];have:=IP L [];rwa[hD]at this;rw[k];exact RQ h.af;obtain⟨n,k⟩:=aj.read ab h.bx;refine⟨n,by rw[k];exact IP _ _,?_⟩;rw[k,IQ _ h.af,wx,hD];have:=Uu L.length (12+r.length) 0 I af;rwa[e5 (by rw[qC];omega),List.replicate_zero,hD]at this
def lD.QQ{D:ao}{p:av}(h:lD D p L br):i_ D p L.length=e3 D p L/\(D.dead=false->pR D p L.length=L.length):=by
 cases ab:D.dead with
 |true=>
  refine⟨?_,fun e=>by cases e⟩;have k:D.fC p=11:=by unfold ao.fC;rw[aD ab]
  rw[HT (by rw[k];decide),k,Pt ab]
 |false=>
  obtain⟨r,A,n⟩:=h.par ab;refine⟨by rw[HU r A,n,eQ],fun _=>by unfold pR;rw[n,eQ]⟩
def h9(D:ao)(p:av)(L:List Rec)(br:Bool):Nat×ao:=if br=true then e3 D p L else(0,D)
def g_(D:ao)(p:av)(L:List Rec)(br:Bool)(r:Rec):Nat×List Rec×Bool×ao:=
 if(h9 D p L br).1≠0 then((h9 D p L br).1,L,br,(h9 D p L br).2)
 else
  let q:=cE (dU p L.length r) (h9 D p L br).2
  (q.1,if q.1=0 then L++[r]else L,if q.1=0 then false else true,q.2)
def zZ{D:ao}{p:av}{r:Rec}(h:(h9 D p L br).1≠0):g_ D p L br r=((h9 D p L br).1,L,br,(h9 D p L br).2):=by unfold g_;rw[aD h]
def u1{D:ao}{p:av}{r:Rec}{D1:ao}(h:h9 D p L br=(0,D1)):g_ D p L br r=((cE (dU p L.length r) D1).1,if(cE (dU p L.length r) D1).1=0 then L++[r]else L,if(cE (dU p L.length r) D1).1=0 then false else true,(cE (dU p L.length r) D1).2):=by
 unfold g_;rw[h];rfl
def lD.pre{D:ao}{p:av}(h:lD D p L br)(hid:hI D):((h9 D p L br).1≠0/\kS D p L.length br=((h9 D p L br).1,pR D p L.length,(h9 D p L br).2)/\hI (h9 D p L br).2/\lD (h9 D p L br).2 p L br)\/((h9 D p L br).1=0/\kS D p L.length br=(0,L.length,(h9 D p L br).2)/\hI (h9 D p L br).2/\((h9 D p L br).2.dead=false->iq (h9 D p L br).2 p (ek L))):=by
 cases br with
 |false=>
  refine .inr ⟨o,o,hid,fun ab=>?_⟩;rcases h.c ab with aj|⟨e,_⟩;exact aj;cases e
 |true=>
  obtain⟨bo,n⟩:=h.QQ;have e:h9 D p L true=e3 D p L:=rfl;have k:kS D p L.length true=((e3 D p L).1,pR D p L.length,(e3 D p L).2):=by unfold kS;rw[aD o,bo]
  rw[e];rcases A5 hid h.bx h.fr L with⟨bq,a2,a3⟩|⟨bq,a2,a3,a4,a5⟩;refine .inl ⟨bq,k,a2,h.bx,h.fr,h.af,fun ab=>?_⟩;rcases a3 with a3|⟨a3,a4⟩;rw[a3]at ab;cases ab;exact(h.c a3).imp (a4 _ _) (fun⟨A,r,B,C⟩=>⟨A,r,B,a4 _ _ C⟩);exact .inr ⟨bq,by rw[k,bq,n a4],a2,fun _=>a5⟩
def lD.app{D:ao}{p:av}{r:Rec}(h:lD D p L br)(hid:hI D)(af:r.length<=1048576):gZ D p L.length br r=((g_ D p L br r).1,(g_ D p L br r).2.1.length,(g_ D p L br r).2.2.1,(g_ D p L br r).2.2.2)/\lD (g_ D p L br r).2.2.2 p (g_ D p L br r).2.1 (g_ D p L br r).2.2.1/\hI (g_ D p L br r).2.2.2:=by
 rcases h.pre hid with⟨bq,a2,a3,a4⟩|⟨bq,a2,a3,a4⟩;rw[zZ bq];refine⟨?_,a4,a3⟩;unfold gZ;rw[a2,aD bq];obtain⟨D1,A⟩:∃D1,D1=(h9 D p L br).2:=⟨_,o⟩
 rw[<-A]at a2 a3 a4;rw[u1 (D1:=D1) (by rw[A,<-bq]),Ef a2];rcases Ei (r:=r) a3 h.bx a4 with⟨bX,bM,k⟩|⟨bX,bM,k,B⟩;simp only[au bX];refine⟨trivial,⟨h.bx,h.fr,h.af,fun ab=>?_⟩,bM⟩;rcases k with k|k|k;rw[k]at ab;cases ab;exact .inl k;exact .inr ⟨o,r,af,k⟩;simp only[aD bX];refine⟨by simp,⟨h.bx,h.fr,fun x n=>?_,fun _=> .inl B⟩,bM⟩;rcases gR.1 n with n|n
 exact h.af x n;rw[fm.1 n];exact af
def lD.stop{D:ao}{p:av}(h:lD D p L br)(n:Nat):lD (D.stop n) p L br:=⟨h.bx,h.fr,h.af,fun ab=>h.c ab⟩
def Sk{D:ao}{p:av}(h:D.fC p=0):D.dead=false/\cR p=true/\iq D p (D.cB p):=by
 have ab:D.dead=false:=by
  cases q:D.dead with
  |false=>rfl
  |true=>unfold ao.fC at h;rw[aD q]at h;cases h
 have r:D.look p=0:=by unfold ao.fC at h;rwa[au (by rw[ab];decide)]at h
 obtain⟨n,i,k⟩:=vY r;refine⟨ab,n,i,k,?_⟩;unfold ao.cB;rw[aD h,pd k]
def RE{D:ao}{p:av}(hid:hI D):hI (c2 D p).2.2/\((c2 D p).1=0->lD (c2 D p).2.2 p (c2 D p).2.1 false):=by
 by_cases ar:cR p=false\/cR (dR p)=false;rw[wq ar];exact⟨hid,fun h=>by cases h⟩;have bx:cR p=true:=by cases q:cR p with|true=>rfl|false=>exact absurd (.inl q) ar
 have fr:cR (dR p)=true:=by cases q:cR (dR p)with|true=>rfl|false=>exact absurd (.inr q) ar
 by_cases r:D.fC p=2;rw[Cz bx fr r];rcases A5 hid bx fr []with⟨bq,a2,a3⟩|⟨bq,a2,a3,a4,a5⟩;exact⟨a2,fun e=>absurd e bq⟩;exact⟨a2,fun _=>⟨bx,fr,nofun,fun _=> .inl a5⟩⟩;by_cases k:D.fC p=0;by_cases n:hk (D.cB p)=0;obtain⟨C,_,B⟩:=Sk k;by_cases A:mO (D.cB p)<(D.cB p).length;rw[nF bx fr k n A];rcases A5 hid bx fr (eV (D.cB p))with⟨bq,a2,a3⟩|⟨bq,a2,a3,a4,a5⟩;exact⟨a2,fun e=>absurd e bq⟩;refine⟨a2,fun _=>?_⟩;simp only[aD bq];exact⟨bx,fr,wv,fun _=> .inl a5⟩;rw[o6 bx fr k n A];refine⟨hid,fun _=>⟨bx,fr,wv,fun _=> .inl ?_⟩⟩;have e:=RR n (by have:=IV (D.cB p);omega);rw[<-e];exact B;rw[yX bx fr k n];exact⟨hid,fun e=>absurd e n⟩;rw[CA bx fr r k];exact⟨hid,fun e=>absurd e k⟩
def Ew{D:ao}{p:av}{r:Rec}(h:eu n D):eu (n+32) (g_ D p L br r).2.2.2:=by
 have k:eu (n+16) (h9 D p L br).2:=by
  unfold h9;split;exact Af h;exact h.mono I
 unfold g_;split;exact k.mono I;exact(Ah (LB) k).mono (by simp[dU])
def AS:∀{L:List Rec} {n:Nat} {r:Rec},r∈L->r.length+13<=(e9 n L).length
 |x::L,n,r,h=>by
  have e:(e9 n (x::L)).length=(13+x.length)+(e9 (n+1) L).length:=by
   show(iC n x++e9 (n+1) L).length=_;rw[b2,um]
  rcases dI.1 h with h|h;rw[h];omega;have:=AS (n:=n+1) h;omega
def kR:eS->List Rec->Option eS
 |m,[]=>some m
 |m,r::rs=>if(gW r).2.e=0/\fx m (gW r).1=0 then kR (m.ap (gW r).1) rs else none
def k8(D:ao):Nat:=if(c2 D ct).1≠0 then(c2 D ct).1 else match kR kK (c2 D ct).2.1 with
 |some _=>0
 |none=>16
def IG{m:eS}{i:Nat}{r:Rec}(A:i<L.length)(e:r=L[i])(k:(gW r).2.e=0)(n:fx m (gW r).1=0):kR m (L.drop i)=kR (m.ap (gW r).1) (L.drop (i+1)):=by
 rw[na A,<-e,kR,aD ⟨k,n⟩]
def yY{m:eS}{i:Nat}{r:Rec}(k:i<L.length)(e:r=L[i])(h:¬((gW r).2.e=0/\fx m (gW r).1=0)):kR m (L.drop i)=none:=by
 rw[na k,<-e,kR,au h]
def Ab{D:ao}(h:(c2 D ct).1≠0):k8 D=(c2 D ct).1:=aD h
def Ac{D:ao}{m:eS}(h:(c2 D ct).1=0)(k:kR kK (c2 D ct).2.1=some m):k8 D=0:=by unfold k8;rw[au (by rw[h];decide),k]
def xm{D:ao}(h:(c2 D ct).1=0)(k:kR kK (c2 D ct).2.1=none):k8 D=16:=by unfold k8;rw[au (by rw[h];decide),k]
def IF(D:ao)(p:av):(c2 D p).2.1=[]\/(c2 D p).2.1=eV (D.cB p):=by
 unfold c2;split;exact .inl o;split;exact .inl o;split;exact .inl o;split;exact .inl o;split
 show(if _ then _ else _)=_\/(if _ then _ else _)=_
 split;exact .inr o;exact .inl o;exact .inr o
def IE(D:ao)(p:av):∀r∈(c2 D p).2.1,r.length<=1048576:=by
 rcases IF D p with e|e;rw[e];exact nofun;rw[e];exact wv
def Jl{l:List (ay×Rec)}{i:Nat}(h:bp l=L)(k:i<l.length):∃n:i<L.length,l[i].2=L[i]:=by
 subst h;exact⟨by simpa[bp]using k,by simp[bp]⟩
def Cb:∀{a b:List b1},a.map (fun x=>(x.k,x.d))=b.map (fun x=>(x.k,x.d))->a.flatMap kA=b.flatMap kA/\a.length=b.length
 |[],[],_=>⟨o,o⟩
 |[],_::_,h=>by cases h
 |_::_,[],h=>by cases h
 |x::a,y::b,h=>by
  simp only[dQ,j6,ig]at h;obtain⟨k,n⟩:=Cb h.2;exact⟨by rw[mH,mH,k];unfold kA;rw[h.1.1,h.1.2],by rw[fA,fA,n]⟩
def Ky{a b:b5}(h:l4 a b)(s:mz b):mz a:=by
 obtain⟨E,r,k,F,A,H⟩:=h;obtain⟨bc,n⟩:=Cb H;obtain⟨_,_,K,L⟩:=y7 A;have B:iR a.q=iR b.q:=(bn iR A:iR a.q.p=iR b.q.p)
 exact⟨k▸s.ml,n▸s.el,k▸s.Im,k▸s.mm,r▸s.ab,K▸s.br,L▸s.bF,by
  have C:ej a=ej b:=by unfold ej tx;rw[E,r,k,F,B,bc,n]
  rw[C];exact s.pP⟩
def L1{v:Value}{s s2:cf}:eD (v::cl s) 1 (cl s2)=v::cl s2:=by
 unfold eD;rw[dw];rw[BE (by rw[fA,dw];omega)];simp
def L0(v:Value)(s:cf):(v::cl s).length=75:=by rw[fA,dw]
structure kk (K:List Nat) (H:Heap) (J:Option Addr) (b n:Nat) (br:Bool) (s:cf):Prop where
 ex:(K=[]/\J=none)\/∃ef ol bb,ef≠0/\K=[ef,bb+1]/\J=some ⟨bb,0,none⟩/\ai ef (bb+1)/\lE ef H (.pointer ol) b ct n br/\Var 92 H bb (.pointer ol::cl s)
def kk.aT{J:Option Addr}{b:Nat}{s:cf}(h:kk vq33z H J b n br s):pj vq33z H.size:=by
 rcases h.ex with⟨rfl,_⟩|⟨ef,ol,bb,_,rfl,_,_,A,B⟩;exact fun k r=>by cases r
 intro k r;rcases dI.1 r with rfl|r;exact A.le;rw[fm.1 r];exact B.lt
def kk.aL{J:Option Addr}{b:Nat}{s:cf}(h:kk vq33z H J b n br s)(w:an H V):kk vq33z V J b n br s:=⟨h.ex.imp id (fun⟨ef,ol,bb,k,r,A,B,C,E⟩=>⟨ef,ol,bb,k,r,A,B,C.aL w,E.aL w⟩)⟩
def kk.aA{ks:List Nat}{J:Option Addr}{b:Nat}{s:cf}(h:kk vq33z H J b n br s)(w:W (aq ks) H V)(d:cF vq33z ks):kk vq33z V J b n br s:=⟨h.ex.imp id (fun⟨ef,ol,bb,r,k,A,B,C,E⟩=>⟨ef,ol,bb,r,k,A,B,C.aA w (d _ (k▸fZ)),E.aA w (d _ (k▸gx _ (fm.2 o)))⟩)⟩
instance{J:Option Addr}{b:Nat}{s:cf}:cO (kk vq33z H J b n br s) H V (kk vq33z V J b n br s):=⟨fun s h=>h.aL s⟩
instance{J:Option Addr}{b:Nat}{s:cf}:cP (kk vq33z H J b n br s) H V (kk vq33z V J b n br s) (uQ vq33z):=⟨fun s h d=>h.aA s (cF.cons d cF.nil)⟩
def D0{A:Nat}(a:ak n vq33z)(b:ak A vq33z):cF [n,A] vq33z:=fun k r=>by
 rcases dI.1 r with rfl|r;exact a;rw[fm.1 r];exact b
def Ld{A:Nat}{h:Nat}(a:U 0 h n)(b:U 0 h A):aF [] h [n,A]:=fun k r=>by
 rcases dI.1 r with rfl|r;unfold U at a;omega;rw[fm.1 r];unfold U at b;omega
def sX:cF [] vq33z:=fun k n=>by cases n
def sZ{h:Nat}:aF vq33z h []:=fun k n=>by cases n
def kk.nil{J:Option Addr}{b:Nat}{s:cf}(h:kk vq33z H J b n br s):J.isNone=decide (vq33z=[]):=by
 rcases h.ex with⟨rfl,rfl⟩|⟨ef,ol,bb,_,rfl,rfl,_⟩<;>rfl
def Qe{b:Nat}{p:av}{v:Value}(h:lE k H v b p n br):∃J,v= .pointer J:=by
 rcases h.ex with⟨_,e⟩|⟨ed,_,e,_⟩<;>exact⟨_,e⟩
def HC{b:Nat}{p:av}{v:Value}(h:lE k H v b p n br)(r:k≠0):∃ed,k=ed+1/\v=ptr ed/\Var 163 H ed [ptr b,aJ p,.int .i64 (n:Int),.bool br]:=by
 rcases h.ex with⟨e,_⟩|h;exact absurd e r;exact h
def UU(mx_:Int)(K:List Nat)(b:Nat)(D:ao)(p:av)(bZ:Nat)(w0:World)(k:Heap)(g:da)(aa:bH K g k b D)(aV:gL mx_ k)(E:bk (fun b=>b=0) k.size)(e2:aB (fun b=>b=0) K)(ae:p.length<=4294960000)(X:b8 bZ D)(Z:bZ<=80000000):
 a8 prog w0 21 #[ptr b,aJ p] k (fun r n=>∃(J:Option Addr) (ef:Nat) (t:ay) (l:List (ay×Rec)) (A:List Nat) (g2:da) (aX:Nat->Prop),r= .tuple #[.pointer J,t.v,.int .i64 ((c2 D p).1:Int)]/\bH A g2 n b (c2 D p).2.2/\aF K k.size A/\lE ef n (.pointer J) b p l.length false/\U 0 k.size ef/\ak ef A/\
  (((c2 D p).1=0->ef≠0)/\((c2 D p).1≠0->ef=0))/\bp l=(c2 D p).2.1/\Rd aX n iu 1 t.v l/\(∀x∈l,Rd aX n a7 1 x.1.v x.2)/\bk aX n.size/\(∀c,aX c->k.size<=c)/\aB aX A/\aw aX ef/\W (aq K) k n):=by
 refine(UW aa aV E e2 ae X Z).mono ?_;rintro r n ⟨c1,ef,t,l,A,g2,aX,rfl,F,P,B,Q,R,C,S,T,V,L,M,N,O,H⟩;obtain⟨J,rfl⟩:=Qe B;exact⟨J,ef,t,l,A,g2,aX,o,F,P,B,Q,R,⟨fun e=>by obtain⟨ed,ag,_⟩:=C.1 e;omega,fun e=>(C.2 e).1⟩,S,T,V,L,M,N,O,H⟩
def RS{s:ay}{bs:List UInt8}{F:Nat->Prop}{w0:World}(hb:Rd F H a7 1 s.v bs)(B:bk F H.size):
 a8 prog w0 22 #[s.v] H (fun r k=>∃(n:b5) (A:Int) (aX:Nat->Prop),r= .tuple #[hG n,.int .i64 A]/\(∀u:Unit,gi aX k n)/\bk aX k.size/\(∀b,aX b->H.size<=b)/\((gW bs).2.e=0->l4 n (gW bs).1)/\(A=0↔(gW bs).2.e=0)/\an H k):=by
 refine(RT hb B).mono ?_;rintro r k ⟨s1,s2,O,N,aX,rfl,C,E,K,L,M⟩;refine⟨_,_,aX,o,fun u=>?_,E,K,fun e=>?_,Iff.rfl,M⟩;split;exact C u;exact w2;rw[aD e];exact⟨o,o,o,o,o,L⟩
def Cy{mx_:Int}{g:da}{b:Nat}{D:ao}{w0:World}(B:bH vq33z g V b D)(aV:gL mx_ V)(aL:bk (fun b=>b=0) V.size)(e2:aB (fun b=>b=0) vq33z)(b7:b8 n D)(b_:n<=80000000):
 a8 prog w0 8 #[ptr b] V (fun r ay=>∃J:Option Addr,∃dW:List Nat,∃aG:List Nat,∃g2:da,∃s2:cf,∃aX:Nat->Prop,r= .tuple #[.pointer J,.int .i64 (k8 D:Int)]/\bH aG g2 ay b (c2 D ct).2.2/\aF vq33z V.size aG/\kk dW ay J b (c2 D ct).2.1.length false s2/\aF [] V.size dW/\cF dW aG/\(∀u:Unit,fV aX ay s2)/\bk aX ay.size/\(∀b,aX b->V.size<=b)/\aB aX aG/\aB aX dW/\s2.m.Ok/\((k8 D=0->dW≠[]/\kR kK (c2 D ct).2.1=some s2.m)/\(k8 D≠0->dW=[]/\s2=l2))/\W (aq vq33z) V ay):=by
 refine G.bc vq33z func8 o fun A=>?_;have a_:=aF.refl vq33z V.size;have aP:=B.aT;refine G.aC o M6 (UU mx_ vq33z b D ct n w0 _ g B aV (aL.mono I) e2 aO b7 b_) ?_;rintro cH K ⟨aA,am,bW,Q,aa,aI,cm,rfl,B,bF,T,bI,b6,bN,aQ,P,aC,bc,cI,cL,cN,aR⟩;have aJ:=aF.al a_ bF A.size;have bY:=U.al (U.refl 0 _) bI A.size;have aV:=aV.aA aR e2;have A:=A.bf aR (ag.bA a_ (by intro k L;simp[L]));have bX:=aR.size;have aP:=B.aT;have bT:=T.le;have ba:=bc;refine G.ip o ?_ ?_<;>intro cA;have R:(c2 D ct).1≠0:=by omega
 have F:=Ab R;exact G.rt o ⟨none,[],aa,aI,l2,(fun _=>False),by rw[F]<;>rfl,B,aJ,⟨.inl ⟨o,o⟩⟩,sZ,sX,(fun _=>rX),(fun b e=>e.elim),(fun b e=>e.elim),(fun k L b e=>e.elim),(fun k L b e=>e.elim),ph,⟨fun h=>absurd h (by rw[F];exact R),fun _=>⟨o,o⟩⟩,A⟩;have R:(c2 D ct).1=0:=by omega
 obtain⟨rs,av⟩:∃q,q=(c2 D ct).2.1:=⟨_,o⟩;rw[<-av]at aQ;have cb:Q.length=rs.length:=by rw[<-aQ];simp[bp]
 have bq:=IE D ct;rw[<-av]at bq;refine G.O o (M.build (v:= .agg (.pointer aA::cl l2).toArray) o o eN)<|G.aR o (Z.bT ((.pointer aA::cl l2))) ?_;rintro bM a7 ⟨rfl,C,bO,_⟩;have bh:=ak.gf B.aT;have bZ:=aw.new (aL.mono A.size);have bd:=ai.new T.le;have bP:=(aw.new (bc.mono I):aw _ (K.size+1));have bQ:=(aw.new (ba.mono I):aw _ (K.size+1));have aZ:=U.new A.size;obtain⟨B,aV,T,P,aC,A,_⟩:=f_ bO B aV T P aC A;refine G.O o (bz P je) ?_
 refine G.bd o (fun(ck:Nat×cf×(Nat->Prop))=>match ck with|(i,s,aX)=>[(7,.pointer (some ⟨K.size,0,none⟩)),(24,bW.v),(25,.int .i64 (Q.length:Int)),(26,.int .i64 (i:Int))])
  (fun(i,s,aX) (H:Heap)=>(i<=Q.length)/\Var 92 H K.size (.pointer aA::cl s)/\(∀u:Unit,fV aX H s)/\bk aX H.size/\aB aX aa/\aw aX am/\aw aX (K.size+1)/\(∀b,aX b->V.size<=b)/\s.m.Ok/\kR kK rs=kR s.m (rs.drop i)/\W (aq [(K.size+1)]) a7 H)
  (fun(i,s,aX)=>Q.length-i) (0,l2,fun _=>False) ⟨I,C,(fun _=>rX),(fun b e=>e.elim),(fun k L b e=>e.elim),(fun b e=>e.elim),(fun b e=>e.elim),(fun b e=>e.elim),ph,o,W.refl _ _⟩ ?_
 rintro⟨i,s,aX⟩ cp ⟨cP,C,Y,aK,bA,ch,cj,b9,ok,O,E⟩ cq bR;obtain⟨B,aV,T,P,aC,A,_⟩:=kG E B (fL bh) aV bZ T bd P bP aC bQ A (ah.q aZ);refine G.ip o ?_ ?_<;>intro cC;have cU:=P.len;have bm:i<Q.length:=by omega
 obtain⟨hit,aE⟩:=Jl aQ bm;obtain⟨rc,cd⟩:∃q,q=Q[i].2:=⟨_,o⟩;have bw:=aC Q[i] (cS bm);rw[<-cd]at bw aE;have cg:rc.length<=1048576:=bq rc (aE▸cS hit);refine G.pp o (M.cw P i o je cZ o o) fun cD bE=>G.O o (aY bE.T eI)<|G.aC o M9 (RS bw<|ba.mono I) ?_;rintro cr bf ⟨u32,cO,cy,rfl,hu,aH,cE,a9,bl,bS⟩;obtain⟨B,aV,C,Y,A,E,_⟩:=f_ bS B aV C Y A E;refine G.aR o (Z.bt pg) ?_;rintro cu cv ⟨rfl,ax,b0,_⟩;have bb:=ak.gf B.aT;have b1:=aw.new (aL.mono A.size);have dB:=ai.new C.lt;have be:=(aw.new (aK.mono I):aw _ (bf.size+1));have b2:=(aw.new (aH.mono I):aw _ (bf.size+1));have b4:=U.new A.size;have bi:=U.new E.size;obtain⟨B,aV,C,Y,hu,A,E,_⟩:=ja b0 B aV C Y hu A E;refine G.bl o (S.var ax _ (cM u32) o o o o (lP) fe (cY _) aO ((ea (cY _).symm))) ?_;rintro cG ⟨ax,bK⟩;obtain⟨B,aV,C,Y,hu,A,E,_⟩:=pc bK B (fL bb) aV b1 C dB Y be hu b2 A (ah.q b4) E (ah.q bi);refine G.dc 8 o o aW<|G.sp 3 37 o ?_ ?_<;>intro bD;have cc:¬((gW rc).2.e=0/\fx s.m (gW rc).1=0):=fun h=>bD (bl.2 h.1);have F:=xm R (by rw[<-av];exact O.trans<|yY hit aE cc);exact G.it o<|G.rt o ⟨none,[],aa,aI,l2,(fun _=>False),by rw[F]<;>rfl,B,aJ,⟨.inl ⟨o,o⟩⟩,sZ,sX,(fun _=>rX),(fun b e=>e.elim),(fun b e=>e.elim),(fun k L b e=>e.elim),(fun k L b e=>e.elim),ph,⟨fun h=>absurd h (by rw[F];exact aO),fun _=>⟨o,o⟩⟩,A⟩;have c9:(gW rc).2.e=0:=bl.1 (hB bD);have aN:=a9 c9;have bt:=Ky aN (I8 c9 cg);have bj:=AE aN s.m;refine G.aK o rV ff o<|G.O o (bu (C.T.drop 1) iA ff<|dw _)<|G.O o (bu ax.T gY fe<|cY _)<|G.aC o E5 (FA aV (aL.mono I) (Y ()) (aK.mono I) (hu ()) (aH.mono I) ok bt) ?_;rintro cw ae ⟨rfl,b5⟩;obtain⟨B,C,Y,hu,ax,A,E,_⟩:=ja b5 B C Y hu ax A E;refine G.ip o ?_ ?_<;>intro bg;have F:=xm R (by rw[<-av];exact O.trans<|yY hit aE fun h=>bg<|bj.trans h.2);exact G.rt o ⟨none,[],aa,aI,l2,(fun _=>False),by rw[F]<;>rfl,B,aJ,⟨.inl ⟨o,o⟩⟩,sZ,sX,(fun _=>rX),(fun b e=>e.elim),(fun b e=>e.elim),(fun k L b e=>e.elim),(fun k L b e=>e.elim),ph,⟨fun h=>absurd h (by rw[F];exact aO),fun _=>⟨o,o⟩⟩,A⟩;have aT:fx s.m u32=0:=hB bg;refine G.cJ o (fun aM=>an ae aM) [7,8,9] o ?_;have X:=an.refl ae;refine N.bo 0 o X ?_;refine N.bo 1 o X ?_;refine N.bx 2 o X ?_;refine N.aK 3 rV ff X ?_;refine N.t1 4 o (fun aM aU=>bu ((C.T.drop 1).aL aU) iA ff<|dw _) X ?_;refine N.t1 5 o (fun aM aU=>bu (ax.T.aL aU) gY fe<|cY _) X ?_;refine N.ba 6 ?_;refine cK E6 (Eh (Y ()) (aK.mono I) (hu ()) (aH.mono I) ok aT bt) ?_;rintro cx az ⟨bC,rfl,al,bo,a1⟩;obtain⟨C,E,_⟩:=bG a1 C E;have al:=al.cD;have bU:=al.c7;have br:aB (fun b=>ae.size<=b/\b<az.size) aa:=aB.k5 (fun b h=>h.1) (by first|exact aP|exact fun k L=>ev (aP k L) I|assumption);have bs:aw (fun b=>ae.size<=b/\b<az.size) am:=aw.k5 (fun b h=>h.1) (by first|exact bT|exact cW|omega);have a6:aw (fun b=>ae.size<=b/\b<az.size) (K.size+1):=aw.k5 (fun b h=>h.1) (by first|exact cQ|exact cV|omega);have bL:=X.al a1;refine N.cx bL ?_;refine N.ba 7 ?_;refine hH o mu (.inl o) ?_;refine N.ba 8 ?_;refine hH o (M.hh C.T o rV o ff) (.inl o) ?_;refine N.ba 9 ?_;refine hX o (S.var C _ ((.pointer aA::cl bC)) o o o o ((nx)) ff (dw _) (by rw[L0];exact hC o) ((L1))) ?_;rintro cz ⟨C,bV⟩;obtain⟨al,E,_⟩:=de bV al a6 E (ah.r (U.refl (K.size+1) a7.size));refine⟨.inl o,?_⟩;refine G.dn aW ?_;have cX:=(an.refl az);exact G.O o bB<|G.aQ o<|bR (i+1,bC,fun b=>ae.size<=b/\b<az.size) _ ⟨I,C,(fun _=>al),(bU.mono I),br,bs,a6,(fun b e=>by have bA:=e.1;omega),(by rw[bo];exact ok.ap aT),(by rw[bo,zY aN,O,IG hit aE c9 (bj.symm.trans aT)]),E⟩;obtain ca:i=rs.length:=by omega
 rw[ca,List.drop_length,av]at O;have O:kR kK (c2 D ct).2.1=some s.m:=O;have F:=Ac R O;exact G.rt o ⟨(some ⟨K.size,0,none⟩),[am,K.size+1],aa,aI,s,aX,by rw[F]<;>rfl,B,aJ,⟨.inr ⟨am,aA,_,bN.1 R,o,o,bd,(by rw[<-av,<-cb];exact T),C⟩⟩,Ld bY aZ,D0 b6 bh,Y,(aK.mono I),b9,bA,aB.cons ch (aB.cons cj aB.nil),ok,⟨fun _=>⟨by simp,O⟩,fun h=>absurd F h⟩,A⟩
end Go.Proofs.YtncnignagcoahaaGreatDoor.E
